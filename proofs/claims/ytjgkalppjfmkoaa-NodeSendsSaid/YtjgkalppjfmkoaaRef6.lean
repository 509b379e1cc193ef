/- The reference's side: clone. -/
import Derived.Test.YtjgkalppjfmkoaaRef5
namespace Go.Proofs.Ytjgkalppjfmkoaa
open Go.RowKit Go.Shelf Go.Proofs.YtjgkalppjfmkoaaW.PrintWords
set_option linter.unusedVariables false
set_option linter.unusedSimpArgs false

set_option maxRecDepth 100000 in
set_option maxHeartbeats 4000000 in
theorem ref_clone (A : Option Addr) (c : Nat) (l : List SHolding) (w : World) (hr : Kd.C kHolding w A l.length l) (hs : HSized l) :
    Calls Try.prog 36 #[.slice A l.length c] w (OwnRowPost kHolding 45 w l) := by
  have hn := hr.2.1
  have HR := Aside0.mk hr
  have HS := Aside0.mk hs
  clear hr hs
  go_enter Try.func36, Try.ntmps36
  go_wp2
  go_loopg [3, 4] l.length (fun gg v3 v4 wr => ∃ k : Nat, k ≤ l.length ∧ l.length - k ≤ gg ∧ v4 = .int .i64 k ∧ Aside0 (Below w.heap.size w wr) ∧ Aside0 (kHolding.R 45 wr w.heap.size (fun _ => True) v3 (l.take k)))
  case atStart => exact ⟨0, Nat.zero_le _, by omega, rfl, ⟨Below.refl _ w⟩, ⟨Kd.R_nil _ _ _ _ _⟩⟩
  case round =>
    obtain ⟨k, hk, hg, rfl, HB, HO⟩ := hrel
    by_cases hlt : k < l.length
    · obtain ⟨ad, A2, c2, rfl, hx0, hx1, hx2, hl2, hC2⟩ := THolding_nat (Kd.C_below HR.out HB.out) k hlt
      have hsz := HS.out.at_ k
      have htk := take_succ_getD l zHolding k hlt
      generalize hy : l.getD k zHolding = y at *
      clear hy
      have hlti : (k : Int) < (l.length : Int) := by omega
      have HT := Aside0.mk htk
      have HSZ := Aside0.mk hsz
      obtain ⟨f0, f1, f2⟩ := y
      simp only at hx0 hx1 hx2 hl2 hC2 HT HSZ
      obtain ⟨W1, hW1⟩ : ∃ W, W = wr.alloc (.cells #[.int .i64 f0, .int .i64 f1, .slice A2 f2.length c2] 45) := ⟨_, rfl⟩
      have hb1 : Below wr.heap.size wr W1 := by rw [hW1]; exact below_alloc (Below.refl _ _) _
      have hs1 : W1.heap.size = wr.heap.size + 1 := by rw [hW1]; simp
      have hk1 : W1.heap[wr.heap.size]? = some (.cells #[.int .i64 f0, .int .i64 f1, .slice A2 f2.length c2] 45 (0, 0)) := by rw [hW1]; exact blk_new wr _
      have hM : ReadsRow ((Kd.int .i64).M (W1.alloc (.cells #[] 3)) W1.heap.size (fun _ => False)) 1 (W1.alloc (.cells #[] 3)) A2 f2.length f2 := ReadsRow.imp_ (Kd.C_below hC2 hb1) (below_alloc (Below.refl _ _) _) (fun x cs hK => hK)
      have HM := Aside0.mk hM
      have HB1 := Aside0.mk (below_trans2 HB.out hb1)
      have HO1 := Aside0.mk (Kd.R_below (Kd.R_mono (Kd.R_bound HO.out) (ok' := fun k => k < wr.heap.size) (fun k hk => hk.2.2.1)) hb1)
      have HVL := Aside0.mk (Kd.R_lt HO.out)
      have HRE := Aside0.mk (R_empty (Kd.int .i64) 3 (W := W1.alloc (.cells #[] 3)) (base := W1.heap.size) (Nat.le_refl _) (blk_new W1 _))
      have HBA := Aside0.mk (below_alloc (Below.refl W1.heap.size W1) (.cells #[] 3))
      have HK1 := Aside0.mk hk1
      obtain ⟨cc0, cc1, cc2, cf⟩ := blk3 (blk_alloc hk1 (.cells #[] 3))
      have HN := Aside0.mk (show wr.heap.size < W1.heap.size by omega)

      clear hM hb1 hC2 htk hsz hk1 HO hs1
      go_upto_region 6 with (fail)
      have HC1 := Aside0.mk (show W1.heap.size ≤ (W1.alloc (.cells #[] 3)).heap.size by simp)
      have HC2 := Aside0.mk (show (([] : List Int).length + f2.length) * 8 ≤ 140737488355328 by have := HSZ.out; simp only [List.length_nil]; omega)
      rw [← hW1]
      clear hW1 hx0 hx1 hx2
      go_wp2_with (at_builtin; refine Kd.R_append_rows (Kd.int .i64) (w0 := W1) W1.heap.size rfl (.tmp 16) (.tmp 18) 43 3 (.int .i64 0) 8 rfl Try.underlying43 info_i64 rfl (by decide) (by decide) _ [] f2 _ f2.length c2 (fun _ => True) (fun _ => False) rfl rfl HRE.out HM.out (fun x c hx => hx) (fun k hk => hk.elim) (fun _ _ => trivial) HBA.out HC1.out HC2.out ?_)
      intro v1 w3 hR1 hb3 _ _
      have hb3' : Below W1.heap.size W1 w3 := hb3
      have hR1' : (Kd.int .i64).R 3 w3 W1.heap.size (fun _ => True) v1 f2 := hR1
      obtain ⟨A3, c3, rfl⟩ := Kd.R_slice hR1'
      obtain ⟨dd0, dd1, dd2, df⟩ := blk3 (blk_below HK1.out hb3')
      have hk4 := blk_set (blk_below HK1.out hb3') 2 (Value.slice A3 f2.length c3)
      have HB4 := Aside0.mk (show Below w.heap.size w (w3.setCell ⟨wr.heap.size, 2, none⟩ (.slice A3 f2.length c3)) from Below.setCell (below_trans2 HB1.out hb3') HB.out.size _)
      have HR4 := Aside0.mk (Kd.R_far (p := ⟨wr.heap.size, 2, none⟩) (Kd.R_mono (Kd.R_bound hR1') (ok' := fun q => W1.heap.size ≤ q) (fun q hq => hq.2.1)) (fun q hq => by have := HN.out; dsimp only; omega) (.slice A3 f2.length c3))
      have HO4 := Aside0.mk (Kd.R_far (p := ⟨wr.heap.size, 2, none⟩) (Kd.R_below HO1.out hb3') (fun q hq => by dsimp only; omega) (.slice A3 f2.length c3))
      have HK4 := Aside0.mk hk4
      clear hb3 hR1 hb3' hR1' hk4 cc0 cc1 cc2 cf
      go_upto_region 7 with (fail)
      generalize w3.setCell ⟨wr.heap.size, 2, none⟩ (.slice A3 f2.length c3) = w4 at *
      have hk5 : w4.heap[wr.heap.size]? = some (.cells #[.int .i64 f0, .int .i64 f1, .slice A3 f2.length c3] 45 (0, 0)) := HK4.out
      obtain ⟨ee0, ee1, ee2, ef⟩ := blk3 hk5
      have HK5 := Aside0.mk hk5
      have HD1 := Aside0.mk (kHolding_mkM w4 w.heap.size (fun q => W1.heap.size ≤ q) ⟨f0, f1, f2⟩ (Kd.R_lower HR4.out HB1.out.size))
      have HD2 := Aside0.mk (show (l.take k).length * 1 + 1 ≤ 140737488355328 / 40 from by have := HS.out.1; rw [List.length_take]; omega)
      clear HK4 HR4 hk5 dd0 dd1 dd2 df HM HRE HBA HC1 HC2
      go_wp2_with (at_builtin; refine Kd.R_append kHolding (w0 := w) w.heap.size rfl (.tmp 21) (.tmp 23) 23 45 (.agg #[.int .i64 0, .int .i64 0, .slice none 0 0]) 40 rfl Try.underlying23 info_Holding rfl (by decide) (by decide) _ (l.take k) ⟨f0, f1, f2⟩ [.int .i64 f0, .int .i64 f1, .slice A3 f2.length c3] (fun _ => True) (fun q => W1.heap.size ≤ q) rfl rfl HD1.out (fun q hq => ⟨trivial, fun e => by have := HVL.out q e.symm; have := HN.out; omega⟩) (fun _ _ => trivial) (Kd.R_mono HO4.out (fun _ _ => trivial)) HB4.out HB4.out.size (by have := HD2.out; omega) ?_)
      intro v4 w5 hR hb _ _
      rw [← HT.out] at hR
      have HR5 := Aside0.mk hR
      have HB5 := Aside0.mk hb
      clear hR hb ee0 ee1 ee2 ef
      go_wp2
      go_roundg (l.length - (k + 1))
      case measure => omega
      case rel => exact ⟨k + 1, by omega, by omega, by go_num, HB5, HR5⟩
    · obtain rfl : k = l.length := by omega
      have hlti : ¬ ((l.length : Int) < (l.length : Int)) := by omega
      have HO2 := Aside0.mk (show kHolding.R 45 wr w.heap.size (fun _ => True) _ l by have := HO.out; rwa [List.take_length] at this)
      clear HO
      go_wp2
      go_ret
      exact ⟨_, rfl, HO2.out, HB.out⟩
end Go.Proofs.Ytjgkalppjfmkoaa
