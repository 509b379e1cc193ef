/- Package node: copied. -/
import Derived.Test.YtjgkalppjfmkoaaNode1
import Derived.Test.YtjgkalppjfmkoaaWApart
namespace Go.Proofs.Ytjgkalppjfmkoaa
open Go.RowKit Go.Shelf Go.Proofs.YtjgkalppjfmkoaaW.PrintWords
set_option linter.unusedVariables false
set_option linter.unusedSimpArgs false

/-- Holdings within the reach. -/
def HSized (l : List SHolding) : Prop := l.length * 40 ≤ 140737488351232 ∧ ∀ x ∈ l, x.f2.length * 8 ≤ 140737488351232
theorem HSized.at_ {l : List SHolding} (h : HSized l) (k : Nat) : (l.getD k zHolding).f2.length * 8 ≤ 140737488351232 := by
  by_cases hk : k < l.length
  · rw [List.getD_eq_getElem?_getD, List.getElem?_eq_getElem hk]
    exact h.2 _ (List.getElem_mem hk)
  · rw [List.getD_eq_getElem?_getD, List.getElem?_eq_none (by omega)]
    decide
theorem take_succ_getD {α : Type} (l : List α) (z : α) (k : Nat) (h : k < l.length) : l.take (k + 1) = l.take k ++ [l.getD k z] := by
  rw [List.take_succ_eq_append_getElem h, List.getD_eq_getElem?_getD, List.getElem?_eq_getElem h]
  rfl

/-- A row of holdings of the call's own. -/
def OwnHoldings (w : World) (l : List SHolding) (e : Ending) (w' : World) : Prop := ∃ v, e = .returned v ∧ kHolding.S 45 w' w.heap.size (fun _ => True) v l ∧ Below w.heap.size w w'

set_option maxHeartbeats 2000000 in
theorem node_copied (A : Option Addr) (c : Nat) (l : List SHolding) (w : World) (hr : Kd.C kHolding w A l.length l) (hs : HSized l) :
    Calls Try.prog 29 #[.slice A l.length c] w (OwnHoldings w l) := by
  have hn := hr.2.1
  have HR := Aside0.mk hr
  have HS := Aside0.mk hs
  clear hr hs
  go_enter Try.func29, Try.ntmps29
  go_wp2
  go_loopg [3, 8] l.length (fun gg v3 v8 wr => ∃ k : Nat, k ≤ l.length ∧ l.length - k ≤ gg ∧ v8 = .int .i64 k ∧ Aside0 (Below w.heap.size w wr) ∧ Aside0 (kHolding.S 45 wr w.heap.size (fun _ => True) v3 (l.take k)))
  case atStart => exact ⟨0, Nat.zero_le _, by omega, rfl, ⟨Below.refl _ w⟩, ⟨Kd.S_nil _ _ _ _ _⟩⟩
  case round =>
    obtain ⟨k, hk, hg, rfl, HB, HO⟩ := hrel
    by_cases hlt : k < l.length
    · obtain ⟨ad, A2, c2, rfl, hx0, hx1, hx2, hl2, hC2⟩ := THolding_nat (Kd.C_below HR.out HB.out) k hlt
      have hsz := HS.out.at_ k
      have htk := take_succ_getD l zHolding k hlt
      generalize hy : l.getD k zHolding = y at *
      clear hy
      have hlti : (k : Int) < (l.length : Int) := by omega
      have HT := Aside0.mk htk
      have HC2 := Aside0.mk hC2
      have HSZ := Aside0.mk hsz
      obtain ⟨f0, f1, f2⟩ := y
      simp only at hx0 hx1 hx2 hl2 HT HC2 HSZ
      have HB1 := Aside0.mk (show Below w.heap.size w (wr.alloc (.cells #[.int .i64 f0, .int .i64 f1, .slice A2 f2.length c2] 45)) from HB.out.alloc HB.out.size _)
      have HO1 := Aside0.mk (Kd.S_below (Kd.S_mono (Kd.S_bound HO.out) (ok' := fun k => True ∧ ¬ (wr.heap.size + 1 ≤ k)) (fun k hk => ⟨trivial, by have := hk.2.2.1; omega⟩)) (below_alloc (Below.refl _ _) (.cells #[.int .i64 f0, .int .i64 f1, .slice A2 f2.length c2] 45)))
      clear htk hC2 hsz
      go_wp2_with (fail)
      refine (node_own f0 f1 f2 A2 c2 _ (Kd.C_below HC2.out (below_alloc (Below.refl _ _) _)) HSZ.out).mono ?_
      rintro e w1 ⟨v1, rfl, hR1, hb1⟩
      have HR1 := Aside0.mk hR1
      have HB2 := Aside0.mk (below_trans2 HB1.out hb1)
      have HO2 := Aside0.mk (Kd.S_below HO1.out hb1)
      have hvl := Kd.S_lt HO1.out
      clear hR1 hb1 HB1 HO1 HO
      go_wp2_with (at_builtin; refine Kd.S_append kHolding (w0 := w) w.heap.size rfl (.tmp 12) (.tmp 15) 23 45 (.agg #[.int .i64 0, .int .i64 0, .slice none 0 0]) 40 rfl Try.underlying23 info_Holding rfl (by decide) (by decide) _ (l.take k) ⟨f0, f1, f2⟩ [.int .i64 f0, .int .i64 f1, v1] (fun _ => True) (fun k => wr.heap.size + 1 ≤ k) rfl rfl ?c1 ?c2 ?c3 HO2.out HB2.out ?c4 ?c5 ?c6)
      case c1 => exact kHolding_mkM _ _ _ ⟨f0, f1, f2⟩ (Kd.R_mono (Kd.R_lower HR1.out (by have := HB.out.size; simp; omega)) (fun k hk => by simpa using hk))
      case c2 => exact fun q hq => ⟨trivial, fun e => by have := hvl q e.symm; simp at this; omega⟩
      case c3 => exact fun q _ => trivial
      case c4 => exact HB2.out.size
      case c5 =>
        have := HS.out.1
        rw [List.length_take]
        omega
      case c6 =>
        intro v4 w2 hR hb _ _
        rw [← HT.out] at hR
        have HR4 := Aside0.mk hR
        have HB4 := Aside0.mk hb
        clear hR hb hvl
        go_wp2
        go_roundg (l.length - (k + 1))
        case measure => omega
        case rel => exact ⟨k + 1, by omega, by omega, by go_num, HB4, HR4⟩
    · obtain rfl : k = l.length := by omega
      have hlti : ¬ ((l.length : Int) < (l.length : Int)) := by omega
      have HO2 := Aside0.mk (show kHolding.S 45 wr w.heap.size (fun _ => True) _ l by have := HO.out; rwa [List.take_length] at this)
      clear HO
      go_wp2
      go_ret
      exact ⟨_, rfl, HO2.out, HB.out⟩
end Go.Proofs.Ytjgkalppjfmkoaa
