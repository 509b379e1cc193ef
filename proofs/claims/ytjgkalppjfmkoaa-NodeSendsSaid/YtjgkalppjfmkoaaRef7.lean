/- The reference's side: insert. -/
import Derived.Test.YtjgkalppjfmkoaaRef6
import Derived.Test.YtjgkalppjfmkoaaAwake2
namespace Go.Proofs.Ytjgkalppjfmkoaa
open Go.RowKit Go.Shelf Go.Proofs.YtjgkalppjfmkoaaW.PrintWords
set_option linter.unusedVariables false
set_option linter.unusedSimpArgs false

/-- The first place whose flow is not below id. -/
def linGo (l : List SHolding) (id : Int) : Nat → Nat → Nat
  | 0, k => k
  | d + 1, k => if (l.getD k zHolding).f0 < id then linGo l id d (k + 1) else k
/-- hopmeshref53.insert's answer. -/
def insR (l : List SHolding) (h : SHolding) : List SHolding := insAt l (linGo l h.f0 l.length 0) h
theorem linGo_le (l : List SHolding) (id : Int) : ∀ d k, linGo l id d k ≤ k + d
  | 0, k => Nat.le_refl _
  | d + 1, k => by
    unfold linGo
    split
    · have := linGo_le l id d (k + 1); omega
    · omega

theorem reads_take {α : Type} {R : α → List Value → Prop} {size : Nat} {w : World} {A : Option Addr} {n r : Nat} {ps : List α} (h : ReadsRow R size w A n ps) (hr : r ≤ n) : ReadsRow R size w A r (ps.take r) :=
  ⟨by rw [List.length_take, h.1]; omega, Nat.le_trans hr h.2.1, fun h0 => by
    obtain ⟨ad, e, hc⟩ := h.2.2 (by omega)
    refine ⟨ad, e, fun j p hj => hc j p ?_⟩
    rw [List.getElem?_take] at hj
    split at hj
    · exact hj
    · cases hj⟩
theorem reads_drop {α : Type} {R : α → List Value → Prop} {size : Nat} {w : World} {ad : Addr} {n r : Nat} {ps : List α} (h : ReadsRow R size w (some ad) n ps) (hr : r ≤ n) : ReadsRow R size w (some (ad.add (r * size))) (n - r) (ps.drop r) :=
  ⟨by rw [List.length_drop, h.1], by have := h.2.1; omega, fun h0 => by
    obtain ⟨ad', e, hc⟩ := h.2.2 (by omega)
    obtain rfl : ad = ad' := by injection e
    refine ⟨_, rfl, fun j p hj => ?_⟩
    rw [List.getElem?_drop] at hj
    obtain ⟨c, h1, h2, h3⟩ := hc (r + j) p hj
    refine ⟨c, h1, h2, fun q u hu => ?_⟩
    have := h3 q u hu
    rw [show (r + j) * size + q = r * size + (j * size + q) by rw [Nat.add_mul]; omega] at this
    rw [← this]
    congr 1
    simp [Addr.add_add]⟩
theorem ReadsRow_zero {α : Type} (R : α → List Value → Prop) (size : Nat) (W : World) (A : Option Addr) : ReadsRow R size W A 0 [] := ⟨rfl, by simp, fun h => absurd h (by decide)⟩
theorem keep_blk {W w3 : World} {row : Option Nat} {k : Nat} {o : Obj} (hg : W.grownBy w3 row) (h : W.heap[k]? = some o) (hne : some k ≠ row) : w3.heap[k]? = some o := (hg.block k (blk_lt h) hne).trans h
theorem reads_one {α : Type} {R : α → List Value → Prop} {W : World} {g : Nat} {T : TypeId} {x : α} {cs : List Value} (hb : W.heap[g]? = some (.cells cs.toArray T (0, 0))) (hl : cs.length = 3) (hR : R x cs) : ReadsRow R 3 W (some ⟨g, 0, none⟩) 1 [x] :=
  ⟨rfl, by simp, fun _ => ⟨_, rfl, fun j p hj => by
    obtain rfl : j = 0 := by
      rcases Nat.eq_zero_or_pos j with h0 | h0
      · exact h0
      · rw [List.getElem?_eq_none (by simp; omega)] at hj; cases hj
    simp only [List.getElem?_cons_zero, Option.some.injEq] at hj
    subst hj
    refine ⟨cs, hl, hR, fun q u hu => ?_⟩
    rw [Addr.add_lit, cell_of_row W g _ _ _ _ hb]
    simpa using hu⟩⟩
/-- A row whose elements lie in an elder world reads as holdings. -/
theorem kCp_reads {D w : World} {e : TypeId} {base : Nat} {ok : Nat → Prop} {v : Value} {l : List SHolding} (h : (kCp D).R e w base ok v (l.map (·, false))) (hb : Below D.heap.size D w) : ∃ A c, v = .slice A l.length c ∧ l.length ≤ c ∧ kHolding.C w A l.length l := by
  obtain ⟨A, c, rfl, hc, hC⟩ := Kd.R_reads h
  rw [List.length_map] at hc hC ⊢
  refine ⟨A, c, rfl, hc, rfl, hC.2.1, fun hn => ?_⟩
  obtain ⟨ad, e, hcs⟩ := hC.2.2 hn
  refine ⟨ad, e, fun j p hj => ?_⟩
  obtain ⟨cs, h1, h2, h3⟩ := hcs j (p, false) (by rw [List.getElem?_map, hj]; rfl)
  exact ⟨cs, h1, kHolding.K_below hb (h2.2 rfl), h3⟩

set_option maxRecDepth 100000 in
set_option maxHeartbeats 4000000 in
theorem ref_insert (A : Option Addr) (c : Nat) (l : List SHolding) (f0 f1 : Int) (w : World) (hr : Kd.C kHolding w A l.length l) (hl : (l.length + 1) * 40 ≤ 140737488355328) (hc : l.length ≤ c) :
    Calls Try.prog 40 #[.slice A l.length c, .agg #[.int .i64 f0, .int .i64 f1, .slice none 0 0]] w (OwnRowPost (kCp w) 45 w ((insR l ⟨f0, f1, []⟩).map (·, false))) := by
  have hn := hr.2.1
  have HR := Aside0.mk hr
  have HL := Aside0.mk hl
  obtain ⟨r, hrr⟩ : ∃ r, linGo l f0 (l.length - 0) 0 = r := ⟨_, rfl⟩
  have hri : insR l ⟨f0, f1, []⟩ = insAt l r ⟨f0, f1, []⟩ := by rw [← hrr]; rfl
  have hrl : r ≤ l.length := by have := linGo_le l f0 (l.length - 0) 0; omega
  rw [hri]
  have H0 := Aside0.mk hrr
  have HRL := Aside0.mk hrl
  have HB0 := Aside0.mk (show Below w.heap.size w (w.alloc (.cells #[.int .i64 f0, .int .i64 f1, .slice none 0 0] 45)) from (Below.refl _ _).alloc (Nat.le_refl _) _)
  have HK0 := Aside0.mk (blk_new w (.cells #[.int .i64 f0, .int .i64 f1, .slice none 0 0] 45))
  clear hr hl hrr hri hrl
  go_enter Try.func40, Try.ntmps40
  go_wp2
  go_loopg [5] l.length (fun gg v5 wr => ∃ k : Nat, k ≤ l.length ∧ l.length - k ≤ gg ∧ v5 = .int .i64 k ∧ Aside0 (Below w.heap.size w wr) ∧ Aside0 (wr.heap[w.heap.size]? = some (.cells #[.int .i64 f0, .int .i64 f1, .slice none 0 0] 45 (0, 0))) ∧ Aside0 (linGo l f0 (l.length - k) k = r))
  case atStart => exact ⟨0, Nat.zero_le _, by omega, rfl, HB0, HK0, H0⟩
  case round =>
    clear H0 HB0 HK0
    obtain ⟨k, hk, hg, rfl, HB, HK, HX⟩ := hrel
    obtain ⟨cc0, cc1, cc2, cf⟩ := blk3 HK.out
    have dd0 := lat_cell cc0
    by_cases hgo : k < l.length ∧ (l.getD k zHolding).f0 < f0
    · obtain ⟨hlt, hlt2⟩ := hgo
      obtain ⟨ad, A2, c2, rfl, hx0, hx1, hx2, hl2, hC2⟩ := THolding_nat (Kd.C_below HR.out HB.out) k hlt
      have hx := HX.out
      rw [show l.length - k = (l.length - (k + 1)) + 1 by omega, linGo, if_pos hlt2] at hx
      have HX := Aside0.mk hx
      generalize l.getD k zHolding = y at *
      obtain ⟨g0, g1, g2⟩ := y
      simp only at hx0 hlt2
      have hlti : decide ((k : Int) < (l.length : Int)) = true := decide_eq_true (by omega)
      have hltn : decide (k < l.length) = true := decide_eq_true hlt
      have hltp : (k : Int) < (l.length : Int) := by omega
      have hlt2' : decide (g0 < f0) = true := decide_eq_true hlt2
      have dx0 := lat_cell hx0
      clear hx hlt2 hx1 hx2 hC2
      go_wp2_with (fail)
      refine wp_region_lat (by kernel_rfl) (by kernel_rfl) ?_
      repeat (go_big_quiet_step (fail))
      refine wpQuiet_nil ?_
      intro wq hw'
      obtain ⟨⟨_, hq⟩, rfl⟩ := hw'
      have HB2 := Aside0.mk (below_trans2 HB.out hq)
      have HK2 := Aside0.mk (blk_below HK.out hq)
      clear hq dd0 dx0 hx0 cc0 cc1 cc2 cf
      go_wp2
      go_roundg (l.length - (k + 1))
      case measure => omega
      case rel => exact ⟨k + 1, by omega, by omega, by go_num, HB2, HK2, HX⟩
    · obtain rfl : r = k := by
        have hx := HX.out
        by_cases hlt : k < l.length
        · rw [show l.length - k = (l.length - (k + 1)) + 1 by omega, linGo, if_neg (fun h => hgo ⟨hlt, h⟩)] at hx
          exact hx.symm
        · rw [show l.length - k = 0 by omega, linGo] at hx
          exact hx.symm
      clear HX
      have key : (decide ((r : Int) < (l.length : Int)) = false ∧ decide (r < l.length) = false ∧ ¬ ((r : Int) < (l.length : Int))) ∨ ∃ ad g0, A = some ad ∧ wr.cell? (ad.add (r * 3)) = some (.int .i64 g0) ∧ decide (g0 < f0) = false ∧ (r : Int) < (l.length : Int) ∧ decide (r < l.length) = true := by
        by_cases hlt : r < l.length
        · obtain ⟨ad, A2, c2, rfl, hx0, hx1, hx2, hl2, hC2⟩ := THolding_nat (Kd.C_below HR.out HB.out) r hlt
          exact Or.inr ⟨ad, _, rfl, hx0, decide_eq_false (fun h => hgo ⟨hlt, h⟩), by omega, decide_eq_true hlt⟩
        · exact Or.inl ⟨decide_eq_false (by omega), decide_eq_false hlt, by omega⟩
      clear hgo
      go_upto_region 2 with (fail)
      go_cut [5, 19] (fun v5 v19 wc => v5 = .int .i64 r ∧ v19 = .bool false ∧ Aside0 (Below w.heap.size w wc) ∧ Aside0 (wc.heap[w.heap.size]? = some (.cells #[.int .i64 f0, .int .i64 f1, .slice none 0 0] 45 (0, 0))))
      case first =>
        rcases key with ⟨g1, g2, g3⟩ | ⟨ad, g0, rfl, hx0, g1, g2, g3⟩
        · refine wp_region_lat (by kernel_rfl) (by kernel_rfl) ?_
          repeat (go_big_quiet_step (fail))
          refine wpQuiet_nil ?_
          intro wq hw'
          obtain ⟨⟨_, hq⟩, rfl⟩ := hw'
          have HB2 := Aside0.mk (below_trans2 HB.out hq)
          have HK2 := Aside0.mk (blk_below HK.out hq)
          clear hq dd0
          go_wp2_with (fail)
          go_meet
          exact ⟨rfl, rfl, HB2, HK2⟩
        · have dx0 := lat_cell hx0
          refine wp_region_lat (by kernel_rfl) (by kernel_rfl) ?_
          repeat (go_big_quiet_step (fail))
          refine wpQuiet_nil ?_
          intro wq hw'
          obtain ⟨⟨_, hq⟩, rfl⟩ := hw'
          have HB2 := Aside0.mk (below_trans2 HB.out hq)
          have HK2 := Aside0.mk (blk_below HK.out hq)
          clear hq dd0 dx0
          go_wp2_with (fail)
          go_meet
          exact ⟨rfl, rfl, HB2, HK2⟩
      case rest =>
        obtain ⟨rfl, rfl, HB2, HK2⟩ := hcut
        clear key
        have hrl := HRL.out
        have HKM := Aside0.mk (show ∀ (W : World) (base : Nat) (okp : Nat → Prop) (x : SHolding × Bool) (cs : List Value), (x.2 = false ∧ kHolding.K w x.1 cs) → (kCp w).M W base okp x cs from fun W base okp x cs h => ⟨fun hx => (by rw [h.1] at hx; cases hx), fun _ => h.2⟩)
        cases A with
        | none =>
          obtain rfl := C_nil HR.out
          obtain rfl : r = 0 := by simpa using hrl
          simp only [List.length_nil, Int.cast_ofNat_Int]
          obtain ⟨cc0, cc1, cc2, cf⟩ := blk3 HK2.out
          go_wp2_with (fail)
          obtain ⟨ee0, ee1, ee2, ef⟩ := blk3 (blk_alloc HK2.out (.cells #[] 45))
          have HKH := Aside0.mk (show kHolding.K w ⟨f0, f1, []⟩ [.int .i64 f0, .int .i64 f1, .slice none 0 0] from kHolding_mk w ⟨f0, f1, []⟩ (Nat.le_refl _) (C_none _ _))
          have HLT := Aside0.mk (blk_lt HK2.out)
          go_region_law (first
            | (refine Kd.R_append_rows_step (kCp w) (w0 := w) w.heap.size (by simp [Region.wanted]) (.tmp 26) (.tmp 28) 23 45 (.agg #[.int .i64 0, .int .i64 0, .slice none 0 0]) 40 rfl Try.underlying23 info_Holding rfl (show 0 < 3 by decide) (by decide) (.slice (some ⟨wc.heap.size, 0, none⟩) 0 0) [] [(⟨f0, f1, []⟩, false)] (some ⟨wc.heap.size + 1, 0, none⟩) 1 1 (fun _ => True) (fun _ => False) ?_ ?_ (R_empty (kCp w) 45 ?_ ?_) (reads_one (T := 45) ?_ rfl ⟨rfl, HKH.out⟩) (fun x cs h => HKM.out _ _ _ x cs h) (fun k hk => hk.elim) (fun _ _ => trivial) ?_ ?_ ?_ ?_; (focus (simp [Act.eval, Act.put]; done)); (focus (simp [Act.eval, Act.put]; done)); (have := HB2.out.size; omega); (repeat (first | exact blk_new _ _ | exact blk_new_at (by simp) | refine blk_drew' ?_ | refine blk_alloc ?_ _)); (repeat (first | exact blk_new _ _ | exact blk_new_at (by simp) | refine blk_drew' ?_ | refine blk_alloc ?_ _)); (repeat (first | exact HB2.out | refine below_drew ?_ | refine below_alloc ?_ _)); (have := HB2.out.size; first | omega | (simp; omega)); (focus (simp; done)); intro v5 w5 hR5 hb5 hg5 hat5; obtain ⟨A5, cp5, rfl⟩ := Kd.R_slice hR5; have HR5 := Aside0.mk hR5; have HB5 := Aside0.mk hb5; clear hR5 hb5 hg5 hat5)
            | (refine Kd.R_append_rows_step (kCp w) (w0 := w) w.heap.size (by simp [Region.wanted]) (.tmp 26) (.tmp 28) 23 45 (.agg #[.int .i64 0, .int .i64 0, .slice none 0 0]) 40 rfl Try.underlying23 info_Holding rfl (show 0 < 3 by decide) (by decide) (.slice (some ⟨wc.heap.size + 1, 0, none⟩) 0 0) [] [(⟨f0, f1, []⟩, false)] (some ⟨wc.heap.size, 0, none⟩) 1 1 (fun _ => True) (fun _ => False) ?_ ?_ (R_empty (kCp w) 45 ?_ ?_) (reads_one (T := 45) ?_ rfl ⟨rfl, HKH.out⟩) (fun x cs h => HKM.out _ _ _ x cs h) (fun k hk => hk.elim) (fun _ _ => trivial) ?_ ?_ ?_ ?_; (focus (simp [Act.eval, Act.put]; done)); (focus (simp [Act.eval, Act.put]; done)); (have := HB2.out.size; omega); (repeat (first | exact blk_new _ _ | exact blk_new_at (by simp) | refine blk_drew' ?_ | refine blk_alloc ?_ _)); (repeat (first | exact blk_new _ _ | exact blk_new_at (by simp) | refine blk_drew' ?_ | refine blk_alloc ?_ _)); (repeat (first | exact HB2.out | refine below_drew ?_ | refine below_alloc ?_ _)); (have := HB2.out.size; first | omega | (simp; omega)); (focus (simp; done)); intro v5 w5 hR5 hb5 hg5 hat5; obtain ⟨A5, cp5, rfl⟩ := Kd.R_slice hR5; have HR5 := Aside0.mk hR5; have HB5 := Aside0.mk hb5; clear hR5 hb5 hg5 hat5)
            | (refine Kd.R_append_rows_step (kCp w) (w0 := w) w.heap.size (by simp [Region.wanted]) (.tmp 29) (.tmp 32) 23 45 (.agg #[.int .i64 0, .int .i64 0, .slice none 0 0]) 40 rfl Try.underlying23 info_Holding rfl (show 0 < 3 by decide) (by decide) (.slice A5 1 cp5) [(⟨f0, f1, []⟩, false)] [] none 0 c (fun _ => True) (fun _ => False) ?_ ?_ HR5.out (ReadsRow_zero _ _ _ _) (fun x cs h => HKM.out _ _ _ x cs h) (fun k hk => hk.elim) (fun _ _ => trivial) HB5.out HB5.out.size ?_ ?_; (focus (simp [Act.eval, Act.put]; done)); (focus (simp [Act.eval, Act.put]; done)); (focus (simp; done)); intro v6 w6 hR6 hb6 hg6 hat6; have HR6 := Aside0.mk hR6; have HB6 := Aside0.mk hb6; clear hR6 hb6 hg6 hat6))
          all_goals
            go_wp2
            go_ret
            exact ⟨_, rfl, HR6.out, HB6.out⟩
        | some ad =>
          have HRW := Aside0.mk (show ∀ W, Below w.heap.size w W → ReadsRow (fun (p : SHolding × Bool) c => p.2 = false ∧ kHolding.K w p.1 c) 3 W (some ad) l.length (l.map (·, false)) from fun W hb => ReadsRow_map (·, false) (ReadsRow.imp_ HR.out hb (fun _ _ hK => hK)) (fun x cs hK => ⟨rfl, hK⟩))
          by_cases hcr : c = r
          · obtain ⟨rfl, rfl⟩ : r = l.length ∧ c = l.length := by omega
            clear hcr hrl
            obtain ⟨cc0, cc1, cc2, cf⟩ := blk3 HK2.out
            go_wp2_with (fail)
            obtain ⟨ee0, ee1, ee2, ef⟩ := blk3 (blk_alloc HK2.out (.cells #[] 45))
            have hlen1 : ([] ++ (l.map (fun x => (x, false))).take l.length : List (SHolding × Bool)).length = l.length := by simp
            have hlen2 : ([] ++ (l.map (fun x => (x, false))).take l.length ++ [((⟨f0, f1, []⟩ : SHolding), false)] : List (SHolding × Bool)).length = l.length + 1 := by simp
            have HKH := Aside0.mk (show kHolding.K w ⟨f0, f1, []⟩ [.int .i64 f0, .int .i64 f1, .slice none 0 0] from kHolding_mk w ⟨f0, f1, []⟩ (Nat.le_refl _) (C_none _ _))
            have HLT := Aside0.mk (blk_lt HK2.out)
            go_region_law (first
              | (refine Kd.R_append_rows_step (kCp w) (w0 := w) w.heap.size (by simp [Region.wanted]) (.tmp 22) (.tmp 25) 23 45 (.agg #[.int .i64 0, .int .i64 0, .slice none 0 0]) 40 rfl Try.underlying23 info_Holding rfl (show 0 < 3 by decide) (by decide) (.slice (some ⟨wc.heap.size, 0, none⟩) 0 0) [] ((l.map (·, false)).take l.length) (some ad) l.length l.length (fun _ => True) (fun _ => False) ?_ ?_ (R_empty (kCp w) 45 ?_ ?_) (reads_take (HRW.out _ ?_) (Nat.le_refl _)) (fun x cs h => HKM.out _ _ _ x cs h) (fun k hk => hk.elim) (fun _ _ => trivial) ?_ ?_ ?_ ?_; (focus (simp [Act.eval, Act.put]; done)); (focus (simp [Act.eval, Act.put]; done)); (have := HB2.out.size; omega); (repeat (first | exact blk_new _ _ | exact blk_new_at (by simp) | refine blk_drew' ?_ | refine blk_alloc ?_ _)); (repeat (first | exact HB2.out | exact HB3.out | exact HB5.out | refine below_drew ?_ | refine below_alloc ?_ _)); (repeat (first | exact HB2.out | exact HB3.out | exact HB5.out | refine below_drew ?_ | refine below_alloc ?_ _)); (have := HB2.out.size; first | omega | (simp; omega)); (have := HL.out; simp; omega); intro v1 w3 hR1 hb1 hg1 hat1; obtain ⟨A3, cp3, rfl⟩ := Kd.R_slice hR1; rw [hlen1] at hR1; have HR3 := Aside0.mk hR1; have HB3 := Aside0.mk hb1; have HG3 := Aside0.mk hg1; clear hR1 hb1 hg1 hat1; rw [hlen1]; refine layH (p := w3.heap[w.heap.size]? = some (Obj.cells #[Value.int .i64 f0, .int .i64 f1, .slice none 0 0] 45 (0, 0))) ?_ ?_; (focus (refine keep_blk HG3.out ?_ ?_; (repeat (first | exact HK2.out | refine blk_drew' ?_ | refine blk_alloc ?_ _)); (have := HLT.out; first | (simp [Value.ownBlock]; done) | (simp [Value.ownBlock]; omega)))); intro hh3; obtain ⟨dd0, dd1, dd2, df⟩ := blk3 hh3; clear hh3; (first | (refine layH (p := w3.heap[wc.heap.size + 1]? = some (Obj.cells #[Value.int .i64 f0, .int .i64 f1, .slice none 0 0] 45 (0, 0))) ?_ ?_; (focus (refine keep_blk HG3.out ?_ ?_; (first | (refine blk_drew' (blk_new_at ?_); (focus (simp; done))) | (refine blk_drew' (blk_alloc (blk_new_at ?_) _); (focus (simp; done)))); (simp [Value.ownBlock]))); intro hl3; have HL3 := Aside0.mk hl3; clear hl3) | skip))
              | (refine Kd.R_append_rows_step (kCp w) (w0 := w) w.heap.size (by simp [Region.wanted]) (.tmp 22) (.tmp 25) 23 45 (.agg #[.int .i64 0, .int .i64 0, .slice none 0 0]) 40 rfl Try.underlying23 info_Holding rfl (show 0 < 3 by decide) (by decide) (.slice (some ⟨wc.heap.size + 1, 0, none⟩) 0 0) [] ((l.map (·, false)).take l.length) (some ad) l.length l.length (fun _ => True) (fun _ => False) ?_ ?_ (R_empty (kCp w) 45 ?_ ?_) (reads_take (HRW.out _ ?_) (Nat.le_refl _)) (fun x cs h => HKM.out _ _ _ x cs h) (fun k hk => hk.elim) (fun _ _ => trivial) ?_ ?_ ?_ ?_; (focus (simp [Act.eval, Act.put]; done)); (focus (simp [Act.eval, Act.put]; done)); (have := HB2.out.size; omega); (repeat (first | exact blk_new _ _ | exact blk_new_at (by simp) | refine blk_drew' ?_ | refine blk_alloc ?_ _)); (repeat (first | exact HB2.out | exact HB3.out | exact HB5.out | refine below_drew ?_ | refine below_alloc ?_ _)); (repeat (first | exact HB2.out | exact HB3.out | exact HB5.out | refine below_drew ?_ | refine below_alloc ?_ _)); (have := HB2.out.size; first | omega | (simp; omega)); (have := HL.out; simp; omega); intro v1 w3 hR1 hb1 hg1 hat1; obtain ⟨A3, cp3, rfl⟩ := Kd.R_slice hR1; rw [hlen1] at hR1; have HR3 := Aside0.mk hR1; have HB3 := Aside0.mk hb1; have HG3 := Aside0.mk hg1; clear hR1 hb1 hg1 hat1; rw [hlen1]; refine layH (p := w3.heap[w.heap.size]? = some (Obj.cells #[Value.int .i64 f0, .int .i64 f1, .slice none 0 0] 45 (0, 0))) ?_ ?_; (focus (refine keep_blk HG3.out ?_ ?_; (repeat (first | exact HK2.out | refine blk_drew' ?_ | refine blk_alloc ?_ _)); (have := HLT.out; first | (simp [Value.ownBlock]; done) | (simp [Value.ownBlock]; omega)))); intro hh3; obtain ⟨dd0, dd1, dd2, df⟩ := blk3 hh3; clear hh3; (first | (refine layH (p := w3.heap[wc.heap.size]? = some (Obj.cells #[Value.int .i64 f0, .int .i64 f1, .slice none 0 0] 45 (0, 0))) ?_ ?_; (focus (refine keep_blk HG3.out ?_ ?_; (first | (refine blk_drew' (blk_new_at ?_); (focus (simp; done))) | (refine blk_drew' (blk_alloc (blk_new_at ?_) _); (focus (simp; done)))); (simp [Value.ownBlock]))); intro hl3; have HL3 := Aside0.mk hl3; clear hl3) | skip))
              | (refine Kd.R_append_rows_step (kCp w) (w0 := w) w.heap.size (by simp [Region.wanted]) (.tmp 26) (.tmp 28) 23 45 (.agg #[.int .i64 0, .int .i64 0, .slice none 0 0]) 40 rfl Try.underlying23 info_Holding rfl (show 0 < 3 by decide) (by decide) (.slice A3 l.length cp3) ([] ++ (l.map (·, false)).take l.length) [(⟨f0, f1, []⟩, false)] (some ⟨w3.heap.size, 0, none⟩) 1 1 (fun _ => True) (fun _ => False) ?_ ?_ (Kd.R_below HR3.out ?_) (reads_one (T := 45) ?_ rfl ⟨rfl, HKH.out⟩) (fun x cs h => HKM.out _ _ _ x cs h) (fun k hk => hk.elim) (fun _ _ => trivial) ?_ ?_ ?_ ?_; (focus (simp [Act.eval, Act.put]; done)); (focus (simp [Act.eval, Act.put]; done)); (repeat (first | exact Below.refl _ _ | refine below_alloc ?_ _)); (exact blk_new _ _); (repeat (first | exact HB2.out | exact HB3.out | exact HB5.out | refine below_drew ?_ | refine below_alloc ?_ _)); (have := HB3.out.size; first | omega | (simp; omega)); (have := HL.out; simp; omega); intro v5 w5 hR5 hb5 hg5 hat5; obtain ⟨A5, cp5, rfl⟩ := Kd.R_slice hR5; rw [hlen2] at hR5; have HR5 := Aside0.mk hR5; have HB5 := Aside0.mk hb5; clear hR5 hb5 hg5 hat5; rw [hlen2])
              | (refine Kd.R_append_rows_step (kCp w) (w0 := w) w.heap.size (by simp [Region.wanted]) (.tmp 26) (.tmp 28) 23 45 (.agg #[.int .i64 0, .int .i64 0, .slice none 0 0]) 40 rfl Try.underlying23 info_Holding rfl (show 0 < 3 by decide) (by decide) (.slice A3 l.length cp3) ([] ++ (l.map (·, false)).take l.length) [(⟨f0, f1, []⟩, false)] (some ⟨wc.heap.size + 1, 0, none⟩) 1 1 (fun _ => True) (fun _ => False) ?_ ?_ (Kd.R_below HR3.out ?_) (reads_one (T := 45) ?_ rfl ⟨rfl, HKH.out⟩) (fun x cs h => HKM.out _ _ _ x cs h) (fun k hk => hk.elim) (fun _ _ => trivial) ?_ ?_ ?_ ?_; (focus (simp [Act.eval, Act.put]; done)); (focus (simp [Act.eval, Act.put]; done)); (repeat (first | exact Below.refl _ _ | refine below_alloc ?_ _)); (exact HL3.out); (repeat (first | exact HB2.out | exact HB3.out | exact HB5.out | refine below_drew ?_ | refine below_alloc ?_ _)); (have := HB3.out.size; first | omega | (simp; omega)); (have := HL.out; simp; omega); intro v5 w5 hR5 hb5 hg5 hat5; obtain ⟨A5, cp5, rfl⟩ := Kd.R_slice hR5; rw [hlen2] at hR5; have HR5 := Aside0.mk hR5; have HB5 := Aside0.mk hb5; clear hR5 hb5 hg5 hat5; rw [hlen2])
              | (refine Kd.R_append_rows_step (kCp w) (w0 := w) w.heap.size (by simp [Region.wanted]) (.tmp 26) (.tmp 28) 23 45 (.agg #[.int .i64 0, .int .i64 0, .slice none 0 0]) 40 rfl Try.underlying23 info_Holding rfl (show 0 < 3 by decide) (by decide) (.slice A3 l.length cp3) ([] ++ (l.map (·, false)).take l.length) [(⟨f0, f1, []⟩, false)] (some ⟨wc.heap.size, 0, none⟩) 1 1 (fun _ => True) (fun _ => False) ?_ ?_ (Kd.R_below HR3.out ?_) (reads_one (T := 45) ?_ rfl ⟨rfl, HKH.out⟩) (fun x cs h => HKM.out _ _ _ x cs h) (fun k hk => hk.elim) (fun _ _ => trivial) ?_ ?_ ?_ ?_; (focus (simp [Act.eval, Act.put]; done)); (focus (simp [Act.eval, Act.put]; done)); (repeat (first | exact Below.refl _ _ | refine below_alloc ?_ _)); (exact HL3.out); (repeat (first | exact HB2.out | exact HB3.out | exact HB5.out | refine below_drew ?_ | refine below_alloc ?_ _)); (have := HB3.out.size; first | omega | (simp; omega)); (have := HL.out; simp; omega); intro v5 w5 hR5 hb5 hg5 hat5; obtain ⟨A5, cp5, rfl⟩ := Kd.R_slice hR5; rw [hlen2] at hR5; have HR5 := Aside0.mk hR5; have HB5 := Aside0.mk hb5; clear hR5 hb5 hg5 hat5; rw [hlen2])
              | (refine Kd.R_append_rows_step (kCp w) (w0 := w) w.heap.size (by simp [Region.wanted]) (.tmp 29) (.tmp 32) 23 45 (.agg #[.int .i64 0, .int .i64 0, .slice none 0 0]) 40 rfl Try.underlying23 info_Holding rfl (show 0 < 3 by decide) (by decide) (.slice A5 (l.length + 1) cp5) ([] ++ (l.map (·, false)).take l.length ++ [(⟨f0, f1, []⟩, false)]) [] (some ad) 0 0 (fun _ => True) (fun _ => False) ?_ ?_ HR5.out (ReadsRow_zero _ _ _ _) (fun x cs h => HKM.out _ _ _ x cs h) (fun k hk => hk.elim) (fun _ _ => trivial) HB5.out HB5.out.size ?_ ?_; (focus (simp [Act.eval, Act.put]; done)); (focus (simp [Act.eval, Act.put]; done)); (have := HL.out; simp; omega); intro v6 w6 hR6 hb6 hg6 hat6; have HR6 := Aside0.mk hR6; have HB6 := Aside0.mk hb6; clear hR6 hb6 hg6 hat6))
            all_goals
              go_wp2
              go_ret
              exact ⟨_, rfl, by
                have := HR6.out
                rw [List.take_of_length_le (show (l.map (fun x => (x, false))).length ≤ l.length by simp)] at this
                have e : (insAt l l.length ⟨f0, f1, []⟩).map (fun x => (x, false)) = l.map (fun x => (x, false)) ++ [(⟨f0, f1, []⟩, false)] := by unfold insAt; simp
                rw [e]
                rw [List.nil_append, List.append_nil] at this
                exact this, HB6.out⟩
          · have hr1 : (r : Int) ≤ (c : Int) := by omega
            obtain ⟨cc0, cc1, cc2, cf⟩ := blk3 HK2.out
            go_wp2_with (fail)
            obtain ⟨ee0, ee1, ee2, ef⟩ := blk3 (blk_alloc HK2.out (.cells #[] 45))
            have hlen1 : ([] ++ (l.map (fun x => (x, false))).take r : List (SHolding × Bool)).length = r := by simp; omega
            have hlen2 : ([] ++ (l.map (fun x => (x, false))).take r ++ [((⟨f0, f1, []⟩ : SHolding), false)] : List (SHolding × Bool)).length = r + 1 := by simp; omega
            have HKH := Aside0.mk (show kHolding.K w ⟨f0, f1, []⟩ [.int .i64 f0, .int .i64 f1, .slice none 0 0] from kHolding_mk w ⟨f0, f1, []⟩ (Nat.le_refl _) (C_none _ _))
            have HLT := Aside0.mk (blk_lt HK2.out)
            go_region_law (first
              | (refine Kd.R_append_rows_step (kCp w) (w0 := w) w.heap.size (by simp [Region.wanted]) (.tmp 22) (.tmp 25) 23 45 (.agg #[.int .i64 0, .int .i64 0, .slice none 0 0]) 40 rfl Try.underlying23 info_Holding rfl (show 0 < 3 by decide) (by decide) (.slice (some ⟨wc.heap.size, 0, none⟩) 0 0) [] ((l.map (·, false)).take r) (some ad) r c (fun _ => True) (fun _ => False) ?_ ?_ (R_empty (kCp w) 45 ?_ ?_) (reads_take (HRW.out _ ?_) hrl) (fun x cs h => HKM.out _ _ _ x cs h) (fun k hk => hk.elim) (fun _ _ => trivial) ?_ ?_ ?_ ?_; (focus (simp [Act.eval, Act.put]; done)); (focus (simp [Act.eval, Act.put]; done)); (have := HB2.out.size; omega); (repeat (first | exact blk_new _ _ | exact blk_new_at (by simp) | refine blk_drew' ?_ | refine blk_alloc ?_ _)); (repeat (first | exact HB2.out | exact HB3.out | exact HB5.out | refine below_drew ?_ | refine below_alloc ?_ _)); (repeat (first | exact HB2.out | exact HB3.out | exact HB5.out | refine below_drew ?_ | refine below_alloc ?_ _)); (have := HB2.out.size; first | omega | (simp; omega)); (have := HL.out; simp; omega); intro v1 w3 hR1 hb1 hg1 hat1; obtain ⟨A3, cp3, rfl⟩ := Kd.R_slice hR1; rw [hlen1] at hR1; have HR3 := Aside0.mk hR1; have HB3 := Aside0.mk hb1; have HG3 := Aside0.mk hg1; clear hR1 hb1 hg1 hat1; rw [hlen1]; refine layH (p := w3.heap[w.heap.size]? = some (Obj.cells #[Value.int .i64 f0, .int .i64 f1, .slice none 0 0] 45 (0, 0))) ?_ ?_; (focus (refine keep_blk HG3.out ?_ ?_; (repeat (first | exact HK2.out | refine blk_drew' ?_ | refine blk_alloc ?_ _)); (have := HLT.out; first | (simp [Value.ownBlock]; done) | (simp [Value.ownBlock]; omega)))); intro hh3; obtain ⟨dd0, dd1, dd2, df⟩ := blk3 hh3; clear hh3; (first | (refine layH (p := w3.heap[wc.heap.size + 1]? = some (Obj.cells #[Value.int .i64 f0, .int .i64 f1, .slice none 0 0] 45 (0, 0))) ?_ ?_; (focus (refine keep_blk HG3.out ?_ ?_; (first | (refine blk_drew' (blk_new_at ?_); (focus (simp; done))) | (refine blk_drew' (blk_alloc (blk_new_at ?_) _); (focus (simp; done)))); (simp [Value.ownBlock]))); intro hl3; have HL3 := Aside0.mk hl3; clear hl3) | skip))
              | (refine Kd.R_append_rows_step (kCp w) (w0 := w) w.heap.size (by simp [Region.wanted]) (.tmp 22) (.tmp 25) 23 45 (.agg #[.int .i64 0, .int .i64 0, .slice none 0 0]) 40 rfl Try.underlying23 info_Holding rfl (show 0 < 3 by decide) (by decide) (.slice (some ⟨wc.heap.size + 1, 0, none⟩) 0 0) [] ((l.map (·, false)).take r) (some ad) r c (fun _ => True) (fun _ => False) ?_ ?_ (R_empty (kCp w) 45 ?_ ?_) (reads_take (HRW.out _ ?_) hrl) (fun x cs h => HKM.out _ _ _ x cs h) (fun k hk => hk.elim) (fun _ _ => trivial) ?_ ?_ ?_ ?_; (focus (simp [Act.eval, Act.put]; done)); (focus (simp [Act.eval, Act.put]; done)); (have := HB2.out.size; omega); (repeat (first | exact blk_new _ _ | exact blk_new_at (by simp) | refine blk_drew' ?_ | refine blk_alloc ?_ _)); (repeat (first | exact HB2.out | exact HB3.out | exact HB5.out | refine below_drew ?_ | refine below_alloc ?_ _)); (repeat (first | exact HB2.out | exact HB3.out | exact HB5.out | refine below_drew ?_ | refine below_alloc ?_ _)); (have := HB2.out.size; first | omega | (simp; omega)); (have := HL.out; simp; omega); intro v1 w3 hR1 hb1 hg1 hat1; obtain ⟨A3, cp3, rfl⟩ := Kd.R_slice hR1; rw [hlen1] at hR1; have HR3 := Aside0.mk hR1; have HB3 := Aside0.mk hb1; have HG3 := Aside0.mk hg1; clear hR1 hb1 hg1 hat1; rw [hlen1]; refine layH (p := w3.heap[w.heap.size]? = some (Obj.cells #[Value.int .i64 f0, .int .i64 f1, .slice none 0 0] 45 (0, 0))) ?_ ?_; (focus (refine keep_blk HG3.out ?_ ?_; (repeat (first | exact HK2.out | refine blk_drew' ?_ | refine blk_alloc ?_ _)); (have := HLT.out; first | (simp [Value.ownBlock]; done) | (simp [Value.ownBlock]; omega)))); intro hh3; obtain ⟨dd0, dd1, dd2, df⟩ := blk3 hh3; clear hh3; (first | (refine layH (p := w3.heap[wc.heap.size]? = some (Obj.cells #[Value.int .i64 f0, .int .i64 f1, .slice none 0 0] 45 (0, 0))) ?_ ?_; (focus (refine keep_blk HG3.out ?_ ?_; (first | (refine blk_drew' (blk_new_at ?_); (focus (simp; done))) | (refine blk_drew' (blk_alloc (blk_new_at ?_) _); (focus (simp; done)))); (simp [Value.ownBlock]))); intro hl3; have HL3 := Aside0.mk hl3; clear hl3) | skip))
              | (refine Kd.R_append_rows_step (kCp w) (w0 := w) w.heap.size (by simp [Region.wanted]) (.tmp 26) (.tmp 28) 23 45 (.agg #[.int .i64 0, .int .i64 0, .slice none 0 0]) 40 rfl Try.underlying23 info_Holding rfl (show 0 < 3 by decide) (by decide) (.slice A3 r cp3) ([] ++ (l.map (·, false)).take r) [(⟨f0, f1, []⟩, false)] (some ⟨w3.heap.size, 0, none⟩) 1 1 (fun _ => True) (fun _ => False) ?_ ?_ (Kd.R_below HR3.out ?_) (reads_one (T := 45) ?_ rfl ⟨rfl, HKH.out⟩) (fun x cs h => HKM.out _ _ _ x cs h) (fun k hk => hk.elim) (fun _ _ => trivial) ?_ ?_ ?_ ?_; (focus (simp [Act.eval, Act.put]; done)); (focus (simp [Act.eval, Act.put]; done)); (repeat (first | exact Below.refl _ _ | refine below_alloc ?_ _)); (exact blk_new _ _); (repeat (first | exact HB2.out | exact HB3.out | exact HB5.out | refine below_drew ?_ | refine below_alloc ?_ _)); (have := HB3.out.size; first | omega | (simp; omega)); (have := HL.out; simp; omega); intro v5 w5 hR5 hb5 hg5 hat5; obtain ⟨A5, cp5, rfl⟩ := Kd.R_slice hR5; rw [hlen2] at hR5; have HR5 := Aside0.mk hR5; have HB5 := Aside0.mk hb5; clear hR5 hb5 hg5 hat5; rw [hlen2])
              | (refine Kd.R_append_rows_step (kCp w) (w0 := w) w.heap.size (by simp [Region.wanted]) (.tmp 26) (.tmp 28) 23 45 (.agg #[.int .i64 0, .int .i64 0, .slice none 0 0]) 40 rfl Try.underlying23 info_Holding rfl (show 0 < 3 by decide) (by decide) (.slice A3 r cp3) ([] ++ (l.map (·, false)).take r) [(⟨f0, f1, []⟩, false)] (some ⟨wc.heap.size + 1, 0, none⟩) 1 1 (fun _ => True) (fun _ => False) ?_ ?_ (Kd.R_below HR3.out ?_) (reads_one (T := 45) ?_ rfl ⟨rfl, HKH.out⟩) (fun x cs h => HKM.out _ _ _ x cs h) (fun k hk => hk.elim) (fun _ _ => trivial) ?_ ?_ ?_ ?_; (focus (simp [Act.eval, Act.put]; done)); (focus (simp [Act.eval, Act.put]; done)); (repeat (first | exact Below.refl _ _ | refine below_alloc ?_ _)); (exact HL3.out); (repeat (first | exact HB2.out | exact HB3.out | exact HB5.out | refine below_drew ?_ | refine below_alloc ?_ _)); (have := HB3.out.size; first | omega | (simp; omega)); (have := HL.out; simp; omega); intro v5 w5 hR5 hb5 hg5 hat5; obtain ⟨A5, cp5, rfl⟩ := Kd.R_slice hR5; rw [hlen2] at hR5; have HR5 := Aside0.mk hR5; have HB5 := Aside0.mk hb5; clear hR5 hb5 hg5 hat5; rw [hlen2])
              | (refine Kd.R_append_rows_step (kCp w) (w0 := w) w.heap.size (by simp [Region.wanted]) (.tmp 26) (.tmp 28) 23 45 (.agg #[.int .i64 0, .int .i64 0, .slice none 0 0]) 40 rfl Try.underlying23 info_Holding rfl (show 0 < 3 by decide) (by decide) (.slice A3 r cp3) ([] ++ (l.map (·, false)).take r) [(⟨f0, f1, []⟩, false)] (some ⟨wc.heap.size, 0, none⟩) 1 1 (fun _ => True) (fun _ => False) ?_ ?_ (Kd.R_below HR3.out ?_) (reads_one (T := 45) ?_ rfl ⟨rfl, HKH.out⟩) (fun x cs h => HKM.out _ _ _ x cs h) (fun k hk => hk.elim) (fun _ _ => trivial) ?_ ?_ ?_ ?_; (focus (simp [Act.eval, Act.put]; done)); (focus (simp [Act.eval, Act.put]; done)); (repeat (first | exact Below.refl _ _ | refine below_alloc ?_ _)); (exact HL3.out); (repeat (first | exact HB2.out | exact HB3.out | exact HB5.out | refine below_drew ?_ | refine below_alloc ?_ _)); (have := HB3.out.size; first | omega | (simp; omega)); (have := HL.out; simp; omega); intro v5 w5 hR5 hb5 hg5 hat5; obtain ⟨A5, cp5, rfl⟩ := Kd.R_slice hR5; rw [hlen2] at hR5; have HR5 := Aside0.mk hR5; have HB5 := Aside0.mk hb5; clear hR5 hb5 hg5 hat5; rw [hlen2])
              | (refine Kd.R_append_rows_step (kCp w) (w0 := w) w.heap.size (by simp [Region.wanted]) (.tmp 29) (.tmp 32) 23 45 (.agg #[.int .i64 0, .int .i64 0, .slice none 0 0]) 40 rfl Try.underlying23 info_Holding rfl (show 0 < 3 by decide) (by decide) (.slice A5 (r + 1) cp5) ([] ++ (l.map (·, false)).take r ++ [(⟨f0, f1, []⟩, false)]) ((l.map (·, false)).drop r) (some (ad.add (r * 3))) (l.length - r) (c - r) (fun _ => True) (fun _ => False) ?_ ?_ HR5.out (reads_drop (HRW.out _ ?_) hrl) (fun x cs h => HKM.out _ _ _ x cs h) (fun k hk => hk.elim) (fun _ _ => trivial) HB5.out HB5.out.size ?_ ?_; (focus (simp [Act.eval, Act.put]; done)); (focus (simp [Act.eval, Act.put]; done)); exact HB5.out; (have := HL.out; simp; omega); intro v6 w6 hR6 hb6 hg6 hat6; have HR6 := Aside0.mk hR6; have HB6 := Aside0.mk hb6; clear hR6 hb6 hg6 hat6))
            all_goals
              go_wp2
              go_ret
              exact ⟨_, rfl, by
                have := HR6.out
                unfold insAt
                simpa using this, HB6.out⟩
end Go.Proofs.Ytjgkalppjfmkoaa
