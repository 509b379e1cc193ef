/- The predicates of node.Choose. -/
import Derived.Test.YtjgkalppjfmkoaaDuty3
namespace Go.Proofs.Ytjgkalppjfmkoaa
open Go.RowKit Go.Shelf Go.Proofs.YtjgkalppjfmkoaaW.PrintWords
set_option linter.unusedVariables false
set_option linter.unusedSimpArgs false

theorem ixGo_hit {α : Type} (p : α → Bool) (z : α) (l : List α) : ∀ (d k : Nat), 0 ≤ ixGo p z l d k → p (l.getD (ixGo p z l d k).toNat z) = true
  | 0, k, h => by unfold ixGo at h; omega
  | d + 1, k, h => by
    unfold ixGo at h ⊢
    split
    · rename_i hp
      rw [Int.toNat_natCast]; exact hp
    · rename_i hp
      rw [if_neg hp] at h
      exact ixGo_hit p z l d (k + 1) h
theorem ix_hit {α : Type} (p : α → Bool) (z : α) (l : List α) (h : 0 ≤ ix p z l) : p (l.getD (ix p z l).toNat z) = true := ixGo_hit p z l _ _ h

/-- Has a node something to send in a duty? -/
def sendsB (flows : List SFlow) (l : List SHolding) (x : SDuty) : Bool :=
  x.f1 && decide (0 ≤ ix (fun h : SHolding => h.f0 == x.f0.f4) zHolding l) && !decide (0 ≤ ix (fun n => x.f0.f3 == n) 0 (l.getD (ix (fun h : SHolding => h.f0 == x.f0.f4) zHolding l).toNat zHolding).f2) &&
    ((flows.getD (ix (fun f : SFlow => f.f0 == x.f0.f4) zFlow flows).toNat zFlow).f2 != x.f0.f2)

set_option maxRecDepth 100000 in
set_option maxHeartbeats 4000000 in
theorem node_Choose1 (A B : Option Addr) (c d : Nat) (flows : List SFlow) (l : List SHolding) (BL BF : Nat) (w : World) (hL : BL < w.heap.size) (hF : BF < w.heap.size) (hcL : w.cell? ⟨BL, 0, none⟩ = some (.slice B l.length d)) (hcF : w.cell? ⟨BF, 0, none⟩ = some (.slice A flows.length c))
    (hf : Kd.C kFlow w A flows.length flows) (hr : Kd.C kHolding w B l.length l) (hck0 : hck flows l = 0) :
    PredDuty 45 #[.pointer (some ⟨BL, 0, none⟩), .pointer (some ⟨BF, 0, none⟩)] (sendsB flows l) w := fun W x hb => by
  have hcL' : W.cell? ⟨BL, 0, none⟩ = some (.slice B l.length d) := (hb.cell (p := ⟨BL, 0, none⟩) hL).trans hcL
  have hcF' : W.cell? ⟨BF, 0, none⟩ = some (.slice A flows.length c) := (hb.cell (p := ⟨BF, 0, none⟩) hF).trans hcF
  have hL' : BL < W.heap.size := Nat.lt_of_lt_of_le hL hb.size
  have hF' : BF < W.heap.size := Nat.lt_of_lt_of_le hF hb.size
  have HF := Aside0.mk (Kd.C_below hf hb)
  have HL := Aside0.mk (Kd.C_below hr hb)
  have HFN := Aside0.mk hf.2.1
  have HCK := Aside0.mk (fun k hk => hck_find hck0 k hk)
  clear hcL hcF hf hr hL hF hb hck0
  obtain ⟨⟨x0, x1, x2, x3, x4⟩, x5, x6, x7, x8⟩ := x
  obtain ⟨b, hbb⟩ : ∃ b, b = sendsB flows l ⟨⟨x0, x1, x2, x3, x4⟩, x5, x6, x7, x8⟩ := ⟨_, rfl⟩
  rw [← hbb]
  unfold sendsB at hbb
  simp only at hbb
  have hil : ix (fun h : SHolding => h.f0 == x4) zHolding l < l.length := ix_lt _ _ _
  have hhit : 0 ≤ ix (fun h : SHolding => h.f0 == x4) zHolding l → (l.getD (ix (fun h : SHolding => h.f0 == x4) zHolding l).toNat zHolding).f0 = x4 := fun h => by simpa using ix_hit (fun h : SHolding => h.f0 == x4) zHolding l h
  obtain ⟨i, hi⟩ : ∃ i, i = ix (fun h : SHolding => h.f0 == x4) zHolding l := ⟨_, rfl⟩
  rw [← hi] at hil hhit hbb
  have HI := Aside0.mk hi.symm
  have HBB := Aside0.mk hbb
  have HHIT := Aside0.mk hhit
  have HB1 := Aside0.mk (show Below W.heap.size W (W.alloc (.cells #[.int .i64 x0, .int .i64 x1, .int .i64 x2, .int .i64 x3, .int .i64 x4, .bool x5, .bool x6, .int .i64 x7, .int .i64 x8] 63)) from (Below.refl _ _).alloc (Nat.le_refl _) _)
  have HX1 := Aside0.mk (blk_new W (.cells #[.int .i64 x0, .int .i64 x1, .int .i64 x2, .int .i64 x3, .int .i64 x4, .bool x5, .bool x6, .int .i64 x7, .int .i64 x8] 63))
  clear hi hbb hhit
  show Calls Try.prog 45 #[.agg #[.int .i64 x0, .int .i64 x1, .int .i64 x2, .int .i64 x3, .int .i64 x4, .bool x5, .bool x6, .int .i64 x7, .int .i64 x8], .pointer (some ⟨BL, 0, none⟩), .pointer (some ⟨BF, 0, none⟩)] W _
  go_enter Try.func45, Try.ntmps45
  go_wp2_with (fail)
  refine (node_find _ _ _ _ _ (Kd.C_below HL.out HB1.out)).mono ?_
  rintro e w1 ⟨rfl, hb1⟩
  rw [HI.out]
  have HB2 := Aside0.mk (below_trans2 HB1.out hb1)
  have HX2 := Aside0.mk (blk_below HX1.out hb1)
  obtain ⟨cc0, cc1, cc2, cc3, cc4, cc5, cc6, cc7, cc8⟩ := blk9 HX2.out
  have dd2 := lat_cell cc2
  have dd3 := lat_cell cc3
  have dd4 := lat_cell cc4
  have dd5 := lat_cell cc5
  have ddL := lat_cell (lat_cell hcL' ⟨w1, HB2.out⟩)
  have ddF := lat_cell (lat_cell hcF' ⟨w1, HB2.out⟩)
  clear hb1 HB1 HX1 cc0 cc1 cc2 cc3 cc4 cc5 cc6 cc7 cc8 hcL' hcF'
  have hbb := HBB.out
  clear HBB
  by_cases h1 : x5 = true ∧ 0 ≤ i
  · obtain ⟨rfl, hi0⟩ := h1
    have g2 : decide (0 ≤ i) = true := decide_eq_true hi0
    obtain ⟨n, rfl⟩ := Int.eq_ofNat_of_zero_le hi0
    rw [Int.toNat_natCast, g2] at hbb
    have hnl : n < l.length := by omega
    have hni : (n : Int) < (l.length : Int) := by omega
    have hhit := HHIT.out hi0
    rw [Int.toNat_natCast] at hhit
    have hfj := HCK.out n hnl
    rw [hhit] at hfj
    have hjl : ix (fun f : SFlow => f.f0 == x4) zFlow flows < flows.length := ix_lt _ _ _
    obtain ⟨ad, A2, c2, rfl, hy0, hy1, hy2, hl2, hC2⟩ := THolding_nat (Kd.C_below HL.out HB2.out) n hnl
    generalize l.getD n zHolding = y at *
    obtain ⟨f0, f1, f2⟩ := y
    simp only at hy2 hC2 hbb
    have pp2 := lat_cell hy2
    have HC2 := Aside0.mk hC2
    obtain ⟨j, hj⟩ : ∃ j, j = ix (fun f : SFlow => f.f0 == x4) zFlow flows := ⟨_, rfl⟩
    rw [← hj] at hfj hjl hbb
    obtain ⟨m, rfl⟩ := Int.eq_ofNat_of_zero_le hfj
    rw [Int.toNat_natCast] at hbb
    have hml : m < flows.length := by omega
    have hmi : (m : Int) < (flows.length : Int) := by omega
    obtain ⟨ad2, rfl, hz0, hz1, hz2, hz3, hz4, hz5⟩ := TFlow_nat (Kd.C_below HF.out HB2.out) m hml
    generalize flows.getD m zFlow = z at *
    obtain ⟨g0, g1, g2', g3, g4, g5⟩ := z
    simp only at hz2 hbb
    have qq2 := lat_cell hz2
    have HJ := Aside0.mk hj.symm
    clear hy0 hy1 hy2 hl2 hC2 hz0 hz1 hz2 hz3 hz4 hz5 hj hhit hfj hjl hil HHIT
    obtain ⟨q, hq⟩ : ∃ q, decide (0 ≤ ix (fun n => x3 == n) 0 f2) = q := ⟨_, rfl⟩
    rw [hq] at hbb
    have HQ := Aside0.mk hq
    clear hq
    cases q with
    | true =>
      have HX := Aside0.mk (show b = false by simpa using hbb)
      clear hbb
      go_wp2_with (fail)
      refine wp_region_lat (by kernel_rfl) (by kernel_rfl) ?_
      repeat (go_big_quiet_step (first | (go_at_call 24; refine calls_lat_same (HQ.out ▸ Contains_int _ _ _ _ _ (Kd.C_below HC2.out (Lat.h _)))) | (go_at_call 30; refine calls_lat (HJ.out ▸ flow_Find _ _ _ _ _ (Kd.C_below HF.out (below_trans2 HB2.out (Lat.h _)))))))
      refine wpQuiet_nil ?_
      intro wq hw'
      obtain ⟨⟨_, hq⟩, rfl⟩ := hw'
      have HB3 := Aside0.mk (below_trans2 HB2.out hq)
      clear hq dd2 dd3 dd4 dd5 ddL ddF pp2 qq2
      go_wp2
      go_ret
      exact ⟨ret_bool HX.out.symm, HB3.out⟩
    | false =>
      have HX := Aside0.mk (show b = (g2' != x2) by simpa using hbb)
      clear hbb
      go_wp2_with (fail)
      refine wp_region_lat (by kernel_rfl) (by kernel_rfl) ?_
      repeat (go_big_quiet_step (first | (go_at_call 24; refine calls_lat_same (HQ.out ▸ Contains_int _ _ _ _ _ (Kd.C_below HC2.out (Lat.h _)))) | (go_at_call 30; refine calls_lat (HJ.out ▸ flow_Find _ _ _ _ _ (Kd.C_below HF.out (below_trans2 HB2.out (Lat.h _)))))))
      refine wpQuiet_nil ?_
      intro wq hw'
      obtain ⟨⟨_, hq⟩, rfl⟩ := hw'
      have HB3 := Aside0.mk (below_trans2 HB2.out hq)
      clear hq dd2 dd3 dd4 dd5 ddL ddF pp2 qq2
      go_wp2
      go_ret
      exact ⟨ret_bool HX.out.symm, HB3.out⟩
  · have HX := Aside0.mk (show b = false by
      rw [hbb]
      cases x5
      · rfl
      · have : ¬ (0 ≤ i) := fun h => h1 ⟨rfl, h⟩
        rw [decide_eq_false this]; rfl)
    have key : x5 = false ∨ (x5 = true ∧ decide (0 ≤ i) = false) := by
      cases x5
      · exact Or.inl rfl
      · exact Or.inr ⟨rfl, decide_eq_false (fun h => h1 ⟨rfl, h⟩)⟩
    clear hbb h1 HHIT HCK
    rcases key with rfl | ⟨rfl, g2⟩
    all_goals
      go_wp2_with (fail)
      refine wp_region_lat (by kernel_rfl) (by kernel_rfl) ?_
      repeat (go_big_quiet_step (fail))
      refine wpQuiet_nil ?_
      intro wq hw'
      obtain ⟨⟨_, hq⟩, rfl⟩ := hw'
      have HB3 := Aside0.mk (below_trans2 HB2.out hq)
      clear hq dd2 dd3 dd4 dd5 ddL ddF
      go_wp2
      go_ret
      exact ⟨ret_bool HX.out.symm, HB3.out⟩

theorem node_Choose2 (w : World) : PredDuty 47 #[] (fun x => !x.f1) w := fun W x hb => by
  obtain ⟨⟨x0, x1, x2, x3, x4⟩, x5, x6, x7, x8⟩ := x
  show Calls Try.prog 47 #[.agg #[.int .i64 x0, .int .i64 x1, .int .i64 x2, .int .i64 x3, .int .i64 x4, .bool x5, .bool x6, .int .i64 x7, .int .i64 x8]] W _
  go_enter Try.func47, Try.ntmps47
  go_wp2
  go_ret
  exact ⟨rfl, (Below.refl _ _).alloc (Nat.le_refl _) _⟩
end Go.Proofs.Ytjgkalppjfmkoaa
