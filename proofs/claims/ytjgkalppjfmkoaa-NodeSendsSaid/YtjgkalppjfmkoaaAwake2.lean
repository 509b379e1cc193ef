/- The example of the chapter holds: the walk. -/
import Derived.Test.YtjgkalppjfmkoaaAwake1
import Derived.Deep.RegionHeld3
import Derived.Deep.DeepCutAuto
namespace Go.Proofs.Ytjgkalppjfmkoaa
open Go.RowKit Go.Shelf Go.Proofs.YtjgkalppjfmkoaaW.PrintWords
set_option linter.unusedVariables false
set_option linter.unusedSimpArgs false

theorem blk_drew' {w : World} {o : Obj} {g : Nat} (h : w.heap[g]? = some o) : w.drew.heap[g]? = some o := h
theorem set_far {W : World} {g a b : Nat} {v u : Value} (hne : a ≠ b) (h : W.cell? ⟨g, b, none⟩ = some u) : (W.setCell ⟨g, a, none⟩ v).cell? ⟨g, b, none⟩ = some u :=
  (World.cell?_setCell_other W _ _ v (fun e => hne (by injection e))).trans h
theorem set7_cells {W : World} {g : Nat} {u0 v0 u1 v1 u2 v2 u3 v3 u4 v4 u5 v5 u6 v6 : Value} (h0 : W.cell? ⟨g, 0, none⟩ = some u0) (h1 : W.cell? ⟨g, 1, none⟩ = some u1) (h2 : W.cell? ⟨g, 2, none⟩ = some u2) (h3 : W.cell? ⟨g, 3, none⟩ = some u3) (h4 : W.cell? ⟨g, 4, none⟩ = some u4) (h5 : W.cell? ⟨g, 5, none⟩ = some u5) (h6 : W.cell? ⟨g, 6, none⟩ = some u6) :
    (((((((W.setCell ⟨g, 0, none⟩ v0).setCell ⟨g, 1, none⟩ v1).setCell ⟨g, 2, none⟩ v2).setCell ⟨g, 3, none⟩ v3).setCell ⟨g, 4, none⟩ v4).setCell ⟨g, 5, none⟩ v5).setCell ⟨g, 6, none⟩ v6).cell? ⟨g, 0, none⟩ = some v0 ∧ (((((((W.setCell ⟨g, 0, none⟩ v0).setCell ⟨g, 1, none⟩ v1).setCell ⟨g, 2, none⟩ v2).setCell ⟨g, 3, none⟩ v3).setCell ⟨g, 4, none⟩ v4).setCell ⟨g, 5, none⟩ v5).setCell ⟨g, 6, none⟩ v6).cell? ⟨g, 1, none⟩ = some v1 ∧ (((((((W.setCell ⟨g, 0, none⟩ v0).setCell ⟨g, 1, none⟩ v1).setCell ⟨g, 2, none⟩ v2).setCell ⟨g, 3, none⟩ v3).setCell ⟨g, 4, none⟩ v4).setCell ⟨g, 5, none⟩ v5).setCell ⟨g, 6, none⟩ v6).cell? ⟨g, 2, none⟩ = some v2 ∧ (((((((W.setCell ⟨g, 0, none⟩ v0).setCell ⟨g, 1, none⟩ v1).setCell ⟨g, 2, none⟩ v2).setCell ⟨g, 3, none⟩ v3).setCell ⟨g, 4, none⟩ v4).setCell ⟨g, 5, none⟩ v5).setCell ⟨g, 6, none⟩ v6).cell? ⟨g, 3, none⟩ = some v3 ∧ (((((((W.setCell ⟨g, 0, none⟩ v0).setCell ⟨g, 1, none⟩ v1).setCell ⟨g, 2, none⟩ v2).setCell ⟨g, 3, none⟩ v3).setCell ⟨g, 4, none⟩ v4).setCell ⟨g, 5, none⟩ v5).setCell ⟨g, 6, none⟩ v6).cell? ⟨g, 4, none⟩ = some v4 ∧ (((((((W.setCell ⟨g, 0, none⟩ v0).setCell ⟨g, 1, none⟩ v1).setCell ⟨g, 2, none⟩ v2).setCell ⟨g, 3, none⟩ v3).setCell ⟨g, 4, none⟩ v4).setCell ⟨g, 5, none⟩ v5).setCell ⟨g, 6, none⟩ v6).cell? ⟨g, 5, none⟩ = some v5 ∧ (((((((W.setCell ⟨g, 0, none⟩ v0).setCell ⟨g, 1, none⟩ v1).setCell ⟨g, 2, none⟩ v2).setCell ⟨g, 3, none⟩ v3).setCell ⟨g, 4, none⟩ v4).setCell ⟨g, 5, none⟩ v5).setCell ⟨g, 6, none⟩ v6).cell? ⟨g, 6, none⟩ = some v6 := by
  have h0_0 := World.cell?_setCell_same _ _ v0 h0
  have h1_0 := set_far (v := v0) (a := 0) (by decide) h1
  have h2_0 := set_far (v := v0) (a := 0) (by decide) h2
  have h3_0 := set_far (v := v0) (a := 0) (by decide) h3
  have h4_0 := set_far (v := v0) (a := 0) (by decide) h4
  have h5_0 := set_far (v := v0) (a := 0) (by decide) h5
  have h6_0 := set_far (v := v0) (a := 0) (by decide) h6
  have h0_1 := set_far (v := v1) (a := 1) (by decide) h0_0
  have h1_1 := World.cell?_setCell_same _ _ v1 h1_0
  have h2_1 := set_far (v := v1) (a := 1) (by decide) h2_0
  have h3_1 := set_far (v := v1) (a := 1) (by decide) h3_0
  have h4_1 := set_far (v := v1) (a := 1) (by decide) h4_0
  have h5_1 := set_far (v := v1) (a := 1) (by decide) h5_0
  have h6_1 := set_far (v := v1) (a := 1) (by decide) h6_0
  have h0_2 := set_far (v := v2) (a := 2) (by decide) h0_1
  have h1_2 := set_far (v := v2) (a := 2) (by decide) h1_1
  have h2_2 := World.cell?_setCell_same _ _ v2 h2_1
  have h3_2 := set_far (v := v2) (a := 2) (by decide) h3_1
  have h4_2 := set_far (v := v2) (a := 2) (by decide) h4_1
  have h5_2 := set_far (v := v2) (a := 2) (by decide) h5_1
  have h6_2 := set_far (v := v2) (a := 2) (by decide) h6_1
  have h0_3 := set_far (v := v3) (a := 3) (by decide) h0_2
  have h1_3 := set_far (v := v3) (a := 3) (by decide) h1_2
  have h2_3 := set_far (v := v3) (a := 3) (by decide) h2_2
  have h3_3 := World.cell?_setCell_same _ _ v3 h3_2
  have h4_3 := set_far (v := v3) (a := 3) (by decide) h4_2
  have h5_3 := set_far (v := v3) (a := 3) (by decide) h5_2
  have h6_3 := set_far (v := v3) (a := 3) (by decide) h6_2
  have h0_4 := set_far (v := v4) (a := 4) (by decide) h0_3
  have h1_4 := set_far (v := v4) (a := 4) (by decide) h1_3
  have h2_4 := set_far (v := v4) (a := 4) (by decide) h2_3
  have h3_4 := set_far (v := v4) (a := 4) (by decide) h3_3
  have h4_4 := World.cell?_setCell_same _ _ v4 h4_3
  have h5_4 := set_far (v := v4) (a := 4) (by decide) h5_3
  have h6_4 := set_far (v := v4) (a := 4) (by decide) h6_3
  have h0_5 := set_far (v := v5) (a := 5) (by decide) h0_4
  have h1_5 := set_far (v := v5) (a := 5) (by decide) h1_4
  have h2_5 := set_far (v := v5) (a := 5) (by decide) h2_4
  have h3_5 := set_far (v := v5) (a := 5) (by decide) h3_4
  have h4_5 := set_far (v := v5) (a := 5) (by decide) h4_4
  have h5_5 := World.cell?_setCell_same _ _ v5 h5_4
  have h6_5 := set_far (v := v5) (a := 5) (by decide) h6_4
  have h0_6 := set_far (v := v6) (a := 6) (by decide) h0_5
  have h1_6 := set_far (v := v6) (a := 6) (by decide) h1_5
  have h2_6 := set_far (v := v6) (a := 6) (by decide) h2_5
  have h3_6 := set_far (v := v6) (a := 6) (by decide) h3_5
  have h4_6 := set_far (v := v6) (a := 6) (by decide) h4_5
  have h5_6 := set_far (v := v6) (a := 6) (by decide) h5_5
  have h6_6 := World.cell?_setCell_same _ _ v6 h6_5
  exact ⟨h0_6, h1_6, h2_6, h3_6, h4_6, h5_6, h6_6⟩
theorem new7_cells (w : World) {a0 a1 a2 a3 a4 a5 a6 : Value} {T : TypeId} : (w.alloc (.cells #[a0, a1, a2, a3, a4, a5, a6] T)).cell? ⟨w.heap.size, 0, none⟩ = some a0 ∧ (w.alloc (.cells #[a0, a1, a2, a3, a4, a5, a6] T)).cell? ⟨w.heap.size, 1, none⟩ = some a1 ∧ (w.alloc (.cells #[a0, a1, a2, a3, a4, a5, a6] T)).cell? ⟨w.heap.size, 2, none⟩ = some a2 ∧ (w.alloc (.cells #[a0, a1, a2, a3, a4, a5, a6] T)).cell? ⟨w.heap.size, 3, none⟩ = some a3 ∧ (w.alloc (.cells #[a0, a1, a2, a3, a4, a5, a6] T)).cell? ⟨w.heap.size, 4, none⟩ = some a4 ∧ (w.alloc (.cells #[a0, a1, a2, a3, a4, a5, a6] T)).cell? ⟨w.heap.size, 5, none⟩ = some a5 ∧ (w.alloc (.cells #[a0, a1, a2, a3, a4, a5, a6] T)).cell? ⟨w.heap.size, 6, none⟩ = some a6 := by
  have hz := blk7 (blk_new w (.cells #[a0, a1, a2, a3, a4, a5, a6] T))
  exact ⟨hz.1, hz.2.1, hz.2.2.1, hz.2.2.2.1, hz.2.2.2.2.1, hz.2.2.2.2.2.1, hz.2.2.2.2.2.2.1⟩
theorem layH {p q : Prop} (h : p) (k : p → q) : q := k h
theorem blk_new_at {w : World} {o : Obj} {g : Nat} (h : g = w.heap.size) : (w.alloc o).heap[g]? = some o := by subst h; exact blk_new w o
theorem below_cells {W w' : World} (hb : Below W.heap.size W w') : (∀ a : Addr, (W.cell? a).isSome = true → w'.cell? a = W.cell? a) ∧ (∀ a : Addr, (W.cell? a).isSome = true → w'.frozen? a = W.frozen? a) := by
  refine ⟨fun a h => ?_, fun a h => ?_⟩
  · obtain ⟨u, hu⟩ := Option.isSome_iff_exists.1 h
    exact hb.cell (World.block_lt_of_cell? W a hu)
  · obtain ⟨u, hu⟩ := Option.isSome_iff_exists.1 h
    exact hb.frozen (World.block_lt_of_cell? W a hu)

set_option maxRecDepth 100000 in
set_option maxHeartbeats 8000000 in
theorem law_awake (w : World) : Calls Try.prog 7 #[] w fun e w' => e = .returned (.bool true) ∧ Below w.heap.size w w' := by
  have HB0 := Aside0.mk (show Below w.heap.size w ((w.alloc (.cells #[.int .i64 7, .int .i64 1, .int .i64 0, .int .i64 8, .int .i64 0, .int .i64 8] 33)).alloc (.cells #[.int .i64 1, .int .i64 0, .int .i64 1, .int .i64 0, .int .i64 7] 25)) from ((Below.refl _ _).alloc (Nat.le_refl _) _).alloc (by simp) _)
  have HKF0 := Aside0.mk (blk_alloc (blk_new w (.cells #[.int .i64 7, .int .i64 1, .int .i64 0, .int .i64 8, .int .i64 0, .int .i64 8] 33)) (.cells #[.int .i64 1, .int .i64 0, .int .i64 1, .int .i64 0, .int .i64 7] 25))
  have HKC0 := Aside0.mk (show ((w.alloc (.cells #[.int .i64 7, .int .i64 1, .int .i64 0, .int .i64 8, .int .i64 0, .int .i64 8] 33)).alloc (.cells #[.int .i64 1, .int .i64 0, .int .i64 1, .int .i64 0, .int .i64 7] 25)).heap[w.heap.size + 1]? = some (.cells #[.int .i64 1, .int .i64 0, .int .i64 1, .int .i64 0, .int .i64 7] 25 (0, 0)) from by
    have := blk_new (w.alloc (.cells #[.int .i64 7, .int .i64 1, .int .i64 0, .int .i64 8, .int .i64 0, .int .i64 8] 33)) (.cells #[.int .i64 1, .int .i64 0, .int .i64 1, .int .i64 0, .int .i64 7] 25)
    rwa [show (w.alloc (.cells #[.int .i64 7, .int .i64 1, .int .i64 0, .int .i64 8, .int .i64 0, .int .i64 8] 33)).heap.size = w.heap.size + 1 by simp] at this)
  have CF : ∀ {W : World}, W.heap[w.heap.size]? = some (.cells #[.int .i64 7, .int .i64 1, .int .i64 0, .int .i64 8, .int .i64 0, .int .i64 8] 33 (0, 0)) → Kd.C kFlow W (some ⟨w.heap.size, 0, none⟩) [awF].length [awF] := fun h => C_one h (kFlow_mk _ awF)
  have CD : ∀ {W : World} {g : Nat}, W.heap[g]? = some (.cells #[.int .i64 1, .int .i64 0, .int .i64 1, .int .i64 0, .int .i64 7, .bool true, .bool false, .int .i64 0, .int .i64 (-1)] 63 (0, 0)) → Kd.C kDuty W (some ⟨g, 0, none⟩) [awD].length [awD] := fun h => C_one h (kDuty_mk _ awD)
  have HCF := Aside0.mk @CF
  have HCD := Aside0.mk @CD
  clear CF CD
  go_enter Try.func7, Try.ntmps7
  go_wp2_with (fail)
  refine (node_Begin _ none _ 0 [awF] 1 8 [] _ (HCF.out HKF0.out) (C_none _ _) ⟨by simp, by simp⟩ (by simp)).mono ?_
  rw [aw_begin1]
  rintro e w1 ⟨v1, rfl, hR1, hb1⟩
  obtain ⟨A1, c1, rfl⟩ := Kd.R_slice hR1
  obtain ⟨_, hc1, hC1⟩ := Kd.R_reads' hR1
  have HC1 := Aside0.mk hC1
  have HB1 := Aside0.mk (below_trans2 HB0.out hb1)
  have HKF1 := Aside0.mk (blk_below HKF0.out hb1)
  have HKC1 := Aside0.mk (blk_below HKC0.out hb1)
  clear hb1 hR1 hC1 HB0 HKF0 HKC0
  obtain ⟨cc0, cc1, cc2, cc3, cc4⟩ := blk5 HKC1.out
  have HKD1 := Aside0.mk (blk_new w1 (.cells #[.int .i64 1, .int .i64 0, .int .i64 1, .int .i64 0, .int .i64 7, .bool true, .bool false, .int .i64 0, .int .i64 (-1)] 63))
  have hba := below_alloc (Below.refl w1.heap.size w1) (.cells #[.int .i64 1, .int .i64 0, .int .i64 1, .int .i64 0, .int .i64 7, .bool true, .bool false, .int .i64 0, .int .i64 (-1)] 63)
  have HB1a := Aside0.mk (below_trans2 HB1.out hba)
  have HKF1a := Aside0.mk (blk_below HKF1.out hba)
  have HKC1a := Aside0.mk (blk_below HKC1.out hba)
  have HC1a := Aside0.mk (Kd.C_below HC1.out hba)
  clear hba
  go_wp2_with (fail)
  refine (node_Choose 1 _ sort_one _ _ _ _ _ _ [awF] [awD] [⟨7, 1, []⟩] 8 9 _ (HCF.out HKF1a.out) (HCD.out HKD1.out) HC1a.out (by decide) (by rw [show [awD].length = 1 from rfl, aw_due]; decide)).mono ?_
  rw [aw_choose1]
  rintro e w2 ⟨rfl, hb2⟩
  have hb2' := below_alloc hb2 (.cells #[.int .i64 1, .int .i64 1, .int .i64 0, .int .i64 1, .int .i64 0, .int .i64 7, .int .i64 1] 56)
  have HB2 := Aside0.mk (below_trans2 HB1a.out hb2')
  have HKF2 := Aside0.mk (blk_below HKF1a.out hb2')
  have HKC2 := Aside0.mk (blk_below HKC1a.out hb2')
  have HC2 := Aside0.mk (Kd.C_below HC1a.out hb2')
  have HKX2 := Aside0.mk (blk_new w2 (.cells #[.int .i64 1, .int .i64 1, .int .i64 0, .int .i64 1, .int .i64 0, .int .i64 7, .int .i64 1] 56))
  clear hb2 hb2' cc0 cc1 cc2 cc3 cc4 HB1 HB1a HKF1 HKF1a HKC1 HKC1a HC1 HC1a HKD1
  go_upto_region 5 with (fail)
  obtain ⟨X, hX⟩ : ∃ X, X = w2.heap.size := ⟨_, rfl⟩
  rw [← hX] at HKX2 ⊢
  generalize w2.alloc (.cells #[.int .i64 1, .int .i64 1, .int .i64 0, .int .i64 1, .int .i64 0, .int .i64 7, .int .i64 1] 56) = D at *
  clear hX
  obtain ⟨cc0, cc1, cc2, cc3, cc4⟩ := blk5 HKC2.out
  have hnw := World.new_ne D _ cc0
  simp only at hnw
  have hlw := blk_lt HKC2.out
  have hnw1 : ¬ (D.heap.size = w.heap.size) := by omega
  have hnw2 : ¬ (D.heap.size + 1 = w.heap.size) := by omega
  go_cut [7, 8] (fun v7 v8 wc => ∃ Y, v7 = .pointer (some ⟨Y, 0, none⟩) ∧ v8 = .int .i64 0 ∧ Aside0 (Below D.heap.size D wc) ∧ Aside0 (wc.cell? ⟨Y, 0, none⟩ = some (.int .i64 0) ∧ wc.cell? ⟨Y, 1, none⟩ = some (.int .i64 0) ∧ wc.cell? ⟨Y, 2, none⟩ = some (.int .i64 0) ∧ wc.cell? ⟨Y, 3, none⟩ = some (.int .i64 0) ∧ wc.cell? ⟨Y, 4, none⟩ = some (.int .i64 0) ∧ wc.cell? ⟨Y, 5, none⟩ = some (.int .i64 0) ∧ wc.cell? ⟨Y, 6, none⟩ = some (.int .i64 0)))
  case first =>
    go_region_held3 (fun w' => w'.cell? ⟨w.heap.size + 1, 0, none⟩ = some (.int .i64 1) ∧ w'.cell? ⟨w.heap.size + 1, 1, none⟩ = some (.int .i64 0) ∧ w'.cell? ⟨w.heap.size + 1, 2, none⟩ = some (.int .i64 1) ∧ w'.cell? ⟨w.heap.size + 1, 3, none⟩ = some (.int .i64 0) ∧ w'.cell? ⟨w.heap.size + 1, 4, none⟩ = some (.int .i64 7)) (go_keep) (first
      | (go_at_call 25; refine (node_Sent _ _ [⟨7, 1, []⟩] 1 0 1 0 7 true _ (Kd.C_below HC2.out ?_) ⟨by simp, by simp⟩).mono ?_; (repeat (first | exact Below.refl _ _ | refine below_trans2 ?_ hb5 | refine below_trans2 ?_ hb4 | refine below_alloc ?_ _ | refine below_drew ?_)); rw [aw_sent]; rintro e w4 ⟨v4, rfl, hS4, hb4⟩; obtain ⟨A4, c4, rfl⟩ := Kd.S_slice hS4; have HC4 := Aside0.mk (Kd.S_reads' hS4).2.2; obtain ⟨k4, f4⟩ := below_cells hb4; (first | (have HZ : w4.heap[D.heap.size]? = some (.cells #[.int .i64 0, .int .i64 0, .int .i64 0, .int .i64 0, .int .i64 0, .int .i64 0, .int .i64 0] 56 (0, 0)) := (by first | (refine blk_below (blk_drew' (blk_new_at ?_)) hb4; (simp; done)) | (refine blk_below (blk_drew' (blk_alloc (blk_new_at ?_) _)) hb4; (simp; done))); obtain ⟨z0, z1, z2, z3, z4, z5, z6, zf⟩ := blk7 HZ; have HZA := Aside0.mk HZ; clear HZ) | (have HZ : w4.heap[D.heap.size + 1]? = some (.cells #[.int .i64 0, .int .i64 0, .int .i64 0, .int .i64 0, .int .i64 0, .int .i64 0, .int .i64 0] 56 (0, 0)) := (by refine blk_below (blk_drew' (blk_new_at ?_)) hb4; (simp; done)); obtain ⟨z0, z1, z2, z3, z4, z5, z6, zf⟩ := blk7 HZ; have HZA := Aside0.mk HZ; clear HZ) | skip); have HQ4 := Aside0.mk (show Below D.heap.size D w4 from by (repeat (first | exact Below.refl _ _ | refine below_trans2 ?_ hb5 | refine below_trans2 ?_ hb4 | refine below_alloc ?_ _ | refine below_drew ?_))); obtain ⟨dd0, dd1, dd2, dd3, dd4⟩ := blk5 (blk_below HKC2.out HQ4.out); have hn4 := World.new_ne w4 _ dd0; simp only at hn4; have hm4 : ¬ (w4.heap.size = w.heap.size) := (by have := HQ4.out.size; omega); replace hb4 := Aside0.mk hb4; clear hS4)
      | (go_at_call 19; refine (node_Choose 1 _ sort_one _ _ _ _ _ _ [awF] [awD] [⟨7, 1, [0]⟩] 8 9 _ (HCF.out ?_) (HCD.out ?_) ?_ (by decide) (by rw [show [awD].length = 1 from rfl, aw_due]; decide)).mono ?_; (refine blk_below HKF2.out ?_; (repeat (first | exact HQ4.out | exact Below.refl _ _ | refine below_alloc ?_ _ | refine below_drew ?_))); (repeat (first | exact blk_new _ _ | exact blk_new_at (by simp) | refine blk_below ?_ hb4.out | refine blk_alloc ?_ _)); (refine Kd.C_below HC4.out ?_; (repeat (first | exact HQ4.out | exact Below.refl _ _ | refine below_alloc ?_ _ | refine below_drew ?_))); rw [aw_choose2]; rintro e w5 ⟨rfl, hb5⟩; (first | (have HZ5 := blk7 (blk_below HZA.out hb5); obtain ⟨y0, y1, y2, y3, y4, y5, y6, yf⟩ := HZ5) | (have HZ5 := blk7 (blk_below (blk_alloc HZA.out _) hb5); obtain ⟨y0, y1, y2, y3, y4, y5, y6, yf⟩ := HZ5) | (have HZ5 := blk7 (blk_below (blk_new w4 (.cells #[.int .i64 0, .int .i64 0, .int .i64 0, .int .i64 0, .int .i64 0, .int .i64 0, .int .i64 0] 56)) hb5); obtain ⟨y0, y1, y2, y3, y4, y5, y6, yf⟩ := HZ5) | (have HZ5 := blk7 (blk_below (blk_alloc (blk_new w4 (.cells #[.int .i64 0, .int .i64 0, .int .i64 0, .int .i64 0, .int .i64 0, .int .i64 0, .int .i64 0] 56)) _) hb5); obtain ⟨y0, y1, y2, y3, y4, y5, y6, yf⟩ := HZ5) | (have HZ5 := blk7 (blk_below (blk_new_at (w := w4.alloc (.cells #[.int .i64 1, .int .i64 0, .int .i64 1, .int .i64 0, .int .i64 7, .bool true, .bool false, .int .i64 0, .int .i64 (-1)] 63)) (o := (.cells #[.int .i64 0, .int .i64 0, .int .i64 0, .int .i64 0, .int .i64 0, .int .i64 0, .int .i64 0] 56)) (g := w4.heap.size + 1) (by simp)) hb5); obtain ⟨y0, y1, y2, y3, y4, y5, y6, yf⟩ := HZ5) | skip); have HQ5 := Aside0.mk (show Below D.heap.size D w5 from by (refine below_trans2 ?_ hb5; (repeat (first | exact HQ4.out | exact Below.refl _ _ | refine below_alloc ?_ _ | refine below_drew ?_)))); obtain ⟨ee0, ee1, ee2, ee3, ee4⟩ := blk5 (blk_below HKC2.out HQ5.out); have hn5 := World.new_ne w5 _ ee0; simp only at hn5; have hm5 : ¬ (w5.heap.size = w.heap.size) := (by have := HQ5.out.size; omega); replace hb5 := Aside0.mk hb5))
    all_goals
      go_wp2
      go_meet
      have hs4 := HQ4.out.size
      have hs5 := HQ5.out.size
      refine ⟨_, rfl, rfl, ⟨?_⟩, ⟨?_⟩⟩
      · repeat (first | with_reducible exact HQ5.out | with_reducible refine below_alloc ?_ _ | (with_reducible refine Below.setCell ?_ ?_ _; rotate_left; · (dsimp only; omega)))
      · first
        | (with_reducible exact set7_cells y0 y1 y2 y3 y4 y5 y6)
        | (with_reducible exact new7_cells w5)
  case rest =>
    obtain ⟨Y, rfl, rfl, HBY, HY⟩ := hcut
    have HB3 := Aside0.mk (below_trans2 HB2.out HBY.out)
    have HKF3 := Aside0.mk (blk_below HKF2.out HBY.out)
    have HKC3 := Aside0.mk (blk_below HKC2.out HBY.out)
    have HKX3 := Aside0.mk (blk_below HKX2.out HBY.out)
    have HC3 := Aside0.mk (Kd.C_below HC2.out HBY.out)
    clear HB2 HKF2 HKC2 HKX2 HC2 HBY cc0 cc1 cc2 cc3 cc4 hnw hlw hnw1 hnw2
    obtain ⟨cc0, cc1, cc2, cc3, cc4⟩ := blk5 HKC3.out
    go_wp2_with (fail)
    refine (node_Hear _ none _ 0 [awF] 0 9 [] 1 0 1 0 7 1 _ (HCF.out HKF3.out) (C_none _ _) ⟨by simp, by simp⟩).mono ?_
    rw [aw_hear1]
    rintro e w6 ⟨v6, rfl, hR6, hb6⟩
    obtain ⟨A6, c6, rfl⟩ := Kd.R_slice hR6
    have HC6 := Aside0.mk (Kd.R_reads' hR6).2.2
    have HB6 := Aside0.mk (below_trans2 HB3.out hb6)
    have HKF6 := Aside0.mk (blk_below HKF3.out hb6)
    have HKC6 := Aside0.mk (blk_below HKC3.out hb6)
    have HKX6 := Aside0.mk (blk_below HKX3.out hb6)
    have HC6l := Aside0.mk (Kd.C_below HC3.out hb6)
    have HB6y := Aside0.mk hb6
    clear hb6 hR6 HB3 HKF3 HKC3 HKX3 HC3 cc0 cc1 cc2 cc3 cc4
    obtain ⟨cc0, cc1, cc2, cc3, cc4⟩ := blk5 HKC6.out
    go_wp2_with (fail)
    refine (node_Hear _ _ _ _ [awF] 0 10 [⟨7, 1, []⟩] 1 0 1 0 7 1 _ (HCF.out HKF6.out) HC6.out ⟨by simp, by simp⟩).mono ?_
    rw [aw_hear2]
    rintro e w7 ⟨v7, rfl, hR7, hb7⟩
    obtain ⟨A7, c7, rfl⟩ := Kd.R_slice hR7
    have HB7 := Aside0.mk (below_trans2 HB6.out hb7)
    have HKF7 := Aside0.mk (blk_below HKF6.out hb7)
    have HKC7 := Aside0.mk (blk_below HKC6.out hb7)
    have HKX7 := Aside0.mk (blk_below HKX6.out hb7)
    have HC7l := Aside0.mk (Kd.C_below HC6l.out hb7)
    have HC7h := Aside0.mk (Kd.C_below HC6.out hb7)
    have HB7y := Aside0.mk (below_trans2 HB6y.out hb7)
    clear hb7 hR7 HB6 HKF6 HKC6 HKX6 HC6 HC6l HB6y cc0 cc1 cc2 cc3 cc4
    go_wp2_with (fail)
    refine (node_Begin _ _ _ _ [awF] 0 16 [⟨7, 1, []⟩] _ (HCF.out HKF7.out) HC7h.out ⟨by simp, by simp⟩ (by simp)).mono ?_
    rw [aw_begin2]
    rintro e w8 ⟨v8, rfl, hR8, hb8⟩
    obtain ⟨A8, c8, rfl⟩ := Kd.R_slice hR8
    have HB8 := Aside0.mk (below_trans2 HB7.out hb8)
    obtain ⟨cc0, cc1, cc2, cc3, cc4⟩ := blk5 (blk_below HKC7.out hb8)
    obtain ⟨x0, x1, x2, x3, x4, x5, x6, xf⟩ := blk7 (blk_below HKX7.out hb8)
    obtain ⟨ad, A9, c9, rfl, hl0, hl1, hl2, hll, hlC⟩ := THolding_nat (Kd.C_below HC7l.out hb8) 0 (by decide)
    have hbyy := below_trans2 HB7y.out hb8
    obtain ⟨y0, y1, y2, y3, y4, y5, y6⟩ := HY.out
    have z0 := lat_cell y0 ⟨w8, hbyy⟩
    have z1 := lat_cell y1 ⟨w8, hbyy⟩
    have z2 := lat_cell y2 ⟨w8, hbyy⟩
    have z3 := lat_cell y3 ⟨w8, hbyy⟩
    have z4 := lat_cell y4 ⟨w8, hbyy⟩
    have z5 := lat_cell y5 ⟨w8, hbyy⟩
    have z6 := lat_cell y6 ⟨w8, hbyy⟩
    simp only at z0 z1 z2 z3 z4 z5 z6
    clear hb8 hR8 HB7 HKF7 HKC7 HKX7 HC7l HC7h HB7y hbyy y0 y1 y2 y3 y4 y5 y6 hll hlC HY
    rw [show ad.add (0 * 3) = ad by simp [go_sem]] at hl0 hl1 hl2
    replace hl1 : w8.cell? ⟨ad.block, ad.off + 1, none⟩ = some (.int .i64 1) := hl1
    go_wp2
    go_ret
    exact ⟨rfl, HB8.out⟩
end Go.Proofs.Ytjgkalppjfmkoaa
