/- The reference's side: flows. -/
import Derived.Test.YtjgkalppjfmkoaaCp
namespace Go.Proofs.Ytjgkalppjfmkoaa
open Go.RowKit Go.Shelf Go.Proofs.YtjgkalppjfmkoaaW.PrintWords
set_option linter.unusedVariables false
set_option linter.unusedSimpArgs false

theorem ref_in (n lo hi : Int) (w : World) : Calls Try.prog 65 #[.int .i64 n, .int .i64 lo, .int .i64 hi] w fun e w' => e = .returned (.bool (decide (lo ≤ n ∧ n ≤ hi))) ∧ w = w' := by
  obtain ⟨b, hb⟩ : ∃ b, b = decide (lo ≤ n ∧ n ≤ hi) := ⟨_, rfl⟩
  rw [← hb]
  have key : (decide (lo ≤ n) = false ∧ b = false) ∨ (decide (lo ≤ n) = true ∧ decide (n ≤ hi) = b) := by
    rw [hb]
    by_cases h : lo ≤ n
    · exact Or.inr ⟨decide_eq_true h, by simp [h]⟩
    · exact Or.inl ⟨decide_eq_false h, by simp [h]⟩
  clear hb
  rcases key with ⟨g1, rfl⟩ | ⟨g1, g2⟩
  · go_enter Try.func65, Try.ntmps65
    go_wp2
    go_ret
    exact ⟨rfl, rfl⟩
  · cases b
    all_goals
      go_enter Try.func65, Try.ntmps65
      go_wp2
      go_ret
      exact ⟨rfl, rfl⟩

set_option maxHeartbeats 2000000 in
theorem ref_Fault (nodes f0 f1 f2 f3 f4 f5 : Int) (hn2 : 2 ≤ nodes) (hn32 : nodes ≤ 32) (w : World) :
    Calls Try.prog 64 #[.int .i64 nodes, .agg #[.int .i64 f0, .int .i64 f1, .int .i64 f2, .int .i64 f3, .int .i64 f4, .int .i64 f5]] w fun e w' => e = .returned (.int .i64 (fchk nodes ⟨f0, f1, f2, f3, f4, f5⟩)) ∧ Below w.heap.size w w' := by
  obtain ⟨r, hr⟩ : ∃ r, fchk nodes ⟨f0, f1, f2, f3, f4, f5⟩ = r := ⟨_, rfl⟩
  rw [hr]
  unfold fchk at hr
  simp only at hr
  have hw1 : IntKind.i64.wrap (nodes - 1) = nodes - 1 := IntWalk.i64_in _ (by omega)
  have HB := Aside0.mk (show Below w.heap.size w (w.alloc (.cells #[.int .i64 f0, .int .i64 f1, .int .i64 f2, .int .i64 f3, .int .i64 f4, .int .i64 f5] 33)) from (Below.refl _ _).alloc (Nat.le_refl _) _)
  have key : (¬ (0 ≤ f0 ∧ f0 ≤ 255)) ∨ ((0 ≤ f0 ∧ f0 ≤ 255) ∧ ¬ (0 ≤ f1 ∧ f1 ≤ nodes - 1)) ∨ ((0 ≤ f0 ∧ f0 ≤ 255) ∧ (0 ≤ f1 ∧ f1 ≤ nodes - 1) ∧ ¬ (0 ≤ f2 ∧ f2 ≤ nodes - 1)) ∨ ((0 ≤ f0 ∧ f0 ≤ 255) ∧ (0 ≤ f1 ∧ f1 ≤ nodes - 1) ∧ (0 ≤ f2 ∧ f2 ≤ nodes - 1) ∧ ¬ (1 ≤ f3 ∧ f3 ≤ 512)) ∨
      ((0 ≤ f0 ∧ f0 ≤ 255) ∧ (0 ≤ f1 ∧ f1 ≤ nodes - 1) ∧ (0 ≤ f2 ∧ f2 ≤ nodes - 1) ∧ (1 ≤ f3 ∧ f3 ≤ 512) ∧ ¬ (0 ≤ f4 ∧ f4 ≤ f3 - 1)) ∨ ((0 ≤ f0 ∧ f0 ≤ 255) ∧ (0 ≤ f1 ∧ f1 ≤ nodes - 1) ∧ (0 ≤ f2 ∧ f2 ≤ nodes - 1) ∧ (1 ≤ f3 ∧ f3 ≤ 512) ∧ (0 ≤ f4 ∧ f4 ≤ f3 - 1) ∧ ¬ (1 ≤ f5 ∧ f5 ≤ f3)) ∨
      ((0 ≤ f0 ∧ f0 ≤ 255) ∧ (0 ≤ f1 ∧ f1 ≤ nodes - 1) ∧ (0 ≤ f2 ∧ f2 ≤ nodes - 1) ∧ (1 ≤ f3 ∧ f3 ≤ 512) ∧ (0 ≤ f4 ∧ f4 ≤ f3 - 1) ∧ (1 ≤ f5 ∧ f5 ≤ f3)) := by
    by_cases h1 : (0 ≤ f0 ∧ f0 ≤ 255) <;> by_cases h2 : (0 ≤ f1 ∧ f1 ≤ nodes - 1) <;> by_cases h3 : (0 ≤ f2 ∧ f2 ≤ nodes - 1) <;> by_cases h4 : (1 ≤ f3 ∧ f3 ≤ 512) <;> by_cases h5 : (0 ≤ f4 ∧ f4 ≤ f3 - 1) <;> by_cases h6 : (1 ≤ f5 ∧ f5 ≤ f3) <;> simp [h1, h2, h3, h4, h5, h6]
  rcases key with k1 | ⟨k1, k2⟩ | ⟨k1, k2, k3⟩ | ⟨k1, k2, k3, k4⟩ | ⟨k1, k2, k3, k4, k5⟩ | ⟨k1, k2, k3, k4, k5, k6⟩ | ⟨k1, k2, k3, k4, k5, k6⟩
  rotate_right 1
  · have hw2 : IntKind.i64.wrap (f3 - 1) = f3 - 1 := IntWalk.i64_in _ (by omega)
    rw [if_neg (by omega), if_neg (by omega)] at hr
    have g1 := Aside0.mk (decide_eq_true k1)
    have g2 := Aside0.mk (decide_eq_true k2)
    have g3 := Aside0.mk (decide_eq_true k3)
    have g4 := Aside0.mk (decide_eq_true k4)
    have g5 := Aside0.mk (decide_eq_true k5)
    have g6 := Aside0.mk (decide_eq_true k6)
    clear k1 k2 k3 k4 k5 k6
    by_cases h12 : f1 = f2
    · have h12' : (f1 == f2) = true := by simpa using h12
      rw [if_pos h12] at hr
      have HX := Aside0.mk hr
      clear hr h12
      go_enter Try.func64, Try.ntmps64
      go_wp2_with (go_at_call 65; refine (ref_in _ _ _ _).mono ?_; rintro e w' ⟨rfl, rfl⟩; first | rw [g1.out] | rw [g2.out] | rw [g3.out] | rw [g4.out] | rw [g5.out] | rw [g6.out])
      go_ret
      exact ⟨ret_int HX.out, HB.out⟩
    · have h12' : (f1 == f2) = false := by simpa using h12
      rw [if_neg h12] at hr
      have HX := Aside0.mk hr
      clear hr h12
      go_enter Try.func64, Try.ntmps64
      go_wp2_with (go_at_call 65; refine (ref_in _ _ _ _).mono ?_; rintro e w' ⟨rfl, rfl⟩; first | rw [g1.out] | rw [g2.out] | rw [g3.out] | rw [g4.out] | rw [g5.out] | rw [g6.out])
      go_ret
      exact ⟨ret_int HX.out, HB.out⟩
  · rw [if_pos (by omega)] at hr
    have g1 := Aside0.mk (decide_eq_false k1)
    have HX := Aside0.mk hr
    clear hr k1
    go_enter Try.func64, Try.ntmps64
    go_wp2_with (go_at_call 65; refine (ref_in _ _ _ _).mono ?_; rintro e w' ⟨rfl, rfl⟩; first | rw [g1.out])
    go_ret
    exact ⟨ret_int HX.out, HB.out⟩
  · rw [if_pos (by omega)] at hr
    have g1 := Aside0.mk (decide_eq_true k1)
    have g2 := Aside0.mk (decide_eq_false k2)
    have HX := Aside0.mk hr
    clear hr k1 k2
    go_enter Try.func64, Try.ntmps64
    go_wp2_with (go_at_call 65; refine (ref_in _ _ _ _).mono ?_; rintro e w' ⟨rfl, rfl⟩; first | rw [g1.out] | rw [g2.out])
    go_ret
    exact ⟨ret_int HX.out, HB.out⟩
  · rw [if_pos (by omega)] at hr
    have g1 := Aside0.mk (decide_eq_true k1)
    have g2 := Aside0.mk (decide_eq_true k2)
    have g3 := Aside0.mk (decide_eq_false k3)
    have HX := Aside0.mk hr
    clear hr k1 k2 k3
    go_enter Try.func64, Try.ntmps64
    go_wp2_with (go_at_call 65; refine (ref_in _ _ _ _).mono ?_; rintro e w' ⟨rfl, rfl⟩; first | rw [g1.out] | rw [g2.out] | rw [g3.out])
    go_ret
    exact ⟨ret_int HX.out, HB.out⟩
  · rw [if_neg (by omega), if_pos (by omega)] at hr
    have g1 := Aside0.mk (decide_eq_true k1)
    have g2 := Aside0.mk (decide_eq_true k2)
    have g3 := Aside0.mk (decide_eq_true k3)
    have g4 := Aside0.mk (decide_eq_false k4)
    have HX := Aside0.mk hr
    clear hr k1 k2 k3 k4
    go_enter Try.func64, Try.ntmps64
    go_wp2_with (go_at_call 65; refine (ref_in _ _ _ _).mono ?_; rintro e w' ⟨rfl, rfl⟩; first | rw [g1.out] | rw [g2.out] | rw [g3.out] | rw [g4.out])
    go_ret
    exact ⟨ret_int HX.out, HB.out⟩
  · have hw2 : IntKind.i64.wrap (f3 - 1) = f3 - 1 := IntWalk.i64_in _ (by omega)
    rw [if_neg (by omega), if_pos (by omega)] at hr
    have g1 := Aside0.mk (decide_eq_true k1)
    have g2 := Aside0.mk (decide_eq_true k2)
    have g3 := Aside0.mk (decide_eq_true k3)
    have g4 := Aside0.mk (decide_eq_true k4)
    have g5 := Aside0.mk (decide_eq_false k5)
    have HX := Aside0.mk hr
    clear hr k1 k2 k3 k4 k5
    go_enter Try.func64, Try.ntmps64
    go_wp2_with (go_at_call 65; refine (ref_in _ _ _ _).mono ?_; rintro e w' ⟨rfl, rfl⟩; first | rw [g1.out] | rw [g2.out] | rw [g3.out] | rw [g4.out] | rw [g5.out])
    go_ret
    exact ⟨ret_int HX.out, HB.out⟩
  · have hw2 : IntKind.i64.wrap (f3 - 1) = f3 - 1 := IntWalk.i64_in _ (by omega)
    rw [if_neg (by omega), if_pos (by omega)] at hr
    have g1 := Aside0.mk (decide_eq_true k1)
    have g2 := Aside0.mk (decide_eq_true k2)
    have g3 := Aside0.mk (decide_eq_true k3)
    have g4 := Aside0.mk (decide_eq_true k4)
    have g5 := Aside0.mk (decide_eq_true k5)
    have g6 := Aside0.mk (decide_eq_false k6)
    have HX := Aside0.mk hr
    clear hr k1 k2 k3 k4 k5 k6
    go_enter Try.func64, Try.ntmps64
    go_wp2_with (go_at_call 65; refine (ref_in _ _ _ _).mono ?_; rintro e w' ⟨rfl, rfl⟩; first | rw [g1.out] | rw [g2.out] | rw [g3.out] | rw [g4.out] | rw [g5.out] | rw [g6.out])
    go_ret
    exact ⟨ret_int HX.out, HB.out⟩

set_option maxHeartbeats 2000000 in
theorem ref_Current (f0 f1 f2 f3 f4 f5 slot : Int) (w : World) (hs : -9000000000000000000 ≤ slot ∧ slot ≤ 9000000000000000000) :
    Calls Try.prog 39 #[.agg #[.int .i64 f0, .int .i64 f1, .int .i64 f2, .int .i64 f3, .int .i64 f4, .int .i64 f5], .int .i64 slot] w fun e w' =>
      e = .returned (.tuple #[.int .i64 (fcur ⟨f0, f1, f2, f3, f4, f5⟩ slot).1, .bool (fcur ⟨f0, f1, f2, f3, f4, f5⟩ slot).2]) ∧ Below w.heap.size w w' := by
  obtain ⟨r, hr⟩ : ∃ r, fcur ⟨f0, f1, f2, f3, f4, f5⟩ slot = r := ⟨_, rfl⟩
  rw [hr]
  unfold fcur at hr
  simp only at hr
  have HB := Aside0.mk (show Below w.heap.size w (w.alloc (.cells #[.int .i64 f0, .int .i64 f1, .int .i64 f2, .int .i64 f3, .int .i64 f4, .int .i64 f5] 33)) from (Below.refl _ _).alloc (Nat.le_refl _) _)
  have HK := Aside0.mk (blk_new w (.cells #[.int .i64 f0, .int .i64 f1, .int .i64 f2, .int .i64 f3, .int .i64 f4, .int .i64 f5] 33))
  have hok : fchk 32 ⟨f0, f1, f2, f3, f4, f5⟩ = 0 → 0 ≤ f4 ∧ f4 < 512 ∧ 1 ≤ f3 ∧ f3 ≤ 512 := fun h => by have := fchk_ok h; simp only at this; omega
  generalize hq : fchk 32 ⟨f0, f1, f2, f3, f4, f5⟩ = q at *
  have HQ := Aside0.mk hq
  clear hq
  by_cases h0 : q = 0
  · subst h0
    obtain ⟨k1, k2, k3, k4⟩ := hok rfl
    clear hok
    by_cases hin : f4 ≤ slot ∧ slot ≤ 1099511627776
    · rw [if_neg (by omega)] at hr
      have g1 := Aside0.mk (decide_eq_true hin)
      have hw1 : IntKind.i64.wrap (slot - f4) = slot - f4 := IntWalk.i64_in _ (by omega)
      have hge : 0 ≤ slot - f4 := by omega
      have hd : wrap64 ((slot - f4).tdiv f3) = (slot - f4) / f3 := by
        rw [Int.tdiv_eq_ediv_of_nonneg hge]
        have h1 := Int.ediv_nonneg hge (show 0 ≤ f3 by omega)
        have h2 := Int.ediv_le_self f3 hge
        exact IntWalk.wrap64_in ((slot - f4) / f3) (by omega)
      have HX := Aside0.mk hr
      have HIN := Aside0.mk hin
      clear hr hin hs
      go_enter Try.func39, Try.ntmps39
      go_wp2_with (fail)
      refine (ref_Fault _ _ _ _ _ _ _ (by decide) (by decide) _).mono ?_
      rintro e w1 ⟨rfl, hb1⟩
      rw [HQ.out]
      have HB1 := Aside0.mk (below_trans2 HB.out hb1)
      obtain ⟨cc0, cc1, cc2, cc3, cc4, cc5⟩ := blk6 (blk_below HK.out hb1)
      clear hb1
      go_wp2_with (go_at_call 65; refine (ref_in _ _ _ _).mono ?_; rintro e w' ⟨rfl, rfl⟩; rw [g1.out])
      go_ret2
      exact ⟨ret_pair (by rw [← HX.out, ← hd]), HB1.out⟩
    · rw [if_pos (by omega)] at hr
      have g1 := Aside0.mk (decide_eq_false hin)
      have HX := Aside0.mk hr
      clear hr hin hs
      go_enter Try.func39, Try.ntmps39
      go_wp2_with (fail)
      refine (ref_Fault _ _ _ _ _ _ _ (by decide) (by decide) _).mono ?_
      rintro e w1 ⟨rfl, hb1⟩
      rw [HQ.out]
      have HB1 := Aside0.mk (below_trans2 HB.out hb1)
      obtain ⟨cc0, cc1, cc2, cc3, cc4, cc5⟩ := blk6 (blk_below HK.out hb1)
      clear hb1
      go_wp2_with (go_at_call 65; refine (ref_in _ _ _ _).mono ?_; rintro e w' ⟨rfl, rfl⟩; rw [g1.out])
      go_ret2
      exact ⟨ret_pair (by rw [← HX.out]), HB1.out⟩
  · rw [if_pos (Or.inl h0)] at hr
    have h0' : (q != 0) = true := by simpa using h0
    have HX := Aside0.mk hr
    clear hr h0 hok hs
    go_enter Try.func39, Try.ntmps39
    go_wp2_with (fail)
    refine (ref_Fault _ _ _ _ _ _ _ (by decide) (by decide) _).mono ?_
    rintro e w1 ⟨rfl, hb1⟩
    rw [HQ.out]
    have HB1 := Aside0.mk (below_trans2 HB.out hb1)
    obtain ⟨cc0, cc1, cc2, cc3, cc4, cc5⟩ := blk6 (blk_below HK.out hb1)
    clear hb1
    go_wp2
    go_ret2
    exact ⟨ret_pair (by rw [← HX.out]), HB1.out⟩
end Go.Proofs.Ytjgkalppjfmkoaa
