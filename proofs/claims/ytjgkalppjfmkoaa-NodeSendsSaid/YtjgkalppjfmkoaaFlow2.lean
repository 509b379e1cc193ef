/- Package flow: alone, Current, Find, Check. -/
import Derived.Test.YtjgkalppjfmkoaaFlow1
namespace Go.Proofs.Ytjgkalppjfmkoaa
open Go.RowKit Go.Proofs.YtjgkalppjfmkoaaW.PrintWords
set_option linter.unusedVariables false
set_option linter.unusedSimpArgs false

theorem flow_alone (f0 f1 f2 f3 f4 f5 : Int) (w : World) :
    Calls Try.prog 44 #[.agg #[.int .i64 f0, .int .i64 f1, .int .i64 f2, .int .i64 f3, .int .i64 f4, .int .i64 f5]] w fun e w' => e = .returned (.int .i64 (fchk 32 ⟨f0, f1, f2, f3, f4, f5⟩)) ∧ Below w.heap.size w w' := by
  go_enter Try.func44, Try.ntmps44
  go_wp2_with (go_at_call 66; refine (flow_check _ _ _ _ _ _ _ _).mono ?_; rintro e w' ⟨rfl, hb⟩)
  go_ret
  exact ⟨rfl, ((Below.refl _ _).alloc (Nat.le_refl _) _).trans (hb.mono (by simp))⟩

/-- flow.Current's answer. -/
def fcur (f : SFlow) (slot : Int) : Int × Bool := if fchk 32 f ≠ 0 ∨ slot < f.f4 ∨ 1099511627776 < slot then (0, false) else ((slot - f.f4) / f.f3, true)
theorem fchk_ok {nodes : Int} {f : SFlow} (h : fchk nodes f = 0) : 0 ≤ f.f0 ∧ f.f0 ≤ 255 ∧ 0 ≤ f.f1 ∧ f.f1 < nodes ∧ 0 ≤ f.f2 ∧ f.f2 < nodes ∧ 1 ≤ f.f3 ∧ f.f3 ≤ 512 ∧ 0 ≤ f.f4 ∧ f.f4 < f.f3 ∧ 1 ≤ f.f5 ∧ f.f5 ≤ f.f3 ∧ f.f1 ≠ f.f2 := by
  unfold fchk at h
  split at h
  · omega
  · split at h
    · omega
    · split at h <;> omega

theorem ret_pair {k : IntKind} {a b : Int} {c d : Bool} (h : (a, c) = (b, d)) : Ending.returned (.tuple #[.int k a, .bool c]) = .returned (.tuple #[.int k b, .bool d]) := by cases h; rfl
theorem ret_ints {a b c d : Int} (h : (a, c) = (b, d)) : Ending.returned (.tuple #[.int .i64 a, .int .i64 c]) = .returned (.tuple #[.int .i64 b, .int .i64 d]) := by cases h; rfl

set_option maxHeartbeats 1000000 in
theorem flow_Current (f0 f1 f2 f3 f4 f5 slot : Int) (w : World) :
    Calls Try.prog 16 #[.agg #[.int .i64 f0, .int .i64 f1, .int .i64 f2, .int .i64 f3, .int .i64 f4, .int .i64 f5], .int .i64 slot] w fun e w' =>
      e = .returned (.tuple #[.int .i64 (fcur ⟨f0, f1, f2, f3, f4, f5⟩ slot).1, .bool (fcur ⟨f0, f1, f2, f3, f4, f5⟩ slot).2]) ∧ Below w.heap.size w w' := by
  obtain ⟨c, hc⟩ : ∃ c, c = fchk 32 ⟨f0, f1, f2, f3, f4, f5⟩ := ⟨_, rfl⟩
  have hbox : Below w.heap.size w (w.alloc (.cells #[.int .i64 f0, .int .i64 f1, .int .i64 f2, .int .i64 f3, .int .i64 f4, .int .i64 f5] 33)) := (Below.refl _ _).alloc (Nat.le_refl _) _
  have hcon := fun W => flow_alone f0 f1 f2 f3 f4 f5 W
  rw [← hc] at hcon
  have hB := Aside0.mk hbox
  have HC := Aside0.mk hc
  have HCON := Aside0.mk hcon
  clear hbox hc hcon
  by_cases h0 : c = 0
  · obtain ⟨_, _, _, _, _, _, h1, h2, h3, h4, _⟩ := fchk_ok (HC.out.symm.trans h0)
    simp only at h1 h2 h3 h4
    subst h0
    by_cases h5 : slot < f4
    · go_enter Try.func16, Try.ntmps16
      go_wp2_with (go_at_call 44; refine (HCON.out _).mono ?_; rintro e w' ⟨rfl, hb⟩; have hcell : w'.cell? ⟨w.heap.size, 4, none⟩ = some (.int .i64 f4) := (hb.cell (p := ⟨w.heap.size, 4, none⟩) (by simp)).trans (by simp))
      go_ret2
      exact ⟨ret_pair (by unfold fcur; rw [if_pos (by simp; omega)]), hB.out.trans (hb.mono (by simp))⟩
    · by_cases h6 : 1099511627776 < slot
      · go_enter Try.func16, Try.ntmps16
        go_wp2_with (go_at_call 44; refine (HCON.out _).mono ?_; rintro e w' ⟨rfl, hb⟩; have hcell : w'.cell? ⟨w.heap.size, 4, none⟩ = some (.int .i64 f4) := (hb.cell (p := ⟨w.heap.size, 4, none⟩) (by simp)).trans (by simp))
        go_ret2
        exact ⟨ret_pair (by unfold fcur; rw [if_pos (by simp; omega)]), hB.out.trans (hb.mono (by simp))⟩
      · have h7 : ¬ (f3 = 0) := by omega
        go_enter Try.func16, Try.ntmps16
        go_wp2_with (go_at_call 44; refine (HCON.out _).mono ?_; rintro e w' ⟨rfl, hb⟩; have hcell : w'.cell? ⟨w.heap.size, 4, none⟩ = some (.int .i64 f4) := (hb.cell (p := ⟨w.heap.size, 4, none⟩) (by simp)).trans (by simp); have hcell3 : w'.cell? ⟨w.heap.size, 3, none⟩ = some (.int .i64 f3) := (hb.cell (p := ⟨w.heap.size, 3, none⟩) (by simp)).trans (by simp))
        go_ret2
        exact ⟨ret_pair (by unfold fcur; rw [if_neg (by rw [← HC.out]; simp; omega)]), hB.out.trans (hb.mono (by simp))⟩
  · have h0' : (c != 0) = true := by simpa using h0
    go_enter Try.func16, Try.ntmps16
    go_wp2_with (go_at_call 44; refine (HCON.out _).mono ?_; rintro e w' ⟨rfl, hb⟩; have hcell : w'.cell? ⟨w.heap.size, 4, none⟩ = some (.int .i64 f4) := (hb.cell (p := ⟨w.heap.size, 4, none⟩) (by simp)).trans (by simp))
    go_ret2
    exact ⟨ret_pair (by unfold fcur; rw [if_pos (by rw [← HC.out]; simp [h0])]), hB.out.trans (hb.mono (by simp))⟩
end Go.Proofs.Ytjgkalppjfmkoaa
