/- Package flow, function by function: what each returns, in plain Lean. -/
import Derived.Test.YtjgkalppjfmkoaaLat
import Derived.Deep.LoopGhost
import Derived.Deep.QuietTactic
import Derived.BigQuiet
import Derived.Lib.Hide
namespace Go.Proofs.Ytjgkalppjfmkoaa
open Go.RowKit Go.Proofs.YtjgkalppjfmkoaaW.PrintWords
set_option linter.unusedVariables false
set_option linter.unusedSimpArgs false

theorem ret_int {k : IntKind} {a b : Int} (h : a = b) : Ending.returned (.int k a) = .returned (.int k b) := by rw [h]
theorem ret_bool {a b : Bool} (h : a = b) : Ending.returned (.bool a) = .returned (.bool b) := by rw [h]

/-- flow.check's answer. -/
def fchk (nodes : Int) (f : SFlow) : Int :=
  if f.f0 < 0 ∨ 255 < f.f0 ∨ ¬ (0 ≤ f.f1 ∧ f.f1 < nodes) ∨ ¬ (0 ≤ f.f2 ∧ f.f2 < nodes) then 2
  else if f.f3 < 1 ∨ 512 < f.f3 ∨ f.f4 < 0 ∨ f.f3 ≤ f.f4 ∨ f.f5 < 1 ∨ f.f3 < f.f5 then 2
  else if f.f1 = f.f2 then 1 else 0
def vFlow (f : SFlow) : Value := .agg #[.int .i64 f.f0, .int .i64 f.f1, .int .i64 f.f2, .int .i64 f.f3, .int .i64 f.f4, .int .i64 f.f5]

theorem flow_check1 (n nodes : Int) (B : Nat) (w : World) (hc : w.cell? ⟨B, 0, none⟩ = some (.int .i64 nodes)) :
    Calls Try.prog 74 #[.int .i64 n, .pointer (some ⟨B, 0, none⟩)] w fun e w' => e = .returned (.bool (decide (0 ≤ n ∧ n < nodes))) ∧ w = w' := by
  by_cases h0 : 0 ≤ n
  · have h0' : decide (0 ≤ n) = true := decide_eq_true h0
    have hd : decide (0 ≤ n ∧ n < nodes) = decide (n < nodes) := by simp [h0]
    go_enter Try.func74, Try.ntmps74
    go_wp2
    go_ret
    exact ⟨by simp [h0], rfl⟩
  · have h0' : decide (0 ≤ n) = false := decide_eq_false h0
    go_enter Try.func74, Try.ntmps74
    go_wp2
    go_ret
    exact ⟨by simp [h0], rfl⟩

set_option maxHeartbeats 1000000 in
theorem flow_check (nodes : Int) (f0 f1 f2 f3 f4 f5 : Int) (w : World) :
    Calls Try.prog 66 #[.int .i64 nodes, .agg #[.int .i64 f0, .int .i64 f1, .int .i64 f2, .int .i64 f3, .int .i64 f4, .int .i64 f5]] w fun e w' => e = .returned (.int .i64 (fchk nodes ⟨f0, f1, f2, f3, f4, f5⟩)) ∧ Below w.heap.size w w' := by
  go_enter Try.func66, Try.ntmps66
  go_wp2_with (go_at_call 74; refine (flow_check1 _ nodes _ _ (by simp)).mono ?_; rintro e w' ⟨rfl, rfl⟩)
  all_goals
    go_ret
    refine ⟨ret_int ?_, ((Below.refl _ _).alloc (Nat.le_refl _) _).alloc (by simp) _⟩
    simp only [fchk]
    (repeat' split) <;> first | rfl | (exfalso; simp at *; omega)
end Go.Proofs.Ytjgkalppjfmkoaa
