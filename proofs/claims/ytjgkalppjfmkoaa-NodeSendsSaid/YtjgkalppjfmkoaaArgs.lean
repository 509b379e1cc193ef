/- The arguments of the laws, opened: what a value of each type holds. Written by a program of the session. -/
import Derived.Test.YtjgkalppjfmkoaaKinds
import Derived.Test.YtjgkalppjfmkoaaOpens
namespace Go.Proofs.Ytjgkalppjfmkoaa
open Go.RowKit Go.Proofs.YtjgkalppjfmkoaaW.PrintWords
set_option linter.unusedVariables false
def good3 (x : Int) : Prop := (Lit.int .i64 x).wf = true
theorem op3 : Opens Try.prog 3 (Kd.int .i64) good3 := by
  have h := opens_int Try.underlying3
  exact h
def good33 (x : SFlow) : Prop := good3 x.f0 ∧ good3 x.f1 ∧ good3 x.f2 ∧ good3 x.f3 ∧ good3 x.f4 ∧ good3 x.f5
theorem op33 : Opens Try.prog 33 kFlow good33 := by
  have h := opens_struct (f := fun x : SFlow => (x.f0, x.f1, x.f2, x.f3, x.f4, x.f5)) Try.underlying33 (by kernel_rfl) (opens_more op3 rfl (by kernel_rfl) (by intro g hg; revert g hg; decide) (opens_more op3 rfl (by kernel_rfl) (by intro g hg; revert g hg; decide) (opens_more op3 rfl (by kernel_rfl) (by intro g hg; revert g hg; decide) (opens_more op3 rfl (by kernel_rfl) (by intro g hg; revert g hg; decide) (opens_more op3 rfl (by kernel_rfl) (by intro g hg; revert g hg; decide) (opens_one op3 rfl (by kernel_rfl))))))) (fun p => (⟨p.1, p.2.1, p.2.2.1, p.2.2.2.1, p.2.2.2.2.1, p.2.2.2.2.2⟩ : SFlow)) (fun _ => rfl)
  exact h
def good22 (x : (List SFlow)) : Prop := x.length * 48 ≤ reachBytes ∧ ∀ y ∈ x, good33 y
theorem op22 : Opens Try.prog 22 (Kd.slice 33 kFlow) good22 := by
  have h := opens_slice (B := 48) Try.underlying22 (by kernel_rfl) (by kernel_rfl) op33
  exact h
def good25 (x : SCell) : Prop := good3 x.f0 ∧ good3 x.f1 ∧ good3 x.f2 ∧ good3 x.f3 ∧ good3 x.f4
theorem op25 : Opens Try.prog 25 kCell good25 := by
  have h := opens_struct (f := fun x : SCell => (x.f0, x.f1, x.f2, x.f3, x.f4)) Try.underlying25 (by kernel_rfl) (opens_more op3 rfl (by kernel_rfl) (by intro g hg; revert g hg; decide) (opens_more op3 rfl (by kernel_rfl) (by intro g hg; revert g hg; decide) (opens_more op3 rfl (by kernel_rfl) (by intro g hg; revert g hg; decide) (opens_more op3 rfl (by kernel_rfl) (by intro g hg; revert g hg; decide) (opens_one op3 rfl (by kernel_rfl)))))) (fun p => (⟨p.1, p.2.1, p.2.2.1, p.2.2.2.1, p.2.2.2.2⟩ : SCell)) (fun _ => rfl)
  exact h
def good4 (x : Bool) : Prop := True
theorem op4 : Opens Try.prog 4 Kd.bool good4 := by
  have h := opens_bool Try.underlying4
  exact h
def good63 (x : SDuty) : Prop := good25 x.f0 ∧ good4 x.f1 ∧ good4 x.f2 ∧ good3 x.f3 ∧ good3 x.f4
theorem op63 : Opens Try.prog 63 kDuty good63 := by
  have h := opens_struct (f := fun x : SDuty => (x.f0, x.f1, x.f2, x.f3, x.f4)) Try.underlying63 (by kernel_rfl) (opens_more op25 rfl (by kernel_rfl) (by intro g hg; revert g hg; decide) (opens_more op4 rfl (by kernel_rfl) (by intro g hg; revert g hg; decide) (opens_more op4 rfl (by kernel_rfl) (by intro g hg; revert g hg; decide) (opens_more op3 rfl (by kernel_rfl) (by intro g hg; revert g hg; decide) (opens_one op3 rfl (by kernel_rfl)))))) (fun p => (⟨p.1, p.2.1, p.2.2.1, p.2.2.2.1, p.2.2.2.2⟩ : SDuty)) (fun _ => rfl)
  exact h
def good54 (x : (List SDuty)) : Prop := x.length * 64 ≤ reachBytes ∧ ∀ y ∈ x, good63 y
theorem op54 : Opens Try.prog 54 (Kd.slice 63 kDuty) good54 := by
  have h := opens_slice (B := 64) Try.underlying54 (by kernel_rfl) (by kernel_rfl) op63
  exact h
def good43 (x : (List Int)) : Prop := x.length * 8 ≤ reachBytes ∧ ∀ y ∈ x, good3 y
theorem op43 : Opens Try.prog 43 (Kd.slice 3 (Kd.int .i64)) good43 := by
  have h := opens_slice (B := 8) Try.underlying43 (by kernel_rfl) (by kernel_rfl) op3
  exact h
def good45 (x : SHolding) : Prop := good3 x.f0 ∧ good3 x.f1 ∧ good43 x.f2
theorem op45 : Opens Try.prog 45 kHolding good45 := by
  have h := opens_struct (f := fun x : SHolding => (x.f0, x.f1, x.f2)) Try.underlying45 (by kernel_rfl) (opens_more op3 rfl (by kernel_rfl) (by intro g hg; revert g hg; decide) (opens_more op3 rfl (by kernel_rfl) (by intro g hg; revert g hg; decide) (opens_one op43 rfl (by kernel_rfl)))) (fun p => (⟨p.1, p.2.1, p.2.2⟩ : SHolding)) (fun _ => rfl)
  exact h
def good23 (x : (List SHolding)) : Prop := x.length * 40 ≤ reachBytes ∧ ∀ y ∈ x, good45 y
theorem op23 : Opens Try.prog 23 (Kd.slice 45 kHolding) good23 := by
  have h := opens_slice (B := 40) Try.underlying23 (by kernel_rfl) (by kernel_rfl) op45
  exact h
end Go.Proofs.Ytjgkalppjfmkoaa
