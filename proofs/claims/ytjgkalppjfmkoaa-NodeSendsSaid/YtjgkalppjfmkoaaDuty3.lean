/- slices.SortStableFunc at one duty or none; the predicates of node.Choose. -/
import Derived.Test.YtjgkalppjfmkoaaDuty2
import Derived.Test.YtjgkalppjfmkoaaSent1
namespace Go.Proofs.Ytjgkalppjfmkoaa
open Go.RowKit Go.Shelf Go.Proofs.YtjgkalppjfmkoaaW.PrintWords
set_option linter.unusedVariables false
set_option linter.unusedSimpArgs false

theorem insertion_one (A : Option Addr) (n c : Nat) (f : Value) (w : World) (hn : n ≤ 1) :
    Calls Try.prog 75 #[.slice A n c, .int .i64 0, .int .i64 n, f] w fun e w' => e = .returned (.tuple #[]) ∧ w' = w := by
  have h : ¬ ((1 : Int) < (n : Int)) := by omega
  go_enter Try.func75, Try.ntmps75
  go_wp2
  go_loopg [8] 0 (fun gg v8 wr => wr = w ∧ v8 = .int .i64 1)
  case atStart => exact ⟨rfl, rfl⟩
  case round =>
    obtain ⟨rfl, rfl⟩ := hrel
    go_wp2
    go_end0
    exact ⟨rfl, rfl⟩

theorem stable_one (A : Option Addr) (n c : Nat) (f : Value) (w : World) (hn : n ≤ 1) :
    Calls Try.prog 67 #[.slice A n c, .int .i64 n, f] w fun e w' => e = .returned (.tuple #[]) ∧ w' = w := by
  have h : ¬ ((20 : Int) ≤ (n : Int)) := by omega
  have h2 : ¬ ((20 : Int) < (n : Int)) := by omega
  have HN := Aside0.mk hn
  go_enter Try.func67, Try.ntmps67
  go_wp2
  go_loopg [7, 8] 0 (fun gg v7 v8 wr => wr = w ∧ v7 = .int .i64 0 ∧ v8 = .int .i64 20)
  case atStart => exact ⟨rfl, rfl, rfl⟩
  case round =>
    obtain ⟨rfl, rfl, rfl⟩ := hrel
    go_wp2_with (fail)
    refine (insertion_one _ _ _ _ _ HN.out).mono ?_
    rintro e w' ⟨rfl, rfl⟩
    go_wp2
    go_loopg [6] 0 (fun gg v6 wr => wr = w' ∧ v6 = .int .i64 20)
    case atStart => exact ⟨rfl, rfl⟩
    case round =>
      obtain ⟨rfl, rfl⟩ := hrel
      go_wp2
      go_end0
      exact ⟨rfl, rfl⟩

theorem sort_one : SortC 1 (fun xs => xs) := by
  intro W v xs B bT hl hR hc hlt hne
  obtain ⟨A, c, rfl⟩ := Kd.R_slice hR
  have HR := Aside0.mk hR
  have HL := Aside0.mk hl
  clear hR hc hlt hne
  go_enter Try.func50, Try.ntmps50
  go_wp2_with (fail)
  refine (stable_one _ _ _ _ _ HL.out).mono ?_
  rintro e w' ⟨rfl, rfl⟩
  go_wp2
  go_end0
  exact ⟨rfl, HR.out, ⟨rfl, rfl, rfl, Nat.le_refl _, fun _ _ _ => rfl⟩⟩
end Go.Proofs.Ytjgkalppjfmkoaa
