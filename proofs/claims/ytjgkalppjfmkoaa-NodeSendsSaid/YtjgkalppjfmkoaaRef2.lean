/- The reference's side: looking for flows and holdings. -/
import Derived.Test.YtjgkalppjfmkoaaRef1
namespace Go.Proofs.Ytjgkalppjfmkoaa
open Go.RowKit Go.Shelf Go.Proofs.YtjgkalppjfmkoaaW.PrintWords
set_option linter.unusedVariables false
set_option linter.unusedSimpArgs false

set_option maxHeartbeats 1000000 in
theorem ref_Find (A : Option Addr) (c : Nat) (l : List SFlow) (id : Int) (w : World) (hr : Kd.C kFlow w A l.length l) :
    Calls Try.prog 37 #[.slice A l.length c, .int .i64 id] w fun e w' => e = .returned (.int .i64 (ix (fun f : SFlow => f.f0 == id) zFlow l)) ∧ w = w' := by
  obtain ⟨r, hrr⟩ : ∃ r, r = ix (fun f : SFlow => f.f0 == id) zFlow l := ⟨_, rfl⟩
  have hn := hr.2.1
  rw [← hrr]
  have H0 := Aside0.mk (show ixGo (fun f : SFlow => f.f0 == id) zFlow l (l.length - 0) 0 = r from hrr.symm)
  have HR := Aside0.mk hr
  clear hr hrr
  go_enter Try.func37, Try.ntmps37
  go_wp2
  go_loopg [5] l.length (fun gg v5 wr => ∃ k : Nat, k ≤ l.length ∧ l.length - k ≤ gg ∧ v5 = .int .i64 k ∧ wr = w ∧ Aside0 (ixGo (fun f : SFlow => f.f0 == id) zFlow l (l.length - k) k = r))
  case atStart => exact ⟨0, Nat.zero_le _, by omega, rfl, rfl, H0⟩
  case round =>
    obtain ⟨k, hk, hg, rfl, rfl, HX⟩ := hrel
    by_cases hlt : k < l.length
    · obtain ⟨ad, rfl, hx0, hx1, hx2, hx3, hx4, hx5⟩ := TFlow_nat HR.out k hlt
      have hs : l.length - k = (l.length - (k + 1)) + 1 := by omega
      have hx := HX.out
      rw [hs, ixGo] at hx
      clear HX hs
      generalize l.getD k zFlow = y at *
      obtain ⟨f0, f1, f2, f3, f4, f5⟩ := y
      simp only at hx0 hx
      have hlti : (k : Int) < (l.length : Int) := by omega
      by_cases hq : f0 = id
      · subst hq
        rw [if_pos (by simp)] at hx
        have HX := Aside0.mk hx
        clear hx
        go_wp2
        go_ret
        exact ⟨ret_int HX.out, rfl⟩
      · have hq' : (f0 == id) = false := by simpa using hq
        rw [if_neg (by simp [hq])] at hx
        have HX := Aside0.mk hx
        clear hx
        go_wp2
        go_roundg (l.length - (k + 1))
        case measure => omega
        case rel => exact ⟨k + 1, by omega, by omega, by go_num, rfl, HX⟩
    · obtain rfl : k = l.length := by omega
      have hlti : ¬ ((l.length : Int) < (l.length : Int)) := by omega
      have hx := HX.out
      rw [Nat.sub_self, ixGo] at hx
      have HX := Aside0.mk hx
      clear hx
      go_wp2
      go_ret
      exact ⟨ret_int HX.out, rfl⟩

set_option maxHeartbeats 1000000 in
theorem ref_find (A : Option Addr) (c : Nat) (l : List SHolding) (id : Int) (w : World) (hr : Kd.C kHolding w A l.length l) :
    Calls Try.prog 38 #[.slice A l.length c, .int .i64 id] w fun e w' => e = .returned (.int .i64 (ix (fun f : SHolding => f.f0 == id) zHolding l)) ∧ w = w' := by
  obtain ⟨r, hrr⟩ : ∃ r, r = ix (fun f : SHolding => f.f0 == id) zHolding l := ⟨_, rfl⟩
  have hn := hr.2.1
  rw [← hrr]
  have H0 := Aside0.mk (show ixGo (fun f : SHolding => f.f0 == id) zHolding l (l.length - 0) 0 = r from hrr.symm)
  have HR := Aside0.mk hr
  clear hr hrr
  go_enter Try.func38, Try.ntmps38
  go_wp2
  go_loopg [5] l.length (fun gg v5 wr => ∃ k : Nat, k ≤ l.length ∧ l.length - k ≤ gg ∧ v5 = .int .i64 k ∧ wr = w ∧ Aside0 (ixGo (fun f : SHolding => f.f0 == id) zHolding l (l.length - k) k = r))
  case atStart => exact ⟨0, Nat.zero_le _, by omega, rfl, rfl, H0⟩
  case round =>
    obtain ⟨k, hk, hg, rfl, rfl, HX⟩ := hrel
    by_cases hlt : k < l.length
    · obtain ⟨ad, A2, c2, rfl, hx0, hx1, hx2, hl2, hC2⟩ := THolding_nat HR.out k hlt
      have hs : l.length - k = (l.length - (k + 1)) + 1 := by omega
      have hx := HX.out
      rw [hs, ixGo] at hx
      clear HX hs
      generalize l.getD k zHolding = y at *
      obtain ⟨f0, f1, f2⟩ := y
      simp only at hx0 hx
      have hlti : (k : Int) < (l.length : Int) := by omega
      by_cases hq : f0 = id
      · subst hq
        rw [if_pos (by simp)] at hx
        have HX := Aside0.mk hx
        clear hx
        go_wp2
        go_ret
        exact ⟨ret_int HX.out, rfl⟩
      · have hq' : (f0 == id) = false := by simpa using hq
        rw [if_neg (by simp [hq])] at hx
        have HX := Aside0.mk hx
        clear hx
        go_wp2
        go_roundg (l.length - (k + 1))
        case measure => omega
        case rel => exact ⟨k + 1, by omega, by omega, by go_num, rfl, HX⟩
    · obtain rfl : k = l.length := by omega
      have hlti : ¬ ((l.length : Int) < (l.length : Int)) := by omega
      have hx := HX.out
      rw [Nat.sub_self, ixGo] at hx
      have HX := Aside0.mk hx
      clear hx
      go_wp2
      go_ret
      exact ⟨ret_int HX.out, rfl⟩

/-- hopmeshref53.Few's answer. -/
def fewGo (l : List SHolding) : Nat → Nat → Bool
  | 0, _ => true
  | d + 1, k => if 40 < (l.getD k zHolding).f2.length then false else fewGo l d (k + 1)
def few (n : Nat) (l : List SHolding) (m : Nat) : Bool := if 20 < n ∨ 20 < l.length ∨ 40 < m then false else fewGo l l.length 0

set_option maxHeartbeats 1000000 in
theorem ref_Few (A B D : Option Addr) (c d dc n m : Nat) (l : List SHolding) (w : World) (hr : Kd.C kHolding w B l.length l) :
    Calls Try.prog 8 #[.slice A n c, .slice B l.length d, .slice D m dc] w fun e w' => e = .returned (.bool (few n l m)) ∧ w = w' := by
  obtain ⟨r, hrr⟩ : ∃ r, few n l m = r := ⟨_, rfl⟩
  have hn := hr.2.1
  rw [hrr]
  unfold few at hrr
  have HR := Aside0.mk hr
  clear hr
  by_cases hbad : 20 < n ∨ 20 < l.length ∨ 40 < m
  · rw [if_pos hbad] at hrr
    have HX := Aside0.mk hrr
    have key : decide ((20 : Int) < (n : Int)) = true ∨ (decide ((20 : Int) < (n : Int)) = false ∧ decide ((20 : Int) < (l.length : Int)) = true) ∨ (decide ((20 : Int) < (n : Int)) = false ∧ decide ((20 : Int) < (l.length : Int)) = false ∧ decide ((40 : Int) < (m : Int)) = true) := by
      simp only [decide_eq_true_eq, decide_eq_false_iff_not]; omega
    clear hrr hbad
    rcases key with g1 | ⟨g1, g2⟩ | ⟨g1, g2, g3⟩
    all_goals
      go_enter Try.func8, Try.ntmps8
      go_wp2
      go_ret
      exact ⟨ret_bool HX.out, rfl⟩
  · rw [if_neg hbad] at hrr
    have g1 : decide ((20 : Int) < (n : Int)) = false := decide_eq_false (by omega)
    have g2 : decide ((20 : Int) < (l.length : Int)) = false := decide_eq_false (by omega)
    have g3 : decide ((40 : Int) < (m : Int)) = false := decide_eq_false (by omega)
    have H0 := Aside0.mk (show fewGo l (l.length - 0) 0 = r from hrr)
    clear hrr hbad
    go_enter Try.func8, Try.ntmps8
    go_wp2
    go_loopg [7] l.length (fun gg v7 wr => ∃ k : Nat, k ≤ l.length ∧ l.length - k ≤ gg ∧ v7 = .int .i64 k ∧ wr = w ∧ Aside0 (fewGo l (l.length - k) k = r))
    case atStart => exact ⟨0, Nat.zero_le _, by omega, rfl, rfl, H0⟩
    case round =>
      obtain ⟨k, hk, hg, rfl, rfl, HX⟩ := hrel
      by_cases hlt : k < l.length
      · obtain ⟨ad, A2, c2, rfl, hx0, hx1, hx2, hl2, hC2⟩ := THolding_nat HR.out k hlt
        have hx := HX.out
        rw [show l.length - k = (l.length - (k + 1)) + 1 by omega, fewGo] at hx
        clear HX
        generalize l.getD k zHolding = y at *
        obtain ⟨f0, f1, f2⟩ := y
        simp only at hx2 hx
        have hlti : (k : Int) < (l.length : Int) := by omega
        by_cases hq : 40 < f2.length
        · rw [if_pos hq] at hx
          have hq' : (40 : Int) < (f2.length : Int) := by omega
          have HX := Aside0.mk hx
          clear hx
          go_wp2
          go_ret
          exact ⟨ret_bool HX.out, rfl⟩
        · rw [if_neg hq] at hx
          have hq' : ¬ ((40 : Int) < (f2.length : Int)) := by omega
          have HX := Aside0.mk hx
          clear hx
          go_wp2
          go_roundg (l.length - (k + 1))
          case measure => omega
          case rel => exact ⟨k + 1, by omega, by omega, by go_num, rfl, HX⟩
      · obtain rfl : k = l.length := by omega
        have hlti : ¬ ((l.length : Int) < (l.length : Int)) := by omega
        have hx := HX.out
        rw [Nat.sub_self, fewGo] at hx
        have HX := Aside0.mk hx
        clear hx
        go_wp2
        go_ret
        exact ⟨ret_bool HX.out, rfl⟩
end Go.Proofs.Ytjgkalppjfmkoaa
