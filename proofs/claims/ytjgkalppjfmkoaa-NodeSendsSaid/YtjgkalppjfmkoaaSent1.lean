/- slices.IndexFunc, Index and Contains at ints; the predicate of node.Sent. -/
import Derived.Test.YtjgkalppjfmkoaaNode3
namespace Go.Proofs.Ytjgkalppjfmkoaa
open Go.RowKit Go.Shelf Go.Proofs.YtjgkalppjfmkoaaW.PrintWords
set_option linter.unusedVariables false
set_option linter.unusedSimpArgs false

/-- What is asked of a predicate on ints. -/
def PredInt (g : Nat) (lb : Array Value) (p : Int → Bool) (w : World) : Prop :=
  ∀ (W : World) (x : Int), Below w.heap.size w W → Calls Try.prog g (#[.int .i64 x] ++ lb) W fun e w' => e = .returned (.bool (p x)) ∧ Below W.heap.size W w'

set_option maxHeartbeats 1000000 in
theorem IndexFunc_int (g : Nat) (lb : Array Value) (eg : ∀ args w, (callFunc g args).run Try.prog w = .ok (.enter g args) w) (p : Int → Bool) (A : Option Addr) (c : Nat) (l : List Int) (w : World) (hp : PredInt g lb p w) (hr : (Kd.int .i64).C w A l.length l) :
    Calls Try.prog 53 #[.slice A l.length c, .func (.func g) #[] lb] w fun e w' => e = .returned (.int .i64 (ix p 0 l)) ∧ Below w.heap.size w w' := by
  obtain ⟨r, hrr⟩ : ∃ r, r = ix p 0 l := ⟨_, rfl⟩
  have hn := hr.2.1
  rw [← hrr]
  have H0 := Aside0.mk (show ixGo p 0 l (l.length - 0) 0 = r from hrr.symm)
  have HR := Aside0.mk hr
  have HP := Aside0.mk hp
  clear hr hp hrr
  go_enter Try.func53, Try.ntmps53
  go_wp2
  go_loopg [8] l.length (fun gg v8 wr => ∃ k : Nat, k ≤ l.length ∧ l.length - k ≤ gg ∧ v8 = .int .i64 k ∧ Aside0 (Below w.heap.size w wr) ∧ Aside0 (ixGo p 0 l (l.length - k) k = r))
  case atStart => exact ⟨0, Nat.zero_le _, by omega, rfl, ⟨Below.refl _ w⟩, H0⟩
  case round =>
    obtain ⟨k, hk, hg, rfl, HB, HX⟩ := hrel
    by_cases hlt : k < l.length
    · obtain ⟨ad, rfl, hx0⟩ := int_nat (Kd.C_below HR.out HB.out) k hlt
      have hcall := HP.out wr (l.getD k 0) HB.out
      have hs : l.length - k = (l.length - (k + 1)) + 1 := by omega
      have hx := HX.out
      rw [hs, ixGo] at hx
      clear HX hs
      generalize hy : l.getD k 0 = y at *
      clear hy
      have hlti : (k : Int) < (l.length : Int) := by omega
      cases hq : p y with
      | true =>
        rw [hq] at hx hcall
        rw [if_pos rfl] at hx
        have HX := Aside0.mk hx
        have HC := Aside0.mk hcall
        clear hx hcall hq
        go_wp2_with (go_at_fn g; refine HC.out.mono ?_; rintro e w' ⟨rfl, hb'⟩)
        go_ret
        exact ⟨ret_int HX.out, below_trans2 HB.out hb'⟩
      | false =>
        rw [hq] at hx hcall
        rw [if_neg (by simp)] at hx
        have HX := Aside0.mk hx
        have HC := Aside0.mk hcall
        clear hx hcall hq
        go_wp2_with (go_at_fn g; refine HC.out.mono ?_; rintro e w' ⟨rfl, hb'⟩)
        go_roundg (l.length - (k + 1))
        case measure => omega
        case rel => exact ⟨k + 1, by omega, by omega, by go_num, ⟨below_trans2 HB.out hb'⟩, HX⟩
    · obtain rfl : k = l.length := by omega
      have hlti : ¬ ((l.length : Int) < (l.length : Int)) := by omega
      have hx := HX.out
      rw [Nat.sub_self, ixGo] at hx
      have HX := Aside0.mk hx
      clear hx
      go_wp2
      go_ret
      exact ⟨ret_int HX.out, HB.out⟩

set_option maxHeartbeats 1000000 in
theorem Index_int (v : Int) (A : Option Addr) (c : Nat) (l : List Int) (w : World) (hr : (Kd.int .i64).C w A l.length l) :
    Calls Try.prog 52 #[.slice A l.length c, .int .i64 v] w fun e w' => e = .returned (.int .i64 (ix (fun n => v == n) 0 l)) ∧ w = w' := by
  obtain ⟨r, hrr⟩ : ∃ r, r = ix (fun n => v == n) 0 l := ⟨_, rfl⟩
  have hn := hr.2.1
  rw [← hrr]
  have H0 := Aside0.mk (show ixGo (fun n => v == n) 0 l (l.length - 0) 0 = r from hrr.symm)
  have HR := Aside0.mk hr
  clear hr hrr
  go_enter Try.func52, Try.ntmps52
  go_wp2
  go_loopg [8] l.length (fun gg v8 wr => ∃ k : Nat, k ≤ l.length ∧ l.length - k ≤ gg ∧ v8 = .int .i64 k ∧ wr = w ∧ Aside0 (ixGo (fun n => v == n) 0 l (l.length - k) k = r))
  case atStart => exact ⟨0, Nat.zero_le _, by omega, rfl, rfl, H0⟩
  case round =>
    obtain ⟨k, hk, hg, rfl, rfl, HX⟩ := hrel
    by_cases hlt : k < l.length
    · obtain ⟨ad, rfl, hx0⟩ := int_nat HR.out k hlt
      have hs : l.length - k = (l.length - (k + 1)) + 1 := by omega
      have hx := HX.out
      rw [hs, ixGo] at hx
      clear HX hs
      generalize hy : l.getD k 0 = y at *
      clear hy
      have hlti : (k : Int) < (l.length : Int) := by omega
      by_cases hq : v = y
      · subst hq
        rw [if_pos (by simp)] at hx
        have HX := Aside0.mk hx
        clear hx
        go_wp2
        go_ret
        exact ⟨ret_int HX.out, rfl⟩
      · have hq' : (v == y) = false := by simpa using hq
        rw [if_neg (by simp [hq])] at hx
        have HX := Aside0.mk hx
        clear hx
        go_wp2
        go_roundg (l.length - (k + 1))
        case measure => omega
        case rel => exact ⟨k + 1, by omega, by omega, by go_num, rfl, HX⟩
    · obtain rfl : k = l.length := by omega
      have hlti : ¬ ((l.length : Int) < (l.length : Int)) := by omega
      have hx := HX.out
      rw [Nat.sub_self, ixGo] at hx
      have HX := Aside0.mk hx
      clear hx
      go_wp2
      go_ret
      exact ⟨ret_int HX.out, rfl⟩

theorem Contains_int (v : Int) (A : Option Addr) (c : Nat) (l : List Int) (w : World) (hr : (Kd.int .i64).C w A l.length l) :
    Calls Try.prog 24 #[.slice A l.length c, .int .i64 v] w fun e w' => e = .returned (.bool (decide (0 ≤ ix (fun n => v == n) 0 l))) ∧ w = w' := by
  have hn := hr.2.1
  have HR := Aside0.mk hr
  obtain ⟨i, hi⟩ : ∃ i, ix (fun n => v == n) 0 l = i := ⟨_, rfl⟩
  rw [hi]
  have HI := Aside0.mk hi
  clear hr hi
  go_enter Try.func24, Try.ntmps24
  go_wp2_with (fail)
  refine (Index_int _ _ _ _ _ HR.out).mono ?_
  rintro e w' ⟨rfl, rfl⟩
  rw [HI.out]
  go_wp2
  go_ret
  exact ⟨by simp, rfl⟩

theorem node_Sent1 (c0 c1 c2 c3 c4 : Int) (B : Nat) (w : World) (hB : B < w.heap.size) (hc : w.cell? ⟨B, 3, none⟩ = some (.int .i64 c3)) :
    PredInt 54 #[.pointer (some ⟨B, 0, none⟩)] (fun n => decide (c3 < n)) w := fun W x hb => by
  have hc' : W.cell? ⟨B, 3, none⟩ = some (.int .i64 c3) := (hb.cell (p := ⟨B, 3, none⟩) hB).trans hc
  have hB' : B < W.heap.size := Nat.lt_of_lt_of_le hB hb.size
  clear hc
  show Calls Try.prog 54 #[.int .i64 x, .pointer (some ⟨B, 0, none⟩)] W _
  go_enter Try.func54, Try.ntmps54
  go_wp2
  go_ret
  exact ⟨rfl, Below.refl _ _⟩
end Go.Proofs.Ytjgkalppjfmkoaa
