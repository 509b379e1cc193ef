/- Package node: check; slices.BinarySearchFunc at holdings. -/
import Derived.Test.YtjgkalppjfmkoaaNode2
import Derived.Test.YtjgkalppjfmkoaaNode3
namespace Go.Proofs.Ytjgkalppjfmkoaa
open Go.RowKit Go.Shelf Go.Proofs.YtjgkalppjfmkoaaW.PrintWords
set_option linter.unusedVariables false
set_option linter.unusedSimpArgs false

/-- node.check's answer. -/
def hcheck (flows : List SFlow) (self slot : Int) (l : List SHolding) : Int := if hck flows l ≠ 0 then hck flows l else if self < 0 ∨ 32 ≤ self ∨ slot < 0 ∨ 1073741824 < slot then 2 else 0

set_option maxHeartbeats 1000000 in
theorem node_check (A B : Option Addr) (c d : Nat) (flows : List SFlow) (self slot : Int) (l : List SHolding) (w : World) (hf : Kd.C kFlow w A flows.length flows) (hr : Kd.C kHolding w B l.length l) :
    Calls Try.prog 28 #[.slice A flows.length c, .int .i64 self, .int .i64 slot, .slice B l.length d] w fun e w' => e = .returned (.int .i64 (hcheck flows self slot l)) ∧ Below w.heap.size w w' := by
  obtain ⟨r, hrr⟩ : ∃ r, r = hcheck flows self slot l := ⟨_, rfl⟩
  rw [← hrr]
  have HF := Aside0.mk hf
  have HR := Aside0.mk hr
  unfold hcheck at hrr
  generalize hq : hck flows l = q at *
  have HQ := Aside0.mk hq
  clear hf hr hq
  by_cases h0 : q = 0
  · subst h0
    have hrr' : r = if self < 0 ∨ 32 ≤ self ∨ slot < 0 ∨ 1073741824 < slot then 2 else 0 := by simpa using hrr
    have HX := Aside0.mk hrr'
    clear hrr hrr'
    go_enter Try.func28, Try.ntmps28
    go_wp2_with (go_at_call 15; refine (node_Check _ _ _ _ _ _ _ HF.out HR.out).mono ?_; rintro e w1 ⟨rfl, hb1⟩; rw [HQ.out])
    all_goals
      go_ret
      refine ⟨ret_int ?_, hb1⟩
      rw [HX.out]
      first | rw [if_pos (by omega)] | rw [if_neg (by omega)]
  · have h0' : (q != 0) = true := by simpa using h0
    have HX := Aside0.mk (show q = r by rw [hrr, if_pos h0])
    clear hrr h0
    go_enter Try.func28, Try.ntmps28
    go_wp2_with (go_at_call 15; refine (node_Check _ _ _ _ _ _ _ HF.out HR.out).mono ?_; rintro e w1 ⟨rfl, hb1⟩; rw [HQ.out])
    go_ret
    exact ⟨ret_int HX.out, hb1⟩

/-- cmp.Compare at int. -/
def cmpI (a b : Int) : Int := if a < b then -1 else if b < a then 1 else 0
theorem cmp_Compare (a b : Int) (w : World) :
    Calls Try.prog 61 #[.int .i64 a, .int .i64 b] w fun e w' => e = .returned (.int .i64 (cmpI a b)) ∧ w = w' := by
  have h1 : (a != a) = false := by simp
  have h2 : (b != b) = false := by simp
  go_enter Try.func61, Try.ntmps61
  go_wp2
  all_goals
    go_ret
    refine ⟨ret_int ?_, rfl⟩
    unfold cmpI
    (repeat' split) <;> omega

theorem node_add1 (f0 f1 : Int) (v : Value) (id : Int) (w : World) :
    Calls Try.prog 60 #[.agg #[.int .i64 f0, .int .i64 f1, v], .int .i64 id] w fun e w' => e = .returned (.int .i64 (cmpI f0 id)) ∧ Below w.heap.size w w' := by
  go_enter Try.func60, Try.ntmps60
  go_wp2_with (go_at_call 61; refine (cmp_Compare _ _ _).mono ?_; rintro e w' ⟨rfl, rfl⟩)
  go_ret
  exact ⟨rfl, (Below.refl _ _).alloc (Nat.le_refl _) _⟩

/-- The search, from bounds on. -/
def bsGo (l : List SHolding) (id : Int) : Nat → Nat → Nat → Nat
  | 0, i, _ => i
  | d + 1, i, j => if i < j then (if (l.getD ((i + j) / 2) zHolding).f0 < id then bsGo l id d ((i + j) / 2 + 1) j else bsGo l id d i ((i + j) / 2)) else i

def IntBool (n : Int) (w : World) (e : Ending) (w' : World) : Prop := ∃ b, e = .returned (.tuple #[.int .i64 n, .bool b]) ∧ Below w.heap.size w w'

set_option maxRecDepth 100000 in
set_option maxHeartbeats 4000000 in
theorem BinarySearch_holding (A : Option Addr) (c : Nat) (l : List SHolding) (id : Int) (w : World) (hr : Kd.C kHolding w A l.length l) (hn : l.length < 4611686018427387904) :
    Calls Try.prog 59 #[.slice A l.length c, .int .i64 id, .func (.func 60) #[] #[]] w (IntBool (bsGo l id (l.length + 1) 0 l.length) w) := by
  obtain ⟨r, hrr⟩ : ∃ r : Nat, r = bsGo l id (l.length + 1) 0 l.length := ⟨_, rfl⟩
  rw [← hrr]
  have eg : ∀ args w, (callFunc 60 args).run Try.prog w = .ok (.enter 60 args) w := enters_of Try.func60 (by kernel_rfl) rfl
  have HR := Aside0.mk hr
  have H0 := Aside0.mk hrr.symm
  clear hr hrr
  go_enter Try.func59, Try.ntmps59
  go_wp2
  go_loopg [9, 10] (l.length + 1) (fun gg v9 v10 wr => ∃ i j : Nat, i ≤ j ∧ j ≤ l.length ∧ j - i < gg ∧ v9 = .int .i64 i ∧ v10 = .int .i64 j ∧ Aside0 (Below w.heap.size w wr) ∧ Aside0 (bsGo l id gg i j = r))
  case atStart => exact ⟨0, l.length, by omega, by omega, by omega, rfl, rfl, ⟨Below.refl _ w⟩, H0⟩
  case round =>
    obtain ⟨i, j, hij, hj, hg, rfl, rfl, HB, HX⟩ := hrel
    cases gk with
    | zero => omega
    | succ gk =>
      by_cases hlt : i < j
      · have hlti : (i : Int) < (j : Int) := by omega
        obtain ⟨ad, A2, c2, rfl, hx0, hx1, hx2, hl2, hC2⟩ := THolding_nat (Kd.C_below HR.out HB.out) ((i + j) / 2) (by omega)
        have hx := HX.out
        rw [bsGo, if_pos hlt] at hx
        clear HX
        generalize hy : l.getD ((i + j) / 2) zHolding = y at *
        have hyy := Aside0.mk hy
        clear hy
        obtain ⟨f0, f1, f2⟩ := y
        simp only at hx0 hx1 hx2 hx
        by_cases hlf : f0 < id
        · rw [if_pos hlf] at hx
          have HX := Aside0.mk hx
          have hcm : cmpI f0 id = -1 := by unfold cmpI; rw [if_pos hlf]
          have HC := Aside0.mk hcm
          clear hx hcm
          go_wp2_with (go_at_fn 60; refine (node_add1 _ _ _ _ _).mono ?_; rintro e w' ⟨rfl, hb'⟩; rw [HC.out])
          go_roundg gk
          case measure => omega
          case rel => exact ⟨(i + j) / 2 + 1, j, by omega, by omega, by omega, by rw [show ((i : Int) + (j : Int)) / 2 + 1 = (((i + j) / 2 + 1 : Nat) : Int) by omega], rfl, ⟨below_trans2 HB.out hb'⟩, HX⟩
        · rw [if_neg hlf] at hx
          have HX := Aside0.mk hx
          obtain ⟨q, hq, hq0⟩ : ∃ q, cmpI f0 id = q ∧ 0 ≤ q := ⟨_, rfl, by unfold cmpI; rw [if_neg hlf]; split <;> omega⟩
          have HC := Aside0.mk hq
          clear hx hq
          go_wp2_with (go_at_fn 60; refine (node_add1 _ _ _ _ _).mono ?_; rintro e w' ⟨rfl, hb'⟩; rw [HC.out])
          go_roundg gk
          case measure => omega
          case rel => exact ⟨i, (i + j) / 2, by omega, by omega, by omega, rfl, by rw [show ((i : Int) + (j : Int)) / 2 = (((i + j) / 2 : Nat) : Int) by omega], ⟨below_trans2 HB.out hb'⟩, HX⟩
      · obtain rfl : i = j := by omega
        have hlti : ¬ ((i : Int) < (i : Int)) := by omega
        have hx := HX.out
        rw [bsGo, if_neg hlt] at hx
        subst hx
        by_cases hil : i < l.length
        · have hili : (i : Int) < (l.length : Int) := by omega
          have hilb : decide ((i : Int) < (l.length : Int)) = true := decide_eq_true hili
          obtain ⟨ad, A2, c2, rfl, hx0, hx1, hx2, hl2, hC2⟩ := THolding_nat (Kd.C_below HR.out HB.out) i hil
          generalize hy : l.getD i zHolding = y at *
          have hyy := Aside0.mk hy
          clear hy
          obtain ⟨f0, f1, f2⟩ := y
          simp only at hx0 hx1 hx2
          go_wp2_with (go_at_fn 60; refine (node_add1 _ _ _ _ _).mono ?_; rintro e w' ⟨rfl, hb'⟩)
          go_ret2
          exact ⟨_, rfl, below_trans2 HB.out hb'⟩
        · have hilb : decide ((i : Int) < (l.length : Int)) = false := decide_eq_false (by omega)
          go_wp2
          go_ret2
          exact ⟨_, rfl, HB.out⟩
end Go.Proofs.Ytjgkalppjfmkoaa
