/- Package flow: Find (over slices.IndexFunc at flows), Check. -/
import Derived.Test.YtjgkalppjfmkoaaFlow2
import Derived.Shelf.Abstract
namespace Go.Proofs.Ytjgkalppjfmkoaa
open Go.RowKit Go.Shelf Go.Proofs.YtjgkalppjfmkoaaW.PrintWords
set_option linter.unusedVariables false
set_option linter.unusedSimpArgs false

/-- The first index at which p holds, from k on; -1 if there is none. -/
def ixGo {α : Type} (p : α → Bool) (z : α) (l : List α) : Nat → Nat → Int
  | 0, _ => -1
  | d + 1, k => if p (l.getD k z) = true then (k : Int) else ixGo p z l d (k + 1)
def ix {α : Type} (p : α → Bool) (z : α) (l : List α) : Int := ixGo p z l l.length 0

/-- What is asked of a predicate on flows. -/
def PredFlow (g : Nat) (lb : Array Value) (p : SFlow → Bool) (w : World) : Prop :=
  ∀ (W : World) (x : SFlow), Below w.heap.size w W → Calls Try.prog g (#[.agg #[.int .i64 x.f0, .int .i64 x.f1, .int .i64 x.f2, .int .i64 x.f3, .int .i64 x.f4, .int .i64 x.f5]] ++ lb) W fun e w' => e = .returned (.bool (p x)) ∧ Below W.heap.size W w'

set_option maxHeartbeats 1000000 in
theorem IndexFunc_flow (g : Nat) (lb : Array Value) (eg : ∀ args w, (callFunc g args).run Try.prog w = .ok (.enter g args) w) (p : SFlow → Bool) (A : Option Addr) (c : Nat) (l : List SFlow) (w : World) (hp : PredFlow g lb p w) (hr : Kd.C kFlow w A l.length l) :
    Calls Try.prog 56 #[.slice A l.length c, .func (.func g) #[] lb] w fun e w' => e = .returned (.int .i64 (ix p zFlow l)) ∧ Below w.heap.size w w' := by
  obtain ⟨r, hrr⟩ : ∃ r, r = ix p zFlow l := ⟨_, rfl⟩
  have hn := hr.2.1
  rw [← hrr]
  have H0 := Aside0.mk (show ixGo p zFlow l (l.length - 0) 0 = r from hrr.symm)
  have HR := Aside0.mk hr
  have HP := Aside0.mk hp
  clear hr hp hrr
  go_enter Try.func56, Try.ntmps56
  go_wp2
  go_loopg [8] l.length (fun gg v8 wr => ∃ k : Nat, k ≤ l.length ∧ l.length - k ≤ gg ∧ v8 = .int .i64 k ∧ Aside0 (Below w.heap.size w wr) ∧ Aside0 (ixGo p zFlow l (l.length - k) k = r))
  case atStart => exact ⟨0, Nat.zero_le _, by omega, rfl, ⟨Below.refl _ w⟩, H0⟩
  case round =>
    obtain ⟨k, hk, hg, rfl, HB, HX⟩ := hrel
    by_cases hlt : k < l.length
    · obtain ⟨ad, rfl, hx0, hx1, hx2, hx3, hx4, hx5⟩ := at_TFlow (Kd.C_below HR.out HB.out) k (by omega) (by omega)
      have hrd : rd_TFlow l (k : Int) = l.getD k zFlow := by unfold rd_TFlow; rw [Int.toNat_natCast]
      simp only [hrd, Int.toNat_natCast] at hx0 hx1 hx2 hx3 hx4 hx5
      have hcall := HP.out wr (l.getD k zFlow) HB.out
      have hs : l.length - k = (l.length - (k + 1)) + 1 := by omega
      have hx := HX.out
      rw [hs, ixGo] at hx
      clear HX hs hrd
      generalize hy : l.getD k zFlow = y at *
      clear hy
      have hlti : (k : Int) < (l.length : Int) := by omega
      cases hq : p y with
      | true =>
        rw [hq] at hx hcall
        rw [if_pos rfl] at hx
        have HX := Aside0.mk hx
        have HC := Aside0.mk hcall
        clear hx hcall hq
        go_wp2_with (go_at_fn g; refine HC.out.mono ?_; rintro e w' ⟨rfl, hb'⟩)
        go_ret
        exact ⟨ret_int HX.out, below_trans2 HB.out hb'⟩
      | false =>
        rw [hq] at hx hcall
        rw [if_neg (by simp)] at hx
        have HX := Aside0.mk hx
        have HC := Aside0.mk hcall
        clear hx hcall hq
        go_wp2_with (go_at_fn g; refine HC.out.mono ?_; rintro e w' ⟨rfl, hb'⟩)
        go_roundg (l.length - (k + 1))
        case measure => omega
        case rel => exact ⟨k + 1, by omega, by omega, by go_num, ⟨below_trans2 HB.out hb'⟩, HX⟩
    · obtain rfl : k = l.length := by omega
      have hlti : ¬ ((l.length : Int) < (l.length : Int)) := by omega
      have hx := HX.out
      rw [Nat.sub_self, ixGo] at hx
      have HX := Aside0.mk hx
      clear hx
      go_wp2
      go_ret
      exact ⟨ret_int HX.out, HB.out⟩

theorem flow_Find1 (id : Int) (B : Nat) (w : World) (hB : B < w.heap.size) (hc : w.cell? ⟨B, 0, none⟩ = some (.int .i64 id)) :
    PredFlow 57 #[.pointer (some ⟨B, 0, none⟩)] (fun f => f.f0 == id) w := fun W x hb => by
  have hc' : W.cell? ⟨B, 0, none⟩ = some (.int .i64 id) := (hb.cell (p := ⟨B, 0, none⟩) hB).trans hc
  have hB' : B < W.heap.size := Nat.lt_of_lt_of_le hB hb.size
  clear hc
  show Calls Try.prog 57 #[.agg #[.int .i64 x.f0, .int .i64 x.f1, .int .i64 x.f2, .int .i64 x.f3, .int .i64 x.f4, .int .i64 x.f5], .pointer (some ⟨B, 0, none⟩)] W _
  go_enter Try.func57, Try.ntmps57
  go_wp2
  go_ret
  exact ⟨rfl, (Below.refl _ _).alloc (Nat.le_refl _) _⟩

set_option maxHeartbeats 1000000 in
theorem flow_Find (A : Option Addr) (c : Nat) (l : List SFlow) (id : Int) (w : World) (hr : Kd.C kFlow w A l.length l) :
    Calls Try.prog 30 #[.slice A l.length c, .int .i64 id] w fun e w' => e = .returned (.int .i64 (ix (fun f : SFlow => f.f0 == id) zFlow l)) ∧ Below w.heap.size w w' := by
  have eg : ∀ args w, (callFunc 57 args).run Try.prog w = .ok (.enter 57 args) w := enters_of Try.func57 (by kernel_rfl) rfl
  have hb1 : Below w.heap.size w (w.alloc (.cells #[.int .i64 id] 3)) := (Below.refl _ _).alloc (Nat.le_refl _) _
  have hcon := IndexFunc_flow 57 #[.pointer (some ⟨w.heap.size, 0, none⟩)] eg (fun f : SFlow => f.f0 == id) A c l (w.alloc (.cells #[.int .i64 id] 3)) (flow_Find1 id w.heap.size _ (by simp) (by simp)) (Kd.C_below hr hb1)
  generalize ix (fun f : SFlow => f.f0 == id) zFlow l = r at hcon ⊢
  have HC := Aside0.mk hcon
  have HB := Aside0.mk hb1
  clear hcon hr hb1
  go_enter Try.func30, Try.ntmps30
  go_wp2_with (go_at_call 56; refine HC.out.mono ?_; rintro e w' ⟨rfl, hb⟩)
  go_ret
  exact ⟨rfl, below_trans2 HB.out hb⟩
end Go.Proofs.Ytjgkalppjfmkoaa
