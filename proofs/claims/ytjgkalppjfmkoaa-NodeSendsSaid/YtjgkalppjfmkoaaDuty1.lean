/- Duties: slices.IndexFunc at duties. -/
import Derived.Test.YtjgkalppjfmkoaaFlow4
import Derived.Test.YtjgkalppjfmkoaaNode6
namespace Go.Proofs.Ytjgkalppjfmkoaa
open Go.RowKit Go.Shelf Go.Proofs.YtjgkalppjfmkoaaW.PrintWords
set_option linter.unusedVariables false
set_option linter.unusedSimpArgs false

/-- A duty's value. -/
def dutyV (x : SDuty) : Array Value := #[.int .i64 x.f0.f0, .int .i64 x.f0.f1, .int .i64 x.f0.f2, .int .i64 x.f0.f3, .int .i64 x.f0.f4, .bool x.f1, .bool x.f2, .int .i64 x.f3, .int .i64 x.f4]
theorem TDuty_nat {w : World} {A : Option Addr} {n : Nat} {xs : List SDuty} (h : Kd.C kDuty w A n xs) (k : Nat) (h1 : k < n) : ∃ ad, A = some ad ∧ w.cell? (ad.add (k * 9)) = some (.int .i64 (xs.getD k zDuty).f0.f0) ∧ w.cell? ⟨(ad.add (k * 9)).block, (ad.add (k * 9)).off + 1, none⟩ = some (.int .i64 (xs.getD k zDuty).f0.f1) ∧ w.cell? ⟨(ad.add (k * 9)).block, (ad.add (k * 9)).off + 2, none⟩ = some (.int .i64 (xs.getD k zDuty).f0.f2) ∧ w.cell? ⟨(ad.add (k * 9)).block, (ad.add (k * 9)).off + 3, none⟩ = some (.int .i64 (xs.getD k zDuty).f0.f3) ∧ w.cell? ⟨(ad.add (k * 9)).block, (ad.add (k * 9)).off + 4, none⟩ = some (.int .i64 (xs.getD k zDuty).f0.f4) ∧ w.cell? ⟨(ad.add (k * 9)).block, (ad.add (k * 9)).off + 5, none⟩ = some (.bool (xs.getD k zDuty).f1) ∧ w.cell? ⟨(ad.add (k * 9)).block, (ad.add (k * 9)).off + 6, none⟩ = some (.bool (xs.getD k zDuty).f2) ∧ w.cell? ⟨(ad.add (k * 9)).block, (ad.add (k * 9)).off + 7, none⟩ = some (.int .i64 (xs.getD k zDuty).f3) ∧ w.cell? ⟨(ad.add (k * 9)).block, (ad.add (k * 9)).off + 8, none⟩ = some (.int .i64 (xs.getD k zDuty).f4) := by
  have := at_TDuty h (k : Int) (by omega) (by omega)
  simpa [rd_TDuty, Int.toNat_natCast] using this
theorem blk9 {w : World} {g : Nat} {a0 a1 a2 a3 a4 a5 a6 a7 a8 : Value} {T : TypeId} (h : w.heap[g]? = some (.cells #[a0, a1, a2, a3, a4, a5, a6, a7, a8] T (0, 0))) : w.cell? ⟨g, 0, none⟩ = some a0 ∧ w.cell? ⟨g, 1, none⟩ = some a1 ∧ w.cell? ⟨g, 2, none⟩ = some a2 ∧ w.cell? ⟨g, 3, none⟩ = some a3 ∧ w.cell? ⟨g, 4, none⟩ = some a4 ∧ w.cell? ⟨g, 5, none⟩ = some a5 ∧ w.cell? ⟨g, 6, none⟩ = some a6 ∧ w.cell? ⟨g, 7, none⟩ = some a7 ∧ w.cell? ⟨g, 8, none⟩ = some a8 :=
  ⟨cell_of_row w g 0 _ T (0, 0) h, cell_of_row w g 1 _ T (0, 0) h, cell_of_row w g 2 _ T (0, 0) h, cell_of_row w g 3 _ T (0, 0) h, cell_of_row w g 4 _ T (0, 0) h, cell_of_row w g 5 _ T (0, 0) h, cell_of_row w g 6 _ T (0, 0) h, cell_of_row w g 7 _ T (0, 0) h, cell_of_row w g 8 _ T (0, 0) h⟩

/-- What is asked of a predicate on duties. -/
def PredDuty (g : Nat) (lb : Array Value) (p : SDuty → Bool) (w : World) : Prop :=
  ∀ (W : World) (x : SDuty), Below w.heap.size w W → Calls Try.prog g (#[.agg #[.int .i64 x.f0.f0, .int .i64 x.f0.f1, .int .i64 x.f0.f2, .int .i64 x.f0.f3, .int .i64 x.f0.f4, .bool x.f1, .bool x.f2, .int .i64 x.f3, .int .i64 x.f4]] ++ lb) W fun e w' => e = .returned (.bool (p x)) ∧ Below W.heap.size W w'

set_option maxHeartbeats 1000000 in
theorem IndexFunc_duty (g : Nat) (lb : Array Value) (eg : ∀ args w, (callFunc g args).run Try.prog w = .ok (.enter g args) w) (p : SDuty → Bool) (A : Option Addr) (c : Nat) (l : List SDuty) (w : World) (hp : PredDuty g lb p w) (hr : Kd.C kDuty w A l.length l) :
    Calls Try.prog 46 #[.slice A l.length c, .func (.func g) #[] lb] w fun e w' => e = .returned (.int .i64 (ix p zDuty l)) ∧ Below w.heap.size w w' := by
  obtain ⟨r, hrr⟩ : ∃ r, r = ix p zDuty l := ⟨_, rfl⟩
  have hn := hr.2.1
  rw [← hrr]
  have H0 := Aside0.mk (show ixGo p zDuty l (l.length - 0) 0 = r from hrr.symm)
  have HR := Aside0.mk hr
  have HP := Aside0.mk hp
  clear hr hp hrr
  go_enter Try.func46, Try.ntmps46
  go_wp2
  go_loopg [8] l.length (fun gg v8 wr => ∃ k : Nat, k ≤ l.length ∧ l.length - k ≤ gg ∧ v8 = .int .i64 k ∧ Aside0 (Below w.heap.size w wr) ∧ Aside0 (ixGo p zDuty l (l.length - k) k = r))
  case atStart => exact ⟨0, Nat.zero_le _, by omega, rfl, ⟨Below.refl _ w⟩, H0⟩
  case round =>
    obtain ⟨k, hk, hg, rfl, HB, HX⟩ := hrel
    by_cases hlt : k < l.length
    · obtain ⟨ad, rfl, hx0, hx1, hx2, hx3, hx4, hx5, hx6, hx7, hx8⟩ := TDuty_nat (Kd.C_below HR.out HB.out) k hlt
      have hcall := HP.out wr (l.getD k zDuty) HB.out
      have hs : l.length - k = (l.length - (k + 1)) + 1 := by omega
      have hx := HX.out
      rw [hs, ixGo] at hx
      clear HX hs
      generalize hy : l.getD k zDuty = y at *
      clear hy
      have hlti : (k : Int) < (l.length : Int) := by omega
      cases hq : p y with
      | true =>
        rw [hq] at hx hcall
        rw [if_pos rfl] at hx
        have HX := Aside0.mk hx
        have HC := Aside0.mk hcall
        clear hx hcall hq
        go_wp2_with (go_at_fn g; refine HC.out.mono ?_; rintro e w' ⟨rfl, hb'⟩)
        go_ret
        exact ⟨ret_int HX.out, below_trans2 HB.out hb'⟩
      | false =>
        rw [hq] at hx hcall
        rw [if_neg (by simp)] at hx
        have HX := Aside0.mk hx
        have HC := Aside0.mk hcall
        clear hx hcall hq
        go_wp2_with (go_at_fn g; refine HC.out.mono ?_; rintro e w' ⟨rfl, hb'⟩)
        go_roundg (l.length - (k + 1))
        case measure => omega
        case rel => exact ⟨k + 1, by omega, by omega, by go_num, ⟨below_trans2 HB.out hb'⟩, HX⟩
    · obtain rfl : k = l.length := by omega
      have hlti : ¬ ((l.length : Int) < (l.length : Int)) := by omega
      have hx := HX.out
      rw [Nat.sub_self, ixGo] at hx
      have HX := Aside0.mk hx
      clear hx
      go_wp2
      go_ret
      exact ⟨ret_int HX.out, HB.out⟩

end Go.Proofs.Ytjgkalppjfmkoaa
