/- The predicates of the law NodeSends, and slices.ContainsFunc at duties. -/
import Derived.Test.YtjgkalppjfmkoaaChoose3
namespace Go.Proofs.Ytjgkalppjfmkoaa
open Go.RowKit Go.Shelf Go.Proofs.YtjgkalppjfmkoaaW.PrintWords
set_option linter.unusedVariables false
set_option linter.unusedSimpArgs false

def cellB (a b : SCell) : Bool := a.f0 == b.f0 && a.f1 == b.f1 && a.f2 == b.f2 && a.f3 == b.f3 && a.f4 == b.f4
theorem cellB_eq {a b : SCell} : cellB a b = true ↔ a = b := by
  obtain ⟨a0, a1, a2, a3, a4⟩ := a
  obtain ⟨b0, b1, b2, b3, b4⟩ := b
  simp [cellB, and_assoc]

theorem Contains_duty (g : Nat) (lb : Array Value) (eg : ∀ args w, (callFunc g args).run Try.prog w = .ok (.enter g args) w) (p : SDuty → Bool) (A : Option Addr) (c : Nat) (l : List SDuty) (w : World) (hp : PredDuty g lb p w) (hr : Kd.C kDuty w A l.length l) :
    Calls Try.prog 22 #[.slice A l.length c, .func (.func g) #[] lb] w fun e w' => e = .returned (.bool (decide (0 ≤ ix p zDuty l))) ∧ Below w.heap.size w w' := by
  have hcon := IndexFunc_duty g lb eg p A c l w hp hr
  generalize ix p zDuty l = r at hcon ⊢
  have HC := Aside0.mk hcon
  clear hcon hr hp eg
  go_enter Try.func22, Try.ntmps22
  go_wp2_with (fail)
  refine HC.out.mono ?_
  rintro e w' ⟨rfl, hb⟩
  go_wp2
  go_ret
  exact ⟨rfl, hb⟩

theorem sends_1 (id : Int) (X : Nat) (w : World) (hB : X < w.heap.size) (hc : w.cell? ⟨X, 5, none⟩ = some (.int .i64 id)) :
    PredHolding 21 #[.pointer (some ⟨X, 0, none⟩)] (fun f => f.f0 == id) w := fun W x A c hb _ _ => by
  have hc' : W.cell? ⟨X, 5, none⟩ = some (.int .i64 id) := (hb.cell (p := ⟨X, 5, none⟩) hB).trans hc
  have hB' : X < W.heap.size := Nat.lt_of_lt_of_le hB hb.size
  clear hc
  show Calls Try.prog 21 #[.agg #[.int .i64 x.f0, .int .i64 x.f1, .slice A x.f2.length c], .pointer (some ⟨X, 0, none⟩)] W _
  have hne := World.new_ne W _ hc'
  simp only at hne
  go_enter Try.func21, Try.ntmps21
  go_wp2
  go_ret
  exact ⟨rfl, (Below.refl _ _).alloc (Nat.le_refl _) _⟩

/-- The cell in the intent's box. -/
def BoxCell (X : Nat) (xc : SCell) (w : World) : Prop := X < w.heap.size ∧ w.cell? ⟨X, 1, none⟩ = some (.int .i64 xc.f0) ∧ w.cell? ⟨X, 2, none⟩ = some (.int .i64 xc.f1) ∧ w.cell? ⟨X, 3, none⟩ = some (.int .i64 xc.f2) ∧ w.cell? ⟨X, 4, none⟩ = some (.int .i64 xc.f3) ∧ w.cell? ⟨X, 5, none⟩ = some (.int .i64 xc.f4)
theorem BoxCell.below {X : Nat} {xc : SCell} {w W : World} (h : BoxCell X xc w) (hb : Below w.heap.size w W) : BoxCell X xc W := by
  obtain ⟨h0, h1, h2, h3, h4, h5⟩ := h
  exact ⟨Nat.lt_of_lt_of_le h0 hb.size, (hb.cell (p := ⟨X, 1, none⟩) h0).trans h1, (hb.cell (p := ⟨X, 2, none⟩) h0).trans h2, (hb.cell (p := ⟨X, 3, none⟩) h0).trans h3, (hb.cell (p := ⟨X, 4, none⟩) h0).trans h4, (hb.cell (p := ⟨X, 5, none⟩) h0).trans h5⟩

set_option maxHeartbeats 1000000 in
theorem sends_2 (xc : SCell) (X : Nat) (w : World) (hX : BoxCell X xc w) :
    PredDuty 23 #[.pointer (some ⟨X, 0, none⟩)] (fun y => y.f1 && cellB y.f0 xc) w := fun W x hb => by
  obtain ⟨hB, h1, h2, h3, h4, h5⟩ := hX.below hb
  obtain ⟨x0, x1, x2, x3, x4⟩ := xc
  obtain ⟨⟨y0, y1, y2, y3, y4⟩, s, t, f, u⟩ := x
  simp only at h1 h2 h3 h4 h5
  have hne := World.new_ne W _ h1
  simp only at hne
  clear hX hb
  cases s with
  | false =>
    show Calls Try.prog 23 #[.agg #[.int .i64 y0, .int .i64 y1, .int .i64 y2, .int .i64 y3, .int .i64 y4, .bool false, .bool t, .int .i64 f, .int .i64 u], .pointer (some ⟨X, 0, none⟩)] W _
    go_enter Try.func23, Try.ntmps23
    go_wp2
    go_ret
    exact ⟨rfl, (Below.refl _ _).alloc (Nat.le_refl _) _⟩
  | true =>
    show Calls Try.prog 23 #[.agg #[.int .i64 y0, .int .i64 y1, .int .i64 y2, .int .i64 y3, .int .i64 y4, .bool true, .bool t, .int .i64 f, .int .i64 u], .pointer (some ⟨X, 0, none⟩)] W _
    go_enter Try.func23, Try.ntmps23
    go_wp2
    all_goals
      go_ret
      refine ⟨?_, (Below.refl _ _).alloc (Nat.le_refl _) _⟩
      simp [cellB, *]
set_option maxHeartbeats 1000000 in
theorem sends_3 (xc : SCell) (X : Nat) (w : World) (hX : BoxCell X xc w) :
    PredDuty 26 #[.pointer (some ⟨X, 0, none⟩)] (fun y => !y.f1 && cellB y.f0 xc) w := fun W x hb => by
  obtain ⟨hB, h1, h2, h3, h4, h5⟩ := hX.below hb
  obtain ⟨x0, x1, x2, x3, x4⟩ := xc
  obtain ⟨⟨y0, y1, y2, y3, y4⟩, s, t, f, u⟩ := x
  simp only at h1 h2 h3 h4 h5
  have hne := World.new_ne W _ h1
  simp only at hne
  clear hX hb
  cases s with
  | true =>
    show Calls Try.prog 26 #[.agg #[.int .i64 y0, .int .i64 y1, .int .i64 y2, .int .i64 y3, .int .i64 y4, .bool true, .bool t, .int .i64 f, .int .i64 u], .pointer (some ⟨X, 0, none⟩)] W _
    go_enter Try.func26, Try.ntmps26
    go_wp2
    go_ret
    exact ⟨rfl, (Below.refl _ _).alloc (Nat.le_refl _) _⟩
  | false =>
    show Calls Try.prog 26 #[.agg #[.int .i64 y0, .int .i64 y1, .int .i64 y2, .int .i64 y3, .int .i64 y4, .bool false, .bool t, .int .i64 f, .int .i64 u], .pointer (some ⟨X, 0, none⟩)] W _
    go_enter Try.func26, Try.ntmps26
    go_wp2
    all_goals
      go_ret
      refine ⟨?_, (Below.refl _ _).alloc (Nat.le_refl _) _⟩
      simp [cellB, *]
theorem sends_4 (w : World) : PredDuty 27 #[] (fun y => !y.f1) w := fun W x hb => by
  obtain ⟨⟨y0, y1, y2, y3, y4⟩, s, t, f, u⟩ := x
  show Calls Try.prog 27 #[.agg #[.int .i64 y0, .int .i64 y1, .int .i64 y2, .int .i64 y3, .int .i64 y4, .bool s, .bool t, .int .i64 f, .int .i64 u]] W _
  go_enter Try.func27, Try.ntmps27
  go_wp2
  go_ret
  exact ⟨rfl, (Below.refl _ _).alloc (Nat.le_refl _) _⟩
end Go.Proofs.Ytjgkalppjfmkoaa
