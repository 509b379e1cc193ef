/- slices.Clone at flows and at ints. -/
import Derived.Test.YtjgkalppjfmkoaaAwake1
import Derived.Lib.SliceRun
namespace Go.Proofs.Ytjgkalppjfmkoaa
open Go.RowKit Go.Shelf Go.Proofs.YtjgkalppjfmkoaaW.PrintWords
set_option linter.unusedVariables false
set_option linter.unusedSimpArgs false

theorem R_empty {α : Type} (d : Kd α) (e : TypeId) {W : World} {base g : Nat} (hb : base ≤ g) (hh : W.heap[g]? = some (.cells #[] e (0, 0))) : d.R e W base (fun _ => True) (.slice (some ⟨g, 0, none⟩) 0 0) [] :=
  ⟨fun _ _ => trivial, [], ⟨by simp, .inr ⟨g, 0, #[], rfl, hb, hh, Nat.le_refl _, by decide, by simp, by simp⟩⟩, Reps.none _ _⟩
theorem C_nil {α : Type} {d : Kd α} {w : World} {n : Nat} {xs : List α} (h : d.C w none n xs) : xs = [] := by
  obtain ⟨h1, _, h2⟩ := h
  by_cases hx : xs = []
  · exact hx
  · have : 0 < n := by rw [← h1]; exact List.length_pos_iff.2 hx
    obtain ⟨_, h3, _⟩ := h2 this
    cases h3

/-- A row of the call's own. -/
def OwnRowPost {α : Type} (d : Kd α) (e0 : TypeId) (w : World) (l : List α) (e : Ending) (w' : World) : Prop := ∃ v, e = .returned v ∧ d.R e0 w' w.heap.size (fun _ => True) v l ∧ Below w.heap.size w w'

set_option maxRecDepth 100000 in
set_option maxHeartbeats 1000000 in
theorem Clone_flow (A : Option Addr) (c : Nat) (l : List SFlow) (w : World) (hr : Kd.C kFlow w A l.length l) (hl : l.length * 48 ≤ 140737488355328) :
    Calls Try.prog 10 #[.slice A l.length c] w (OwnRowPost kFlow 33 w l) := by
  cases A with
  | none =>
    obtain rfl := C_nil hr
    clear hl
    have heq := fun W : World => Lib.run_eql_slice_nil (P := Try.prog) W 22 33 none 0 c 0 0 Try.underlying22
    go_enter Try.func10, Try.ntmps10
    go_wp2
    go_ret
    exact ⟨_, rfl, Kd.R_nil _ _ _ _ _, Below.refl _ _⟩
  | some ad =>
    have hM : ReadsRow (kFlow.M (w.alloc (.cells #[] 33)) w.heap.size (fun _ => False)) 6 (w.alloc (.cells #[] 33)) (some ad) l.length l := ReadsRow.imp_ hr (below_alloc (Below.refl _ _) _) (fun x cs hK => by obtain rfl := kFlow_open hK; exact kFlow_mkM _ _ _ _)
    have HM := Aside0.mk hM
    have HL := Aside0.mk hl
    have HB := Aside0.mk (below_alloc (Below.refl w.heap.size w) (.cells #[] 33))
    have HR := Aside0.mk (R_empty kFlow 33 (W := w.alloc (.cells #[] 33)) (base := w.heap.size) (Nat.le_refl _) (blk_new w _))
    clear hr hM hl
    have heq := fun W : World => Lib.run_eql_slice_nil (P := Try.prog) W 22 33 (some ad) l.length c 0 0 Try.underlying22
    go_enter Try.func10, Try.ntmps10
    go_wp2_with (at_builtin; refine Kd.R_append_rows kFlow (w0 := w) w.heap.size rfl (.tmp 5) (.tmp 6) 22 33 (.agg #[.int .i64 0, .int .i64 0, .int .i64 0, .int .i64 0, .int .i64 0, .int .i64 0]) 48 rfl Try.underlying22 info_Flow rfl (by decide) (by decide) _ [] l _ l.length c (fun _ => True) (fun _ => False) rfl rfl HR.out HM.out (fun x c hx => hx) (fun k hk => hk.elim) (fun _ _ => trivial) HB.out ?c1 ?c2 ?c3)
    case c1 => simp
    case c2 => have := HL.out; simpa using this
    all_goals
      intro v1 w1 hR1 hb1 hg1 hat1
      have HR1 := Aside0.mk hR1
      have HB1 := Aside0.mk hb1
      clear hR1 hg1 hat1 hb1
      go_wp2
      go_ret
      exact ⟨v1, rfl, HR1.out, HB1.out⟩

set_option maxRecDepth 100000 in
set_option maxHeartbeats 1000000 in
theorem Clone_int (A : Option Addr) (c : Nat) (l : List Int) (w : World) (hr : (Kd.int .i64).C w A l.length l) (hl : l.length * 8 ≤ 140737488355328) :
    Calls Try.prog 34 #[.slice A l.length c] w (OwnRowPost (Kd.int .i64) 3 w l) := by
  cases A with
  | none =>
    obtain rfl := C_nil hr
    clear hl
    have heq := fun W : World => Lib.run_eql_slice_nil (P := Try.prog) W 43 3 none 0 c 0 0 Try.underlying43
    go_enter Try.func34, Try.ntmps34
    go_wp2
    go_ret
    exact ⟨_, rfl, Kd.R_nil _ _ _ _ _, Below.refl _ _⟩
  | some ad =>
    have hM : ReadsRow ((Kd.int .i64).M (w.alloc (.cells #[] 3)) w.heap.size (fun _ => False)) 1 (w.alloc (.cells #[] 3)) (some ad) l.length l := ReadsRow.imp_ hr (below_alloc (Below.refl _ _) _) (fun x cs hK => hK)
    have HM := Aside0.mk hM
    have HL := Aside0.mk hl
    have HB := Aside0.mk (below_alloc (Below.refl w.heap.size w) (.cells #[] 3))
    have HR := Aside0.mk (R_empty (Kd.int .i64) 3 (W := w.alloc (.cells #[] 3)) (base := w.heap.size) (Nat.le_refl _) (blk_new w _))
    clear hr hM hl
    have heq := fun W : World => Lib.run_eql_slice_nil (P := Try.prog) W 43 3 (some ad) l.length c 0 0 Try.underlying43
    go_enter Try.func34, Try.ntmps34
    go_wp2_with (at_builtin; refine Kd.R_append_rows (Kd.int .i64) (w0 := w) w.heap.size rfl (.tmp 5) (.tmp 6) 43 3 (.int .i64 0) 8 rfl Try.underlying43 info_i64 rfl (by decide) (by decide) _ [] l _ l.length c (fun _ => True) (fun _ => False) rfl rfl HR.out HM.out (fun x c hx => hx) (fun k hk => hk.elim) (fun _ _ => trivial) HB.out ?c1 ?c2 ?c3)
    case c1 => simp
    case c2 => have := HL.out; simpa using this
    all_goals
      intro v1 w1 hR1 hb1 hg1 hat1
      have HR1 := Aside0.mk hR1
      have HB1 := Aside0.mk hb1
      clear hR1 hg1 hat1 hb1
      go_wp2
      go_ret
      exact ⟨v1, rfl, HR1.out, HB1.out⟩
end Go.Proofs.Ytjgkalppjfmkoaa
