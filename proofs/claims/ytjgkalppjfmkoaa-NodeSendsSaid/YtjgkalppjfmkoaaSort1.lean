/- The comparison that switchover.At hands to the sort: what it computes, in whatever world. -/
import Derived.Test.YtjgkalppjfmkoaaAwake2
import Derived.Shelf.SlSortCmp.KitK
import Derived.Sort.WalkB2
import Derived.Sort.WalkB12
namespace Go.Proofs.Ytjgkalppjfmkoaa
open Go.RowKit Go.Shelf Go.Lib Go.Sort Go.Proofs.YtjgkalppjfmkoaaW.PrintWords
set_option linter.unusedVariables false
set_option linter.unusedSimpArgs false

instance dutyInhabited : Inhabited SDuty := ⟨zDuty⟩
/-- A duty's cells. -/
def dutyL (x : SDuty) : List Value := [.int .i64 x.f0.f0, .int .i64 x.f0.f1, .int .i64 x.f0.f2, .int .i64 x.f0.f3, .int .i64 x.f0.f4, .bool x.f1, .bool x.f2, .int .i64 x.f3, .int .i64 x.f4]
def laterI (x : SDuty) : Int := if x.f2 = true then 1 else 0
def turnI (x : SDuty) : Int := if x.f1 = true then -1 else laterI x

theorem sw_later (x : SDuty) (W : World) : Calls Try.prog 49 #[.agg (dutyL x).toArray] W fun e w' => e = .returned (.int .i64 (laterI x)) ∧ ∃ q os', w' = grow (W.drewN q) os' := by
  obtain ⟨⟨a0, a1, a2, a3, a4⟩, s, l, f, u⟩ := x
  unfold laterI
  show Calls Try.prog 49 #[.agg #[.int .i64 a0, .int .i64 a1, .int .i64 a2, .int .i64 a3, .int .i64 a4, .bool s, .bool l, .int .i64 f, .int .i64 u]] W _
  cases l with
  | true =>
    go_enter Try.func49, Try.ntmps49
    go_wp2
    go_ret
    exact ⟨rfl, 0, _, by rw [alloc_eq_grow]; rfl⟩
  | false =>
    go_enter Try.func49, Try.ntmps49
    go_wp2
    go_ret
    exact ⟨rfl, 0, _, by rw [alloc_eq_grow]; rfl⟩
theorem sw_turn (x : SDuty) (W : World) : Calls Try.prog 48 #[.agg (dutyL x).toArray] W fun e w' => e = .returned (.int .i64 (turnI x)) ∧ ∃ q os', w' = grow (W.drewN q) os' := by
  obtain ⟨⟨a0, a1, a2, a3, a4⟩, s, l, f, u⟩ := x
  have hcon := fun W' => sw_later ⟨⟨a0, a1, a2, a3, a4⟩, s, l, f, u⟩ W'
  have HC := Aside0.mk hcon
  unfold turnI
  show Calls Try.prog 48 #[.agg #[.int .i64 a0, .int .i64 a1, .int .i64 a2, .int .i64 a3, .int .i64 a4, .bool s, .bool l, .int .i64 f, .int .i64 u]] W _
  clear hcon
  cases s with
  | true =>
    go_enter Try.func48, Try.ntmps48
    go_wp2
    go_ret
    exact ⟨rfl, 0, _, by rw [alloc_eq_grow]; rfl⟩
  | false =>
    go_enter Try.func48, Try.ntmps48
    go_wp2_with (fail)
    refine (HC.out _).mono ?_
    rintro e w' ⟨rfl, q, os', rfl⟩
    go_wp2
    go_ret
    exact ⟨rfl, q, _, by rw [alloc_eq_grow]; show grow (grow (W.drewN q) _) os' = _; rw [grow_grow]⟩
def turnC (x y : SDuty) : Int := turnI x - turnI y
theorem turnI_b (x : SDuty) : -1 ≤ turnI x ∧ turnI x ≤ 1 := by
  unfold turnI laterI
  split
  · omega
  · split <;> omega

set_option maxRecDepth 100000 in
set_option maxHeartbeats 4000000 in
theorem sw_cmp (x y : SDuty) (bT : Nat) (W : World) (hlt : bT < W.heap.size) (hc : W.cell? ⟨bT, 0, none⟩ = some (.func (.func 48) #[] #[])) :
    Calls Try.prog 51 (#[.agg (dutyL x).toArray, .agg (dutyL y).toArray] ++ #[.pointer (some ⟨bT, 0, none⟩)]) W fun e w' => e = .returned (.int .i64 (turnC x y)) ∧ ∃ q os', w' = grow (W.drewN q) os' := by
  have eg : ∀ args w, (callFunc 48 args).run Try.prog w = .ok (.enter 48 args) w := enters_of Try.func48 (by kernel_rfl) rfl
  have hx := turnI_b x
  have hy := turnI_b y
  have H1 := Aside0.mk (fun W' => sw_turn x W')
  have H2 := Aside0.mk (fun W' => sw_turn y W')
  unfold turnC
  generalize turnI x = tx at *
  generalize turnI y = ty at *
  have hsub : IntKind.i64.wrap (tx - ty) = tx - ty := IntWalk.i64_in _ (by omega)
  obtain ⟨⟨a0, a1, a2, a3, a4⟩, s, l, f, u⟩ := x
  obtain ⟨⟨c0, c1, c2, c3, c4⟩, t, m, g, v⟩ := y
  obtain ⟨W1, hW1⟩ : ∃ W1, W1 = (W.alloc (.cells #[.int .i64 a0, .int .i64 a1, .int .i64 a2, .int .i64 a3, .int .i64 a4, .bool s, .bool l, .int .i64 f, .int .i64 u] 63)).alloc (.cells #[.int .i64 c0, .int .i64 c1, .int .i64 c2, .int .i64 c3, .int .i64 c4, .bool t, .bool m, .int .i64 g, .int .i64 v] 63) := ⟨_, rfl⟩
  have hz : W1.heap.size = W.heap.size + 2 := by rw [hW1]; simp
  have k1 := blk9 (show W1.heap[W.heap.size]? = some (.cells #[.int .i64 a0, .int .i64 a1, .int .i64 a2, .int .i64 a3, .int .i64 a4, .bool s, .bool l, .int .i64 f, .int .i64 u] 63 (0, 0)) by rw [hW1]; exact blk_alloc (blk_new W _) _)
  have k2 := blk9 (show W1.heap[W.heap.size + 1]? = some (.cells #[.int .i64 c0, .int .i64 c1, .int .i64 c2, .int .i64 c3, .int .i64 c4, .bool t, .bool m, .int .i64 g, .int .i64 v] 63 (0, 0)) by rw [hW1]; exact blk_new_at (by simp))
  obtain ⟨p0, p1, p2, p3, p4, p5, p6, p7, p8⟩ := k1
  obtain ⟨q0, q1, q2, q3, q4, q5, q6, q7, q8⟩ := k2
  have hct : W1.cell? ⟨bT, 0, none⟩ = some (.func (.func 48) #[] #[]) := by
    rw [hW1]
    exact lat_cell hc ⟨_, below_alloc (below_alloc (Below.refl _ _) _) _⟩
  have r0 := cell_grown (w := W1) (a := ⟨W.heap.size, 0, none⟩) (by simp only; omega) p0
  have r1 := cell_grown (w := W1) (a := ⟨W.heap.size, 1, none⟩) (by simp only; omega) p1
  have r2 := cell_grown (w := W1) (a := ⟨W.heap.size, 2, none⟩) (by simp only; omega) p2
  have r3 := cell_grown (w := W1) (a := ⟨W.heap.size, 3, none⟩) (by simp only; omega) p3
  have r4 := cell_grown (w := W1) (a := ⟨W.heap.size, 4, none⟩) (by simp only; omega) p4
  have r5 := cell_grown (w := W1) (a := ⟨W.heap.size, 5, none⟩) (by simp only; omega) p5
  have r6 := cell_grown (w := W1) (a := ⟨W.heap.size, 6, none⟩) (by simp only; omega) p6
  have r7 := cell_grown (w := W1) (a := ⟨W.heap.size, 7, none⟩) (by simp only; omega) p7
  have r8 := cell_grown (w := W1) (a := ⟨W.heap.size, 8, none⟩) (by simp only; omega) p8
  have s0 := cell_grown (w := W1) (a := ⟨W.heap.size + 1, 0, none⟩) (by simp only; omega) q0
  have s1 := cell_grown (w := W1) (a := ⟨W.heap.size + 1, 1, none⟩) (by simp only; omega) q1
  have s2 := cell_grown (w := W1) (a := ⟨W.heap.size + 1, 2, none⟩) (by simp only; omega) q2
  have s3 := cell_grown (w := W1) (a := ⟨W.heap.size + 1, 3, none⟩) (by simp only; omega) q3
  have s4 := cell_grown (w := W1) (a := ⟨W.heap.size + 1, 4, none⟩) (by simp only; omega) q4
  have s5 := cell_grown (w := W1) (a := ⟨W.heap.size + 1, 5, none⟩) (by simp only; omega) q5
  have s6 := cell_grown (w := W1) (a := ⟨W.heap.size + 1, 6, none⟩) (by simp only; omega) q6
  have s7 := cell_grown (w := W1) (a := ⟨W.heap.size + 1, 7, none⟩) (by simp only; omega) q7
  have s8 := cell_grown (w := W1) (a := ⟨W.heap.size + 1, 8, none⟩) (by simp only; omega) q8
  have rt := cell_grown (w := W1) (a := ⟨bT, 0, none⟩) (by simp only; omega) hct
  have HW := Aside0.mk (show W1 = grow W #[.cells #[.int .i64 a0, .int .i64 a1, .int .i64 a2, .int .i64 a3, .int .i64 a4, .bool s, .bool l, .int .i64 f, .int .i64 u] 63, .cells #[.int .i64 c0, .int .i64 c1, .int .i64 c2, .int .i64 c3, .int .i64 c4, .bool t, .bool m, .int .i64 g, .int .i64 v] 63] by rw [hW1, alloc_eq_grow, alloc_eq_grow, grow_grow]; rfl)
  have HW1 := Aside0.mk hW1
  show Calls Try.prog 51 #[.agg #[.int .i64 a0, .int .i64 a1, .int .i64 a2, .int .i64 a3, .int .i64 a4, .bool s, .bool l, .int .i64 f, .int .i64 u], .agg #[.int .i64 c0, .int .i64 c1, .int .i64 c2, .int .i64 c3, .int .i64 c4, .bool t, .bool m, .int .i64 g, .int .i64 v], .pointer (some ⟨bT, 0, none⟩)] W _
  clear hc hct p0 p1 p2 p3 p4 p5 p6 p7 p8 q0 q1 q2 q3 q4 q5 q6 q7 q8 hz hlt
  go_enter Try.func51, Try.ntmps51
  go_wp2_with (fail)
  rw [← hW1]
  clear hW1
  refine wp_region_quiet_grown (by kernel_rfl) (by kernel_rfl) ?_
  repeat (go_big_quiet_step (first | (go_at_fn 48; refine Calls.grown_of (H1.out _)) | (go_at_fn 48; refine Calls.grown_of (H2.out _))))
  refine wpQuiet_nil ?_
  intro wq hw'
  obtain ⟨⟨nq, osq⟩, rfl⟩ := hw'
  go_wp2
  go_ret
  exact ⟨rfl, nq, _, by rw [HW.out]; show grow (grow (W.drewN nq) _) osq = _; rw [grow_grow]⟩
end Go.Proofs.Ytjgkalppjfmkoaa
