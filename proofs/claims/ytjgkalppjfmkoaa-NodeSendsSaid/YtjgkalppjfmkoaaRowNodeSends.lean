/- The given row NodeSends: the law returns true, whatever the input, and the input reads as it did. -/
import Derived.Test.YtjgkalppjfmkoaaRows
import Derived.Test.YtjgkalppjfmkoaaLaw4
import Derived.Test.YtjgkalppjfmkoaaArgs
import Derived.WalkKit
import Derived.ProofKit
import Derived.OpenShut
import Derived.ShutString
import Derived.ChangeOld
import Derived.Below
import Derived.SizedLaws
import Derived.Lib.SmallJoins
namespace Go.Proofs.Ytjgkalppjfmkoaa
open Go.ChangeShapes Go.WideShapes Go.ChangeAt Go.RowKit Go.Proofs.YtjgkalppjfmkoaaW.PrintWords
open Go.ChangeMaps (open_string shut_string)
set_option linter.unusedVariables false
set_option linter.unusedSimpArgs false
theorem own_nodeSends : ownKnob Try.prog.godebug = none := by kernel_rfl
theorem laidOut_nodeSends : laidOutB Try.prog = true := by kernel_rfl
set_option maxRecDepth 100000 in
theorem lifted_nodeSends (os : Os) (started : os.Started) (H : Type) (enc : TypeId × Value → H) :
    ReturnsInHanded {} Try.checked os 6 .any (Rows.nodeSendsSpec.pre6 enc Try.prog Try.f6 Rows.nodeSendsRow.domain false) (Rows.nodeSendsSpec.post enc Try.prog Try.f6 false true false false) := by
  refine returnsInHanded_of_change_sized (C := Try.checked) own_nodeSends started (by kernel_rfl) Try.func6
    (ChangeSpec.witness6 (enc := enc) (C := Try.checked) false ⟨#[], #[.slice none 0 0, .slice none 0 0, .int .i64 0, .int .i64 0, .slice none 0 0], []⟩ 8 (by kernel_rfl) (by kernel_rfl) (by kernel_rfl) (by kernel_rfl)) ?_
  intro W base args ds gs before hval0 hW hcnd hsz0 _
  have hsz : (DataW.weightsEach Try.prog (Try.f6.params.toList ++ Rows.nodeSendsSpec.plain.varTypes Try.prog) (ds ++ gs)).all (· ≤ reachBytes) = true := hsz0
  have hval : ∀ (j : Nat) t v, Try.f6.params[j]? = some t → args[j]? = some v → Value.okWide Try.prog W .any base t v := hval0
  have hW' := hW
  obtain ⟨p, q, hA0, hV, rfl, hfz, hnd⟩ := hW
  have hA : DataW.TrodAll enc Try.prog W 0 (fun _ => true) true Try.f6.params.toList args.toList ds p := hA0
  rw [Try.params6] at hA hval hsz
  obtain ⟨v0, vs0, d0, ds0, p0, q0, hargs, rfl, rfl, h0, r0⟩ := trodAll_cons hA
  obtain ⟨v1, vs1, d1, ds1, p1, q1, rfl, rfl, rfl, h1, r1⟩ := trodAll_cons r0
  obtain ⟨v2, vs2, d2, ds2, p2, q2, rfl, rfl, rfl, h2, r2⟩ := trodAll_cons r1
  obtain ⟨v3, vs3, d3, ds3, p3, q3, rfl, rfl, rfl, h3, r3⟩ := trodAll_cons r2
  obtain ⟨v4, vs4, d4, ds4, p4, q4, rfl, rfl, rfl, h4, r4⟩ := trodAll_cons r3
  obtain ⟨rfl, rfl, rfl⟩ := trodAll_nil r4
  obtain rfl : args = #[v0, v1, v2, v3, v4] := by cases args; simp_all
  obtain ⟨rfl, rfl⟩ := trodVars_none hV
  have lt0 : ∀ x ∈ p0, x.block < W.heap.size := by obtain ⟨m, hm⟩ := h0; exact DataW.trod_lt m _ _ _ hm
  obtain ⟨x0, hx0, hg0⟩ := op22.arg h0 (weights_arg hsz (j := 0) (t := 22) rfl rfl)
  obtain ⟨A0, len0, K0, rfl⟩ := okWide_slice Try.underlying22 (hval 0 22 v0 rfl rfl)
  obtain ⟨B0, L0, e0, hK0, hC0⟩ := hx0
  simp [Value.cells] at e0
  obtain ⟨rfl, rfl, rfl⟩ := e0
  have lt1 : ∀ x ∈ p1, x.block < W.heap.size := by obtain ⟨m, hm⟩ := h1; exact DataW.trod_lt m _ _ _ hm
  obtain ⟨x1, hx1, hg1⟩ := op54.arg h1 (weights_arg hsz (j := 1) (t := 54) rfl rfl)
  obtain ⟨A1, len1, K1, rfl⟩ := okWide_slice Try.underlying54 (hval 1 54 v1 rfl rfl)
  obtain ⟨B1, L1, e1, hK1, hC1⟩ := hx1
  simp [Value.cells] at e1
  obtain ⟨rfl, rfl, rfl⟩ := e1
  have lt2 : ∀ x ∈ p2, x.block < W.heap.size := by obtain ⟨m, hm⟩ := h2; exact DataW.trod_lt m _ _ _ hm
  obtain ⟨x2, hx2, hg2⟩ := op3.arg h2 (weights_arg hsz (j := 2) (t := 3) rfl rfl)
  obtain ⟨y2, rfl, _⟩ : ∃ y, v2 = .int .i64 y ∧ True := by obtain ⟨z, hz, _⟩ := open_int Try.underlying3 (hval 2 3 v2 rfl rfl) h2; exact ⟨z, hz, trivial⟩
  obtain rfl : x2 = y2 := by have hz : (Value.int .i64 y2).cells.toList = [.int .i64 x2] := hx2; exact (by simpa [Value.cells] using hz : _ = _).symm
  have lt3 : ∀ x ∈ p3, x.block < W.heap.size := by obtain ⟨m, hm⟩ := h3; exact DataW.trod_lt m _ _ _ hm
  obtain ⟨x3, hx3, hg3⟩ := op3.arg h3 (weights_arg hsz (j := 3) (t := 3) rfl rfl)
  obtain ⟨y3, rfl, _⟩ : ∃ y, v3 = .int .i64 y ∧ True := by obtain ⟨z, hz, _⟩ := open_int Try.underlying3 (hval 3 3 v3 rfl rfl) h3; exact ⟨z, hz, trivial⟩
  obtain rfl : x3 = y3 := by have hz : (Value.int .i64 y3).cells.toList = [.int .i64 x3] := hx3; exact (by simpa [Value.cells] using hz : _ = _).symm
  have lt4 : ∀ x ∈ p4, x.block < W.heap.size := by obtain ⟨m, hm⟩ := h4; exact DataW.trod_lt m _ _ _ hm
  obtain ⟨x4, hx4, hg4⟩ := op23.arg h4 (weights_arg hsz (j := 4) (t := 23) rfl rfl)
  obtain ⟨A4, len4, K4, rfl⟩ := okWide_slice Try.underlying23 (hval 4 23 v4 rfl rfl)
  obtain ⟨B4, L4, e4, hK4, hC4⟩ := hx4
  simp [Value.cells] at e4
  obtain ⟨rfl, rfl, rfl⟩ := e4
  clear hA0 hval0 hsz0 hsz
  refine (law_NodeSends A0 A1 A4 K0 K1 K4 x0 x1 x2 x3 x4 W hC0 hC1 hC4).mono fun e W' ⟨he, bel⟩ => ?_
  subst he
  exact ⟨_, rfl, _, _, _, [], _, [], hW', trodAll_mk1 (shut_bool Try.underlying4 _), (trodAll_cons_mk (Below.trod laidOut_nodeSends (by kernel_rfl) (of_decide_eq_true (by kernel_rfl)) h0 bel lt0) (trodAll_cons_mk (Below.trod laidOut_nodeSends (by kernel_rfl) (of_decide_eq_true (by kernel_rfl)) h1 bel lt1) (trodAll_cons_mk (Below.trod laidOut_nodeSends (by kernel_rfl) (of_decide_eq_true (by kernel_rfl)) h2 bel lt2) (trodAll_cons_mk (Below.trod laidOut_nodeSends (by kernel_rfl) (of_decide_eq_true (by kernel_rfl)) h3 bel lt3) (trodAll_cons_mk (Below.trod laidOut_nodeSends (by kernel_rfl) (of_decide_eq_true (by kernel_rfl)) h4 bel lt4) trodAll_mk0))))), rfl, bel.frame _, fun h => by cases h⟩
theorem over_nodeSends : Rows.nodeSendsRow.holds Try.pinned (OpenSpec.ofChange Rows.nodeSendsSpec) :=
  OpenClaim.holds_of_wide 6 Try.f6 rfl rfl rfl rfl rfl rfl rfl ⟨rfl, rfl, rfl, rfl, rfl⟩ rfl rfl rfl rfl rfl (by kernel_rfl) Try.func6 (by kernel_rfl)
    (of_decide_eq_true (by kernel_rfl)) (by unfold Func.isWrapper; first | (rw [if_pos (by decide +kernel)]; kernel_rfl) | (rw [if_neg (by decide +kernel)]; exact ⟨rfl, rfl⟩))
    (fun os started H enc _ => lifted_nodeSends os started H enc)
/-- The row, under a short name, for the claim. -/
theorem nodeSends_holds : Rows.NodeSendsSaid := over_nodeSends
#print axioms nodeSends_holds
end Go.Proofs.Ytjgkalppjfmkoaa
