/- The events of an argument are within their kinds. -/
import Derived.Test.YtjgkalppjfmkoaaLaw3
namespace Go.Proofs.Ytjgkalppjfmkoaa
open Go.RowKit Go.Proofs.YtjgkalppjfmkoaaW.PrintWords
theorem wf_u8 {a : Int} (h : (Lit.int .u8 a).wf = true) : 0 ≤ a ∧ a ≤ 255 := by
  unfold Lit.wf at h
  simp only [Bool.and_eq_true, decide_eq_true_eq] at h
  have e1 : IntKind.min .u8 = 0 := by decide
  have e2 : IntKind.max .u8 = 255 := by decide
  omega
theorem ev_ok {ev : List SEvent} (h : ∀ x ∈ ev, (Lit.int .u8 x.f0).wf = true ∧ (Lit.int .u8 x.f1).wf = true ∧ (Lit.int .u8 x.f2).wf = true) : EvOk ev := fun k => by
  by_cases hk : k < ev.length
  · obtain ⟨h0, h1, h2⟩ := h _ (getD_mem (z := zEvent) hk)
    have := wf_u8 h0
    have := wf_u8 h1
    have := wf_u8 h2
    omega
  · rw [List.getD_eq_getElem?_getD, List.getElem?_eq_none (by omega)]
    simp [zEvent]
end Go.Proofs.Ytjgkalppjfmkoaa
