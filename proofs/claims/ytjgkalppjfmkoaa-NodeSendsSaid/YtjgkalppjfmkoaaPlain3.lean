/- Plain: what Begin leaves is small. -/
import Derived.Test.YtjgkalppjfmkoaaPlain2
namespace Go.Proofs.Ytjgkalppjfmkoaa
open Go.RowKit Go.Shelf Go.Proofs.YtjgkalppjfmkoaaW.PrintWords
set_option linter.unusedVariables false
set_option linter.unusedSimpArgs false

theorem ackGo_all (a : List Int) : ∀ (d k : Nat), ackGo a d k = true → ∀ j, k ≤ j → j < k + d → 0 ≤ a.getD j 0 ∧ a.getD j 0 < 32 ∧ (0 < j → a.getD (j - 1) 0 < a.getD j 0)
  | 0, k, _, j, h1, h2 => by omega
  | d + 1, k, h, j, h1, h2 => by
    unfold ackGo at h
    split at h
    · cases h
    · rename_i hb
      by_cases e : j = k
      · subst e
        unfold ackBad at hb
        simp only [Bool.or_eq_true, Bool.and_eq_true, decide_eq_true_eq, not_or, not_and, Int.not_le] at hb
        exact ⟨by omega, by omega, fun h0 => hb.2 h0⟩
      · exact ackGo_all a d (k + 1) h j (by omega) (by omega)
theorem ack_ge (a : List Int) (h : ackGo a a.length 0 = true) : ∀ j, j < a.length → (j : Int) ≤ a.getD j 0
  | 0, hj => by have := ackGo_all a _ 0 h 0 (Nat.le_refl _) (by omega); omega
  | j + 1, hj => by
    have h1 := ack_ge a h j (by omega)
    have h2 := (ackGo_all a _ 0 h (j + 1) (Nat.zero_le _) (by omega)).2.2 (by omega)
    rw [Nat.add_sub_cancel] at h2
    omega
theorem ack_len (a : List Int) (h : ackGo a a.length 0 = true) : a.length ≤ 32 := by
  rcases Nat.eq_zero_or_pos a.length with h0 | h0
  · omega
  · have h1 := ack_ge a h (a.length - 1) (by omega)
    have h2 := ackGo_all a _ 0 h (a.length - 1) (Nat.zero_le _) (by omega)
    omega
theorem inc_ge {l : List SHolding} (hl : Inc l) (h0 : ∀ x ∈ l, 0 ≤ x.f0) : ∀ j, j < l.length → (j : Int) ≤ (l.getD j zHolding).f0
  | 0, hj => by have := h0 _ (getD_mem (z := zHolding) hj); omega
  | j + 1, hj => by
    have h1 := inc_ge hl h0 j (by omega)
    have h2 := hl j hj
    omega
theorem Good.id {flows : List SFlow} {slot : Int} {h : SHolding} (hf : (fck 32 flows).2 = 0) (hg : Good flows slot h) : 0 ≤ h.f0 ∧ h.f0 ≤ 255 := by
  obtain ⟨⟨f, hm, he, _⟩, _⟩ := hg
  have := fchk_ok (fck_mem hf hm)
  omega
theorem Begun.small {flows : List SFlow} {me slot : Int} {out : List SHolding} (h : Begun flows me slot out) : out.length ≤ 256 ∧ ∀ x ∈ out, x.f2.length ≤ 32 := by
  refine ⟨?_, fun x hx => ack_len _ (h.good x hx).2⟩
  rcases Nat.eq_zero_or_pos out.length with h0 | h0
  · omega
  · have h1 := inc_ge h.inc (fun x hx => ((h.good x hx).id h.fl).1) (out.length - 1) (by omega)
    have h2 := (h.good _ (getD_mem (z := zHolding) (show out.length - 1 < out.length by omega))).id h.fl
    omega
theorem Begun.sized {flows : List SFlow} {me slot : Int} {out : List SHolding} (h : Begun flows me slot out) : HSized out :=
  ⟨by have := h.small.1; omega, fun x hx => by have := h.small.2 x hx; omega⟩
end Go.Proofs.Ytjgkalppjfmkoaa
