/- Plain: on holdings in order the binary search and the search from the left find one place; so Hear and the reference's Hear answer alike. -/
import Derived.Test.YtjgkalppjfmkoaaRef8
namespace Go.Proofs.Ytjgkalppjfmkoaa
open Go.RowKit Go.Shelf Go.Proofs.YtjgkalppjfmkoaaW.PrintWords
set_option linter.unusedVariables false
set_option linter.unusedSimpArgs false

theorem hckGo_all (flows : List SFlow) (l : List SHolding) : ∀ (d k : Nat), hckGo flows l d k = 0 → ∀ m, k ≤ m → m < k + d → hbad flows l m = false ∧ ackGo (l.getD m zHolding).f2 (l.getD m zHolding).f2.length 0 = true
  | 0, k, _, m, h1, h2 => by omega
  | d + 1, k, h, m, h1, h2 => by
    unfold hckGo at h
    split at h
    · cases h
    · split at h
      · rename_i hb ha
        by_cases hm : m = k
        · subst hm; exact ⟨by simpa using hb, ha⟩
        · exact hckGo_all flows l d (k + 1) h m (by omega) (by omega)
      · cases h
theorem hck_all {flows : List SFlow} {l : List SHolding} (h : hck flows l = 0) (m : Nat) (hm : m < l.length) : hbad flows l m = false ∧ ackGo (l.getD m zHolding).f2 (l.getD m zHolding).f2.length 0 = true := by
  unfold hck at h
  split at h
  · exact hckGo_all flows l _ 0 h m (Nat.zero_le _) (by omega)
  · cases h
/-- The flows' numbers increase strictly. -/
def Inc (l : List SHolding) : Prop := ∀ m, m + 1 < l.length → (l.getD m zHolding).f0 < (l.getD (m + 1) zHolding).f0
theorem hck_inc {flows : List SFlow} {l : List SHolding} (h : hck flows l = 0) : Inc l := fun m hm => by
  have := (hck_all h (m + 1) hm).1
  unfold hbad at this
  simp only [Bool.or_eq_false_iff, Bool.and_eq_false_iff, decide_eq_false_iff_not, Nat.add_sub_cancel] at this
  omega
theorem Inc.le {l : List SHolding} (h : Inc l) (a : Nat) : ∀ b, a ≤ b → b < l.length → (l.getD a zHolding).f0 ≤ (l.getD b zHolding).f0
  | 0, h1, _ => by obtain rfl : a = 0 := by omega
                   exact Int.le_refl _
  | b + 1, h1, h2 => by
    by_cases e : a = b + 1
    · subst e; exact Int.le_refl _
    · have h3 := h.le a b (by omega) (by omega)
      have h4 := h b h2
      omega
theorem Inc.lt {l : List SHolding} (h : Inc l) (a b : Nat) (h1 : a < b) (h2 : b < l.length) : (l.getD a zHolding).f0 < (l.getD b zHolding).f0 := by
  have h3 := h.le (a + 1) b h1 h2
  have h4 := h a (by omega)
  omega

/-- r is the first place whose flow is not below id. -/
def Cut (l : List SHolding) (id : Int) (r : Nat) : Prop := r ≤ l.length ∧ (∀ k, k < r → (l.getD k zHolding).f0 < id) ∧ (r < l.length → ¬ (l.getD r zHolding).f0 < id)
theorem Cut.eq {l : List SHolding} {id : Int} {r s : Nat} (h : Cut l id r) (h' : Cut l id s) : r = s := by
  obtain ⟨h1, h2, h3⟩ := h
  obtain ⟨g1, g2, g3⟩ := h'
  rcases Nat.lt_trichotomy r s with hl | hl | hl
  · exact absurd (g2 r hl) (h3 (by omega))
  · exact hl
  · exact absurd (h2 s hl) (g3 (by omega))
theorem linGo_cut (l : List SHolding) (id : Int) : ∀ (d k : Nat), k + d = l.length → (∀ m, m < k → (l.getD m zHolding).f0 < id) → Cut l id (linGo l id d k)
  | 0, k, h, hk => by unfold linGo; exact ⟨by omega, hk, fun h' => by omega⟩
  | d + 1, k, h, hk => by
    unfold linGo
    split
    · exact linGo_cut l id d (k + 1) (by omega) (fun m hm => by
        by_cases e : m = k
        · subst e; assumption
        · exact hk m (by omega))
    · exact ⟨by omega, hk, fun _ => by assumption⟩
theorem bsGo_cut {l : List SHolding} (hl : Inc l) (id : Int) : ∀ (d i j : Nat), i ≤ j → j ≤ l.length → j - i < d → (∀ m, m < i → (l.getD m zHolding).f0 < id) → (j < l.length → ¬ (l.getD j zHolding).f0 < id) → Cut l id (bsGo l id d i j)
  | 0, i, j, h1, h2, h3, h4, h5 => by omega
  | d + 1, i, j, h1, h2, h3, h4, h5 => by
    unfold bsGo
    split
    · split
      · rename_i hij hlt
        exact bsGo_cut hl id d _ j (by omega) h2 (by omega) (fun m hm => by
          have := hl.le m ((i + j) / 2) (by omega) (by omega)
          omega) h5
      · rename_i hij hlt
        exact bsGo_cut hl id d i _ (by omega) (by omega) (by omega) h4 (fun _ => hlt)
    · obtain rfl : i = j := by omega
      exact ⟨by omega, h4, h5⟩
theorem addH_eq {l : List SHolding} (hl : Inc l) (h : SHolding) : addH l h = insR l h := by
  unfold addH insR
  rw [(bsGo_cut hl h.f0 (l.length + 1) 0 l.length (by omega) (by omega) (by omega) (fun m hm => by omega) (fun h => by omega)).eq (linGo_cut l h.f0 l.length 0 (by omega) (fun m hm => by omega))]
theorem hear_eq (flows : List SFlow) (self slot : Int) (l : List SHolding) (cflow frame : Int) : hear flows self slot l cflow frame = rhear flows self slot l cflow frame := by
  unfold hear rhear
  by_cases h : hcheck flows self slot l = 0
  · rw [addH_eq (hck_inc (hcheck_ok h).1)]
  · rw [if_pos h, if_pos h]
theorem few_ok {n : Nat} {l : List SHolding} {m : Nat} (h : few n l m = true) : n ≤ 20 ∧ l.length ≤ 20 ∧ m ≤ 40 ∧ ∀ x ∈ l, x.f2.length ≤ 40 := by
  have go : ∀ d k, fewGo l d k = true → ∀ j, k ≤ j → j < k + d → (l.getD j zHolding).f2.length ≤ 40 := by
    intro d
    induction d with
    | zero => intro k _ j h1 h2; omega
    | succ d ih =>
      intro k hk j h1 h2
      unfold fewGo at hk
      split at hk
      · cases hk
      · by_cases e : j = k
        · subst e; omega
        · exact ih (k + 1) hk j (by omega) (by omega)
  unfold few at h
  split at h
  · cases h
  · refine ⟨by omega, by omega, by omega, fun x hx => ?_⟩
    obtain ⟨j, hj, rfl⟩ := List.getElem_of_mem hx
    have := go _ 0 h j (Nat.zero_le _) (by omega)
    rwa [List.getD_eq_getElem?_getD, List.getElem?_eq_getElem hj] at this
theorem few_sized {n : Nat} {l : List SHolding} {m : Nat} (h : few n l m = true) : HSized l := by
  obtain ⟨_, h2, _, h4⟩ := few_ok h
  exact ⟨by omega, fun x hx => by have := h4 x hx; omega⟩
end Go.Proofs.Ytjgkalppjfmkoaa
