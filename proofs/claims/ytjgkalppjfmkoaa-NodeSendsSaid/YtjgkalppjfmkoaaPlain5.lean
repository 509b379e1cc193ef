/- Plain: what Choose answers, for whatever order of the duties; what an acknowledgement changes. -/
import Derived.Test.YtjgkalppjfmkoaaPlain3
import Derived.Test.YtjgkalppjfmkoaaChoose3
namespace Go.Proofs.Ytjgkalppjfmkoaa
open Go.RowKit Go.Shelf Go.Proofs.YtjgkalppjfmkoaaW.PrintWords
set_option linter.unusedVariables false
set_option linter.unusedSimpArgs false

theorem ix_pos {α : Type} {p : α → Bool} {z : α} {l : List α} : 0 ≤ ix p z l ↔ ∃ x ∈ l, p x = true := by
  constructor
  · intro h
    rcases ix_spec p z l with ⟨h1, _⟩ | ⟨n, _, h2, h3⟩
    · omega
    · exact ⟨_, getD_mem h2, h3⟩
  · rintro ⟨x, hx, hp⟩
    rcases ix_spec p z l with ⟨_, h2⟩ | ⟨n, h1, _, _⟩
    · rw [h2 x hx] at hp; cases hp
    · omega
/-- Choose's answer: a duty in which it sends; or one in which it listens; or nothing. -/
theorem chosen_cases (flows : List SFlow) (l : List SHolding) (now : List SDuty) :
    (∃ y ∈ now, sendsB flows l y = true ∧ chosen flows l now = ⟨1, y.f0, (l.getD (ix (fun h : SHolding => h.f0 == y.f0.f4) zHolding l).toNat zHolding).f1⟩) ∨
    (∃ y ∈ now, y.f1 = false ∧ chosen flows l now = ⟨2, y.f0, 0⟩) ∨ ((∀ y ∈ now, y.f1 = true) ∧ chosen flows l now = zIntent) := by
  unfold chosen
  split
  · rename_i h
    rcases ix_spec (sendsB flows l) zDuty now with ⟨h1, _⟩ | ⟨n, h1, h2, h3⟩
    · omega
    · rw [h1, Int.toNat_natCast]
      exact Or.inl ⟨_, getD_mem h2, h3, rfl⟩
  · split
    · rename_i h
      rcases ix_spec (fun x : SDuty => !x.f1) zDuty now with ⟨h1, _⟩ | ⟨n, h1, h2, h3⟩
      · omega
      · rw [h1, Int.toNat_natCast]
        exact Or.inr (Or.inl ⟨_, getD_mem h2, by simpa using h3, rfl⟩)
    · rename_i h
      exact Or.inr (Or.inr ⟨fun y hy => by
        have := ix_neg.1 (show ix (fun x : SDuty => !x.f1) zDuty now < 0 by omega) y hy
        simpa using this, rfl⟩)
theorem sendsB_ok {flows : List SFlow} {l : List SHolding} {y : SDuty} (h : sendsB flows l y = true) : y.f1 = true ∧ 0 ≤ ix (fun h : SHolding => h.f0 == y.f0.f4) zHolding l ∧ ix (fun n => y.f0.f3 == n) 0 (l.getD (ix (fun h : SHolding => h.f0 == y.f0.f4) zHolding l).toNat zHolding).f2 < 0 := by
  unfold sendsB at h
  simp only [Bool.and_eq_true, decide_eq_true_eq, Bool.not_eq_true', decide_eq_false_iff_not] at h
  exact ⟨h.1.1.1, h.1.1.2, by omega⟩

/-! ### An acknowledgement -/
def AckOk (a : List Int) : Prop := (∀ x ∈ a, 0 ≤ x ∧ x < 32) ∧ a.Pairwise (· < ·)
theorem ack_lt {a : List Int} (h : ackGo a a.length 0 = true) (i : Nat) : ∀ j, i < j → j < a.length → a.getD i 0 < a.getD j 0
  | 0, h1, _ => by omega
  | j + 1, h1, h2 => by
    have h3 := (ackGo_all a _ 0 h (j + 1) (Nat.zero_le _) (by omega)).2.2 (by omega)
    rw [Nat.add_sub_cancel] at h3
    by_cases e : i = j
    · subst e; exact h3
    · have := ack_lt h i j (by omega) (by omega)
      omega
theorem ackOk_of {a : List Int} (h : ackGo a a.length 0 = true) : AckOk a := by
  refine ⟨fun x hx => ?_, ?_⟩
  · obtain ⟨k, hk, rfl⟩ := mem_getD 0 hx
    have := ackGo_all a _ 0 h k (Nat.zero_le _) (by omega)
    exact ⟨this.1, this.2.1⟩
  · rw [List.pairwise_iff_getElem]
    intro i j hi hj hij
    have := ack_lt h i j hij hj
    rwa [List.getD_eq_getElem?_getD, List.getD_eq_getElem?_getD, List.getElem?_eq_getElem hi, List.getElem?_eq_getElem hj] at this
theorem ackGo_of {a : List Int} (h : AckOk a) : ∀ d k, k + d = a.length → ackGo a d k = true
  | 0, k, _ => rfl
  | d + 1, k, hk => by
    unfold ackGo
    have h1 := h.1 _ (getD_mem (z := 0) (show k < a.length by omega))
    have h2 : 0 < k → a.getD (k - 1) 0 < a.getD k 0 := fun h0 => by
      have := List.pairwise_iff_getElem.1 h.2 (k - 1) k (by omega) (by omega) (by omega)
      rwa [List.getD_eq_getElem?_getD, List.getD_eq_getElem?_getD, List.getElem?_eq_getElem (by omega), List.getElem?_eq_getElem (by omega)]
    have h3 : ackBad a k = false := by
      unfold ackBad
      simp only [Bool.or_eq_false_iff, Bool.and_eq_false_iff, decide_eq_false_iff_not]
      refine ⟨by omega, ?_⟩
      by_cases h0 : 0 < k
      · exact Or.inr (by have := h2 h0; omega)
      · exact Or.inl h0
    rw [if_neg (by simp [h3])]
    exact ackGo_of h d (k + 1) (by omega)
theorem ins_ok {a : List Int} (h : AckOk a) {t : Int} (h0 : 0 ≤ t ∧ t < 32) (hn : ∀ x ∈ a, x ≠ t) : AckOk (insAtI a (ackAt a t) t) := by
  have hsplit : (∀ x ∈ a.take (ackAt a t), x < t) ∧ ∀ x ∈ a.drop (ackAt a t), t < x := by
    unfold ackAt
    rcases ixGo_spec (fun n => decide (t < n)) 0 a a.length 0 with ⟨h1, h2⟩ | ⟨n, h1, _, h2, h3, h4⟩
    · have h1' : ix (fun n => decide (t < n)) 0 a = -1 := h1
      rw [h1', if_pos (by omega), List.take_length, List.drop_length]
      refine ⟨fun x hx => ?_, fun x hx => by simp at hx⟩
      obtain ⟨k, hk, rfl⟩ := mem_getD 0 hx
      have := h2 k (Nat.zero_le _) (by omega)
      have h5 := hn _ hx
      simp only [decide_eq_false_iff_not] at this
      omega
    · have h1' : ix (fun n => decide (t < n)) 0 a = (n : Int) := h1
      rw [h1', if_neg (by omega), Int.toNat_natCast]
      have h3' : t < a.getD n 0 := by simpa using h3
      refine ⟨fun x hx => ?_, fun x hx => ?_⟩
      · obtain ⟨k, hk, rfl⟩ := List.getElem_of_mem hx
        rw [List.length_take] at hk
        have h6 := h4 k (Nat.zero_le _) (by omega)
        have h5 := hn _ (getD_mem (z := 0) (show k < a.length by omega))
        rw [List.getElem_take]
        rw [List.getD_eq_getElem?_getD, List.getElem?_eq_getElem (show k < a.length by omega)] at h5 h6
        simp only [Option.getD_some, decide_eq_false_iff_not] at h5 h6
        omega
      · obtain ⟨k, hk, rfl⟩ := List.getElem_of_mem hx
        rw [List.length_drop] at hk
        rw [List.getElem_drop]
        rw [List.getD_eq_getElem?_getD, List.getElem?_eq_getElem (show n < a.length by omega)] at h3'
        simp only [Option.getD_some] at h3'
        by_cases e : k = 0
        · subst e; simpa using h3'
        · have := List.pairwise_iff_getElem.1 h.2 n (n + k) (by omega) (by omega) (by omega)
          omega
  refine ⟨fun x hx => ?_, ?_⟩
  · unfold insAtI at hx
    simp only [List.mem_append, List.mem_singleton] at hx
    rcases hx with (hx | rfl) | hx
    · exact h.1 x (List.mem_of_mem_take hx)
    · exact h0
    · exact h.1 x (List.mem_of_mem_drop hx)
  · unfold insAtI
    rw [List.pairwise_append]
    refine ⟨?_, h.2.drop, ?_⟩
    · rw [List.pairwise_append]
      exact ⟨h.2.take, List.pairwise_singleton _ _, fun x hx y hy => by rw [List.mem_singleton.1 hy]; exact hsplit.1 x hx⟩
    · intro x hx y hy
      rcases List.mem_append.1 hx with hx | hx
      · have := hsplit.1 x hx; have := hsplit.2 y hy; omega
      · rw [List.mem_singleton.1 hx]; exact hsplit.2 y hy
/-- Behind an acknowledgement: the list is right, and the holding of the flow bears the node. -/
theorem sent_ok {flows : List SFlow} {l : List SHolding} (h : hck flows l = 0) {fl dst : Int} (h0 : 0 ≤ dst ∧ dst < 32) (hi : 0 ≤ ix (fun h : SHolding => h.f0 == fl) zHolding l)
    (hn : ix (fun n => dst == n) 0 (l.getD (ix (fun h : SHolding => h.f0 == fl) zHolding l).toNat zHolding).f2 < 0) :
    hck flows (sent l fl dst true) = 0 ∧ ∃ i, i < (sent l fl dst true).length ∧ ((sent l fl dst true).getD i zHolding).f0 = fl ∧ dst ∈ ((sent l fl dst true).getD i zHolding).f2 := by
  rcases ix_spec (fun h : SHolding => h.f0 == fl) zHolding l with ⟨e1, _⟩ | ⟨n, e1, e2, e3⟩
  · omega
  · rw [e1, Int.toNat_natCast] at hn
    have hs : sent l fl dst true = l.set n ⟨(l.getD n zHolding).f0, (l.getD n zHolding).f1, insAtI (l.getD n zHolding).f2 (ackAt (l.getD n zHolding).f2 dst) dst⟩ := by
      unfold sent
      rw [e1, Int.toNat_natCast]
      rw [if_neg (by simp only [not_or]; exact ⟨by simp, by omega, by omega⟩)]
    have hnn : ∀ x ∈ (l.getD n zHolding).f2, x ≠ dst := fun x hx e => by
      have := ix_neg.1 hn x hx
      simp [e] at this
    rw [hs]
    have hget : ∀ m, m < l.length → (l.set n ⟨(l.getD n zHolding).f0, (l.getD n zHolding).f1, insAtI (l.getD n zHolding).f2 (ackAt (l.getD n zHolding).f2 dst) dst⟩).getD m zHolding = if m = n then ⟨(l.getD n zHolding).f0, (l.getD n zHolding).f1, insAtI (l.getD n zHolding).f2 (ackAt (l.getD n zHolding).f2 dst) dst⟩ else l.getD m zHolding := fun m hm => by
      rw [List.getD_eq_getElem?_getD, List.getElem?_set]
      by_cases e : m = n
      · subst e; simp [hm]
      · rw [if_neg (fun e' => e e'.symm), if_neg e, List.getD_eq_getElem?_getD]
    have hf0 : ∀ m, m < l.length → ((l.set n ⟨(l.getD n zHolding).f0, (l.getD n zHolding).f1, insAtI (l.getD n zHolding).f2 (ackAt (l.getD n zHolding).f2 dst) dst⟩).getD m zHolding).f0 = (l.getD m zHolding).f0 ∧ ((l.set n ⟨(l.getD n zHolding).f0, (l.getD n zHolding).f1, insAtI (l.getD n zHolding).f2 (ackAt (l.getD n zHolding).f2 dst) dst⟩).getD m zHolding).f1 = (l.getD m zHolding).f1 := fun m hm => by
      rw [hget m hm]
      split
      · rename_i e; subst e; exact ⟨rfl, rfl⟩
      · exact ⟨rfl, rfl⟩
    refine ⟨?_, n, by rw [List.length_set]; exact e2, ?_, ?_⟩
    · have hfl := fck_of_hck h
      unfold hck
      rw [if_pos hfl]
      refine hckGo_ok flows _ _ 0 (by omega) (fun m hm => ?_)
      rw [List.length_set] at hm
      obtain ⟨b1, b2⟩ := hck_all h m hm
      refine ⟨?_, ?_⟩
      · have e0 := hf0 m hm
        unfold hbad at b1 ⊢
        rw [e0.1, e0.2]
        by_cases hm0 : 0 < m
        · rw [(hf0 (m - 1) (by omega)).1]; exact b1
        · obtain rfl : m = 0 := by omega
          simpa using b1
      · rw [hget m hm]
        split
        · rename_i e
          subst e
          exact ackGo_of (ins_ok (ackOk_of b2) h0 hnn) _ 0 (Nat.zero_add _)
        · exact b2
    · rw [(hf0 n e2).1]; simpa using e3
    · rw [hget n e2, if_pos rfl]
      simp [insAtI]
theorem sends_no {flows : List SFlow} {l : List SHolding} (h : hck flows l = 0) {y : SDuty} {fl dst : Int} {i : Nat} (hi : i < l.length) (h1 : (l.getD i zHolding).f0 = fl) (h2 : dst ∈ (l.getD i zHolding).f2) (e1 : y.f0.f4 = fl) (e2 : y.f0.f3 = dst) : sendsB flows l y = false := by
  cases hb : sendsB flows l y with
  | false => rfl
  | true =>
    obtain ⟨_, g2, g3⟩ := sendsB_ok hb
    rcases ix_spec (fun h : SHolding => h.f0 == y.f0.f4) zHolding l with ⟨k1, _⟩ | ⟨n, k1, k2, k3⟩
    · omega
    · rw [k1, Int.toNat_natCast] at g3
      have : n = i := by
        have hu := (hck_inc h).uniq (getD_mem (z := zHolding) k2) (getD_mem (z := zHolding) hi) (by rw [h1, ← e1]; simpa using k3)
        rcases Nat.lt_trichotomy n i with hl | hl | hl
        · have := (hck_inc h).lt n i hl hi; rw [hu] at this; omega
        · exact hl
        · have := (hck_inc h).lt i n hl k2; rw [hu] at this; omega
      subst this
      have := ix_neg.1 g3 dst h2
      simp [e2] at this
/-- What Choose answers: an error and nothing; or what it has chosen. -/
theorem choose_cases (flows : List SFlow) (duties : List SDuty) (length slot : Int) (l : List SHolding) (now : List SDuty) :
    ((choose (fun _ => now) flows duties length slot l).2 ≠ 0 ∧ (choose (fun _ => now) flows duties length slot l).1 = zIntent) ∨
    (hck flows l = 0 ∧ 1 ≤ length ∧ length ≤ 512 ∧ 0 ≤ slot ∧ slot ≤ 1073741824 ∧ choose (fun _ => now) flows duties length slot l = (chosen flows l now, 0)) := by
  unfold choose
  split
  · rename_i h; exact Or.inl ⟨h, rfl⟩
  · split
    · exact Or.inl ⟨by simp, rfl⟩
    · rename_i h1 h2
      refine Or.inr ⟨by simpa using h1, by omega, by omega, by omega, by omega, ?_⟩
      unfold atD
      rw [if_neg (by omega)]
theorem choose_ok {flows : List SFlow} {duties : List SDuty} {length slot : Int} {l : List SHolding} (now : List SDuty) (h0 : hck flows l = 0) (h1 : 1 ≤ length) (h2 : length ≤ 512) (h3 : 0 ≤ slot) (h4 : slot ≤ 1073741824) :
    choose (fun _ => now) flows duties length slot l = (chosen flows l now, 0) := by
  rcases choose_cases flows duties length slot l now with ⟨g, _⟩ | ⟨_, _, _, _, _, g⟩
  · unfold choose at g
    rw [if_neg (by simp [h0]), if_neg (by omega)] at g
    exact absurd rfl g
  · exact g
theorem atD_ok {length slot : Int} {l : List SDuty} (now : List SDuty) (h1 : 1 ≤ length) (h2 : length ≤ 512) (h3 : 0 ≤ slot) : atD (fun _ => now) length slot l = (now, 0) := by
  unfold atD
  rw [if_neg (by omega)]
end Go.Proofs.Ytjgkalppjfmkoaa
