/- Plain: what Begin leaves: holdings in order, each of the frame that can be under way, one for each flow that begins here; and Begin again changes nothing. -/
import Derived.Test.YtjgkalppjfmkoaaPlain1
namespace Go.Proofs.Ytjgkalppjfmkoaa
open Go.RowKit Go.Shelf Go.Proofs.YtjgkalppjfmkoaaW.PrintWords
set_option linter.unusedVariables false
set_option linter.unusedSimpArgs false

theorem ixGo_spec {α : Type} (p : α → Bool) (z : α) (l : List α) : ∀ (d k : Nat), (ixGo p z l d k = -1 ∧ ∀ j, k ≤ j → j < k + d → p (l.getD j z) = false) ∨ ∃ n : Nat, ixGo p z l d k = (n : Int) ∧ k ≤ n ∧ n < k + d ∧ p (l.getD n z) = true ∧ ∀ j, k ≤ j → j < n → p (l.getD j z) = false
  | 0, k => Or.inl ⟨rfl, fun j h1 h2 => by omega⟩
  | d + 1, k => by
    unfold ixGo
    split
    · rename_i h
      exact Or.inr ⟨k, rfl, Nat.le_refl _, by omega, h, fun j h1 h2 => by omega⟩
    · rename_i h
      have h' : p (l.getD k z) = false := by simpa using h
      rcases ixGo_spec p z l d (k + 1) with ⟨h1, h2⟩ | ⟨n, h1, h2, h3, h4, h5⟩
      · exact Or.inl ⟨h1, fun j g1 g2 => by
          by_cases e : j = k
          · subst e; exact h'
          · exact h2 j (by omega) (by omega)⟩
      · exact Or.inr ⟨n, h1, by omega, by omega, h4, fun j g1 g2 => by
          by_cases e : j = k
          · subst e; exact h'
          · exact h5 j (by omega) g2⟩
theorem getD_mem {α : Type} {l : List α} {k : Nat} {z : α} (h : k < l.length) : l.getD k z ∈ l := by
  rw [List.getD_eq_getElem?_getD, List.getElem?_eq_getElem h]
  exact List.getElem_mem h
theorem mem_getD {α : Type} {l : List α} {x : α} (z : α) (h : x ∈ l) : ∃ k, k < l.length ∧ l.getD k z = x := by
  obtain ⟨k, hk, rfl⟩ := List.getElem_of_mem h
  exact ⟨k, hk, by rw [List.getD_eq_getElem?_getD, List.getElem?_eq_getElem hk]; rfl⟩
/-- The first index: none bears p, or there it is. -/
theorem ix_spec {α : Type} (p : α → Bool) (z : α) (l : List α) : (ix p z l = -1 ∧ ∀ x ∈ l, p x = false) ∨ ∃ n : Nat, ix p z l = (n : Int) ∧ n < l.length ∧ p (l.getD n z) = true := by
  rcases ixGo_spec p z l l.length 0 with ⟨h1, h2⟩ | ⟨n, h1, h2, h3, h4, _⟩
  · exact Or.inl ⟨h1, fun x hx => by
      obtain ⟨k, hk, rfl⟩ := mem_getD z hx
      exact h2 k (Nat.zero_le _) (by omega)⟩
  · exact Or.inr ⟨n, h1, by omega, h4⟩
theorem ix_neg {α : Type} {p : α → Bool} {z : α} {l : List α} : ix p z l < 0 ↔ ∀ x ∈ l, p x = false := by
  rcases ix_spec p z l with ⟨h1, h2⟩ | ⟨n, h1, h2, h3⟩
  · exact ⟨fun _ => h2, fun _ => by omega⟩
  · exact ⟨fun h => by omega, fun h => by have := h _ (getD_mem (z := z) h2); rw [h3] at this; cases this⟩

/-! ### The flows -/
theorem fckGo_all (nodes : Int) (l : List SFlow) : ∀ (d k : Nat), (fckGo nodes l d k).2 = 0 → ∀ j, k ≤ j → j < k + d → fchk nodes (l.getD j zFlow) = 0 ∧ (0 < j → (l.getD (j - 1) zFlow).f0 < (l.getD j zFlow).f0)
  | 0, k, _, j, h1, h2 => by omega
  | d + 1, k, h, j, h1, h2 => by
    unfold fckGo at h
    split at h
    · rename_i hb; exact absurd h hb
    · rename_i hb
      split at h
      · cases h
      · rename_i hc
        by_cases e : j = k
        · subst e; exact ⟨by simpa using hb, fun h0 => by omega⟩
        · exact fckGo_all nodes l d (k + 1) h j (by omega) (by omega)
theorem fck_all {nodes : Int} {l : List SFlow} (h : (fck nodes l).2 = 0) : l.length ≤ 16 ∧ ∀ j, j < l.length → fchk nodes (l.getD j zFlow) = 0 ∧ (0 < j → (l.getD (j - 1) zFlow).f0 < (l.getD j zFlow).f0) := by
  unfold fck at h
  split at h
  · cases h
  · split at h
    · cases h
    · exact ⟨by omega, fun j hj => fckGo_all nodes l l.length 0 h j (Nat.zero_le _) (by omega)⟩
theorem fck_lt {nodes : Int} {l : List SFlow} (h : (fck nodes l).2 = 0) (a : Nat) : ∀ b, a < b → b < l.length → (l.getD a zFlow).f0 < (l.getD b zFlow).f0
  | 0, h1, _ => by omega
  | b + 1, h1, h2 => by
    have h3 := ((fck_all h).2 (b + 1) h2).2 (by omega)
    rw [Nat.add_sub_cancel] at h3
    by_cases e : a = b
    · subst e; exact h3
    · have h4 := fck_lt h a b (by omega) (by omega)
      omega
theorem fck_uniq {nodes : Int} {l : List SFlow} (h : (fck nodes l).2 = 0) {x y : SFlow} (hx : x ∈ l) (hy : y ∈ l) (e : x.f0 = y.f0) : x = y := by
  obtain ⟨a, ha, rfl⟩ := mem_getD zFlow hx
  obtain ⟨b, hb, rfl⟩ := mem_getD zFlow hy
  rcases Nat.lt_trichotomy a b with hl | hl | hl
  · have := fck_lt h a b hl hb; omega
  · rw [hl]
  · have := fck_lt h b a hl ha; omega
theorem fck_mem {nodes : Int} {l : List SFlow} (h : (fck nodes l).2 = 0) {x : SFlow} (hx : x ∈ l) : fchk nodes x = 0 := by
  obtain ⟨a, ha, rfl⟩ := mem_getD zFlow hx
  exact ((fck_all h).2 a ha).1
/-- The flow with a number. -/
theorem flow_at {nodes : Int} {l : List SFlow} (h : (fck nodes l).2 = 0) {x : SFlow} (hx : x ∈ l) {id : Int} (e : x.f0 = id) : l.getD (ix (fun f : SFlow => f.f0 == id) zFlow l).toNat zFlow = x ∧ 0 ≤ ix (fun f : SFlow => f.f0 == id) zFlow l := by
  rcases ix_spec (fun f : SFlow => f.f0 == id) zFlow l with ⟨h1, h2⟩ | ⟨n, h1, h2, h3⟩
  · have := h2 x hx; simp [e] at this
  · rw [h1]
    refine ⟨?_, by omega⟩
    rw [Int.toNat_natCast]
    exact fck_uniq h (getD_mem h2) hx (by rw [e]; simpa using h3)
theorem fcur_bounds {f : SFlow} {slot : Int} (hs : slot ≤ 1073741824) (h : (fcur f slot).2 = true) : 0 ≤ (fcur f slot).1 ∧ (fcur f slot).1 ≤ 1073741824 := by
  unfold fcur at h ⊢
  split at h
  · cases h
  · rename_i hn
    rw [if_neg hn]
    have h1 : fchk 32 f = 0 := Decidable.byContradiction fun e => hn (Or.inl e)
    have h2 : f.f4 ≤ slot := by omega
    have hk := fchk_ok h1
    refine ⟨Int.ediv_nonneg (by omega) (by omega), ?_⟩
    have hle : (slot - f.f4) / f.f3 ≤ slot - f.f4 := by
      exact Int.ediv_le_self _ (by omega)
    omega

/-! ### Lists of holdings in order -/
theorem Inc.nil : Inc [] := fun m h => by simp at h
theorem Inc.uniq {l : List SHolding} (h : Inc l) {x y : SHolding} (hx : x ∈ l) (hy : y ∈ l) (e : x.f0 = y.f0) : x = y := by
  obtain ⟨a, ha, rfl⟩ := mem_getD zHolding hx
  obtain ⟨b, hb, rfl⟩ := mem_getD zHolding hy
  rcases Nat.lt_trichotomy a b with hl | hl | hl
  · have := h.lt a b hl hb; omega
  · rw [hl]
  · have := h.lt b a hl ha; omega
theorem Inc_iff {l : List SHolding} : Inc l ↔ l.Pairwise (fun a b => a.f0 < b.f0) := by
  refine ⟨fun h => ?_, fun h m hm => ?_⟩
  · rw [List.pairwise_iff_getElem]
    intro i j hi hj hij
    have := h.lt i j hij hj
    rwa [List.getD_eq_getElem?_getD, List.getD_eq_getElem?_getD, List.getElem?_eq_getElem hi, List.getElem?_eq_getElem hj] at this
  · rw [List.pairwise_iff_getElem] at h
    have := h m (m + 1) (by omega) hm (by omega)
    rwa [List.getD_eq_getElem?_getD, List.getD_eq_getElem?_getD, List.getElem?_eq_getElem hm, List.getElem?_eq_getElem (show m < l.length by omega)]
theorem insAt_mem {l : List SHolding} {i : Nat} {h x : SHolding} : x ∈ insAt l i h ↔ x = h ∨ x ∈ l := by
  unfold insAt
  simp only [List.mem_append, List.mem_singleton]
  constructor
  · rintro ((h1 | h1) | h1)
    · exact Or.inr (List.mem_of_mem_take h1)
    · exact Or.inl h1
    · exact Or.inr (List.mem_of_mem_drop h1)
  · rintro (h1 | h1)
    · exact Or.inl (Or.inr h1)
    · rw [← List.take_append_drop i l, List.mem_append] at h1
      rcases h1 with h1 | h1
      · exact Or.inl (Or.inl h1)
      · exact Or.inr h1
theorem addH_mem {l : List SHolding} {h x : SHolding} : x ∈ addH l h ↔ x = h ∨ x ∈ l := insAt_mem
theorem take_lt {l : List SHolding} {id : Int} {r : Nat} (hc : Cut l id r) {x : SHolding} (hx : x ∈ l.take r) : x.f0 < id := by
  obtain ⟨k, hk, rfl⟩ := List.getElem_of_mem hx
  rw [List.length_take] at hk
  have := hc.2.1 k (by omega)
  rw [List.getD_eq_getElem?_getD, List.getElem?_eq_getElem (by omega)] at this
  rw [List.getElem_take]
  exact this
theorem drop_ge {l : List SHolding} (hl : Inc l) {id : Int} {r : Nat} (hc : Cut l id r) {x : SHolding} (hx : x ∈ l.drop r) : id ≤ x.f0 := by
  obtain ⟨k, hk, rfl⟩ := List.getElem_of_mem hx
  rw [List.length_drop] at hk
  have h1 := hc.2.2 (by omega)
  have h2 := hl.le r (r + k) (by omega) (by omega)
  have e : l.getD (r + k) zHolding = l[r + k]'(by omega) := by rw [List.getD_eq_getElem?_getD, List.getElem?_eq_getElem (by omega)]; rfl
  rw [e] at h2
  rw [List.getElem_drop]
  omega
theorem addH_inc {l : List SHolding} (hl : Inc l) {h : SHolding} (hn : ∀ x ∈ l, x.f0 ≠ h.f0) : Inc (addH l h) := by
  rw [addH_eq hl]
  have hc : Cut l h.f0 (linGo l h.f0 l.length 0) := linGo_cut l h.f0 l.length 0 (by omega) (fun m hm => by omega)
  unfold insR insAt
  generalize linGo l h.f0 l.length 0 = r at *
  have hp := Inc_iff.1 hl
  rw [Inc_iff, List.pairwise_append]
  refine ⟨?_, hp.drop, ?_⟩
  · rw [List.pairwise_append]
    exact ⟨hp.take, List.pairwise_singleton _ _, fun a ha b hb => by rw [List.mem_singleton.1 hb]; exact take_lt hc ha⟩
  · intro a ha b hb
    have h1 := drop_ge hl hc hb
    have h2 := hn b (List.mem_of_mem_drop hb)
    rcases List.mem_append.1 ha with ha | ha
    · have := take_lt hc ha; omega
    · rw [List.mem_singleton.1 ha]; omega

/-! ### Begin -/
/-- Is a holding's frame the one that can be under way? -/
def liveB (flows : List SFlow) (slot : Int) (h : SHolding) : Bool := (hcur flows slot h).2 && (hcur flows slot h).1 == h.f1
theorem begGo1_eq (flows : List SFlow) (slot : Int) (l : List SHolding) : ∀ (d k : Nat) (acc : List SHolding), k + d = l.length → begGo1 flows slot l d k acc = acc ++ (l.drop k).filter (liveB flows slot)
  | 0, k, acc, h => by unfold begGo1; rw [List.drop_eq_nil_of_le (by omega)]; simp
  | d + 1, k, acc, h => by
    unfold begGo1
    rw [begGo1_eq flows slot l d (k + 1) _ (by omega), List.drop_eq_getElem_cons (show k < l.length by omega), List.filter_cons]
    have e : l.getD k zHolding = l[k]'(by omega) := by rw [List.getD_eq_getElem?_getD, List.getElem?_eq_getElem (by omega)]; rfl
    rw [e]
    by_cases hb : liveB flows slot (l[k]'(by omega)) = true
    · have : (hcur flows slot (l[k]'(by omega))).2 = true ∧ (hcur flows slot (l[k]'(by omega))).1 = (l[k]'(by omega)).f1 := by simpa [liveB] using hb
      rw [if_pos this, if_pos hb]; simp
    · have : ¬ ((hcur flows slot (l[k]'(by omega))).2 = true ∧ (hcur flows slot (l[k]'(by omega))).1 = (l[k]'(by omega)).f1) := by simpa [liveB] using hb
      rw [if_neg this, if_neg hb]
/-- A holding that is right for a slot. -/
def Good (flows : List SFlow) (slot : Int) (h : SHolding) : Prop := (∃ f ∈ flows, f.f0 = h.f0 ∧ fcur f slot = (h.f1, true)) ∧ ackGo h.f2 h.f2.length 0 = true
theorem Good.live {flows : List SFlow} {slot : Int} {h : SHolding} (hf : (fck 32 flows).2 = 0) (hg : Good flows slot h) : liveB flows slot h = true := by
  obtain ⟨⟨f, hm, he, hc⟩, _⟩ := hg
  unfold liveB hcur
  rw [(flow_at hf hm he).1, hc]
  simp
theorem good_of_live {flows : List SFlow} {slot : Int} {h : SHolding} (hx : 0 ≤ ix (fun f : SFlow => f.f0 == h.f0) zFlow flows) (ha : ackGo h.f2 h.f2.length 0 = true) (hl : liveB flows slot h = true) : Good flows slot h := by
  rcases ix_spec (fun f : SFlow => f.f0 == h.f0) zFlow flows with ⟨h1, _⟩ | ⟨n, h1, h2, h3⟩
  · omega
  · unfold liveB hcur at hl
    rw [h1, Int.toNat_natCast] at hl
    simp only [Bool.and_eq_true, beq_iff_eq] at hl
    exact ⟨⟨_, getD_mem h2, by simpa using h3, Prod.ext hl.2 hl.1⟩, ha⟩
/-- What Begin's second loop keeps, and what it has brought. -/
theorem begGo2_inv (flows : List SFlow) (self slot : Int) (hf : (fck 32 flows).2 = 0) : ∀ (d k : Nat) (acc : List SHolding), k + d = flows.length → Inc acc → (∀ h ∈ acc, Good flows slot h) →
    (∀ j, j < k → (fcur (flows.getD j zFlow) slot).2 = true → (flows.getD j zFlow).f1 = self → ∃ h ∈ acc, h.f0 = (flows.getD j zFlow).f0) →
    Inc (begGo2 flows self slot d k acc) ∧ (∀ h ∈ begGo2 flows self slot d k acc, Good flows slot h) ∧ (∀ f ∈ flows, (fcur f slot).2 = true → f.f1 = self → ∃ h ∈ begGo2 flows self slot d k acc, h.f0 = f.f0)
  | 0, k, acc, h, h1, h2, h3 => by
    unfold begGo2
    exact ⟨h1, h2, fun f hm => by
      obtain ⟨j, hj, rfl⟩ := mem_getD zFlow hm
      exact h3 j (by omega)⟩
  | d + 1, k, acc, h, h1, h2, h3 => by
    unfold begGo2
    have hk : k < flows.length := by omega
    split
    · rename_i hc
      obtain ⟨c1, c2, c3⟩ := hc
      rw [ix_neg] at c3
      have c3' : ∀ x ∈ acc, x.f0 ≠ (flows.getD k zFlow).f0 := fun x hx => by simpa using c3 x hx
      refine begGo2_inv flows self slot hf d (k + 1) _ (by omega) (addH_inc h1 c3') ?_ ?_
      · intro x hx
        rcases addH_mem.1 hx with rfl | hx
        · exact ⟨⟨_, getD_mem hk, rfl, Prod.ext rfl c1⟩, rfl⟩
        · exact h2 x hx
      · intro j hj g1 g2
        by_cases e : j = k
        · subst e; exact ⟨_, addH_mem.2 (Or.inl rfl), rfl⟩
        · obtain ⟨x, hx, he⟩ := h3 j (by omega) g1 g2
          exact ⟨x, addH_mem.2 (Or.inr hx), he⟩
    · rename_i hc
      refine begGo2_inv flows self slot hf d (k + 1) _ (by omega) h1 h2 ?_
      intro j hj g1 g2
      by_cases e : j = k
      · subst e
        by_cases hn : ix (fun h : SHolding => h.f0 == (flows.getD j zFlow).f0) zHolding acc < 0
        · exact absurd ⟨g1, g2, hn⟩ hc
        · rcases ix_spec (fun h : SHolding => h.f0 == (flows.getD j zFlow).f0) zHolding acc with ⟨e1, _⟩ | ⟨n, e1, e2, e3⟩
          · omega
          · exact ⟨_, getD_mem e2, by simpa using e3⟩
      · exact h3 j (by omega) g1 g2
theorem begGo2_none (flows : List SFlow) (self slot : Int) : ∀ (d k : Nat) (acc : List SHolding), k + d = flows.length → (∀ f ∈ flows, (fcur f slot).2 = true → f.f1 = self → ∃ h ∈ acc, h.f0 = f.f0) → begGo2 flows self slot d k acc = acc
  | 0, k, acc, h, h1 => by unfold begGo2; rfl
  | d + 1, k, acc, h, h1 => by
    unfold begGo2
    rw [if_neg, begGo2_none flows self slot d (k + 1) acc (by omega) h1]
    rintro ⟨c1, c2, c3⟩
    obtain ⟨x, hx, he⟩ := h1 _ (getD_mem (show k < flows.length by omega)) c1 c2
    have := ix_neg.1 c3 x hx
    simp [he] at this
theorem hckGo_ok (flows : List SFlow) (l : List SHolding) : ∀ (d k : Nat), k + d = l.length → (∀ m, m < l.length → hbad flows l m = false ∧ ackGo (l.getD m zHolding).f2 (l.getD m zHolding).f2.length 0 = true) → hckGo flows l d k = 0
  | 0, k, _, _ => rfl
  | d + 1, k, h, h1 => by
    unfold hckGo
    obtain ⟨a, b⟩ := h1 k (by omega)
    rw [if_neg (by simp [a]), if_pos b]
    exact hckGo_ok flows l d (k + 1) (by omega) h1
/-- What Begin's answer is like, where the arguments are right. -/
structure Begun (flows : List SFlow) (me slot : Int) (out : List SHolding) : Prop where
  fl : (fck 32 flows).2 = 0
  se : 0 ≤ me ∧ me < 32
  sl : 0 ≤ slot ∧ slot ≤ 1073741824
  inc : Inc out
  good : ∀ h ∈ out, Good flows slot h
  all : ∀ f ∈ flows, (fcur f slot).2 = true → f.f1 = me → ∃ h ∈ out, h.f0 = f.f0
theorem fck_of_hck {flows : List SFlow} {l : List SHolding} (h : hck flows l = 0) : (fck 32 flows).2 = 0 := by
  unfold hck at h
  split at h
  · assumption
  · cases h
theorem begun {flows : List SFlow} {self slot : Int} {l : List SHolding} (h : (begin_ flows self slot l).2 = 0) : Begun flows self slot (begin_ flows self slot l).1 := by
  unfold begin_ at h ⊢
  split at h
  · rename_i hc; exact absurd h hc
  · rename_i hc
    rw [if_neg hc]
    have hc' : hcheck flows self slot l = 0 := by simpa using hc
    obtain ⟨h1, h2, h3, h4, h5⟩ := hcheck_ok hc'
    have hf := fck_of_hck h1
    have e := begGo1_eq flows slot l l.length 0 [] (by omega)
    rw [List.drop_zero, List.nil_append] at e
    rw [e]
    have hi : Inc (l.filter (liveB flows slot)) := Inc_iff.2 ((Inc_iff.1 (hck_inc h1)).filter _)
    have hg : ∀ h ∈ l.filter (liveB flows slot), Good flows slot h := fun x hx => by
      obtain ⟨hx1, hx2⟩ := List.mem_filter.1 hx
      obtain ⟨m, hm, rfl⟩ := mem_getD zHolding hx1
      exact good_of_live (hck_find h1 m hm) (hck_all h1 m hm).2 hx2
    obtain ⟨g1, g2, g3⟩ := begGo2_inv flows self slot hf flows.length 0 _ (by omega) hi hg (fun j hj => by omega)
    exact ⟨hf, ⟨h2, h3⟩, ⟨h4, h5⟩, g1, g2, g3⟩
theorem Begun.hck_ {flows : List SFlow} {self slot : Int} {out : List SHolding} (h : Begun flows self slot out) : hck flows out = 0 := by
  unfold hck
  rw [if_pos h.fl]
  refine hckGo_ok flows out _ 0 (by omega) (fun m hm => ?_)
  obtain ⟨⟨f, hfm, he, hcu⟩, ha⟩ := h.good _ (getD_mem (z := zHolding) hm)
  refine ⟨?_, ha⟩
  have h1 := (flow_at h.fl hfm he).2
  have h2 := fcur_bounds h.sl.2 (show (fcur f slot).2 = true by rw [hcu])
  rw [hcu] at h2
  have h3 : 0 < m → (out.getD (m - 1) zHolding).f0 < (out.getD m zHolding).f0 := fun h0 => h.inc.lt _ _ (by omega) hm
  unfold hbad
  simp only [Bool.or_eq_false_iff, Bool.and_eq_false_iff, decide_eq_false_iff_not]
  refine ⟨⟨⟨by omega, ?_⟩, by omega⟩, by omega⟩
  by_cases h0 : 0 < m
  · exact Or.inr (by have := h3 h0; omega)
  · exact Or.inl h0
theorem Begun.hcheck_ {flows : List SFlow} {self slot : Int} {out : List SHolding} (h : Begun flows self slot out) : hcheck flows self slot out = 0 := by
  have h1 := h.se
  have h2 := h.sl
  unfold hcheck
  rw [h.hck_, if_neg (by simp), if_neg (by omega)]
theorem Begun.again {flows : List SFlow} {self slot : Int} {out : List SHolding} (h : Begun flows self slot out) : begin_ flows self slot out = (out, 0) := by
  unfold begin_
  rw [h.hcheck_, if_neg (by simp)]
  have e := begGo1_eq flows slot out out.length 0 [] (by omega)
  rw [List.drop_zero, List.nil_append, List.filter_eq_self.2 (fun x hx => (h.good x hx).live h.fl)] at e
  rw [e, begGo2_none flows self slot _ 0 _ (by omega) h.all]
/-- The question that NodeHolds asks of each flow. -/
theorem Begun.each {flows : List SFlow} {self slot : Int} {out : List SHolding} (h : Begun flows self slot out) {f : SFlow} (hm : f ∈ flows) :
    (0 ≤ ix (fun x : SHolding => x.f0 == f.f0) zHolding out → (fcur f slot).2 = true ∧ (out.getD (ix (fun x : SHolding => x.f0 == f.f0) zHolding out).toNat zHolding).f1 = (fcur f slot).1) ∧
    (ix (fun x : SHolding => x.f0 == f.f0) zHolding out < 0 → ¬ ((fcur f slot).2 = true ∧ f.f1 = self)) := by
  refine ⟨fun h0 => ?_, fun h0 hc => ?_⟩
  · rcases ix_spec (fun x : SHolding => x.f0 == f.f0) zHolding out with ⟨e1, _⟩ | ⟨n, e1, e2, e3⟩
    · omega
    · rw [e1, Int.toNat_natCast]
      obtain ⟨⟨g, hg, he, hcu⟩, _⟩ := h.good _ (getD_mem (z := zHolding) e2)
      have : g = f := fck_uniq h.fl hg hm (by rw [he]; simpa using e3)
      subst this
      rw [hcu]
      exact ⟨rfl, rfl⟩
  · obtain ⟨x, hx, he⟩ := h.all f hm hc.1 hc.2
    have := ix_neg.1 h0 x hx
    simp [he] at this
end Go.Proofs.Ytjgkalppjfmkoaa
