/- Plain: what is known to be delivered stays so: no frame is delivered twice. -/
import Derived.Test.YtjgkalppjfmkoaaPlain3
namespace Go.Proofs.Ytjgkalppjfmkoaa
open Go.RowKit Go.Shelf Go.Proofs.YtjgkalppjfmkoaaW.PrintWords
set_option linter.unusedVariables false
set_option linter.unusedSimpArgs false

theorem hck_small {flows : List SFlow} {l : List SHolding} (h : hck flows l = 0) : l.length ≤ 256 ∧ ∀ x ∈ l, x.f2.length ≤ 32 := by
  have hid : ∀ x ∈ l, 0 ≤ x.f0 ∧ x.f0 ≤ 255 := fun x hx => by
    obtain ⟨m, hm, rfl⟩ := mem_getD zHolding hx
    have h1 := hck_find h m hm
    rcases ix_spec (fun f : SFlow => f.f0 == (l.getD m zHolding).f0) zFlow flows with ⟨h2, _⟩ | ⟨n, h2, h3, h4⟩
    · omega
    · have h5 := fchk_ok (fck_mem (fck_of_hck h) (getD_mem (z := zFlow) h3))
      have h6 : (flows.getD n zFlow).f0 = (l.getD m zHolding).f0 := by simpa using h4
      omega
  refine ⟨?_, fun x hx => ?_⟩
  · rcases Nat.eq_zero_or_pos l.length with h0 | h0
    · omega
    · have h1 := inc_ge (hck_inc h) (fun x hx => (hid x hx).1) (l.length - 1) (by omega)
      have h2 := hid _ (getD_mem (z := zHolding) (show l.length - 1 < l.length by omega))
      omega
  · obtain ⟨m, hm, rfl⟩ := mem_getD zHolding hx
    exact ack_len _ (hck_all h m hm).2
theorem hck_sized {flows : List SFlow} {l : List SHolding} (h : hck flows l = 0) : HSized l ∧ (l.length + 20) * 40 ≤ 140737488351232 :=
  ⟨⟨by have := (hck_small h).1; omega, fun x hx => by have := (hck_small h).2 x hx; omega⟩, by have := (hck_small h).1; omega⟩
theorem begin_ok {flows : List SFlow} {me slot : Int} {l : List SHolding} (h : hck flows l = 0) (h1 : 0 ≤ me ∧ me < 32) (h2 : 0 ≤ slot ∧ slot ≤ 1073741824) : (begin_ flows me slot l).2 = 0 := by
  unfold begin_
  rw [if_neg]
  unfold hcheck
  rw [h, if_neg (by simp), if_neg (by omega)]
  simp

theorem fcur_mono {f : SFlow} {s t : Int} (h : (fcur f s).2 = true) (hst : s ≤ t) (ht : t ≤ 1073741824) : (fcur f t).2 = true ∧ (fcur f s).1 ≤ (fcur f t).1 := by
  unfold fcur at h ⊢
  split at h
  · cases h
  · rename_i hn
    have h1 : fchk 32 f = 0 := Decidable.byContradiction fun e => hn (Or.inl e)
    have hk := fchk_ok h1
    rw [if_neg hn, if_neg (by rintro (e | e | e) <;> first | exact e h1 | omega)]
    exact ⟨rfl, Int.ediv_le_ediv (by omega) (by omega)⟩

/-- What is asked of a frame known to be delivered: it is no later than the one under way, and if it is that one, the node holds it. -/
def KnownP (flows : List SFlow) (slot : Int) (l : List SHolding) (id fr : Int) : Prop :=
  ∃ f ∈ flows, f.f0 = id ∧ (fcur f slot).2 = true ∧ fr ≤ (fcur f slot).1 ∧ (fr = (fcur f slot).1 → ∃ h ∈ l, h.f0 = id ∧ h.f1 = fr)
theorem begGo2_sub (flows : List SFlow) (self slot : Int) (x : SHolding) : ∀ (d k : Nat) (acc : List SHolding), x ∈ acc → x ∈ begGo2 flows self slot d k acc
  | 0, k, acc, h => by unfold begGo2; exact h
  | d + 1, k, acc, h => by
    unfold begGo2
    refine begGo2_sub flows self slot x d (k + 1) _ ?_
    split
    · exact addH_mem.2 (Or.inr h)
    · exact h
theorem known_begin {flows : List SFlow} {me s t : Int} {l : List SHolding} {id fr : Int} (hk : KnownP flows s l id fr) (hst : s ≤ t) (h : (begin_ flows me t l).2 = 0) : KnownP flows t (begin_ flows me t l).1 id fr := by
  have hb := begun h
  obtain ⟨f, hm, he, hc, hle, hh⟩ := hk
  obtain ⟨m1, m2⟩ := fcur_mono hc hst hb.sl.2
  refine ⟨f, hm, he, m1, by omega, fun e => ?_⟩
  obtain ⟨x, hx, hx0, hx1⟩ := hh (by omega)
  refine ⟨x, ?_, hx0, hx1⟩
  have hl : liveB flows t x = true := by
    unfold liveB hcur
    rw [(flow_at hb.fl hm (he.trans hx0.symm)).1, m1, hx1, e]
    simp
  unfold begin_ at h ⊢
  split at h
  · rename_i hc; exact absurd h hc
  · rename_i hc
    rw [if_neg hc]
    have e := begGo1_eq flows t l l.length 0 [] (by omega)
    rw [List.drop_zero, List.nil_append] at e
    rw [e]
    exact begGo2_sub _ _ _ _ _ _ _ (List.mem_filter.2 ⟨hx, hl⟩)

/-- What Hear does behind Begin. -/
theorem hear_begun {flows : List SFlow} {me slot : Int} {l : List SHolding} (hb : Begun flows me slot l) {f : SFlow} (hm : f ∈ flows) (frame : Int) :
    (hear flows me slot l f.f0 frame).2.2 = 0 ∧ Begun flows me slot (hear flows me slot l f.f0 frame).1 ∧ (∀ x ∈ l, x ∈ (hear flows me slot l f.f0 frame).1) ∧
    ((hear flows me slot l f.f0 frame).2.1 = true → f.f2 = me ∧ fcur f slot = (frame, true) ∧ (∀ x ∈ l, x.f0 ≠ f.f0) ∧ ⟨f.f0, frame, []⟩ ∈ (hear flows me slot l f.f0 frame).1) := by
  have hf := flow_at hb.fl hm rfl
  unfold hear
  rw [hb.hcheck_, if_neg (by simp)]
  split
  · exact ⟨rfl, hb, fun x hx => hx, fun h => by cases h⟩
  · rename_i h1
    rw [hf.1]
    split
    · exact ⟨rfl, hb, fun x hx => hx, fun h => by cases h⟩
    · rename_i h2
      have hn : ∀ x ∈ l, x.f0 ≠ f.f0 := fun x hx => by
        have := ix_neg.1 (show ix (fun h : SHolding => h.f0 == f.f0) zHolding l < 0 by omega) x hx
        simpa using this
      have hc : fcur f slot = (frame, true) := Prod.ext (Decidable.byContradiction fun e => h2 (Or.inr e)) (by
        cases e : (fcur f slot).2 with
        | true => rfl
        | false => exact absurd (Or.inl e) h2)
      refine ⟨rfl, ⟨hb.fl, hb.se, hb.sl, addH_inc hb.inc hn, ?_, ?_⟩, fun x hx => addH_mem.2 (Or.inr hx), fun h => ⟨by simpa using h, hc, hn, addH_mem.2 (Or.inl rfl)⟩⟩
      · intro x hx
        rcases addH_mem.1 hx with rfl | hx
        · exact ⟨⟨f, hm, rfl, hc⟩, rfl⟩
        · exact hb.good x hx
      · intro g hg g1 g2
        obtain ⟨x, hx, he⟩ := hb.all g hg g1 g2
        exact ⟨x, addH_mem.2 (Or.inr hx), he⟩
theorem known_hear {flows : List SFlow} {me slot : Int} {l : List SHolding} (hb : Begun flows me slot l) {f : SFlow} (hm : f ∈ flows) (frame : Int) {id fr : Int} (hk : KnownP flows slot l id fr) : KnownP flows slot (hear flows me slot l f.f0 frame).1 id fr := by
  obtain ⟨g, h1, h2, h3, h4, h5⟩ := hk
  exact ⟨g, h1, h2, h3, h4, fun e => by
    obtain ⟨x, hx, he⟩ := h5 e
    exact ⟨x, (hear_begun hb hm frame).2.2.1 x hx, he⟩⟩
theorem known_not {flows : List SFlow} {me slot : Int} {l : List SHolding} (hb : Begun flows me slot l) {f : SFlow} (hm : f ∈ flows) {frame : Int} (hd : (hear flows me slot l f.f0 frame).2.1 = true) : ¬ KnownP flows slot l f.f0 frame := by
  rintro ⟨g, h1, h2, h3, h4, h5⟩
  obtain ⟨a, b, c, d⟩ := (hear_begun hb hm frame).2.2.2 hd
  obtain rfl := fck_uniq hb.fl h1 hm h2
  obtain ⟨x, hx, he, _⟩ := h5 (by rw [b])
  exact c x hx he
theorem known_new {flows : List SFlow} {me slot : Int} {l : List SHolding} (hb : Begun flows me slot l) {f : SFlow} (hm : f ∈ flows) {frame : Int} (hd : (hear flows me slot l f.f0 frame).2.1 = true) : KnownP flows slot (hear flows me slot l f.f0 frame).1 f.f0 frame := by
  obtain ⟨a, b, c, d⟩ := (hear_begun hb hm frame).2.2.2 hd
  exact ⟨f, hm, rfl, by rw [b], by rw [b]; exact Int.le_refl _, fun _ => ⟨_, d, rfl, rfl⟩⟩
end Go.Proofs.Ytjgkalppjfmkoaa
