/- The map of the law NodeOnce: the frames that are known to be delivered. -/
import Derived.Test.YtjgkalppjfmkoaaPlain4
import Derived.Maps.OwnOps
import Derived.Maps.OwnSet
import Derived.WideKeyPair
import Derived.DeepKeys4
namespace Go.Proofs.Ytjgkalppjfmkoaa
open Go.RowKit Go.Shelf Go.Maps Go.WideMaps Go.Proofs.YtjgkalppjfmkoaaW.PrintWords
set_option linter.unusedVariables false
set_option linter.unusedSimpArgs false

theorem key_arr : ArrKey Try.prog 52 3 2 := ⟨Try.underlying52, by kernel_rfl, by kernel_rfl, by kernel_rfl⟩
theorem key_law : Keyed Try.prog 52 := Keyed.of_law (deep_law_laid (by kernel_rfl) (m := 10) (by decide) (of_decide_eq_true (by kernel_rfl)) (by kernel_rfl) (by kernel_rfl))
def kl2 (a b : Int) : Lit := .string (keyBytes [.int .i64 a, .int .i64 b])
theorem key_kl {a b : Int} (wa : (Lit.int .i64 a).wf = true) (wb : (Lit.int .i64 b).wf = true) : keyOf Try.prog 52 (.agg #[.int .i64 a, .int .i64 b]) = some (kl2 a b) :=
  keyOf_pair key_arr Try.underlying3 ⟨_, rfl⟩ wa wb
theorem kl2_inj {a b c d : Int} (wa : (Lit.int .i64 a).wf = true) (wb : (Lit.int .i64 b).wf = true) (wc : (Lit.int .i64 c).wf = true) (wd : (Lit.int .i64 d).wf = true) (h : kl2 a b = kl2 c d) : a = c ∧ b = d := by
  have := key_law.inj (key_kl wa wb) (by rw [h]; exact key_kl wc wd)
  injection this with h1
  simpa using h1
theorem plainElem_bool_inv {H : Type} {P : Program} {e : TypeId} (he : P.underlying e = some .bool) {v : Value} {z : DataW H × List MemPlace} (h : plainElem P e v = some z) : ∃ x, v = .bool x ∧ z = (.lit (.bool x), []) := by
  unfold plainElem at h
  rw [he] at h
  cases v <;> simp at h
  exact ⟨_, rfl, h.symm⟩

/-- The map in block b: what it knows bears Q. -/
def KnowsM (W : World) (b n : Nat) (Q : Int → Int → Prop) : Prop :=
  ∃ D : DataW Unit, W.ownsMap Try.prog 52 (plainElem Try.prog 4) b n D ∧ ∀ i j, (Lit.int .i64 i).wf = true → (Lit.int .i64 j).wf = true → D.atKey (kl2 i j) (.lit (.bool false)) = .lit (.bool true) → Q i j
theorem ownsMap_below {W W' : World} {P : Program} {k : TypeId} {R : Value → Option (DataW Unit × List MemPlace)} {b n : Nat} {D : DataW Unit} (h : W.ownsMap P k R b n D) (hb : Below W.heap.size W W') : W'.ownsMap P k R b n D := by
  obtain ⟨es, clock, h1, h2, h3, h4⟩ := h
  exact ⟨es, clock, blk_below h1 hb, h2, h3, h4⟩
theorem KnowsM.made (w : World) (Q : Int → Int → Prop) : KnowsM (w.alloc (.map #[] 0)) w.heap.size 0 Q :=
  ⟨_, World.ownsMap_made _ _ _ _, fun i j _ _ h => by simp [DataW.atKey] at h⟩
theorem KnowsM.below {W W' : World} {b n : Nat} {Q : Int → Int → Prop} (h : KnowsM W b n Q) (hb : Below W.heap.size W W') : KnowsM W' b n Q := by
  obtain ⟨D, h1, h2⟩ := h
  exact ⟨D, ownsMap_below h1 hb, h2⟩
theorem KnowsM.imp {W : World} {b n m : Nat} {Q Q' : Int → Int → Prop} (h : KnowsM W b n Q) (hn : n ≤ m) (hq : ∀ i j, Q i j → Q' i j) : KnowsM W b m Q' := by
  obtain ⟨D, h1, h2⟩ := h
  exact ⟨D, h1.mono hn, fun i j wi wj hd => hq i j (h2 i j wi wj hd)⟩
theorem zero_bool (w : World) : (zeroValue 4).run Try.prog w = .ok (.bool false) w := by kernel_rfl
theorem KnowsM.look {W : World} {b n : Nat} {Q : Int → Int → Prop} (h : KnowsM W b n Q) {i j : Int} (wi : (Lit.int .i64 i).wf = true) (wj : (Lit.int .i64 j).wf = true) :
    ∃ x : Bool, (Instr.lookup 49 (.map (some b)) (.agg #[.int .i64 i, .int .i64 j]) false).run Try.prog W = .ok (.bool x) W ∧ (x = true → Q i j) := by
  obtain ⟨D, h1, h2⟩ := h
  obtain ⟨v, ps, hr, hv⟩ := h1.lookup key_law Try.underlying49 (zero_bool W) (plainElem_bool Try.underlying4 false) (key_kl wi wj)
  obtain ⟨x, rfl, hx⟩ := plainElem_bool_inv Try.underlying4 hv
  refine ⟨x, hr, fun e => h2 i j wi wj ?_⟩
  rw [← e]
  exact (Prod.mk.inj hx).1
theorem KnowsM.put {W : World} {b n : Nat} {D : DataW Unit} {Q : Int → Int → Prop} {a c : Int} (wa : (Lit.int .i64 a).wf = true) (wc : (Lit.int .i64 c).wf = true)
    (h : W.ownsMap Try.prog 52 (plainElem Try.prog 4) b n (D.put (kl2 a c) (.lit (.bool true))))
    (hD : ∀ i j, (Lit.int .i64 i).wf = true → (Lit.int .i64 j).wf = true → D.atKey (kl2 i j) (.lit (.bool false)) = .lit (.bool true) → Q i j) (hq : Q a c) : KnowsM W b n Q := by
  refine ⟨_, h, fun i j wi wj hd => ?_⟩
  by_cases e : kl2 i j = kl2 a c
  · obtain ⟨rfl, rfl⟩ := kl2_inj wi wj wa wc e
    exact hq
  · rw [atKey_put_other e] at hd
    exact hD i j wi wj hd
/-- A row of the call's own, beside a store into the map. -/
theorem R_beside {α : Type} {d : Kd α} {W w1 : World} {e base b n : Nat} {v : Value} {l : List α} {P : Program} {k : TypeId} {R : Value → Option (DataW Unit × List MemPlace)} {D : DataW Unit} (h : d.R e W base (fun _ => True) v l) (hown : W.ownsMap P k R b n D) (hg : W.grownBy w1 (some b)) : d.R e w1 base (fun _ => True) v l :=
  Kd.R_mono (Kd.R_grown (Kd.R_bound h) hg (fun q hq => by
    obtain ⟨_, _, _, t, _, cells, hc⟩ := hq
    obtain ⟨es, clock, hb, _⟩ := hown
    intro e
    injection e with e
    subst e
    rw [hc] at hb
    cases hb)) (fun _ _ => trivial)
end Go.Proofs.Ytjgkalppjfmkoaa
