/- Arguments of a law, opened: what a value that can be read as data holds, told as a kind (Kd) of the print's words: whole numbers, bools, strings, slices, structs, nested as they come. -/
import Derived.Test.YtjgkalppjfmkoaaWWords
import Derived.Deep.Slices
import Derived.SizedLaws
import Derived.ChangeArms
namespace Go.Proofs.Ytjgkalppjfmkoaa
open Go.RowKit Go.ChangeShapes Go.WideShapes Go.Deep Go.Proofs.YtjgkalppjfmkoaaW.PrintWords

/-- Whatever reads as data of type t is of kind d, and good. -/
structure Opens (P : Program) (t : TypeId) {α : Type} (d : Kd α) (good : α → Prop) : Prop where mk ::
  (out : ∀ {H : Type} {enc : TypeId × Value → H} {W : World} {fuel : Nat} {cs : List Value} {x : DataW H × List MemPlace},
    DataW.trod enc P W 0 (fun _ => true) true fuel t cs = some x → (∀ n ∈ x.1.weights P t, n ≤ reachBytes) → ∃ a, d.K W a cs ∧ good a)

theorem opens_int {P : Program} {t : TypeId} {k : IntKind} (ht : P.underlying t = some (.int k)) : Opens P t (Kd.int k) (fun n => (Lit.int k n).wf = true) :=
  ⟨fun h _ => by
    obtain ⟨n, rfl, _, hw⟩ := DataW.trod_int ht h
    exact ⟨n, rfl, hw⟩⟩

theorem opens_bool {P : Program} {t : TypeId} (ht : P.underlying t = some .bool) : Opens P t Kd.bool (fun _ => True) :=
  ⟨fun h _ => by
    obtain ⟨b, rfl, _⟩ := DataW.trod_bool ht h
    exact ⟨b, rfl, trivial⟩⟩

theorem opens_string {P : Program} {t : TypeId} (ht : P.underlying t = some .string) : Opens P t Kd.string (fun s => s.size ≤ reachBytes) :=
  ⟨fun h hw => by
    obtain ⟨s, rfl, rfl, _⟩ := DataW.trod_string ht h
    exact ⟨s, rfl, by simpa using hw s.data.toList.length (by simp [DataW.weights])⟩⟩

theorem weights_all_mem {H : Type} {P : Program} {e : TypeId} : ∀ {l : List (DataW H)} {d : DataW H}, d ∈ l → ∀ n ∈ d.weights P e, n ∈ DataW.weightsAll P e l
  | d0 :: l, d, hd, n, hn => by
    rcases List.mem_cons.1 hd with rfl | hd
    · simp only [DataW.weightsAll, List.mem_append]
      exact Or.inl hn
    · simp only [DataW.weightsAll, List.mem_append]
      exact Or.inr (weights_all_mem hd n hn)
  | [], _, hd, _, _ => absurd hd (by simp)

/-- A slice: its length times its elements' bytes is within the reach, each element is good. -/
theorem opens_slice {P : Program} {t e : TypeId} {B : Nat} {α : Type} {d : Kd α} {good : α → Prop} (ht : P.underlying t = some (.slice e)) (hd : P.cellsOf e = d.sz) (hB : P.bytesOf e = B) (he : Opens P e d good) :
    Opens P t (Kd.slice e d) (fun xs => xs.length * B ≤ reachBytes ∧ ∀ x ∈ xs, good x) :=
  ⟨fun {H enc W fuel cs x} h hw => by
    rcases open_slice ht h with ⟨rfl, rfl⟩ | ⟨a, len, cap, m, n, D, Pl, rfl, _, hl, hm, hmm, rfl, hi⟩
    · exact ⟨[], ⟨none, 0, rfl, Nat.le_refl _, rfl, by simp, fun h0 => absurd h0 (by simp)⟩, by simp, by simp⟩
    · have hmc : m = cap := by simpa using hmm
      subst hmc
      simp only [DataW.weights, ht] at hw
      have hlen : len * B ≤ reachBytes := by
        have h1 := hw _ List.mem_cons_self
        rw [hB] at h1
        simp only [List.length_map, List.length_range] at h1
        exact Nat.le_trans (Nat.mul_le_mul_right _ (by omega)) h1
      have key : ∀ k, k ≤ len → ∃ xs : List α, xs.length = k ∧ (∀ x ∈ xs, good x) ∧ ∀ j p, xs[j]? = some p → ∃ c, c.length = d.sz ∧ d.K W p c ∧ ∀ i u, c[i]? = some u → W.cell? (a.add (j * d.sz + i)) = some u := by
        intro k
        induction k with
        | zero => exact fun _ => ⟨[], rfl, by simp, fun j p hp => by simp at hp⟩
        | succ k ih =>
          intro hk
          obtain ⟨xs, hxl, hg, hx⟩ := ih (by omega)
          obtain ⟨cs', hc, hr⟩ := hi k (by omega)
          obtain ⟨p, hp, hgp⟩ := he.out hr (fun q hq => hw q (by
            refine List.mem_cons_of_mem _ (List.mem_append_left _ (weights_all_mem (d := D k) ?_ q hq))
            exact List.mem_map.2 ⟨k, List.mem_range.2 (by omega), rfl⟩))
          obtain ⟨_, hcl, hat⟩ := World.cells?_some hc
          refine ⟨xs ++ [p], by simp [hxl], fun y hy => ?_, fun j q hq => ?_⟩
          · rcases List.mem_append.1 hy with hy | hy
            · exact hg y hy
            · rw [List.mem_singleton.1 hy]
              exact hgp
          · rcases Nat.lt_or_ge j k with hj | hj
            · rw [List.getElem?_append_left (by omega)] at hq
              exact hx j q hq
            · rw [List.getElem?_append_right (by omega), hxl] at hq
              have hj0 : j = k := by
                rcases Nat.eq_zero_or_pos (j - k) with h0 | h0
                · omega
                · rw [List.getElem?_eq_none (by simp; omega)] at hq
                  cases hq
              subst hj0
              simp only [Nat.sub_self, List.getElem?_cons_zero, Option.some.injEq] at hq
              subst hq
              refine ⟨cs', by rw [hcl, hd], hp, fun i u hu => ?_⟩
              have hlt : i < P.cellsOf e := by
                have := (List.getElem?_eq_some_iff.1 hu).1
                omega
              have := hat i hlt
              rw [hd] at this
              rw [← Go.Deep.add_add, this, hu]
      obtain ⟨xs, hxl, hg, hx⟩ := key len (Nat.le_refl _)
      subst hxl
      exact ⟨xs, ⟨some a, m, rfl, hl, rfl, by unfold maxLen at hm; omega, fun _ => ⟨a, rfl, hx⟩⟩, hlen, hg⟩⟩

/-- A struct's fields from an offset on. -/
structure OpensFs (P : Program) (fs : List Field) (off : Nat) {α : Type} (d : Kd α) (good : α → Prop) : Prop where mk ::
  (out : ∀ {H : Type} {enc : TypeId × Value → H} {W : World} {fuel : Nat} {cs : List Value} {xs : List (DataW H × List MemPlace)}, cs.length = d.sz → xs.length = fs.length →
    (∀ (i : Nat) (f : Field), fs[i]? = some f → DataW.trod enc P W 0 (fun _ => true) true fuel f.type ((cs.drop (f.offset - off)).take (P.cellsOf f.type)) = xs[i]?) →
    (∀ n ∈ DataW.weightsEach P (fs.map (·.type)) (xs.map (·.1)), n ≤ reachBytes) → ∃ a, d.K W a cs ∧ good a)

theorem opens_one {P : Program} {f : Field} {off : Nat} {α : Type} {d : Kd α} {good : α → Prop} (h : Opens P f.type d good) (ho : f.offset = off) (hc : P.cellsOf f.type = d.sz) : OpensFs P [f] off d good :=
  ⟨fun {H enc W fuel cs xs} hl hx hf hw => by
    match xs, hx with
    | [x], _ =>
      have h0 := hf 0 f rfl
      rw [ho, Nat.sub_self, List.drop_zero, hc, ← hl, List.take_length] at h0
      exact h.out h0 (fun n hn => hw n (by simp only [List.map_cons, List.map_nil, DataW.weightsEach, List.mem_append]; exact Or.inl hn))⟩

theorem opens_more {P : Program} {f : Field} {fs : List Field} {off : Nat} {α β : Type} {d : Kd α} {d' : Kd β} {good : α → Prop} {good' : β → Prop} (h : Opens P f.type d good) (ho : f.offset = off) (hc : P.cellsOf f.type = d.sz)
    (hs : ∀ g ∈ fs, off + d.sz ≤ g.offset) (h' : OpensFs P fs (off + d.sz) d' good') : OpensFs P (f :: fs) off (Kd.pair d d') (fun x => good x.1 ∧ good' x.2) :=
  ⟨fun {H enc W fuel cs xs} hl hx hf hw => by
    match xs, hx with
    | x :: xs, hx =>
      have hl' : cs.length = d.sz + d'.sz := hl
      have h0 := hf 0 f rfl
      rw [ho, Nat.sub_self, List.drop_zero, hc] at h0
      simp only [List.map_cons, DataW.weightsEach, List.mem_append] at hw
      obtain ⟨a, ha, hga⟩ := h.out h0 (fun n hn => hw n (Or.inl hn))
      obtain ⟨b, hb, hgb⟩ := h'.out (cs := cs.drop d.sz) (xs := xs) (by rw [List.length_drop]; omega) (by simpa using hx) (fun i g hg => by
        have h1 := hf (i + 1) g (by simpa using hg)
        have h2 := hs g (List.mem_of_getElem? hg)
        rw [List.drop_drop, show d.sz + (g.offset - (off + d.sz)) = g.offset - off by omega]
        simpa using h1) (fun n hn => hw n (Or.inr hn))
      exact ⟨(a, b), ⟨cs.take d.sz, cs.drop d.sz, (List.take_append_drop _ _).symm, ha, hb⟩, hga, hgb⟩⟩

/-- A struct: g makes the Lean structure of the nested pairs. -/
theorem opens_struct {P : Program} {t : TypeId} {fs : Array Field} {α β : Type} {d : Kd α} {f : β → α} {good : α → Prop} (ht : P.underlying t = some (.struct fs)) (hc : P.cellsOf t = d.sz) (h : OpensFs P fs.toList 0 d good) (g : α → β) (hg : ∀ a, f (g a) = a) :
    Opens P t (Kd.iso d f) (fun b => good (f b)) :=
  ⟨fun {H enc W fuel cs x} hr hw => by
    obtain ⟨xs, n, rfl, rfl, hl, hx, hf⟩ := DataW.trod_struct ht hr
    simp only [DataW.weights, ht] at hw
    obtain ⟨a, ha, hga⟩ := h.out (cs := cs) (xs := xs) (by rw [hl, hc]) (by simpa using hx) (fun i f' hi => by
      have := hf i f' (by simpa using hi)
      rwa [Nat.sub_zero]) (by simpa using hw)
    exact ⟨g a, by show d.K W (f (g a)) cs; rw [hg]; exact ha, by rw [hg]; exact hga⟩⟩

/-- An argument: what it holds. -/
theorem Opens.arg {P : Program} {t : TypeId} {α : Type} {d : Kd α} {good : α → Prop} (h : Opens P t d good) {H : Type} {enc : TypeId × Value → H} {W : World} {v : Value} {x : DataW H} {p : List MemPlace}
    (hr : DataW.Trod enc P W 0 (fun _ => true) true t v x p) (hw : ∀ n ∈ x.weights P t, n ≤ reachBytes) : ∃ a, d.K W a v.cells.toList ∧ good a := by
  obtain ⟨fuel, hf⟩ := hr
  exact h.out hf hw
theorem weights_arg {H : Type} {P : Program} {ts : List TypeId} {ds : List (DataW H)} (h : (DataW.weightsEach P ts ds).all (· ≤ reachBytes) = true) {j : Nat} {t : TypeId} {d : DataW H} (ht : ts[j]? = some t) (hd : ds[j]? = some d) :
    ∀ n ∈ d.weights P t, n ≤ reachBytes := fun n hn => by
  simpa using List.all_eq_true.1 h _ (DataW.weights_mem_each ht hd n hn)
end Go.Proofs.Ytjgkalppjfmkoaa
