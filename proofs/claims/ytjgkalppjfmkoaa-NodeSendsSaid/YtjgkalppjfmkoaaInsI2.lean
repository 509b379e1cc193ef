/- slices.Insert at holdings: one value ahead of the end where there is no room. -/
import Derived.Test.YtjgkalppjfmkoaaInsI1
import Derived.Lib.AppendZerosOnto
namespace Go.Proofs.Ytjgkalppjfmkoaa
open Go.RowKit Go.Shelf Go.Proofs.YtjgkalppjfmkoaaW.PrintWords
set_option linter.unusedVariables false
set_option linter.unusedSimpArgs false

def GrowPostI (w : World) (n i : Nat) (cur cs : List Value) (e : Ending) (w' : World) : Prop :=
  ∃ (G : Nat) (rest : List Value), e = .returned (.slice (some ⟨w.heap.size, 0, none⟩) (n + 1) G) ∧ n + 1 ≤ G ∧ G ≤ maxLen ∧ rest.length = (G - (n + 1)) ∧
    w'.heap[w.heap.size]? = some (.cells (cur.take (i) ++ cs ++ cur.drop (i) ++ rest).toArray 3 (0, 0)) ∧ w.grownBy w' none

set_option maxRecDepth 100000 in
set_option maxHeartbeats 4000000 in
theorem InsertI_grow (g n i vb : Nat) (cur cs : List Value) (w : World) (hi : i < n) (hbig : (n + 1) * 8 ≤ 140737488355328) (hg : w.heap[g]? = some (.cells cur.toArray 3 (0, 0))) (hcl : cur.length = n)
    (hvb : w.heap[vb]? = some (.cells cs.toArray 3 (0, 0))) (hcs : cs.length = 1) (h1 : ∀ u ∈ cur, u.oneCell' = true) (h2 : ∀ u ∈ cs, u.oneCell' = true) :
    Calls Try.prog 55 #[.slice (some ⟨g, 0, none⟩) n n, .int .i64 i, .slice (some ⟨vb, 0, none⟩) 1 1] w (GrowPostI w n i cur cs) := by
  have hn63 : n ≤ 17592186044415 := by omega
  have HBIG := Aside0.mk hbig
  clear hbig
  obtain ⟨i0, hi0, hz0, hzs, hzb⟩ := info_parts info_i64
  have hb1 : ¬ ((i : Int) = (n : Int)) := by omega
  have hkk : (n : Int) + 1 - (i : Int) = ((n + 1 - i : Nat) : Int) := by omega
  have hik : i + (n + 1 - i) = n + 1 := by omega
  have hold : (Builtin.firstCells i0.size i (.slice (some ⟨g, 0, none⟩) i n)).run Try.prog w.drew = .ok (cur.take (i)).toArray w.drew := by
    rw [hzs]
    refine run_firstCells_some w.drew 1 i ⟨g, 0, none⟩ i n (cur.take (i)) (by rw [List.length_take, hcl]; omega) (fun j v hj => ?_)
    rw [Addr.add_lit]
    show w.cell? ⟨g, 0 + j, none⟩ = some v
    rw [cell_of_row w g _ _ _ _ hg]
    rw [List.getElem?_take] at hj
    split at hj
    · simpa using hj
    · cases hj
  obtain ⟨G, hG⟩ : ∃ G, G = grownCap w (n + 1) n 3 := ⟨_, rfl⟩
  have hGn : n + 1 ≤ G := by rw [hG]; exact grownCap_ge w _ _ _
  have hG63 : G ≤ 9223372036854775807 := by
    have := grownCap_le_maxLen w (n + 1) n 3 (by unfold maxLen; omega)
    rw [← hG] at this
    unfold maxLen at this
    omega
  obtain ⟨Z1, hZ1⟩ : ∃ Z, Z = Builtin.zeroCells (Value.int .i64 0).cells (n + 1 - i) := ⟨_, rfl⟩
  obtain ⟨Z2, hZ2⟩ : ∃ Z, Z = Builtin.zeroCells (Value.int .i64 0).cells (G - (n + 1)) := ⟨_, rfl⟩
  have hl1 : Z1.size = (n + 1 - i) := by rw [hZ1, zeroCells_len]; exact Nat.mul_one _
  have hl2 : Z2.size = (G - (n + 1)) := by rw [hZ2, zeroCells_len]; exact Nat.mul_one _
  have hrz : ∀ ty, (Builtin.append_ #[43, 3] ty #[.slice (some ⟨g, 0, none⟩) i n, .int .i64 ((n : Int) + 1 - (i : Int))]).run Try.prog w =
      .ok (.slice (some ⟨w.heap.size, 0, none⟩) (n + 1) G) (w.drew.alloc (.cells ((cur.take (i)).toArray ++ Z1 ++ Z2) 3)) := fun ty => by
    have h := Lib.run_append_grow_zeros w 43 3 ty 3 i0 _ .i64 .i64 Try.underlying43 Try.underlying3 hi0 hz0 (some ⟨g, 0, none⟩) i n (cur.take (i)) hold (n + 1 - i) (by omega) (by rw [hzs]; omega) (by omega) (by omega) (by rw [hzb]; have := HBIG.out; omega) (by rw [hzb, hik]; exact growslice_fits (by omega) HBIG.out)
    rw [hik, ← hG, ← hZ1, ← hZ2] at h
    rw [hkk]
    exact h
  have hsz : (Try.prog.info? 3).map (·.size) = some 1 := by kernel_rfl
  obtain ⟨R0, hR0⟩ : ∃ R : List Value, R = cur.take (i) ++ Z1.toList ++ Z2.toList := ⟨_, rfl⟩
  have hR0a : (cur.take (i)).toArray ++ Z1 ++ Z2 = R0.toArray := by rw [hR0]; simp
  have hlc : (cur.take (i)).length = i := by rw [List.length_take, hcl]; omega
  have hR0l : R0.length = G := by rw [hR0]; simp [hl1, hl2, hcl]; omega
  have hgw : g < w.heap.size := blk_lt hg
  have hvw : vb < w.heap.size := blk_lt hvb
  obtain ⟨W1, hW1⟩ : ∃ x, x = w.drew.alloc (.cells R0.toArray 3) := ⟨_, rfl⟩
  rw [hR0a, ← hW1] at hrz
  have hH1 : W1.heap[w.heap.size]? = some (.cells R0.toArray 3 (0, 0)) := by rw [hW1]; exact blk_new w.drew _
  have hV1 : W1.heap[vb]? = some (.cells cs.toArray 3 (0, 0)) := by rw [hW1]; exact blk_alloc (w := w.drew) hvb _
  have hg1 : W1.heap[g]? = some (.cells cur.toArray 3 (0, 0)) := by rw [hW1]; exact blk_alloc (w := w.drew) hg _
  have hb1' : w.grownBy W1 none := by rw [hW1]; exact ⟨rfl, rfl, rfl, by simp, fun k hk _ => Below.heap_alloc w.drew _ k hk⟩
  obtain ⟨R1, hR1⟩ : ∃ x, x = R0.take (i) ++ cs ++ R0.drop (i + cs.length) := ⟨_, rfl⟩
  have hR1l : R1.length = G := by rw [hR1]; simp [hR0l, hcs]; omega
  obtain ⟨W2, hW2⟩ : ∃ x, x = W1.setRow w.heap.size R1.toArray := ⟨_, rfl⟩
  have hcpA : ∀ ty dc, (Builtin.copy_ #[43, 43] ty #[.slice (some ⟨w.heap.size, i, none⟩) (n + 1 - i) dc, .slice (some ⟨vb, 0, none⟩) 1 1]).run Try.prog W1 = .ok (goInt ((1 : Nat) : Int)) W2 := fun ty dc => by
    rw [hW2, hR1]
    refine run_copy_row_k W1 _ _ ty 3 1 w.heap.size (i) (n + 1 - i) dc ⟨vb, 0, none⟩ 1 1 R0 3 cs Try.underlying43 hsz 1 (by simp only [Nat.min_def]; split <;> omega) hH1 (by rw [hcs]) (fun j v hj => ?_) (by rw [hcs, hR0l]; omega) h2
    rw [Addr.add_lit, cell_of_row W1 vb _ _ _ _ hV1]
    simpa using hj
  have hH2 : W2.heap[w.heap.size]? = some (.cells R1.toArray 3 (0, 0)) := by rw [hW2]; exact setRow_heap W1 _ _ _ _ _ hH1
  have hg2 : W2.heap[g]? = some (.cells cur.toArray 3 (0, 0)) := by rw [hW2, setRow_other W1 _ g _ (by omega)]; exact hg1
  have hb2' : w.grownBy W2 none := ⟨by rw [hW2]; exact hb1'.os, by rw [hW2]; exact hb1'.tape, by rw [hW2]; exact hb1'.output, by rw [hW2]; have := hb1'.size; simpa [World.setRow] using this, fun k hk hne => by rw [hW2, setRow_other W1 _ k _ (by omega)]; exact hb1'.block k hk hne⟩
  obtain ⟨R2, hR2⟩ : ∃ x, x = R1.take ((i + 1)) ++ cur.drop (i) ++ R1.drop ((i + 1) + (cur.drop (i)).length) := ⟨_, rfl⟩
  obtain ⟨W3, hW3⟩ : ∃ x, x = W2.drew.setRow w.heap.size R2.toArray := ⟨_, rfl⟩
  have hdl : (cur.drop (i)).length = (n - i) := by rw [List.length_drop, hcl]
  have hcpB : ∀ ty dc sc, (Builtin.copy_ #[43, 43] ty #[.slice (some ⟨w.heap.size, (i + 1), none⟩) (n - i) dc, .slice (some ⟨g, i, none⟩) (n - i) sc]).run Try.prog W2.drew = .ok (goInt ((n - i : Nat) : Int)) W3 := fun ty dc sc => by
    rw [hW3, hR2]
    refine run_copy_row_k W2.drew _ _ ty 3 1 w.heap.size ((i + 1)) (n - i) dc ⟨g, i, none⟩ (n - i) sc R1 3 (cur.drop (i)) Try.underlying43 hsz (n - i) (by simp only [Nat.min_def]; split <;> omega) hH2 (by rw [hdl]; omega) (fun j v hj => ?_) (by rw [hdl, hR1l]; omega) (fun v hv => h1 v (List.mem_of_mem_drop hv))
    rw [Addr.add_lit]
    show W2.cell? ⟨g, i + j, none⟩ = some v
    rw [cell_of_row W2 g _ _ _ _ hg2]
    rw [List.getElem?_drop] at hj
    simpa using hj
  have hH3 : W3.heap[w.heap.size]? = some (.cells R2.toArray 3 (0, 0)) := by rw [hW3]; exact setRow_heap W2.drew _ _ _ _ _ hH2
  have hb3' : w.grownBy W3 none := ⟨by rw [hW3]; exact hb2'.os, by rw [hW3]; exact hb2'.tape, by rw [hW3]; exact hb2'.output, by rw [hW3]; have := hb2'.size; simpa [World.setRow] using this, fun k hk hne => by rw [hW3, setRow_other W2.drew _ k _ (by omega)]; exact hb2'.block k hk hne⟩
  have e1 : R0.take (i) = cur.take (i) := by rw [hR0, List.append_assoc, List.take_append_of_le_length (by rw [hlc]; omega), List.take_of_length_le (by rw [hlc]; omega)]
  have e3 : R2 = cur.take (i) ++ cs ++ cur.drop (i) ++ R1.drop ((n + 1)) := by
    have e2 : R1.take ((i + 1)) = cur.take (i) ++ cs := by
      rw [hR1, e1, List.take_left' (by simp [hcs, hcl]; omega)]
    rw [hR2, e2, hdl, show (i + 1) + (n - i) = (n + 1) by omega]
  have HF := Aside0.mk (show ∃ rest : List Value, rest.length = (G - (n + 1)) ∧ W3.heap[w.heap.size]? = some (.cells (cur.take (i) ++ cs ++ cur.drop (i) ++ rest).toArray 3 (0, 0)) ∧ w.grownBy W3 none from ⟨R1.drop ((n + 1)), by rw [List.length_drop, hR1l], by rw [hH3, e3], hb3'⟩)
  have hc1 : ¬ (G = i) := by omega
  have hc2 : ¬ (G = i + 1) := by omega
  have hc3 : ¬ (n = i) := by omega
  have hw1 : IntKind.i64.wrap ((i : Int) + 1) = (i : Int) + 1 := IntWalk.i64_in _ (by omega)
  have hw2 : (0 : Int) ≤ (i : Int) + 1 := by omega
  have hw3 : (i : Int) + 1 ≤ (n : Int) + 1 := by omega
  have hw4 : ((i : Int) + 1).toNat = i + 1 := by omega
  have hw5 : (i : Int) ≤ (n : Int) := by omega
  clear hkk hik hold hR0 hR0a hlc hR0l hW1 hH1 hV1 hg1 hb1' hR1 hR1l hW2 hH2 hg2 hb2' hR2 hW3 hdl hH3 hb3' e1 e3 hsz hl1 hl2 hZ1 hZ2 hG hi0 hz0 hzs hzb hg hcl hvb hcs h1 h2 hgw hvw
  go_enter Try.func55, Try.ntmps55
  go_wp2_with (first
    | (at_builtin; refine Lib.wpList_append_run _ rfl _ _ _ _ rfl _ _ rfl rfl _ _ (hrz _) ?_)
    | (refine gate_ (.call { callee := .builtin .copy, args := #[.tmp 43, .tmp 44], argTypes := #[43, 43] }) rfl ?_; refine wpList_copy_known W1 rfl (.tmp 43) (.tmp 44) 43 43 rfl _ _ rfl rfl (hcpA _ _) ?_))
  go_region_law (refine step_copy_known rfl _ _ 43 43 rfl _ _ (by simp [Act.eval, Act.put]) (by simp [Act.eval, Act.put]) (hcpB _ _ _) ?_)
  go_wp2
  go_ret
  obtain ⟨rest, hl, hh, hb⟩ := HF.out
  exact ⟨G, rest, rfl, hGn, by unfold maxLen; omega, hl, hh, hb⟩
end Go.Proofs.Ytjgkalppjfmkoaa
