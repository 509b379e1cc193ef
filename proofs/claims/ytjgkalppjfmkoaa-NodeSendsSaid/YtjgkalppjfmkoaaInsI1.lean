/- slices.Insert at ints: one value into a row of the call's own. -/
import Derived.Test.YtjgkalppjfmkoaaIns2
import Derived.Laws.CopyRow
import Derived.Laws.IdiomCopy
import Derived.Laws.Externs
import Derived.Lib.Overlaps
import Derived.Lib.AppendZeros
import Derived.Deep.RegionLaw
namespace Go.Proofs.Ytjgkalppjfmkoaa
open Go.RowKit Go.Shelf Go.Proofs.YtjgkalppjfmkoaaW.PrintWords
set_option linter.unusedVariables false
set_option linter.unusedSimpArgs false

set_option maxRecDepth 100000 in
set_option maxHeartbeats 4000000 in
/-- There is room, and the place lies ahead of the end: in place. -/
theorem InsertI_room (g n cap i vb : Nat) (cur cs : List Value) (w : World) (hi : i < n) (hroom : n + 1 ≤ cap) (hcap : cap ≤ maxLen) (hg : w.heap[g]? = some (.cells cur.toArray 3 (0, 0))) (hcl : cur.length = cap)
    (hvb : w.heap[vb]? = some (.cells cs.toArray 3 (0, 0))) (hne : vb ≠ g) (hcs : cs.length = 1) (h1 : ∀ u ∈ cur.take (n), u.oneCell' = true) (h2 : ∀ u ∈ cs, u.oneCell' = true) :
    Calls Try.prog 55 #[.slice (some ⟨g, 0, none⟩) n cap, .int .i64 i, .slice (some ⟨vb, 0, none⟩) 1 1] w fun e w' =>
      e = .returned (.slice (some ⟨g, 0, none⟩) (n + 1) cap) ∧ w'.heap[g]? = some (.cells (cur.take (i) ++ cs ++ (cur.take (n)).drop (i) ++ cur.drop ((n + 1))).toArray 3 (0, 0)) ∧ w.grownBy w' (some g) := by
  unfold maxLen at hcap
  have hb1 : ¬ ((i : Int) = (n : Int)) := by omega
  have hb2 : ¬ (cap = i + 1) := by omega
  have hb3 : ¬ (cap = i) := by omega
  have HG := Aside0.mk hg
  have HV := Aside0.mk hvb
  have HC := Aside0.mk hcl
  have HS := Aside0.mk hcs
  have HN := Aside0.mk hne
  clear hg hvb hcl hcs hne
  have hov : ∀ (a : Nat) lb cb, (callFunc 68 #[.slice (some ⟨vb, 0, none⟩) 1 1, .slice (some ⟨g, a, none⟩) lb cb]).run Try.prog w = .ok (.value (.bool false)) w := fun a lb cb => by
    have hsv : w.shape? vb = some (3, 1) := by simp [World.shape?, HV.out, HS.out]
    have hsg : w.shape? g = some (3, cap) := by simp [World.shape?, HG.out, HC.out]
    rw [run_callFunc_extern Try.func68 (by kernel_rfl) (by kernel_rfl) (by kernel_rfl) (e := Extern.SlicesOverlaps.overlaps #[43, 43] #[4]) (by kernel_rfl),
      Lib.run_overlaps_apart w 43 4 3 Try.underlying43 1 (fun w => by kernel_rfl) ⟨vb, 0, none⟩ ⟨g, a, none⟩ 1 1 lb cb HN.out _ _ _ _ hsv hsg (by omega) (blk_frozen HV.out _) (blk_frozen HV.out _)]
    rfl
  go_enter Try.func55, Try.ntmps55
  go_wp2_with (simp only [hov])
  have hsz : (Try.prog.info? 3).map (·.size) = some 1 := by kernel_rfl
  obtain ⟨cells, hcells⟩ : ∃ x, x = (cur.take (n)).drop (i) := ⟨_, rfl⟩
  have hl1 : cells.length = (n - i) := by rw [hcells, List.length_drop, List.length_take, HC.out]; omega
  obtain ⟨C1, hC1⟩ : ∃ x, x = cur.take ((i + 1)) ++ cells ++ cur.drop ((i + 1) + cells.length) := ⟨_, rfl⟩
  have hlC1 : C1.length = cap := by rw [hC1]; simp [hl1, HC.out]; omega
  have hcp1 : ∀ ty dc sc, (Builtin.copy_ #[43, 43] ty #[.slice (some ⟨g, (i + 1), none⟩) (n - i) dc, .slice (some ⟨g, i, none⟩) (n + 1 - i) sc]).run Try.prog w.drew = .ok (goInt ((n - i : Nat) : Int)) (w.drew.setRow g C1.toArray) := fun ty dc sc => by
    rw [hC1]
    refine run_copy_row_k w.drew _ _ ty 3 1 g ((i + 1)) (n - i) dc ⟨g, i, none⟩ (n + 1 - i) sc cur 3 cells Try.underlying43 hsz (n - i) (by simp only [Nat.min_def]; split <;> omega) HG.out (by rw [hl1]; omega) (fun j v hj => ?_) (by rw [hl1, HC.out]; omega) (fun v hv => h1 v (by rw [hcells] at hv; exact List.mem_of_mem_drop hv))
    rw [Addr.add_lit]
    show w.cell? ⟨g, i + j, none⟩ = some v
    rw [cell_of_row w g _ _ _ _ HG.out]
    rw [hcells, List.getElem?_drop, List.getElem?_take] at hj
    split at hj
    · simpa using hj
    · cases hj
  obtain ⟨W1, hW1⟩ : ∃ x, x = w.drew.setRow g C1.toArray := ⟨_, rfl⟩
  rw [← hW1] at hcp1
  have hG1 : W1.heap[g]? = some (.cells C1.toArray 3 (0, 0)) := by rw [hW1]; exact setRow_heap w.drew g _ _ _ _ HG.out
  have hV1 : W1.heap[vb]? = some (.cells cs.toArray 3 (0, 0)) := by rw [hW1, setRow_other w.drew g vb _ HN.out]; exact HV.out
  have hr1 : w.grownBy W1 (some g) := by
    rw [hW1]
    exact ⟨rfl, rfl, rfl, by simp [World.setRow], fun k _ hk => setRow_other w.drew g k _ (fun e => hk (by rw [e]))⟩
  obtain ⟨C2, hC2⟩ : ∃ x, x = C1.take (i) ++ cs ++ C1.drop (i + cs.length) := ⟨_, rfl⟩
  obtain ⟨W2, hW2⟩ : ∃ x, x = W1.setRow g C2.toArray := ⟨_, rfl⟩
  have hcp2 : ∀ ty dc, (Builtin.copy_ #[43, 43] ty #[.slice (some ⟨g, i, none⟩) (n + 1 - i) dc, .slice (some ⟨vb, 0, none⟩) 1 1]).run Try.prog W1 = .ok (goInt ((1 : Nat) : Int)) W2 := fun ty dc => by
    rw [hW2, hC2]
    refine run_copy_row_k W1 _ _ ty 3 1 g (i) (n + 1 - i) dc ⟨vb, 0, none⟩ 1 1 C1 3 cs Try.underlying43 hsz 1 (by simp only [Nat.min_def]; split <;> omega) hG1 (by rw [HS.out]) (fun j v hj => ?_) (by rw [HS.out, hlC1]; omega) h2
    rw [Addr.add_lit, cell_of_row W1 vb _ _ _ _ hV1]
    simpa using hj
  have hG2 : W2.heap[g]? = some (.cells C2.toArray 3 (0, 0)) := by rw [hW2]; exact setRow_heap W1 g _ _ _ _ hG1
  have hr2 : w.grownBy W2 (some g) := hr1.trans ⟨by rw [hW2]; rfl, by rw [hW2]; rfl, by rw [hW2]; rfl, by rw [hW2]; simp [World.setRow], fun k _ hk => by rw [hW2]; exact setRow_other W1 g k _ (fun e => hk (by rw [e]))⟩
  have HCC := Aside0.mk hC1
  have HC2 := Aside0.mk hC2
  have HCE := Aside0.mk hcells
  have HG2 := Aside0.mk hG2
  have HR2 := Aside0.mk hr2
  have HL1 := Aside0.mk hl1
  clear hW1 hW2 hG1 hV1 hr1 hr2 hG2 hC1 hC2 hcells hlC1 hsz h1 h2 hl1 hov
  have hw1 : IntKind.i64.wrap ((i : Int) + 1) = (i : Int) + 1 := IntWalk.i64_in _ (by omega)
  have hw2 : (0 : Int) ≤ (i : Int) + 1 := by omega
  have hw3 : (i : Int) + 1 ≤ (n : Int) + 1 := by omega
  have hw4 : ((i : Int) + 1).toNat = i + 1 := by omega
  have hw5 : (i : Int) ≤ (n : Int) + 1 := by omega
  go_region_law (refine step_copy_known rfl _ _ 43 43 rfl _ _ (by simp [Act.eval, Act.put]) (by simp [Act.eval, Act.put]) (hcp1 _ _ _) ?_)
  clear hcp1
  go_wp2_with (refine gate_ (.call { callee := .builtin .copy, args := #[.tmp 80, .tmp 81], argTypes := #[43, 43] }) rfl ?_; refine wpList_copy_known W1 rfl (.tmp 80) (.tmp 81) 43 43 rfl _ _ rfl rfl (hcp2 _ _) ?_)
  go_ret
  refine ⟨rfl, ?_, HR2.out⟩
  rw [HG2.out]
  have e1 : (cur.take ((i + 1))).length = (i + 1) := by rw [List.length_take, HC.out]; omega
  have e2 : C1.take (i) = cur.take (i) := by
    rw [HCC.out, List.append_assoc, List.take_append_of_le_length (by rw [e1]; omega), List.take_take, Nat.min_eq_left (by omega)]
  have e3 : C1.drop (i + cs.length) = cells ++ cur.drop ((n + 1)) := by
    rw [HCC.out, HS.out, List.append_assoc, List.drop_left' e1, HL1.out, show (i + 1) + (n - i) = (n + 1) by omega]
  rw [HC2.out, e2, e3, HCE.out]
  simp only [List.append_assoc]
end Go.Proofs.Ytjgkalppjfmkoaa
