/- slices.Insert at holdings: one value into a row of the call's own. -/
import Derived.Test.YtjgkalppjfmkoaaNode4
import Derived.Laws.CopyRow
import Derived.Laws.IdiomCopy
import Derived.Laws.Externs
import Derived.Lib.Overlaps
import Derived.Lib.AppendZeros
import Derived.Deep.RegionLaw
namespace Go.Proofs.Ytjgkalppjfmkoaa
open Go.RowKit Go.Shelf Go.Proofs.YtjgkalppjfmkoaaW.PrintWords
set_option linter.unusedVariables false
set_option linter.unusedSimpArgs false

/-- copy at elements of k cells, into a row that is known whole. -/
theorem run_copy_row_k {P : Program} (w : World) (dT sT ty elem : TypeId) (k : Nat) (g o dLen dCap : Nat) (a : Addr) (sLen sCap : Nat) (cur : List Value) (t : TypeId) (cs : List Value)
    (hu : P.underlying dT = some (.slice elem)) (hs : (P.info? elem).map (·.size) = some k) (m : Nat) (hm : Nat.min sLen dLen = m)
    (hg : w.heap[g]? = some (.cells cur.toArray t (0, 0))) (hn : cs.length = m * k)
    (hsrc : ∀ j v, cs[j]? = some v → w.cell? (a.add j) = some v) (hfit : o + cs.length ≤ cur.length) (h1 : ∀ v ∈ cs, v.oneCell' = true) :
    (Builtin.copy_ #[dT, sT] ty #[.slice (some ⟨g, o, none⟩) dLen dCap, .slice (some a) sLen sCap]).run P w =
      .ok (goInt m) (w.setRow g (cur.take o ++ cs ++ cur.drop (o + cs.length)).toArray) := by
  have hl := run_loadCells_list (P := P) w a cs hsrc
  have hst := run_storeCells_at P g o t cs 0 cur.toArray w hg (by simpa using hfit) h1
  rw [hn] at hl
  cases hq : P.info? elem with
  | none => simp [hq] at hs
  | some i =>
    have hi : i.size = k := by simpa [hq] using hs
    subst hi
    simp [Builtin.copy_, run_underlying hu, Builtin.lenOf, Builtin.firstCells, sizeOf, typeInfo, hq, hm, hl]
    simpa using by rw [hst]; simp

/-- A copy whose run is known: for the walk; as a step of a region that draws. -/
theorem wp_copy_known {P : Program} (w : World) {o : Oper} {a : Act} {K : Act → World → Prop} {Q : Exit → Act → World → Prop} (d s : Operand) (t t' : TypeId)
    (ho : o.op = .call { callee := .builtin .copy, args := #[d, s], argTypes := #[t, t'] }) (v u : Value) (hd : a.eval d = v) (hs : a.eval s = u) {v' : Value} {w' : World}
    (hr : (Builtin.copy_ #[t, t'] o.type #[v, u]).run P w = .ok v' w') (h : K (a.put o.dst v') w') : o.wp P a w K Q := by
  unfold Oper.wp execOp
  simp only [ho, resolve, invoke, builtin, Sem.run_bind, Sem.run_pure, Result.andThen_ok, List.map_toArray, List.map_cons, List.map_nil, hd, hs, hr]
  exact h
theorem wpList_copy_known {P : Program} (w : World) {ops : Array Oper} {rest : List Oper} {o : Oper} {a : Act} {Q : Exit → Act → World → Prop} (hgd : o.guard = none) (d s : Operand) (t t' : TypeId)
    (ho : o.op = .call { callee := .builtin .copy, args := #[d, s], argTypes := #[t, t'] }) (v u : Value) (hd : a.eval d = v) (hs : a.eval s = u) {v' : Value} {w' : World}
    (hr : (Builtin.copy_ #[t, t'] o.type #[v, u]).run P w = .ok v' w') (h : wpList P ops Q rest (a.put o.dst v') w') : wpList P ops Q (o :: rest) a w :=
  wpList_plain hgd fun _ hK => wp_copy_known w d s t t' ho v u hd hs hr (hK _ _ h)
theorem step_copy_known {P : Program} {ops : Array Oper} {o : Oper} {a : Act} {w : World} {K : Act → World → Prop} {Q : Exit → Act → World → Prop} {E : Prop}
    (hg : o.guard = none) (d x : Operand) (dT sT : TypeId) (hop : o.op = Op.call { callee := Callee.builtin Builtin.copy, args := #[d, x], argTypes := #[dT, sT] })
    (v u : Value) (hd : a.eval d = v) (hx : a.eval x = u) {v' : Value} {w' : World} (hr : (Builtin.copy_ #[dT, sT] o.type #[v, u]).run P w = .ok v' w') (hK : K (a.put o.dst v') w') :
    if Region.wanted o (yielded ops a.tmps) = true then Oper.wp P o a w K Q else E := by
  have hw : Region.wanted o (yielded ops a.tmps) = true := by simp [Region.wanted, hg]
  rw [if_pos hw]
  exact wp_copy_known w d x dT sT hop v u hd hx hr hK

set_option maxRecDepth 100000 in
set_option maxHeartbeats 4000000 in
/-- There is room, and the place lies ahead of the end: in place. -/
theorem Insert_room (g n cap i vb : Nat) (cur cs : List Value) (w : World) (hi : i < n) (hroom : n + 1 ≤ cap) (hcap : cap ≤ maxLen) (hg : w.heap[g]? = some (.cells cur.toArray 45 (0, 0))) (hcl : cur.length = cap * 3)
    (hvb : w.heap[vb]? = some (.cells cs.toArray 45 (0, 0))) (hne : vb ≠ g) (hcs : cs.length = 3) (h1 : ∀ u ∈ cur.take (n * 3), u.oneCell' = true) (h2 : ∀ u ∈ cs, u.oneCell' = true) :
    Calls Try.prog 62 #[.slice (some ⟨g, 0, none⟩) n cap, .int .i64 i, .slice (some ⟨vb, 0, none⟩) 1 1] w fun e w' =>
      e = .returned (.slice (some ⟨g, 0, none⟩) (n + 1) cap) ∧ w'.heap[g]? = some (.cells (cur.take (i * 3) ++ cs ++ (cur.take (n * 3)).drop (i * 3) ++ cur.drop ((n + 1) * 3)).toArray 45 (0, 0)) ∧ w.grownBy w' (some g) := by
  unfold maxLen at hcap
  have hb1 : ¬ ((i : Int) = (n : Int)) := by omega
  have hb2 : ¬ (cap = i + 1) := by omega
  have hb3 : ¬ (cap = i) := by omega
  have HG := Aside0.mk hg
  have HV := Aside0.mk hvb
  have HC := Aside0.mk hcl
  have HS := Aside0.mk hcs
  have HN := Aside0.mk hne
  clear hg hvb hcl hcs hne
  have hov : ∀ (a : Nat) lb cb, (callFunc 71 #[.slice (some ⟨vb, 0, none⟩) 1 1, .slice (some ⟨g, a, none⟩) lb cb]).run Try.prog w = .ok (.value (.bool false)) w := fun a lb cb => by
    have hsv : w.shape? vb = some (45, 3) := by simp [World.shape?, HV.out, HS.out]
    have hsg : w.shape? g = some (45, cap * 3) := by simp [World.shape?, HG.out, HC.out]
    rw [run_callFunc_extern Try.func71 (by kernel_rfl) (by kernel_rfl) (by kernel_rfl) (e := Extern.SlicesOverlaps.overlaps #[23, 23] #[4]) (by kernel_rfl),
      Lib.run_overlaps_apart w 23 4 45 Try.underlying23 3 (fun w => by kernel_rfl) ⟨vb, 0, none⟩ ⟨g, a, none⟩ 1 1 lb cb HN.out _ _ _ _ hsv hsg (by omega) (blk_frozen HV.out _) (blk_frozen HV.out _)]
    rfl
  go_enter Try.func62, Try.ntmps62
  go_wp2_with (simp only [hov])
  have hsz : (Try.prog.info? 45).map (·.size) = some 3 := by kernel_rfl
  obtain ⟨cells, hcells⟩ : ∃ x, x = (cur.take (n * 3)).drop (i * 3) := ⟨_, rfl⟩
  have hl1 : cells.length = (n - i) * 3 := by rw [hcells, List.length_drop, List.length_take, HC.out, Nat.sub_mul]; omega
  obtain ⟨C1, hC1⟩ : ∃ x, x = cur.take ((i + 1) * 3) ++ cells ++ cur.drop ((i + 1) * 3 + cells.length) := ⟨_, rfl⟩
  have hlC1 : C1.length = cap * 3 := by rw [hC1]; simp [hl1, HC.out]; omega
  have hcp1 : ∀ ty dc sc, (Builtin.copy_ #[23, 23] ty #[.slice (some ⟨g, (i + 1) * 3, none⟩) (n - i) dc, .slice (some ⟨g, i * 3, none⟩) (n + 1 - i) sc]).run Try.prog w.drew = .ok (goInt ((n - i : Nat) : Int)) (w.drew.setRow g C1.toArray) := fun ty dc sc => by
    rw [hC1]
    refine run_copy_row_k w.drew _ _ ty 45 3 g ((i + 1) * 3) (n - i) dc ⟨g, i * 3, none⟩ (n + 1 - i) sc cur 45 cells Try.underlying23 hsz (n - i) (by simp only [Nat.min_def]; split <;> omega) HG.out hl1 (fun j v hj => ?_) (by rw [hl1, HC.out]; omega) (fun v hv => h1 v (by rw [hcells] at hv; exact List.mem_of_mem_drop hv))
    rw [Addr.add_lit]
    show w.cell? ⟨g, i * 3 + j, none⟩ = some v
    rw [cell_of_row w g _ _ _ _ HG.out]
    rw [hcells, List.getElem?_drop, List.getElem?_take] at hj
    split at hj
    · simpa using hj
    · cases hj
  obtain ⟨W1, hW1⟩ : ∃ x, x = w.drew.setRow g C1.toArray := ⟨_, rfl⟩
  rw [← hW1] at hcp1
  have hG1 : W1.heap[g]? = some (.cells C1.toArray 45 (0, 0)) := by rw [hW1]; exact setRow_heap w.drew g _ _ _ _ HG.out
  have hV1 : W1.heap[vb]? = some (.cells cs.toArray 45 (0, 0)) := by rw [hW1, setRow_other w.drew g vb _ HN.out]; exact HV.out
  have hr1 : w.grownBy W1 (some g) := by
    rw [hW1]
    exact ⟨rfl, rfl, rfl, by simp [World.setRow], fun k _ hk => setRow_other w.drew g k _ (fun e => hk (by rw [e]))⟩
  obtain ⟨C2, hC2⟩ : ∃ x, x = C1.take (i * 3) ++ cs ++ C1.drop (i * 3 + cs.length) := ⟨_, rfl⟩
  obtain ⟨W2, hW2⟩ : ∃ x, x = W1.setRow g C2.toArray := ⟨_, rfl⟩
  have hcp2 : ∀ ty dc, (Builtin.copy_ #[23, 23] ty #[.slice (some ⟨g, i * 3, none⟩) (n + 1 - i) dc, .slice (some ⟨vb, 0, none⟩) 1 1]).run Try.prog W1 = .ok (goInt ((1 : Nat) : Int)) W2 := fun ty dc => by
    rw [hW2, hC2]
    refine run_copy_row_k W1 _ _ ty 45 3 g (i * 3) (n + 1 - i) dc ⟨vb, 0, none⟩ 1 1 C1 45 cs Try.underlying23 hsz 1 (by simp only [Nat.min_def]; split <;> omega) hG1 (by rw [HS.out]) (fun j v hj => ?_) (by rw [HS.out, hlC1]; omega) h2
    rw [Addr.add_lit, cell_of_row W1 vb _ _ _ _ hV1]
    simpa using hj
  have hG2 : W2.heap[g]? = some (.cells C2.toArray 45 (0, 0)) := by rw [hW2]; exact setRow_heap W1 g _ _ _ _ hG1
  have hr2 : w.grownBy W2 (some g) := hr1.trans ⟨by rw [hW2]; rfl, by rw [hW2]; rfl, by rw [hW2]; rfl, by rw [hW2]; simp [World.setRow], fun k _ hk => by rw [hW2]; exact setRow_other W1 g k _ (fun e => hk (by rw [e]))⟩
  have HCC := Aside0.mk hC1
  have HC2 := Aside0.mk hC2
  have HCE := Aside0.mk hcells
  have HG2 := Aside0.mk hG2
  have HR2 := Aside0.mk hr2
  have HL1 := Aside0.mk hl1
  clear hW1 hW2 hG1 hV1 hr1 hr2 hG2 hC1 hC2 hcells hlC1 hsz h1 h2 hl1 hov
  have hw1 : IntKind.i64.wrap ((i : Int) + 1) = (i : Int) + 1 := IntWalk.i64_in _ (by omega)
  have hw2 : (0 : Int) ≤ (i : Int) + 1 := by omega
  have hw3 : (i : Int) + 1 ≤ (n : Int) + 1 := by omega
  have hw4 : ((i : Int) + 1).toNat = i + 1 := by omega
  have hw5 : (i : Int) ≤ (n : Int) + 1 := by omega
  go_region_law (refine step_copy_known rfl _ _ 23 23 rfl _ _ (by simp [Act.eval, Act.put]) (by simp [Act.eval, Act.put]) (hcp1 _ _ _) ?_)
  clear hcp1
  go_wp2_with (refine gate_ (.call { callee := .builtin .copy, args := #[.tmp 80, .tmp 81], argTypes := #[23, 23] }) rfl ?_; refine wpList_copy_known W1 rfl (.tmp 80) (.tmp 81) 23 23 rfl _ _ rfl rfl (hcp2 _ _) ?_)
  go_ret
  refine ⟨rfl, ?_, HR2.out⟩
  rw [HG2.out]
  have e1 : (cur.take ((i + 1) * 3)).length = (i + 1) * 3 := by rw [List.length_take, HC.out]; omega
  have e2 : C1.take (i * 3) = cur.take (i * 3) := by
    rw [HCC.out, List.append_assoc, List.take_append_of_le_length (by rw [e1]; omega), List.take_take, Nat.min_eq_left (by omega)]
  have e3 : C1.drop (i * 3 + cs.length) = cells ++ cur.drop ((n + 1) * 3) := by
    rw [HCC.out, HS.out, List.append_assoc, show i * 3 + 3 = (cur.take ((i + 1) * 3)).length by rw [e1]; omega, List.drop_left, HL1.out, show (i + 1) * 3 + (n - i) * 3 = (n + 1) * 3 by omega]
  rw [HC2.out, e2, e3, HCE.out]
  simp only [List.append_assoc]
end Go.Proofs.Ytjgkalppjfmkoaa
