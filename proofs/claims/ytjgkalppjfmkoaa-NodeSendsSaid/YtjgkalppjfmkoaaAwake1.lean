/- The example of the chapter: what the law's first function computes. -/
import Derived.Test.YtjgkalppjfmkoaaChoose2
import Derived.Test.YtjgkalppjfmkoaaSent2
namespace Go.Proofs.Ytjgkalppjfmkoaa
open Go.RowKit Go.Shelf Go.Proofs.YtjgkalppjfmkoaaW.PrintWords
set_option linter.unusedVariables false
set_option linter.unusedSimpArgs false

theorem C_one {α : Type} {d : Kd α} {w : World} {g : Nat} {T : TypeId} {x : α} {cs : List Value} (hb : w.heap[g]? = some (.cells cs.toArray T (0, 0))) (hK : d.K w x cs) : d.C w (some ⟨g, 0, none⟩) 1 [x] :=
  ⟨rfl, by simp, fun _ => ⟨_, rfl, fun j p hj => by
    obtain rfl : j = 0 := by
      rcases Nat.eq_zero_or_pos j with h0 | h0
      · exact h0
      · rw [List.getElem?_eq_none (by simp; omega)] at hj; cases hj
    simp only [List.getElem?_cons_zero, Option.some.injEq] at hj
    subst hj
    refine ⟨cs, d.K_len hK, hK, fun q u hu => ?_⟩
    rw [Addr.add_lit, cell_of_row w g _ _ _ _ hb]
    simpa using hu⟩⟩
theorem C_none {α : Type} (d : Kd α) (w : World) : d.C w none 0 [] := (Kd.R_reads' (Kd.R_nil d 0 w 0 (fun _ => True))).2.2

def awF : SFlow := ⟨7, 1, 0, 8, 0, 8⟩
def awD : SDuty := ⟨⟨1, 0, 1, 0, 7⟩, true, false, 0, -1⟩
theorem aw_begin1 : begin_ [awF] 1 8 [] = ([⟨7, 1, []⟩], 0) := by kernel_rfl
theorem aw_due : dueGo 8 9 [awD] 1 0 [] = [awD] := by kernel_rfl
theorem aw_choose1 : choose (fun xs => xs) [awF] [awD] 8 9 [⟨7, 1, []⟩] = (⟨1, ⟨1, 0, 1, 0, 7⟩, 1⟩, 0) := by kernel_rfl
theorem aw_sent : sent [⟨7, 1, []⟩] 7 0 true = [⟨7, 1, [0]⟩] := by kernel_rfl
theorem aw_choose2 : choose (fun xs => xs) [awF] [awD] 8 9 [⟨7, 1, [0]⟩] = (⟨0, ⟨0, 0, 0, 0, 0⟩, 0⟩, 0) := by kernel_rfl
theorem aw_hear1 : hear [awF] 0 9 [] 7 1 = ([⟨7, 1, []⟩], true, 0) := by kernel_rfl
theorem aw_hear2 : hear [awF] 0 10 [⟨7, 1, []⟩] 7 1 = ([⟨7, 1, []⟩], false, 0) := by kernel_rfl
theorem aw_begin2 : begin_ [awF] 0 16 [⟨7, 1, []⟩] = ([], 0) := by kernel_rfl
end Go.Proofs.Ytjgkalppjfmkoaa
