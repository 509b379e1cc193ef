/- A region that draws its order, whose operations read and whose calls may make memory: one walk of the text's order serves every order. -/
import Derived.Test.YtjgkalppjfmkoaaKinds
import Derived.Deep.LoopGhost
import Derived.Deep.QuietTactic
import Derived.BigQuiet
import Derived.Deep.DeepCutAuto
import Derived.IntWalk
import Derived.Shelf.Abstract
namespace Go.Proofs.Ytjgkalppjfmkoaa
open Go.RowKit Go.BigFrame Go.Proofs.YtjgkalppjfmkoaaW.PrintWords
set_option linter.unusedVariables false

/-- A world in which all that lay in D lies unturned. -/
structure Lat (D : World) where mk ::
  (W : World)
  (h : Below D.heap.size D W)

instance latNonempty {D : World} : Nonempty (Lat D) := ⟨⟨D, Below.refl _ _⟩⟩

theorem wp_region_lat {P : Program} {id : Nat} {Q : Exit → Act → World → Prop} {a : Act} {w : World} {l : List Oper} (hm : P.follows .mixedOrders = true) (hB : Region.lexB .any l.toArray = true)
    (h : wpQuiet P l.toArray (fun w' => ∃ t : Lat w, w' = t.W) (fun a' => ∀ w', (∃ t : Lat w, w' = t.W) → Q .normal a' w') l a) : (Code.region id l.toArray true).wp P Q a w :=
  wp_region_quiet (C := fun w' => ∃ t : Lat w, w' = t.W) hm hB ⟨⟨w.drew, below_drew (Below.refl _ _)⟩, rfl⟩ (by simpa using h)

theorem below_trans2 {w W w' : World} (h : Below w.heap.size w W) (hb : Below W.heap.size W w') : Below w.heap.size w w' := h.trans (hb.mono h.size)

theorem calls_lat {P : Program} {f : FuncId} {args : Array Value} {w : World} {t : Lat w} {v : Value}
    (h : Calls P f args t.W fun e w' => e = .returned v ∧ Below t.W.heap.size t.W w') : Calls P f args t.W fun e w'' => e = .returned v ∧ ∃ t' : Lat w, w'' = t'.W :=
  h.mono fun _ w' ⟨he, hb⟩ => ⟨he, ⟨⟨w', below_trans2 t.h hb⟩, rfl⟩⟩
theorem calls_lat_same {P : Program} {f : FuncId} {args : Array Value} {w : World} {t : Lat w} {v : Value}
    (h : Calls P f args t.W fun e w' => e = .returned v ∧ t.W = w') : Calls P f args t.W fun e w'' => e = .returned v ∧ ∃ t' : Lat w, w'' = t'.W :=
  h.mono fun _ w' ⟨he, hb⟩ => ⟨he, ⟨t, hb.symm⟩⟩

theorem lat_cell {w : World} {a : Addr} {v : Value} (hc : w.cell? a = some v) (t : Lat w) : t.W.cell? a = some v := (t.h.cell (World.block_lt_of_cell? w _ hc)).trans hc
end Go.Proofs.Ytjgkalppjfmkoaa
