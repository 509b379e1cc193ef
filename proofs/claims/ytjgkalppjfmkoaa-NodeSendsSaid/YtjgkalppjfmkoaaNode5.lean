/- Package node: Hear. -/
import Derived.Test.YtjgkalppjfmkoaaIns3
import Derived.Deep.RegionWith
namespace Go.Proofs.Ytjgkalppjfmkoaa
open Go.RowKit Go.Shelf Go.Proofs.YtjgkalppjfmkoaaW.PrintWords
set_option linter.unusedVariables false
set_option linter.unusedSimpArgs false

/-- node.Hear's answer. -/
def hear (flows : List SFlow) (self slot : Int) (l : List SHolding) (cflow frame : Int) : List SHolding × Bool × Int :=
  if hcheck flows self slot l ≠ 0 then ([], false, hcheck flows self slot l)
  else if ix (fun f : SFlow => f.f0 == cflow) zFlow flows < 0 ∨ 0 ≤ ix (fun h : SHolding => h.f0 == cflow) zHolding l then (l, false, 0)
  else if (fcur (flows.getD (ix (fun f : SFlow => f.f0 == cflow) zFlow flows).toNat zFlow) slot).2 = false ∨ (fcur (flows.getD (ix (fun f : SFlow => f.f0 == cflow) zFlow flows).toNat zFlow) slot).1 ≠ frame then (l, false, 0)
  else (addH l ⟨cflow, frame, []⟩, (flows.getD (ix (fun f : SFlow => f.f0 == cflow) zFlow flows).toNat zFlow).f2 == self, 0)

def HearPost (w : World) (r : List SHolding × Bool × Int) (e : Ending) (w' : World) : Prop :=
  ∃ v, e = .returned (.tuple #[v, .bool r.2.1, .int .i64 r.2.2]) ∧ kHolding.R 45 w' w.heap.size (fun _ => True) v r.1 ∧ Below w.heap.size w w'

theorem ixGo_lt {α : Type} (p : α → Bool) (z : α) (l : List α) : ∀ (d k : Nat), ixGo p z l d k < (k + d : Nat) ∧ (-1 ≤ ixGo p z l d k)
  | 0, k => by unfold ixGo; omega
  | d + 1, k => by
    unfold ixGo
    split
    · omega
    · have := ixGo_lt p z l d (k + 1)
      omega
theorem ix_lt {α : Type} (p : α → Bool) (z : α) (l : List α) : ix p z l < l.length := by
  have := (ixGo_lt p z l l.length 0).1
  unfold ix
  omega

theorem blk5 {w : World} {g : Nat} {a b c d e : Value} {T : TypeId} (h : w.heap[g]? = some (.cells #[a, b, c, d, e] T (0, 0))) : w.cell? ⟨g, 0, none⟩ = some a ∧ w.cell? ⟨g, 1, none⟩ = some b ∧ w.cell? ⟨g, 2, none⟩ = some c ∧ w.cell? ⟨g, 3, none⟩ = some d ∧ w.cell? ⟨g, 4, none⟩ = some e :=
  ⟨cell_of_row w g 0 _ T (0, 0) h, cell_of_row w g 1 _ T (0, 0) h, cell_of_row w g 2 _ T (0, 0) h, cell_of_row w g 3 _ T (0, 0) h, cell_of_row w g 4 _ T (0, 0) h⟩

set_option maxRecDepth 100000 in
set_option maxHeartbeats 4000000 in
theorem node_Hear (A B : Option Addr) (c d : Nat) (flows : List SFlow) (self slot : Int) (l : List SHolding) (c0 c1 c2 c3 c4 frame : Int) (w : World) (hf : Kd.C kFlow w A flows.length flows) (hr : Kd.C kHolding w B l.length l) (hs : HSized l) :
    Calls Try.prog 9 #[.slice A flows.length c, .int .i64 self, .int .i64 slot, .slice B l.length d, .agg #[.int .i64 c0, .int .i64 c1, .int .i64 c2, .int .i64 c3, .int .i64 c4], .int .i64 frame] w (HearPost w (hear flows self slot l c4 frame)) := by
  have hfn := hf.2.1
  have HF := Aside0.mk hf
  have HL := Aside0.mk hr
  have HS := Aside0.mk hs
  obtain ⟨r, hrr⟩ : ∃ r, r = hear flows self slot l c4 frame := ⟨_, rfl⟩
  rw [← hrr]
  unfold hear at hrr
  generalize hq : hcheck flows self slot l = q at *
  have HQ := Aside0.mk hq
  have HB0 := Aside0.mk (show Below w.heap.size w (w.alloc (.cells #[.int .i64 c0, .int .i64 c1, .int .i64 c2, .int .i64 c3, .int .i64 c4] 25)) from (Below.refl _ _).alloc (Nat.le_refl _) _)
  have HK0 := Aside0.mk (blk_new w (.cells #[.int .i64 c0, .int .i64 c1, .int .i64 c2, .int .i64 c3, .int .i64 c4] 25))
  clear hf hr hs hq
  by_cases h0 : q = 0
  · subst h0
    rw [if_neg (by simp)] at hrr
    have HRR := Aside0.mk hrr
    clear hrr
    go_enter Try.func9, Try.ntmps9
    go_wp2_with (fail)
    refine (node_check _ _ _ _ _ _ _ _ _ (Kd.C_below HF.out HB0.out) (Kd.C_below HL.out HB0.out)).mono ?_
    rintro e w1 ⟨rfl, hb1⟩
    rw [HQ.out]
    have HB1 := Aside0.mk (below_trans2 HB0.out hb1)
    have HK1 := Aside0.mk (blk_below HK0.out hb1)
    clear hb1 HB0 HK0
    go_wp2_with (fail)
    refine (node_copied _ _ _ _ (Kd.C_below HL.out HB1.out) HS.out).mono ?_
    rintro e w2 ⟨v2, rfl, hR2, hb2⟩
    have HR2 := Aside0.mk (Kd.R_lower (Kd.S_R hR2) HB1.out.size)
    have HB2 := Aside0.mk (below_trans2 HB1.out hb2)
    have HK2 := Aside0.mk (blk_below HK1.out hb2)
    obtain ⟨cc0, cc1, cc2, cc3, cc4⟩ := blk5 HK2.out
    clear hb2 hR2 HB1 HK1
    go_wp2_with (fail)
    refine (flow_Find _ _ _ _ _ (Kd.C_below HF.out HB2.out)).mono ?_
    rintro e w3 ⟨rfl, hb3⟩
    generalize hi : ix (fun f : SFlow => f.f0 == c4) zFlow flows = i at *
    have hil : i < flows.length := by rw [← hi]; exact ix_lt _ _ _
    have HR3 := Aside0.mk (Kd.R_below HR2.out hb3)
    have HB3 := Aside0.mk (below_trans2 HB2.out hb3)
    have HK3 := Aside0.mk (blk_below HK2.out hb3)
    clear hb3 HR2 HB2 HK2 cc0 cc1 cc2 cc3 cc4 hi
    obtain ⟨cc0, cc1, cc2, cc3, cc4⟩ := blk5 HK3.out
    have hrr := HRR.out
    clear HRR
    by_cases hi0 : i < 0
    · rw [if_pos (Or.inl hi0)] at hrr
      have HX := Aside0.mk hrr
      clear hrr
      have hi0' : decide (i < 0) = true := decide_eq_true hi0
      go_wp2
      go_ret3
      exact ⟨v2, by rw [HX.out]; rfl, by rw [HX.out]; exact HR3.out, HB3.out⟩
    · have hi0' : decide (i < 0) = false := decide_eq_false hi0
      obtain ⟨n, rfl⟩ := Int.eq_ofNat_of_zero_le (show 0 ≤ i by omega)
      rw [Int.toNat_natCast] at hrr
      have HRR := Aside0.mk hrr
      clear hrr
      have hnl : n < flows.length := by omega
      go_wp2_with (fail)
      refine (node_find _ _ _ _ _ (Kd.C_below HL.out HB3.out)).mono ?_
      rintro e w4 ⟨rfl, hb4⟩
      generalize hj : ix (fun h : SHolding => h.f0 == c4) zHolding l = j at *
      have HR4 := Aside0.mk (Kd.R_below HR3.out hb4)
      have HB4 := Aside0.mk (below_trans2 HB3.out hb4)
      have HK4 := Aside0.mk (blk_below HK3.out hb4)
      clear hb4 HR3 HB3 HK3 cc0 cc1 cc2 cc3 cc4 hj
      obtain ⟨cc0, cc1, cc2, cc3, cc4⟩ := blk5 HK4.out
      have hrr := HRR.out
      clear HRR
      by_cases hj0 : 0 ≤ j
      · rw [if_pos (Or.inr hj0)] at hrr
        have HX := Aside0.mk hrr
        clear hrr
        go_wp2
        go_ret3
        exact ⟨v2, by rw [HX.out]; rfl, by rw [HX.out]; exact HR4.out, HB4.out⟩
      · rw [if_neg (by omega)] at hrr
        obtain ⟨ad, rfl, hx0, hx1, hx2, hx3, hx4, hx5⟩ := TFlow_nat HF.out n hnl
        generalize hy : flows.getD n zFlow = y at *
        have HRR := Aside0.mk hrr
        clear hrr hy
        obtain ⟨f0, f1, f2, f3, f4, f5⟩ := y
        simp only at hx0 hx1 hx2 hx3 hx4 hx5 HRR
        have HX2 := Aside0.mk hx2
        replace hx0 := lat_cell hx0 ⟨w4, HB4.out⟩
        replace hx1 := lat_cell hx1 ⟨w4, HB4.out⟩
        replace hx2 := lat_cell hx2 ⟨w4, HB4.out⟩
        replace hx3 := lat_cell hx3 ⟨w4, HB4.out⟩
        replace hx4 := lat_cell hx4 ⟨w4, HB4.out⟩
        replace hx5 := lat_cell hx5 ⟨w4, HB4.out⟩
        simp only at hx0 hx1 hx2 hx3 hx4 hx5
        have hni : (n : Int) < (flows.length : Int) := by omega
        go_wp2_with (fail)
        refine (flow_Current _ _ _ _ _ _ _ _).mono ?_
        rintro e w5 ⟨rfl, hb5⟩
        generalize hcu : fcur ⟨f0, f1, f2, f3, f4, f5⟩ slot = cu at *
        obtain ⟨cn, cb⟩ := cu
        simp only at HRR ⊢
        have HR5 := Aside0.mk (Kd.R_below HR4.out hb5)
        have HB5 := Aside0.mk (below_trans2 HB4.out hb5)
        have HK5 := Aside0.mk (blk_below HK4.out hb5)
        clear hb5 HR4 HB4 HK4 cc0 cc1 cc2 cc3 cc4 hcu hx0 hx1 hx2 hx3 hx4 hx5
        obtain ⟨cc0, cc1, cc2, cc3, cc4⟩ := blk5 HK5.out
        have hrr := HRR.out
        clear HRR
        cases cb with
        | false =>
          rw [if_pos (Or.inl rfl)] at hrr
          have HX := Aside0.mk hrr
          clear hrr
          go_wp2
          go_ret3
          exact ⟨v2, by rw [HX.out]; rfl, by rw [HX.out]; exact HR5.out, HB5.out⟩
        | true =>
          by_cases hfr : cn = frame
          · rw [if_neg (by simp [hfr])] at hrr
            have HX := Aside0.mk hrr
            clear hrr
            have hx2 := lat_cell HX2.out ⟨w5, HB5.out⟩
            simp only at hx2
            have HLN := Aside0.mk (show (l.length + 1) * 40 ≤ 140737488355328 by have := HS.out.1; omega)
            go_wp2_with (fail)
            go_region_with (go_at_call 32; refine (node_add w.heap.size v2 l c4 frame _ (Kd.R_below HR5.out (below_drew (Below.refl _ _))) ?_ HLN.out).mono ?_; exact (below_drew HB5.out).size; rintro e w' ⟨v', rfl, hR', hg', hat'⟩; have HR' := Aside0.mk hR'; have HBN := Aside0.mk (Below.grown (below_drew HB5.out) hg' (below_drew HB5.out).size (Kd.R_base HR5.out)); have hx2' := lat_cell HX2.out ⟨w', HBN.out⟩; simp only at hx2'; clear hR' hg' hat')
            all_goals (go_wp2; go_ret3; exact ⟨_, by rw [HX.out]; rfl, by rw [HX.out]; exact HR'.out, HBN.out⟩)
          · rw [if_pos (Or.inr hfr)] at hrr
            have hfr' : (cn != frame) = true := by simpa using hfr
            have HX := Aside0.mk hrr
            clear hrr
            go_wp2
            go_ret3
            exact ⟨v2, by rw [HX.out]; rfl, by rw [HX.out]; exact HR5.out, HB5.out⟩
  · rw [if_pos h0] at hrr
    have h0' : (q != 0) = true := by simpa using h0
    have HX := Aside0.mk hrr
    clear hrr h0
    go_enter Try.func9, Try.ntmps9
    go_wp2_with (fail)
    refine (node_check _ _ _ _ _ _ _ _ _ (Kd.C_below HF.out HB0.out) (Kd.C_below HL.out HB0.out)).mono ?_
    rintro e w1 ⟨rfl, hb1⟩
    rw [HQ.out]
    have HB1 := Aside0.mk (below_trans2 HB0.out hb1)
    clear hb1 HB0 HK0
    go_wp2
    go_ret3
    exact ⟨.slice none 0 0, by rw [HX.out]; rfl, by rw [HX.out]; exact Kd.R_nil _ _ _ _ _, HB1.out⟩
end Go.Proofs.Ytjgkalppjfmkoaa
