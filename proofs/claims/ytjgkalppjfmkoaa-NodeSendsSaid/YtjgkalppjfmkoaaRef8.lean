/- The reference's side: Hear. -/
import Derived.Test.YtjgkalppjfmkoaaRef7
namespace Go.Proofs.Ytjgkalppjfmkoaa
open Go.RowKit Go.Shelf Go.Proofs.YtjgkalppjfmkoaaW.PrintWords
set_option linter.unusedVariables false
set_option linter.unusedSimpArgs false

/-- hopmeshref53.Hear's answer. -/
def rhear (flows : List SFlow) (self slot : Int) (l : List SHolding) (cflow frame : Int) : List SHolding × Bool × Int :=
  if hcheck flows self slot l ≠ 0 then ([], false, hcheck flows self slot l)
  else if ix (fun f : SFlow => f.f0 == cflow) zFlow flows < 0 ∨ 0 ≤ ix (fun h : SHolding => h.f0 == cflow) zHolding l then (l, false, 0)
  else if (fcur (flows.getD (ix (fun f : SFlow => f.f0 == cflow) zFlow flows).toNat zFlow) slot).2 = false ∨ (fcur (flows.getD (ix (fun f : SFlow => f.f0 == cflow) zFlow flows).toNat zFlow) slot).1 ≠ frame then (l, false, 0)
  else (insR l ⟨cflow, frame, []⟩, (flows.getD (ix (fun f : SFlow => f.f0 == cflow) zFlow flows).toNat zFlow).f2 == self, 0)

def RHearPost (w : World) (r : List SHolding × Bool × Int) (e : Ending) (w' : World) : Prop :=
  ∃ A c, e = .returned (.tuple #[.slice A r.1.length c, .bool r.2.1, .int .i64 r.2.2]) ∧ Kd.C kHolding w' A r.1.length r.1 ∧ Below w.heap.size w w'

theorem hcheck_ok {flows : List SFlow} {self slot : Int} {l : List SHolding} (h : hcheck flows self slot l = 0) : hck flows l = 0 ∧ 0 ≤ self ∧ self < 32 ∧ 0 ≤ slot ∧ slot ≤ 1073741824 := by
  unfold hcheck at h
  split at h
  · exact absurd h ‹_›
  · split at h
    · cases h
    · exact ⟨by omega, by omega, by omega, by omega, by omega⟩
theorem insR_length (l : List SHolding) (h : SHolding) : (insR l h).length = l.length + 1 := by
  unfold insR insAt
  have := linGo_le l h.f0 l.length 0
  simp only [List.length_append, List.length_take, List.length_drop, List.length_cons, List.length_nil]
  omega

set_option maxRecDepth 100000 in
set_option maxHeartbeats 4000000 in
theorem ref_Hear (A B : Option Addr) (c d : Nat) (flows : List SFlow) (self slot : Int) (l : List SHolding) (c0 c1 c2 c3 c4 frame : Int) (w : World) (hf : Kd.C kFlow w A flows.length flows) (hr : Kd.C kHolding w B l.length l) (hs : HSized l) :
    Calls Try.prog 12 #[.slice A flows.length c, .int .i64 self, .int .i64 slot, .slice B l.length d, .agg #[.int .i64 c0, .int .i64 c1, .int .i64 c2, .int .i64 c3, .int .i64 c4], .int .i64 frame] w (RHearPost w (rhear flows self slot l c4 frame)) := by
  have hfn := hf.2.1
  have HF := Aside0.mk hf
  have HL := Aside0.mk hr
  have HS := Aside0.mk hs
  obtain ⟨r, hrr⟩ : ∃ r, r = rhear flows self slot l c4 frame := ⟨_, rfl⟩
  rw [← hrr]
  unfold rhear at hrr
  generalize hq : hcheck flows self slot l = q at *
  have HQ := Aside0.mk hq
  have HB0 := Aside0.mk (show Below w.heap.size w (w.alloc (.cells #[.int .i64 c0, .int .i64 c1, .int .i64 c2, .int .i64 c3, .int .i64 c4] 25)) from (Below.refl _ _).alloc (Nat.le_refl _) _)
  have HK0 := Aside0.mk (blk_new w (.cells #[.int .i64 c0, .int .i64 c1, .int .i64 c2, .int .i64 c3, .int .i64 c4] 25))
  clear hf hr hs hq
  by_cases h0 : q = 0
  · subst h0
    rw [if_neg (by simp)] at hrr
    have HRR := Aside0.mk hrr
    have HSL := Aside0.mk (show -9000000000000000000 ≤ slot ∧ slot ≤ 9000000000000000000 by have := hcheck_ok HQ.out; omega)
    clear hrr
    go_enter Try.func12, Try.ntmps12
    go_wp2_with (fail)
    refine (ref_check _ _ _ _ _ _ _ _ _ (Kd.C_below HF.out HB0.out) (Kd.C_below HL.out HB0.out)).mono ?_
    rintro e w1 ⟨rfl, hb1⟩
    rw [HQ.out]
    have HB1 := Aside0.mk (below_trans2 HB0.out hb1)
    have HK1 := Aside0.mk (blk_below HK0.out hb1)
    clear hb1 HB0 HK0
    go_wp2_with (fail)
    refine (ref_clone _ _ _ _ (Kd.C_below HL.out HB1.out) HS.out).mono ?_
    rintro e w2 ⟨v2, rfl, hR2, hb2⟩
    obtain ⟨A2, c2', rfl⟩ := Kd.R_slice hR2
    obtain ⟨_, hcl, hC2⟩ := Kd.R_reads' hR2
    have HCL := Aside0.mk hcl
    have HR2 := Aside0.mk hC2
    have HB2 := Aside0.mk (below_trans2 HB1.out hb2)
    have HK2 := Aside0.mk (blk_below HK1.out hb2)
    obtain ⟨cc0, cc1, cc2, cc3, cc4⟩ := blk5 HK2.out
    clear hb2 hR2 hC2 hcl HB1 HK1
    go_wp2_with (fail)
    refine (ref_Find _ _ _ _ _ (Kd.C_below HF.out HB2.out)).mono ?_
    rintro e w3 ⟨rfl, rfl⟩
    generalize hi : ix (fun f : SFlow => f.f0 == c4) zFlow flows = i at *
    have hil : i < flows.length := by rw [← hi]; exact ix_lt _ _ _
    clear hi
    have hrr := HRR.out
    clear HRR
    by_cases hi0 : i < 0
    · rw [if_pos (Or.inl hi0)] at hrr
      have HX := Aside0.mk hrr
      clear hrr
      have hi0' : decide (i < 0) = true := decide_eq_true hi0
      go_wp2
      go_ret3
      exact ⟨A2, c2', by rw [HX.out] <;> rfl, by rw [HX.out]; exact HR2.out, HB2.out⟩
    · have hi0' : decide (i < 0) = false := decide_eq_false hi0
      obtain ⟨n, rfl⟩ := Int.eq_ofNat_of_zero_le (show 0 ≤ i by omega)
      rw [Int.toNat_natCast] at hrr
      have HRR := Aside0.mk hrr
      clear hrr
      have hnl : n < flows.length := by omega
      go_wp2_with (fail)
      refine (ref_find _ _ _ _ _ HR2.out).mono ?_
      rintro e w4 ⟨rfl, rfl⟩
      generalize hj : ix (fun h : SHolding => h.f0 == c4) zHolding l = j at *
      clear hj
      have hrr := HRR.out
      clear HRR
      by_cases hj0 : 0 ≤ j
      · rw [if_pos (Or.inr hj0)] at hrr
        have HX := Aside0.mk hrr
        clear hrr
        go_wp2
        go_ret3
        exact ⟨A2, c2', by rw [HX.out] <;> rfl, by rw [HX.out]; exact HR2.out, HB2.out⟩
      · rw [if_neg (by omega)] at hrr
        obtain ⟨ad, rfl, hx0, hx1, hx2, hx3, hx4, hx5⟩ := TFlow_nat HF.out n hnl
        generalize hy : flows.getD n zFlow = y at *
        have HRR := Aside0.mk hrr
        clear hrr hy
        obtain ⟨f0, f1, f2, f3, f4, f5⟩ := y
        simp only at hx0 hx1 hx2 hx3 hx4 hx5 HRR
        have HX2 := Aside0.mk hx2
        replace hx0 := lat_cell hx0 ⟨w2, HB2.out⟩
        replace hx1 := lat_cell hx1 ⟨w2, HB2.out⟩
        replace hx2 := lat_cell hx2 ⟨w2, HB2.out⟩
        replace hx3 := lat_cell hx3 ⟨w2, HB2.out⟩
        replace hx4 := lat_cell hx4 ⟨w2, HB2.out⟩
        replace hx5 := lat_cell hx5 ⟨w2, HB2.out⟩
        simp only at hx0 hx1 hx2 hx3 hx4 hx5
        have hni : (n : Int) < (flows.length : Int) := by omega
        go_wp2_with (fail)
        refine (ref_Current _ _ _ _ _ _ _ _ HSL.out).mono ?_
        rintro e w5 ⟨rfl, hb5⟩
        generalize hcu : fcur ⟨f0, f1, f2, f3, f4, f5⟩ slot = cu at *
        obtain ⟨cn, cb⟩ := cu
        simp only at HRR ⊢
        have HR5 := Aside0.mk (Kd.C_below HR2.out hb5)
        have HB5 := Aside0.mk (below_trans2 HB2.out hb5)
        have HK5 := Aside0.mk (blk_below HK2.out hb5)
        clear hb5 HR2 HB2 HK2 cc0 cc1 cc2 cc3 cc4 hcu hx0 hx1 hx2 hx3 hx4 hx5
        obtain ⟨cc0, cc1, cc2, cc3, cc4⟩ := blk5 HK5.out
        have hrr := HRR.out
        clear HRR
        cases cb with
        | false =>
          rw [if_pos (Or.inl rfl)] at hrr
          have HX := Aside0.mk hrr
          clear hrr
          go_wp2
          go_ret3
          exact ⟨A2, c2', by rw [HX.out] <;> rfl, by rw [HX.out]; exact HR5.out, HB5.out⟩
        | true =>
          by_cases hfr : cn = frame
          · rw [if_neg (by simp [hfr])] at hrr
            have HX := Aside0.mk hrr
            clear hrr
            have hx2 := lat_cell HX2.out ⟨w5, HB5.out⟩
            simp only at hx2
            have HLN := Aside0.mk (show (l.length + 1) * 40 ≤ 140737488355328 by have := HS.out.1; omega)
            go_wp2_with (fail)
            go_region_with (go_at_call 40; refine (ref_insert _ _ l c4 frame _ (Kd.C_below HR5.out (below_drew (Below.refl _ _))) HLN.out HCL.out).mono ?_; rintro e w' ⟨v', rfl, hR', hb'⟩; obtain ⟨A9, c9, rfl, hc9, hC9⟩ := kCp_reads hR' hb'; have HR' := Aside0.mk hC9; have HBN := Aside0.mk (below_trans2 (below_drew HB5.out) hb'); have hx2' := lat_cell HX2.out ⟨w', HBN.out⟩; simp only at hx2'; clear hR' hb' hC9 hc9)
            all_goals (go_wp2; go_ret3; exact ⟨A9, c9, by rw [HX.out] <;> rfl, by rw [HX.out]; exact HR'.out, HBN.out⟩)
          · rw [if_pos (Or.inr hfr)] at hrr
            have hfr' : (cn != frame) = true := by simpa using hfr
            have HX := Aside0.mk hrr
            clear hrr
            go_wp2
            go_ret3
            exact ⟨A2, c2', by rw [HX.out] <;> rfl, by rw [HX.out]; exact HR5.out, HB5.out⟩
  · rw [if_pos h0] at hrr
    have h0' : (q != 0) = true := by simpa using h0
    have HX := Aside0.mk hrr
    clear hrr h0
    go_enter Try.func12, Try.ntmps12
    go_wp2_with (fail)
    refine (ref_check _ _ _ _ _ _ _ _ _ (Kd.C_below HF.out HB0.out) (Kd.C_below HL.out HB0.out)).mono ?_
    rintro e w1 ⟨rfl, hb1⟩
    rw [HQ.out]
    have HB1 := Aside0.mk (below_trans2 HB0.out hb1)
    clear hb1 HB0 HK0
    go_wp2
    go_ret3
    exact ⟨none, 0, by rw [HX.out] <;> rfl, by rw [HX.out]; exact C_none _ _, HB1.out⟩
end Go.Proofs.Ytjgkalppjfmkoaa
