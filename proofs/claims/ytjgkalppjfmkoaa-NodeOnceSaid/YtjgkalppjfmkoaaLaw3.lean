/- The law NodeOnce, walked: it returns true. -/
import Derived.Test.YtjgkalppjfmkoaaOnce1
import Derived.Test.YtjgkalppjfmkoaaKinds2
import Derived.Deep.RegionWith
namespace Go.Proofs.Ytjgkalppjfmkoaa
open Go.RowKit Go.Shelf Go.Maps Go.Proofs.YtjgkalppjfmkoaaW.PrintWords
set_option linter.unusedVariables false
set_option linter.unusedSimpArgs false

theorem TEvent_nat {w : World} {A : Option Addr} {n : Nat} {xs : List SEvent} (h : Kd.C kEvent w A n xs) (k : Nat) (h1 : k < n) : ∃ ad, A = some ad ∧ w.cell? (ad.add (k * 3)) = some (.int .u8 (xs.getD k zEvent).f0) ∧ w.cell? ⟨(ad.add (k * 3)).block, (ad.add (k * 3)).off + 1, none⟩ = some (.int .u8 (xs.getD k zEvent).f1) ∧ w.cell? ⟨(ad.add (k * 3)).block, (ad.add (k * 3)).off + 2, none⟩ = some (.int .u8 (xs.getD k zEvent).f2) := by
  have := at_TEvent h (k : Int) (by omega) (by omega)
  simpa [rd_TEvent, Int.toNat_natCast] using this
def EvOk (ev : List SEvent) : Prop := ∀ k, 0 ≤ (ev.getD k zEvent).f0 ∧ (ev.getD k zEvent).f0 ≤ 255 ∧ 0 ≤ (ev.getD k zEvent).f1 ∧ (ev.getD k zEvent).f1 ≤ 255 ∧ 0 ≤ (ev.getD k zEvent).f2 ∧ (ev.getD k zEvent).f2 ≤ 255
theorem fcur_b {f : SFlow} {slot : Int} (hs : slot ≤ 1073741824) : 0 ≤ (fcur f slot).1 ∧ (fcur f slot).1 ≤ 1073741824 := by
  cases h : (fcur f slot).2 with
  | true => exact fcur_bounds hs h
  | false =>
    have : (fcur f slot).1 = 0 := by
      unfold fcur at h ⊢
      split at h
      · rename_i hc; rw [if_pos hc]
      · cases h
    omega
/-- Is there nothing to do? -/
def onceBad (flows : List SFlow) (self : Int) (ev : List SEvent) : Bool := !few flows.length [] 0 || decide (60 < ev.length) || decide (flows.length = 0) || hck flows [] != 0 || decide (self < 0) || decide (32 ≤ self)

set_option maxRecDepth 100000 in
set_option maxHeartbeats 4000000 in
theorem law_NodeOnce (A E : Option Addr) (c d : Nat) (flows : List SFlow) (self : Int) (ev : List SEvent) (w : World) (hf : Kd.C kFlow w A flows.length flows) (he : Kd.C kEvent w E ev.length ev) (hev : EvOk ev) :
    Calls Try.prog 5 #[.slice A flows.length c, .int .i64 self, .slice E ev.length d] w fun e w' => e = .returned (.bool true) ∧ Below w.heap.size w w' := by
  have HF := Aside0.mk hf
  have HE := Aside0.mk he
  have HV := Aside0.mk hev
  have hfn := hf.2.1
  have hen := he.2.1
  have hmm := @run_makeMap Try.prog
  clear hf he hev
  go_enter Try.func5, Try.ntmps5
  go_upto_region 1 with (fail)
  go_cut [50] (fun v50 wc => v50 = .bool (onceBad flows self ev) ∧ Aside0 (Below w.heap.size w wc))
  case first =>
    go_wp2_with (fail)
    refine (law_awake _).mono ?_
    rintro e w1 ⟨rfl, hb1⟩
    have HB1 := Aside0.mk hb1
    clear hb1 hmm
    go_wp2_with (fail)
    refine (ref_Few _ none none _ 0 0 _ 0 [] _ (C_none _ _)).mono ?_
    rintro e w2 ⟨rfl, rfl⟩
    obtain ⟨q, hq⟩ : ∃ q, q = few flows.length [] 0 := ⟨_, rfl⟩
    rw [← hq]
    have HQ := Aside0.mk hq
    clear hq
    cases q with
    | false =>
      go_wp2
      go_meet
      exact ⟨by rw [show onceBad flows self ev = true by simp [onceBad, ← HQ.out]], HB1⟩
    | true =>
      by_cases h60 : 60 < ev.length
      · have h60' : decide ((60 : Int) < (ev.length : Int)) = true := decide_eq_true (by omega)
        have h60'' : (60 : Int) < (ev.length : Int) := by omega
        go_wp2
        go_meet
        exact ⟨by rw [show onceBad flows self ev = true by simp [onceBad, h60]], HB1⟩
      · have h60' : decide ((60 : Int) < (ev.length : Int)) = false := decide_eq_false (by omega)
        have h60'' : ¬ (60 : Int) < (ev.length : Int) := by omega
        by_cases h00 : flows.length = 0
        · have HZ := Aside0.mk h00
          have h00' : ((flows.length : Int) == 0) = true := beq_iff_eq.2 (by omega)
          clear h00
          go_wp2
          go_meet
          exact ⟨by rw [show onceBad flows self ev = true by simp [onceBad, HZ.out]], HB1⟩
        · have HZ := Aside0.mk h00
          have h00' : ((flows.length : Int) == 0) = false := beq_eq_false_iff_ne.2 (by omega)
          clear h00
          go_wp2_with (fail)
          refine (node_Check _ none _ _ flows [] _ (Kd.C_below HF.out HB1.out) (C_none _ _)).mono ?_
          rintro e w3 ⟨rfl, hb3⟩
          have HB3 := Aside0.mk (below_trans2 HB1.out hb3)
          obtain ⟨r, hr⟩ : ∃ r, r = hck flows [] := ⟨_, rfl⟩
          rw [← hr]
          have HR := Aside0.mk hr
          clear hr hb3
          by_cases h0 : r = 0
          · subst h0
            by_cases hs1 : self < 0
            · have hs1' : decide (self < 0) = true := decide_eq_true hs1
              go_wp2
              go_meet
              exact ⟨by rw [show onceBad flows self ev = true by simp [onceBad, hs1]], HB3⟩
            · have hs1' : decide (self < 0) = false := decide_eq_false hs1
              by_cases hs2 : 32 ≤ self
              · have hs2' : decide (32 ≤ self) = true := decide_eq_true hs2
                go_wp2
                go_meet
                exact ⟨by rw [show onceBad flows self ev = true by simp [onceBad, hs2]], HB3⟩
              · have hs2' : decide (32 ≤ self) = false := decide_eq_false hs2
                go_wp2
                go_meet
                exact ⟨by rw [show onceBad flows self ev = false by have := HZ.out; simp [onceBad, ← HQ.out, ← HR.out, h60, hs1, hs2] at this ⊢; exact this], HB3⟩
          · have h0' : (r != 0) = true := by simpa using h0
            clear h0
            go_wp2
            go_meet
            exact ⟨by rw [show onceBad flows self ev = true by simp only [onceBad, ← HR.out, h0']; simp], HB3⟩
  case rest =>
    obtain ⟨rfl, HB1⟩ := hcut
    obtain ⟨b, hb⟩ : ∃ b, onceBad flows self ev = b := ⟨_, rfl⟩
    have HBB := Aside0.mk hb
    rw [hb]
    clear hb
    cases b with
    | true =>
      go_wp2_with (fail)
      refine (law_awake _).mono ?_
      rintro e w3 ⟨rfl, hb3⟩
      have HB3 := Aside0.mk (below_trans2 HB1.out hb3)
      go_wp2
      go_ret
      exact ⟨rfl, HB3.out⟩
    | false =>
      have hbb := HBB.out
      unfold onceBad at hbb
      simp only [Bool.or_eq_false_iff, Bool.not_eq_false', decide_eq_false_iff_not, bne_eq_false_iff_eq] at hbb
      obtain ⟨⟨⟨⟨⟨b1, b2⟩, b3⟩, b4⟩, b5⟩, b6⟩ := hbb
      have HCF := Aside0.mk (fck_of_hck b4)
      have HB4 := Aside0.mk b4
      have HSE := Aside0.mk (show 0 ≤ self ∧ self < 32 from ⟨by omega, by omega⟩)
      have h60 : ev.length ≤ 60 := by omega
      have hfl : 0 < flows.length := by omega
      have hf16 : flows.length ≤ 16 := (fck_all HCF.out).1
      have HB1a := Aside0.mk (below_alloc HB1.out (.map #[] 0))
      have HM0 := Aside0.mk (KnowsM.made wc (KnownP flows 0 []))
      have hwc := HB1.out.size
      clear b1 b2 b3 b4 b5 b6
      go_wp2
      go_loopg [7, 8, 55] ev.length (fun gg v7 v8 v55 wr => ∃ (k : Nat) (l : List SHolding) (sl : Int), k ≤ ev.length ∧ ev.length - k ≤ gg ∧ v55 = .int .i64 k ∧ v8 = .int .i64 sl ∧ 0 ≤ sl ∧ sl ≤ 7 * k ∧ Aside0 (Below w.heap.size w wr) ∧ Aside0 (kHolding.R 45 wr w.heap.size (fun _ => True) v7 l) ∧ Aside0 (hck flows l = 0) ∧ Aside0 (KnowsM wr wc.heap.size k (KnownP flows sl l)))
      case atStart => exact ⟨0, [], 0, Nat.zero_le _, by omega, rfl, rfl, by omega, by omega, HB1a, ⟨Kd.R_nil _ _ _ _ _⟩, HB4, HM0⟩
      case round =>
        clear HB1a HM0 HB4 HBB hwc
        obtain ⟨k, l, sl, hk, hg, rfl, rfl, hs0, hs1, HB, HO, HK, HM⟩ := hrel
        by_cases hlt : k < ev.length
        · obtain ⟨ad, rfl, hz0, hz1, hz2⟩ := TEvent_nat (Kd.C_below HE.out HB.out) k hlt
          have hlt2 : (k : Int) < (ev.length : Int) := by omega
          obtain ⟨e00, e01, e10, e11, e20, e21⟩ := HV.out k
          generalize hy : ev.getD k zEvent = y at *
          clear hy
          obtain ⟨e0, e1, e2⟩ := y
          simp only at hz0 hz1 hz2 e00 e01 e10 e11 e20 e21
          have hj0 : 0 ≤ e1 % (flows.length : Int) := Int.emod_nonneg _ (by omega)
          have hj1 : e1 % (flows.length : Int) < flows.length := Int.emod_lt_of_pos _ (by omega)
          obtain ⟨j, hj⟩ := Int.eq_ofNat_of_zero_le hj0
          have hjl : j < flows.length := by omega
          have ht0 : 0 ≤ sl + e0 % 8 := by omega
          have ht1 : sl + e0 % 8 ≤ 7 * ((k + 1 : Nat) : Int) := by omega
          have ht2 : sl + e0 % 8 ≤ 1073741824 := by omega
          have hge : sl ≤ sl + e0 % 8 := by omega
          obtain ⟨ad2, rfl, hx0, hx1, hx2, hx3, hx4, hx5⟩ := TFlow_nat (Kd.C_below HF.out HB.out) j hjl
          have hmem := getD_mem (z := zFlow) hjl
          have hji : (j : Int) < (flows.length : Int) := by omega
          generalize hy2 : flows.getD j zFlow = y2 at *
          clear hy2
          obtain ⟨g0, g1, g2, g3, g4, g5⟩ := y2
          simp only at hx0 hx1 hx2 hx3 hx4 hx5
          have hb00 := below_alloc (Below.refl wr.heap.size wr) (.cells #[.int .u8 e0, .int .u8 e1, .int .u8 e2] 51)
          replace hx0 := lat_cell hx0 ⟨_, hb00⟩
          replace hx1 := lat_cell hx1 ⟨_, hb00⟩
          replace hx2 := lat_cell hx2 ⟨_, hb00⟩
          replace hx3 := lat_cell hx3 ⟨_, hb00⟩
          replace hx4 := lat_cell hx4 ⟨_, hb00⟩
          replace hx5 := lat_cell hx5 ⟨_, hb00⟩
          simp only at hx0 hx1 hx2 hx3 hx4 hx5
          clear hb00
          have hgb := fchk_ok (fck_mem HCF.out hmem)
          simp only at hgb
          have HMEM := Aside0.mk hmem
          obtain ⟨A7, c7, rfl⟩ := Kd.R_slice HO.out
          have HC7 := Aside0.mk (Kd.R_reads' HO.out).2.2
          have wg0 : (Lit.int .i64 g0).wf = true := WalkArith.wf_i64 (by omega)
          have HWG := Aside0.mk wg0
          have HGB := Aside0.mk hgb
          have HT := Aside0.mk (show 0 ≤ sl + e0 % 8 ∧ sl + e0 % 8 ≤ 7 * ((k + 1 : Nat) : Int) ∧ sl + e0 % 8 ≤ 1073741824 ∧ sl ≤ sl + e0 % 8 from ⟨ht0, ht1, ht2, hge⟩)
          have HBA := Aside0.mk (show Below wr.heap.size wr ((wr.alloc (.cells #[.int .u8 e0, .int .u8 e1, .int .u8 e2] 51)).alloc (.cells #[.int .i64 g0, .int .i64 g1, .int .i64 g2, .int .i64 g3, .int .i64 g4, .int .i64 g5] 33)) from ((Below.refl _ _).alloc (Nat.le_refl _) _).alloc (by simp) _)
          have HKE := Aside0.mk (blk_alloc (blk_new wr (.cells #[.int .u8 e0, .int .u8 e1, .int .u8 e2] 51)) (.cells #[.int .i64 g0, .int .i64 g1, .int .i64 g2, .int .i64 g3, .int .i64 g4, .int .i64 g5] 33))
          have HKF := Aside0.mk (show ((wr.alloc (.cells #[.int .u8 e0, .int .u8 e1, .int .u8 e2] 51)).alloc (.cells #[.int .i64 g0, .int .i64 g1, .int .i64 g2, .int .i64 g3, .int .i64 g4, .int .i64 g5] 33)).heap[wr.heap.size + 1]? = some (.cells #[.int .i64 g0, .int .i64 g1, .int .i64 g2, .int .i64 g3, .int .i64 g4, .int .i64 g5] 33 (0, 0)) from blk_new_at (by simp))
          have HBE := Aside0.mk (show (begin_ flows self (sl + e0 % 8) l).2 = 0 from begin_ok HK.out HSE.out ⟨ht0, ht2⟩)
          obtain ⟨out, hout⟩ : ∃ out, begin_ flows self (sl + e0 % 8) l = (out, 0) := ⟨_, Prod.ext rfl HBE.out⟩
          have HOUT := Aside0.mk hout
          have HG := Aside0.mk (show Begun flows self (sl + e0 % 8) out by have := begun HBE.out; rwa [hout] at this)
          have HKN := Aside0.mk (show ∀ i j, KnownP flows sl l i j → KnownP flows (sl + e0 % 8) out i j from fun i j hq => by have := known_begin hq hge HBE.out; rwa [hout] at this)
          clear hout hmem hj0 hj1 ht0 ht1 ht2 hge hgb wg0 hjl
          go_wp2_with (fail)
          refine (node_Begin _ _ _ _ flows self (sl + e0 % 8) l _ (Kd.C_below HF.out (below_trans2 HB.out HBA.out)) (Kd.C_below HC7.out HBA.out) (hck_sized HK.out).1 (hck_sized HK.out).2).mono ?_
          rw [HOUT.out]
          rintro e w3 ⟨v3, rfl, hR3, hb3⟩
          have HBA3 := Aside0.mk (below_trans2 HBA.out hb3)
          have HB3 := Aside0.mk (below_trans2 HB.out HBA3.out)
          have HKE3 := Aside0.mk (blk_below HKE.out hb3)
          have HKF3 := Aside0.mk (blk_below HKF.out hb3)
          have HM3 := Aside0.mk ((HM.out.below HBA3.out).imp (Nat.le_refl _) HKN.out)
          obtain ⟨A3, k3, rfl⟩ := Kd.R_slice hR3
          have HC3 := Aside0.mk (Kd.R_reads' hR3).2.2
          clear hb3 hR3 HBA HKE HKF HM HC7 HO hz0 hz1 hz2 hx0 hx1 hx2 hx3 hx4 hx5 hj hji
          obtain ⟨ee0, ee1, ee2, _⟩ := blk3 HKE3.out
          obtain ⟨cc0, cc1, cc2, cc3, cc4, cc5⟩ := blk6 HKF3.out
          obtain ⟨f16, hf16⟩ : ∃ f16, e2 % 16 = f16 := ⟨_, rfl⟩
          have H16 := Aside0.mk (show 0 ≤ f16 ∧ f16 ≤ 16 by omega)
          go_wp2_with (fail)
          clear hf16
          refine (flow_Current _ _ _ _ _ _ _ _).mono ?_
          rintro e w4 ⟨rfl, hb4⟩
          have hcb := fcur_b (f := ⟨g0, g1, g2, g3, g4, g5⟩) HT.out.2.2.1
          generalize hcu : fcur ⟨g0, g1, g2, g3, g4, g5⟩ (sl + e0 % 8) = cu at *
          have HCU := Aside0.mk hcu
          obtain ⟨cn, cb⟩ := cu
          simp only at hcb
          have HB4 := Aside0.mk (below_trans2 HB3.out hb4)
          have HKE4 := Aside0.mk (blk_below HKE3.out hb4)
          have HKF4 := Aside0.mk (blk_below HKF3.out hb4)
          have HM4 := Aside0.mk (HM3.out.below hb4)
          have HC4 := Aside0.mk (Kd.C_below HC3.out hb4)
          clear hb4 HB3 HKE3 HKF3 HM3 HC3 ee0 ee1 ee2 cc0 cc1 cc2 cc3 cc4 cc5 hcu HBA3
          obtain ⟨ee0, ee1, ee2, _⟩ := blk3 HKE4.out
          obtain ⟨cc0, cc1, cc2, cc3, cc4, cc5⟩ := blk6 HKF4.out
          simp only
          obtain ⟨fr, hfr⟩ : ∃ fr : Int, (128 ≤ e2 ∧ fr = cn) ∨ (¬ 128 ≤ e2 ∧ fr = f16) := by
            by_cases h : 128 ≤ e2
            · exact ⟨_, Or.inl ⟨h, rfl⟩⟩
            · exact ⟨_, Or.inr ⟨h, rfl⟩⟩
          have HWF := Aside0.mk (show (Lit.int .i64 fr).wf = true from by have := H16.out; exact WalkArith.wf_i64 (by omega))
          obtain ⟨next, dl, hh⟩ : ∃ next dl, hear flows self (sl + e0 % 8) out g0 fr = (next, dl, 0) := ⟨_, _, Prod.ext rfl (Prod.ext rfl (hear_begun HG.out HMEM.out fr).1)⟩
          have hbn := (hear_begun HG.out HMEM.out fr).2.1
          have hdl := (hear_begun HG.out HMEM.out fr).2.2.2
          have hkh := fun i j => @known_hear flows self (sl + e0 % 8) out HG.out _ HMEM.out fr i j
          have hkn := @known_not flows self (sl + e0 % 8) out HG.out _ HMEM.out fr
          have hkw := @known_new flows self (sl + e0 % 8) out HG.out _ HMEM.out fr
          simp only [hh, HCU.out] at hbn hdl hkh hkn hkw
          have HH := Aside0.mk hh
          have HBN := Aside0.mk hbn
          have HDL := Aside0.mk hdl
          have HKH := Aside0.mk hkh
          have HKT := Aside0.mk hkn
          have HKW := Aside0.mk hkw
          clear hh hbn hdl hkh hkn hkw hcb
          have HCP := Aside0.mk (show ∀ W, Below w4.heap.size w4 W → Calls Try.prog 11 #[.slice A3 out.length k3] W fun e w' => ∃ A5 k5, e = .returned (.slice A5 out.length k5) ∧ Kd.C kHolding w' A5 out.length out ∧ Below w4.heap.size w4 w' ∧ w'.cell? ⟨wr.heap.size + 1, 0, none⟩ = some (.int .i64 g0) from fun W hW => by
            refine (law_cp _ _ out _ (Kd.C_below HC4.out hW) HG.out.sized).mono ?_
            rintro e w5 ⟨v5, rfl, hR5, hb5⟩
            obtain ⟨A5, k5, rfl⟩ := Kd.R_slice hR5
            exact ⟨A5, k5, rfl, (Kd.R_reads' hR5).2.2, below_trans2 hW hb5, (blk6 (blk_below HKF4.out (below_trans2 hW hb5))).1⟩)
          have HEAR := Aside0.mk (show ∀ (W : World) (A5 : Option Addr) (k5 : Nat), Below w4.heap.size w4 W → Kd.C kHolding W A5 out.length out → Calls Try.prog 9 #[.slice (some ad2) flows.length c, .int .i64 self, .int .i64 (sl + e0 % 8), .slice A5 out.length k5, .agg #[.int .i64 0, .int .i64 0, .int .i64 1, .int .i64 self, .int .i64 g0], .int .i64 fr] W fun e w' => ∃ v, e = .returned (.tuple #[v, .bool dl, .int .i64 0]) ∧ kHolding.R 45 w' w.heap.size (fun _ => True) v next ∧ Below w.heap.size w w' ∧ w'.heap[wr.heap.size + 1]? = some (.cells #[.int .i64 g0, .int .i64 g1, .int .i64 g2, .int .i64 g3, .int .i64 g4, .int .i64 g5] 33 (0, 0)) ∧ KnowsM w' wc.heap.size k (KnownP flows (sl + e0 % 8) out) ∧ w'.cell? ⟨wr.heap.size + 1, 0, none⟩ = some (.int .i64 g0) from fun W A5 k5 hW hC => by
            refine (node_Hear _ _ _ _ flows self (sl + e0 % 8) out 0 0 1 self g0 fr _ (Kd.C_below HF.out (below_trans2 HB4.out hW)) hC HG.out.sized).mono ?_
            rw [HH.out]
            rintro e w6 ⟨v6, rfl, hR6, hb6⟩
            have hw6 := below_trans2 hW hb6
            exact ⟨v6, rfl, Kd.R_lower hR6 (below_trans2 HB4.out hW).size, below_trans2 HB4.out hw6, blk_below HKF4.out hw6, HM4.out.below hw6, (blk6 (blk_below HKF4.out hw6)).1⟩)
          clear H16
          rcases hfr with ⟨h128, hfr⟩ | ⟨h128, hfr⟩
          all_goals
            subst hfr
            go_upto_region 19 with (fail)
            clear h128
          all_goals
            go_cut [17, 18, 19] (fun v17 v18 v19 wx => v18 = .bool dl ∧ v19 = .int .i64 0 ∧ Aside0 (kHolding.R 45 wx w.heap.size (fun _ => True) v17 next) ∧ Aside0 (Below w.heap.size w wx) ∧ Aside0 (wx.heap[wr.heap.size + 1]? = some (.cells #[.int .i64 g0, .int .i64 g1, .int .i64 g2, .int .i64 g3, .int .i64 g4, .int .i64 g5] 33 (0, 0))) ∧ Aside0 (KnowsM wx wc.heap.size k (KnownP flows (sl + e0 % 8) out)))
            case first =>
              clear cc1 cc2 cc3 cc4 cc5 ee0 ee1 ee2
              go_region_held3 (fun w' => w'.cell? ⟨wr.heap.size + 1, 0, none⟩ = some (.int .i64 g0)) (first | exact ff0 | exact dd0 | exact cc0) (first
                | (go_at_call 11; refine (HCP.out _ ?_).mono ?_; (repeat (first | exact Below.refl _ _ | refine below_drew ?_)); rintro e w5 ⟨A5, k5, rfl, hC5, hb5, dd0⟩; have HC5 := Aside0.mk hC5; have HB5 := Aside0.mk hb5; clear hC5 hb5)
                | (go_at_call 9; refine (HEAR.out _ _ _ HB5.out HC5.out).mono ?_; rintro e w6 ⟨v6, rfl, hR6, hb6, hk6, hm6, ff0⟩; have HR6 := Aside0.mk hR6; have HB6 := Aside0.mk hb6; have HKF6 := Aside0.mk hk6; have HM6 := Aside0.mk hm6; clear hR6 hb6 hk6 hm6))
              all_goals
                go_wp2
                go_meet
                exact ⟨rfl, rfl, HR6, HB6, HKF6, HM6⟩
            case rest =>
              obtain ⟨rfl, rfl, HR6, HB6, HKF6, HM6⟩ := hcut
              clear cc0 cc1 cc2 cc3 cc4 cc5 ee0 ee1 ee2 HC4 HB4 HKF4 HKE4 HM4 HCP HEAR
              obtain ⟨ff0, ff1, ff2, ff3, ff4, ff5⟩ := blk6 HKF6.out
              have HB7 := Aside0.mk (below_alloc HB6.out (.cells #[.int .i64 g0, .int .i64 fr] 52))
              have HM7 := Aside0.mk (HM6.out.below (below_alloc (Below.refl _ _) (.cells #[.int .i64 g0, .int .i64 fr] 52)))
              have HR7 := Aside0.mk (Kd.R_below HR6.out (below_alloc (Below.refl _ _) (.cells #[.int .i64 g0, .int .i64 fr] 52)))
              have hkf7 := blk6 (blk_alloc HKF6.out (.cells #[.int .i64 g0, .int .i64 fr] 52))
              have gg2 := hkf7.2.2.1
              clear hkf7
              cases dl with
              | false =>
                have HM8 := Aside0.mk (HM7.out.imp (show k ≤ k + 1 by omega) HKH.out)
                go_wp2
                go_roundg (ev.length - (k + 1))
                case measure => omega
                case rel => exact ⟨k + 1, next, _, by omega, by omega, by go_num, rfl, HT.out.1, HT.out.2.1, HB7, HR7, ⟨HBN.out.hck_⟩, HM8⟩
              | true =>
                obtain ⟨d1, d2, d3, d4⟩ := HDL.out rfl
                simp only [Prod.mk.injEq] at d2
                obtain ⟨d2, d2'⟩ := d2
                try (have d2s := d2.symm; subst d2s)
                subst d2'
                obtain ⟨x, hrun, hx⟩ := HM7.out.look HWG.out HWF.out
                have hx' : x = false := by
                  cases x with
                  | false => rfl
                  | true => exact absurd (hx rfl) (HKT.out rfl)
                subst hx'
                have hn1 : (g2 != self) = false := by simpa using d1
                have hn2 : (fr != fr) = false := by simp
                obtain ⟨D, hown, hD⟩ := HM7.out.imp (Nat.le_refl k) HKH.out
                have HD := Aside0.mk hD
                have HOW := Aside0.mk hown
                clear d1 d3 d4 hx hD hown
                go_wp2_with (at_mapUpdate; refine wpList_mapUpdate_own _ rfl _ _ _ 49 rfl 52 4 key_law Try.underlying49 _ _ k D rfl HOW.out ?_ _ _ _ rfl rfl (key_kl HWG.out HWF.out) _ [] (plainElem_bool Try.underlying4 true) ?_; (focus (unfold maxLen; omega)); intro w8 hown8 hg8)
                have HM8 := Aside0.mk (KnowsM.put HWG.out HWF.out hown8 HD.out (HKW.out (by trivial)))
                have HB8 := Aside0.mk (Below.grown HB7.out hg8 HB7.out.size (fun q hq => by cases hq; exact HB1.out.size))
                have HR8 := Aside0.mk (R_beside HR7.out HOW.out hg8)
                clear hown8 hg8
                go_wp2
                go_roundg (ev.length - (k + 1))
                case measure => omega
                case rel => exact ⟨k + 1, next, _, by omega, by omega, by go_num, rfl, HT.out.1, HT.out.2.1, HB8, HR8, ⟨HBN.out.hck_⟩, HM8⟩
        · obtain rfl : k = ev.length := by omega
          have hlt2 : ¬ ((ev.length : Int) < (ev.length : Int)) := by omega
          go_wp2
          go_ret
          exact ⟨rfl, HB.out⟩
end Go.Proofs.Ytjgkalppjfmkoaa
