/- The law NodeHolds, walked: it returns true. -/
import Derived.Test.YtjgkalppjfmkoaaPlain3
namespace Go.Proofs.Ytjgkalppjfmkoaa
open Go.RowKit Go.Shelf Go.Proofs.YtjgkalppjfmkoaaW.PrintWords
set_option linter.unusedVariables false
set_option linter.unusedSimpArgs false

theorem law_holds1 (id : Int) (B : Nat) (w : World) (hB : B < w.heap.size) (hc : w.cell? ⟨B, 0, none⟩ = some (.int .i64 id)) :
    PredHolding 18 #[.pointer (some ⟨B, 0, none⟩)] (fun f => f.f0 == id) w := fun W x A c hb _ _ => by
  have hc' : W.cell? ⟨B, 0, none⟩ = some (.int .i64 id) := (hb.cell (p := ⟨B, 0, none⟩) hB).trans hc
  have hB' : B < W.heap.size := Nat.lt_of_lt_of_le hB hb.size
  clear hc
  show Calls Try.prog 18 #[.agg #[.int .i64 x.f0, .int .i64 x.f1, .slice A x.f2.length c], .pointer (some ⟨B, 0, none⟩)] W _
  go_enter Try.func18, Try.ntmps18
  go_wp2
  go_ret
  exact ⟨rfl, (Below.refl _ _).alloc (Nat.le_refl _) _⟩

set_option maxRecDepth 100000 in
set_option maxHeartbeats 4000000 in
theorem law_NodeHolds (A B : Option Addr) (c d : Nat) (flows : List SFlow) (self slot : Int) (l : List SHolding) (w : World) (hf : Kd.C kFlow w A flows.length flows) (hr : Kd.C kHolding w B l.length l) :
    Calls Try.prog 4 #[.slice A flows.length c, .int .i64 self, .int .i64 slot, .slice B l.length d] w fun e w' => e = .returned (.bool true) ∧ Below w.heap.size w w' := by
  have eg : ∀ args w, (callFunc 18 args).run Try.prog w = .ok (.enter 18 args) w := enters_of Try.func18 (by kernel_rfl) rfl
  have EG := Aside0.mk eg
  have HF := Aside0.mk hf
  have HR := Aside0.mk hr
  have hfn := hf.2.1
  obtain ⟨q, hq⟩ : ∃ q, q = few flows.length l 0 := ⟨_, rfl⟩
  have HQ := Aside0.mk hq.symm
  clear hf hr hq eg
  cases q with
  | false =>
    go_enter Try.func4, Try.ntmps4
    go_wp2_with (fail)
    refine (law_awake _).mono ?_
    rintro e w1 ⟨rfl, hb1⟩
    have HB1 := Aside0.mk hb1
    clear hb1
    go_wp2_with (fail)
    refine (ref_Few _ _ none _ _ 0 _ 0 _ _ (Kd.C_below HR.out HB1.out)).mono ?_
    rintro e w2 ⟨rfl, rfl⟩
    rw [HQ.out]
    go_wp2_with (fail)
    refine (law_awake _).mono ?_
    rintro e w3 ⟨rfl, hb3⟩
    have HB3 := Aside0.mk (below_trans2 HB1.out hb3)
    go_wp2
    go_ret
    exact ⟨rfl, HB3.out⟩
  | true =>
    have HS := Aside0.mk (few_sized HQ.out)
    have HS2 := Aside0.mk (show (l.length + 20) * 40 ≤ 140737488351232 by have := (few_ok HQ.out).2.1; omega)
    obtain ⟨r, hrr⟩ : ∃ r, begin_ flows self slot l = r := ⟨_, rfl⟩
    have hbg := @begun flows self slot l
    have hemp : (begin_ flows self slot l).2 ≠ 0 → (begin_ flows self slot l).1 = [] := by
      unfold begin_
      split
      · intro _; rfl
      · intro h; exact absurd rfl h
    rw [hrr] at hbg hemp
    have HRR := Aside0.mk hrr
    obtain ⟨out, re⟩ := r
    simp only at hbg hemp
    have HBG := Aside0.mk hbg
    have HEM := Aside0.mk hemp
    clear hrr hbg hemp
    go_enter Try.func4, Try.ntmps4
    go_wp2_with (fail)
    refine (law_awake _).mono ?_
    rintro e w1 ⟨rfl, hb1⟩
    have HB1 := Aside0.mk hb1
    clear hb1
    go_wp2_with (fail)
    refine (ref_Few _ _ none _ _ 0 _ 0 _ _ (Kd.C_below HR.out HB1.out)).mono ?_
    rintro e w2 ⟨rfl, rfl⟩
    rw [HQ.out]
    go_wp2_with (fail)
    refine (law_cp _ _ l _ (Kd.C_below HR.out HB1.out) HS.out).mono ?_
    rintro e w2 ⟨v2, rfl, hR2, hb2⟩
    obtain ⟨A2, k2, rfl⟩ := Kd.R_slice hR2
    have HC2 := Aside0.mk (Kd.R_reads' hR2).2.2
    have HB2 := Aside0.mk (below_trans2 HB1.out hb2)
    clear hR2 hb2
    go_wp2_with (fail)
    refine (node_Begin _ _ _ _ flows self slot l _ (Kd.C_below HF.out HB2.out) HC2.out HS.out HS2.out).mono ?_
    rw [HRR.out]
    rintro e w3 ⟨v3, rfl, hR3, hb3⟩
    obtain ⟨A3, k3, rfl⟩ := Kd.R_slice hR3
    have HC3 := Aside0.mk (Kd.R_reads' hR3).2.2
    have HB3 := Aside0.mk (below_trans2 HB2.out hb3)
    clear hR3 hb3
    by_cases h0 : re = 0
    · subst h0
      have HG := Aside0.mk (HBG.out rfl)
      go_wp2_with (fail)
      refine (law_cp _ _ out _ HC3.out HG.out.sized).mono ?_
      rintro e w4 ⟨v4, rfl, hR4, hb4⟩
      obtain ⟨A4, k4, rfl⟩ := Kd.R_slice hR4
      have HC4 := Aside0.mk (Kd.R_reads' hR4).2.2
      have HB4 := Aside0.mk (below_trans2 HB3.out hb4)
      have HO4 := Aside0.mk (Kd.C_below HC3.out hb4)
      clear hR4 hb4
      go_wp2_with (fail)
      refine (node_Check _ _ _ _ flows out _ (Kd.C_below HF.out HB4.out) HC4.out).mono ?_
      rw [HG.out.hck_]
      rintro e w5 ⟨rfl, hb5⟩
      have HB5 := Aside0.mk (below_trans2 HB4.out hb5)
      have HO5 := Aside0.mk (Kd.C_below HO4.out hb5)
      clear hb5
      go_wp2
      go_loopg [48] flows.length (fun gg v48 wr => ∃ k : Nat, k ≤ flows.length ∧ flows.length - k ≤ gg ∧ v48 = .int .i64 k ∧ Aside0 (Below w.heap.size w wr) ∧ Aside0 (Kd.C kHolding wr A3 out.length out))
      case atStart => exact ⟨0, Nat.zero_le _, by omega, rfl, HB5, HO5⟩
      case round =>
        clear HB5 HO5 HC3 HC4 HO4 HC2
        obtain ⟨k, hk, hg, rfl, HB, HO⟩ := hrel
        by_cases hlt : k < flows.length
        · obtain ⟨ad, rfl, hz0, hz1, hz2, hz3, hz4, hz5⟩ := TFlow_nat (Kd.C_below HF.out HB.out) k hlt
          have hlt2 : (k : Int) < (flows.length : Int) := by omega
          have hE := HG.out.each (getD_mem (z := zFlow) hlt)
          generalize hy : flows.getD k zFlow = y at *
          clear hy
          obtain ⟨g0, g1, g2, g3, g4, g5⟩ := y
          simp only at hz0 hz1 hz2 hz3 hz4 hz5 hE
          have HE := Aside0.mk hE
          have HB1 := Aside0.mk (show Below w.heap.size w (wr.alloc (.cells #[.int .i64 g0, .int .i64 g1, .int .i64 g2, .int .i64 g3, .int .i64 g4, .int .i64 g5] 33)) from HB.out.alloc HB.out.size _)
          have HO1 := Aside0.mk (Kd.C_below HO.out (below_alloc (Below.refl _ _) (.cells #[.int .i64 g0, .int .i64 g1, .int .i64 g2, .int .i64 g3, .int .i64 g4, .int .i64 g5] 33)))
          have HK1 := Aside0.mk (blk_new wr (.cells #[.int .i64 g0, .int .i64 g1, .int .i64 g2, .int .i64 g3, .int .i64 g4, .int .i64 g5] 33))
          clear hE HO
          go_wp2_with (fail)
          refine (flow_Current _ _ _ _ _ _ _ _).mono ?_
          rintro e w6 ⟨rfl, hb6⟩
          generalize hcu : fcur ⟨g0, g1, g2, g3, g4, g5⟩ slot = cu at *
          obtain ⟨cn, cb⟩ := cu
          have hE2 := HE.out
          simp only at hE2
          have HE2 := Aside0.mk hE2
          clear hE2
          have HB6 := Aside0.mk (below_trans2 HB1.out hb6)
          have HO6 := Aside0.mk (Kd.C_below HO1.out hb6)
          have HK6 := Aside0.mk (blk_below HK1.out hb6)
          clear hb6 HB1 HO1 HK1 HE hcu hz0 hz1 hz2 hz3 hz4 hz5
          obtain ⟨cc0, cc1, cc2, cc3, cc4, cc5⟩ := blk6 HK6.out
          go_wp2_with (fail)
          refine (IndexFunc_holding 18 _ EG.out (fun h : SHolding => h.f0 == g0) _ _ out _ (law_holds1 g0 wr.heap.size _ (blk_lt HK6.out) cc0) HO6.out).mono ?_
          rintro e w7 ⟨rfl, hb7⟩
          generalize hi : ix (fun h : SHolding => h.f0 == g0) zHolding out = i at *
          have hin : i < out.length := by rw [← hi]; exact ix_lt _ _ _
          have HE3 := HE2.out
          have HB7 := Aside0.mk (below_trans2 HB6.out hb7)
          have HO7 := Aside0.mk (Kd.C_below HO6.out hb7)
          have HK7 := Aside0.mk (blk_below HK6.out hb7)
          clear hb7 HB6 HO6 HK6 hi HE2 cc0 cc1 cc2 cc3 cc4 cc5
          obtain ⟨cc0, cc1, cc2, cc3, cc4, cc5⟩ := blk6 HK7.out
          simp only
          by_cases hi0 : 0 ≤ i
          · obtain ⟨n, rfl⟩ := Int.eq_ofNat_of_zero_le hi0
            obtain ⟨e1, e2⟩ := HE3.1 hi0
            rw [Int.toNat_natCast] at e2
            subst e1
            obtain ⟨ad2, A8, c8, rfl, hx0, hx1, hx2, hl2, hC2⟩ := THolding_nat HO7.out n (by omega)
            rw [e2] at hx1
            have hnn : (cn != cn) = false := by simp
            have hni : (n : Int) < (out.length : Int) := by omega
            have hn0 : decide ((n : Int) < 0) = false := decide_eq_false (by omega)
            clear HE3 e2 hl2 hC2 hx0 hx2
            go_wp2
            go_roundg (flows.length - (k + 1))
            case measure => omega
            case rel => exact ⟨k + 1, by omega, by omega, by go_num, HB7, HO7⟩
          · have hi1 : i < 0 := by omega
            have hi1' : decide (i < 0) = true := decide_eq_true hi1
            have hi0' : decide (0 ≤ i) = false := decide_eq_false hi0
            have hne := HE3.2 hi1
            clear HE3
            cases cb with
            | false =>
              clear hne
              go_wp2
              go_roundg (flows.length - (k + 1))
              case measure => omega
              case rel => exact ⟨k + 1, by omega, by omega, by go_num, HB7, HO7⟩
            | true =>
              have hse : (g1 == self) = false := by simpa using hne
              clear hne
              go_wp2
              go_roundg (flows.length - (k + 1))
              case measure => omega
              case rel => exact ⟨k + 1, by omega, by omega, by go_num, HB7, HO7⟩
        · obtain rfl : k = flows.length := by omega
          have hlt2 : ¬ ((flows.length : Int) < (flows.length : Int)) := by omega
          have HS3 := Aside0.mk (show (out.length + 20) * 40 ≤ 140737488351232 by have := HG.out.small.1; omega)
          go_wp2_with (fail)
          refine (law_cp _ _ out _ HO.out HG.out.sized).mono ?_
          rintro e w8 ⟨v8, rfl, hR8, hb8⟩
          obtain ⟨A8, k8, rfl⟩ := Kd.R_slice hR8
          have HC8 := Aside0.mk (Kd.R_reads' hR8).2.2
          have HB8 := Aside0.mk (below_trans2 HB.out hb8)
          have HO8 := Aside0.mk (Kd.C_below HO.out hb8)
          clear hR8 hb8
          go_wp2_with (fail)
          refine (node_Begin _ _ _ _ flows self slot out _ (Kd.C_below HF.out HB8.out) HC8.out HG.out.sized HS3.out).mono ?_
          rw [HG.out.again]
          rintro e w9 ⟨v9, rfl, hR9, hb9⟩
          obtain ⟨A9, k9, rfl⟩ := Kd.R_slice hR9
          have HC9 := Aside0.mk (Kd.R_reads' hR9).2.2
          have HB9 := Aside0.mk (below_trans2 HB8.out hb9)
          have HO9 := Aside0.mk (Kd.C_below HO8.out hb9)
          clear hR9 hb9
          go_wp2_with (fail)
          refine (ref_Same _ _ _ _ out _ HC9.out HO9.out).mono ?_
          rintro e w10 ⟨rfl, hb10⟩
          have HB10 := Aside0.mk (below_trans2 HB9.out hb10)
          go_wp2
          go_ret
          exact ⟨rfl, HB10.out⟩
    · have h0' : (re != 0) = true := by simpa using h0
      obtain rfl := HEM.out h0
      clear h0
      go_wp2
      go_ret
      exact ⟨rfl, HB3.out⟩
end Go.Proofs.Ytjgkalppjfmkoaa
