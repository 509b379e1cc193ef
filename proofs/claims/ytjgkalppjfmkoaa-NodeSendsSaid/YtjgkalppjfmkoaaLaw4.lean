/- The law NodeSends, walked: it returns true. -/
import Derived.Test.YtjgkalppjfmkoaaPlain5
import Derived.Test.YtjgkalppjfmkoaaSends1
import Derived.Deep.RegionHeld3
namespace Go.Proofs.Ytjgkalppjfmkoaa
open Go.RowKit Go.Shelf Go.Proofs.YtjgkalppjfmkoaaW.PrintWords
set_option linter.unusedVariables false
set_option linter.unusedSimpArgs false

theorem far1 {W : World} {g a X j : Nat} {v u : Value} (hne : g ≠ X) (h : W.cell? ⟨X, j, none⟩ = some u) : (W.setCell ⟨g, a, none⟩ v).cell? ⟨X, j, none⟩ = some u :=
  (World.cell?_setCell_other W _ _ v (fun e => hne (by injection e))).trans h

set_option maxRecDepth 100000 in
set_option maxHeartbeats 8000000 in
theorem law_NodeSends (A D B : Option Addr) (c dc d : Nat) (flows : List SFlow) (duties : List SDuty) (length slot : Int) (l : List SHolding) (w : World) (hf : Kd.C kFlow w A flows.length flows) (hd : Kd.C kDuty w D duties.length duties) (hr : Kd.C kHolding w B l.length l) :
    Calls Try.prog 6 #[.slice A flows.length c, .slice D duties.length dc, .int .i64 length, .int .i64 slot, .slice B l.length d] w fun e w' => e = .returned (.bool true) ∧ Below w.heap.size w w' := by
  have HF := Aside0.mk hf
  have HD := Aside0.mk hd
  have HR := Aside0.mk hr
  have hln := hr.2.1
  obtain ⟨q, hq⟩ : ∃ q, q = few flows.length l duties.length := ⟨_, rfl⟩
  have HQ := Aside0.mk hq.symm
  clear hf hd hr hq
  cases q with
  | false =>
    go_enter Try.func6, Try.ntmps6
    go_wp2_with (fail)
    refine (law_awake _).mono ?_
    rintro e w1 ⟨rfl, hb1⟩
    have HB1 := Aside0.mk hb1
    clear hb1
    go_wp2_with (fail)
    refine (ref_Few _ _ _ _ _ _ _ duties.length _ _ (Kd.C_below HR.out HB1.out)).mono ?_
    rintro e w2 ⟨rfl, rfl⟩
    rw [HQ.out]
    go_wp2_with (fail)
    refine (law_awake _).mono ?_
    rintro e w3 ⟨rfl, hb3⟩
    have HB3 := Aside0.mk (below_trans2 HB1.out hb3)
    go_wp2
    go_ret
    exact ⟨rfl, HB3.out⟩
  | true =>
    have HS := Aside0.mk (few_sized HQ.out)
    have HDL := Aside0.mk (show (duties.length + 1) * 64 ≤ 140737488355328 by have := (few_ok HQ.out).2.2.1; omega)
    have HLIM := Aside0.mk (show (dueGo length slot duties duties.length 0 []).length ≤ 40 by have := (few_ok HQ.out).2.2.1; have := dueGo_length length slot duties duties.length 0 []; simp at this; omega)
    go_enter Try.func6, Try.ntmps6
    go_wp2_with (fail)
    refine (law_awake _).mono ?_
    rintro e w1 ⟨rfl, hb1⟩
    have HB1 := Aside0.mk hb1
    clear hb1
    go_wp2_with (fail)
    refine (ref_Few _ _ _ _ _ _ _ duties.length _ _ (Kd.C_below HR.out HB1.out)).mono ?_
    rintro e w2 ⟨rfl, rfl⟩
    rw [HQ.out]
    go_wp2_with (fail)
    refine (law_cp _ _ l _ (Kd.C_below HR.out HB1.out) HS.out).mono ?_
    rintro e w2 ⟨v2, rfl, hR2, hb2⟩
    obtain ⟨A2, k2, rfl⟩ := Kd.R_slice hR2
    have HC2 := Aside0.mk (Kd.R_reads' hR2).2.2
    have HB2 := Aside0.mk (below_trans2 HB1.out hb2)
    clear hR2 hb2
    go_wp2_with (fail)
    refine (node_ChooseP 40 sort_perm _ _ _ _ _ _ flows duties l length slot _ (Kd.C_below HF.out HB2.out) (Kd.C_below HD.out HB2.out) HC2.out HDL.out HLIM.out).mono ?_
    rintro e w3 ⟨now1, hp1, rfl, hb3⟩
    have hcc := choose_cases flows duties length slot l now1
    generalize hrr : choose (fun _ => now1) flows duties length slot l = r at *
    have HB3 := Aside0.mk (below_trans2 HB2.out hb3)
    have HP1 := Aside0.mk hp1
    have HCC := Aside0.mk hcc
    clear hb3 hp1 hcc HC2 hrr
    rcases HCC.out with ⟨h0, hz⟩ | ⟨h0, h1, h2, h3, h4, hz⟩
    · clear HCC
      obtain ⟨x, re⟩ := r
      simp only at h0 hz ⊢
      subst hz
      have h0' : (re != 0) = true := by simpa using h0
      clear h0
      have HB4 := Aside0.mk (below_alloc HB3.out (.cells #[.int .i64 0, .int .i64 0, .int .i64 0, .int .i64 0, .int .i64 0, .int .i64 0, .int .i64 0] 56))
      simp only [zIntent]
      go_wp2
      go_ret
      exact ⟨rfl, HB4.out⟩
    · clear HCC
      subst hz
      have HCK := Aside0.mk h0
      have HAT := Aside0.mk (fun now2 => @atD_ok length slot duties now2 h1 h2 h3)
      have HCH := Aside0.mk (fun (l' : List SHolding) (now' : List SDuty) (h : hck flows l' = 0) => @choose_ok flows duties length slot l' now' h h1 h2 h3 h4)
      clear h0 h1 h2 h3 h4
      simp only
      generalize hx : chosen flows l now1 = x at *
      obtain ⟨kk, ⟨x0, x1, x2, x3, x4⟩, fr⟩ := x
      simp only
      have HX := Aside0.mk hx
      clear hx
      have HB4 := Aside0.mk (below_alloc HB3.out (.cells #[.int .i64 kk, .int .i64 x0, .int .i64 x1, .int .i64 x2, .int .i64 x3, .int .i64 x4, .int .i64 fr] 56))
      have HK4 := Aside0.mk (blk_new w3 (.cells #[.int .i64 kk, .int .i64 x0, .int .i64 x1, .int .i64 x2, .int .i64 x3, .int .i64 x4, .int .i64 fr] 56))
      clear HB3
      go_wp2_with (fail)
      refine (switch_AtP 40 sort_perm _ _ duties length slot _ (Kd.C_below HD.out HB4.out) HDL.out HLIM.out).mono ?_
      rintro e w5 ⟨now2, hp2, v5, rfl, hR5, hb5⟩
      rw [HAT.out] at hR5 ⊢
      simp only at hR5 ⊢
      obtain ⟨N, kn, rfl⟩ := Kd.R_slice hR5
      have HN5 := Aside0.mk (Kd.R_reads' hR5).2.2
      have HB5 := Aside0.mk (below_trans2 HB4.out hb5)
      have HK5 := Aside0.mk (blk_below HK4.out hb5)
      have HMEM := Aside0.mk (show ∀ y, y ∈ now1 → y ∈ now2 from fun y hy => (hp2.trans HP1.out.symm).mem_iff.2 hy)
      have HMEM2 := Aside0.mk (show ∀ y, y ∈ now2 → y ∈ now1 from fun y hy => (hp2.trans HP1.out.symm).mem_iff.1 hy)
      clear hb5 hR5 hp2 HB4 HK4 HAT
      obtain ⟨cc0, cc1, cc2, cc3, cc4, cc5, cc6, _⟩ := blk7 HK5.out
      have hcs := chosen_cases flows l now1
      rw [HX.out] at hcs
      have HCS := Aside0.mk hcs
      clear hcs
      rcases HCS.out with ⟨y, hy, hsb, he⟩ | ⟨y, hy, hnf, he⟩ | ⟨hall, he⟩
      · injection he with e1 e2 e3
        subst e1
        have HY := Aside0.mk (And.intro hy (And.intro hsb (And.intro e2 e3)))
        clear hy hsb e2 e3 HCS
        have HIX := Aside0.mk (show 0 ≤ ix (fun h : SHolding => h.f0 == x4) zHolding l ∧ fr = (l.getD (ix (fun h : SHolding => h.f0 == x4) zHolding l).toNat zHolding).f1 ∧ ix (fun n => x3 == n) 0 (l.getD (ix (fun h : SHolding => h.f0 == x4) zHolding l).toNat zHolding).f2 < 0 from by
          obtain ⟨_, hsb, e2, e3⟩ := HY.out
          obtain ⟨_, g2, g3⟩ := sendsB_ok hsb
          rw [← e2] at g2 g3 e3
          exact ⟨g2, e3, g3⟩)
        have HP2 := Aside0.mk (show 0 ≤ ix (fun z : SDuty => z.f1 && cellB z.f0 ⟨x0, x1, x2, x3, x4⟩) zDuty now2 from by
          obtain ⟨hy, hsb, e2, e3⟩ := HY.out
          exact ix_pos.2 ⟨y, HMEM.out y hy, by simp [(sendsB_ok hsb).1, cellB_eq, ← e2]⟩)
        clear HY HX
        obtain ⟨hix0, hix1, hix2⟩ := HIX.out
        generalize hj : ix (fun h : SHolding => h.f0 == x4) zHolding l = jj at hix0 hix1 hix2
        obtain ⟨n, rfl⟩ := Int.eq_ofNat_of_zero_le hix0
        rw [Int.toNat_natCast] at hix1 hix2
        have HJ := Aside0.mk hj
        have hnl : n < l.length := by have := ix_lt (fun h : SHolding => h.f0 == x4) zHolding l; rw [hj] at this; omega
        clear hj hix0
        have eg1 : ∀ args w, (callFunc 21 args).run Try.prog w = .ok (.enter 21 args) w := enters_of Try.func21 (by kernel_rfl) rfl
        have HCON1 := Aside0.mk (IndexFunc_holding 21 #[.pointer (some ⟨w3.heap.size, 0, none⟩)] eg1 (fun h : SHolding => h.f0 == x4) B d l w5 (sends_1 x4 w3.heap.size w5 (blk_lt HK5.out) cc5) (Kd.C_below HR.out HB5.out))
        clear eg1
        go_wp2_with (fail)
        refine HCON1.out.mono ?_
        rintro e w6 ⟨rfl, hb6⟩
        rw [HJ.out]
        have HB6 := Aside0.mk (below_trans2 HB5.out hb6)
        have HK6 := Aside0.mk (blk_below HK5.out hb6)
        have HN6 := Aside0.mk (Kd.C_below HN5.out hb6)
        clear hb6 HB5 HK5 HN5 HCON1 cc0 cc1 cc2 cc3 cc4 cc5 cc6
        obtain ⟨cc0, cc1, cc2, cc3, cc4, cc5, cc6, _⟩ := blk7 HK6.out
        have eg2 : ∀ args w, (callFunc 23 args).run Try.prog w = .ok (.enter 23 args) w := enters_of Try.func23 (by kernel_rfl) rfl
        have HCON2 := Aside0.mk (Contains_duty 23 #[.pointer (some ⟨w3.heap.size, 0, none⟩)] eg2 (fun z => z.f1 && cellB z.f0 ⟨x0, x1, x2, x3, x4⟩) N kn now2 w6 (sends_2 ⟨x0, x1, x2, x3, x4⟩ w3.heap.size w6 ⟨blk_lt HK6.out, cc1, cc2, cc3, cc4, cc5⟩) HN6.out)
        clear eg2
        go_wp2_with (fail)
        refine HCON2.out.mono ?_
        rintro e w7 ⟨rfl, hb7⟩
        rw [decide_eq_true HP2.out]
        have HB7 := Aside0.mk (below_trans2 HB6.out hb7)
        have HK7 := Aside0.mk (blk_below HK6.out hb7)
        clear hb7 HB6 HK6 HN6 HCON2 HP2 cc0 cc1 cc2 cc3 cc4 cc5 cc6
        obtain ⟨cc0, cc1, cc2, cc3, cc4, cc5, cc6, _⟩ := blk7 HK7.out
        obtain ⟨ad, A8, c8, rfl, hx0, hx1, hx2, hl2, hC2⟩ := THolding_nat (Kd.C_below HR.out HB7.out) n hnl
        rw [← hix1] at hx1
        have HC2 := Aside0.mk hC2
        have HQ := Aside0.mk (show decide (0 ≤ ix (fun n => x3 == n) 0 (l.getD n zHolding).f2) = false from decide_eq_false (by omega))
        generalize (l.getD n zHolding).f2 = f2 at hx2 HC2 HQ
        have hn0 : decide ((n : Int) < 0) = false := decide_eq_false (by omega)
        have hni : (n : Int) < (l.length : Int) := by omega
        have hff : (fr != fr) = false := by simp
        have dx1 := lat_cell hx1
        have dx2 := lat_cell hx2
        have dc4 := lat_cell cc4
        have dc6 := lat_cell cc6
        clear hl2 hC2 hix1 hix2 hx0
        go_wp2_with (fail)
        refine wp_region_lat (by kernel_rfl) (by kernel_rfl) ?_
        repeat (go_big_quiet_step ((go_at_call 24; refine calls_lat_same (HQ.out ▸ Contains_int _ _ _ _ _ (Kd.C_below HC2.out (Lat.h _))))))
        refine wpQuiet_nil ?_
        intro wq hw'
        obtain ⟨⟨_, hq⟩, rfl⟩ := hw'
        have HB8 := Aside0.mk (below_trans2 HB7.out hq)
        have HK8 := Aside0.mk (blk_below HK7.out hq)
        clear hq dx1 dx2 dc4 dc6 hx1 hx2 cc0 cc1 cc2 cc3 cc4 cc5 cc6 HB7 HK7 HC2 HQ hni hn0
        obtain ⟨cc0, cc1, cc2, cc3, cc4, cc5, cc6, _⟩ := blk7 HK8.out
        by_cases hto : x3 < 0 ∨ 32 ≤ x3
        · rcases (show x3 < 0 ∨ (¬ x3 < 0 ∧ 32 ≤ x3) by omega) with g1 | ⟨g1, g2⟩
          · have g1' : decide (x3 < 0) = true := decide_eq_true g1
            go_wp2
            go_ret
            exact ⟨rfl, HB8.out⟩
          · have g1' : decide (x3 < 0) = false := decide_eq_false g1
            have g2' : decide (32 ≤ x3) = true := decide_eq_true g2
            go_wp2
            go_ret
            exact ⟨rfl, HB8.out⟩
        · have g1' : decide (x3 < 0) = false := decide_eq_false (by omega)
          have g2' : decide (32 ≤ x3) = false := decide_eq_false (by omega)
          have HS2 := Aside0.mk (sent_ok HCK.out (fl := x4) (dst := x3) (by omega) HIX.out.1 HIX.out.2.2)
          clear hto
          obtain ⟨l', hl'⟩ : ∃ l', l' = sent l x4 x3 true := ⟨_, rfl⟩
          have HL' := Aside0.mk hl'
          rw [← hl'] at HS2
          clear hl'
          have HCP := Aside0.mk (show ∀ W, Below wq.heap.size wq W → Calls Try.prog 11 #[.slice (some ad) l.length d] W fun e w' => ∃ A5 k5, e = .returned (.slice A5 l.length k5) ∧ Kd.C kHolding w' A5 l.length l ∧ Below wq.heap.size wq w' ∧ Below W.heap.size W w' ∧ w'.cell? ⟨w3.heap.size, 1, none⟩ = some (.int .i64 x0) ∧ w'.cell? ⟨w3.heap.size, 2, none⟩ = some (.int .i64 x1) ∧ w'.cell? ⟨w3.heap.size, 3, none⟩ = some (.int .i64 x2) ∧ w'.cell? ⟨w3.heap.size, 4, none⟩ = some (.int .i64 x3) ∧ w'.cell? ⟨w3.heap.size, 5, none⟩ = some (.int .i64 x4) from fun W hW => by
            refine (law_cp _ _ l _ (Kd.C_below HR.out (below_trans2 HB8.out hW)) HS.out).mono ?_
            rintro e w5 ⟨v5, rfl, hR5, hb5⟩
            obtain ⟨A5, k5, rfl⟩ := Kd.R_slice hR5
            have hz := blk7 (blk_below HK8.out (below_trans2 hW hb5))
            exact ⟨A5, k5, rfl, (Kd.R_reads' hR5).2.2, below_trans2 hW hb5, hb5, hz.2.1, hz.2.2.1, hz.2.2.2.1, hz.2.2.2.2.1, hz.2.2.2.2.2.1⟩)
          have HSENT := Aside0.mk (show ∀ (W : World) (A5 : Option Addr) (k5 : Nat), Below wq.heap.size wq W → Kd.C kHolding W A5 l.length l → Calls Try.prog 25 #[.slice A5 l.length k5, .agg #[.int .i64 x0, .int .i64 x1, .int .i64 x2, .int .i64 x3, .int .i64 x4], .bool true] W fun e w' => ∃ A6 k6, e = .returned (.slice A6 l'.length k6) ∧ Kd.C kHolding w' A6 l'.length l' ∧ Below wq.heap.size wq w' ∧ Below W.heap.size W w' ∧ w'.cell? ⟨w3.heap.size, 1, none⟩ = some (.int .i64 x0) ∧ w'.cell? ⟨w3.heap.size, 2, none⟩ = some (.int .i64 x1) ∧ w'.cell? ⟨w3.heap.size, 3, none⟩ = some (.int .i64 x2) ∧ w'.cell? ⟨w3.heap.size, 4, none⟩ = some (.int .i64 x3) ∧ w'.cell? ⟨w3.heap.size, 5, none⟩ = some (.int .i64 x4) from fun W A5 k5 hW hC => by
            refine (node_Sent _ _ l x0 x1 x2 x3 x4 true _ hC HS.out).mono ?_
            rw [← HL'.out]
            rintro e w5 ⟨v5, rfl, hR5, hb5⟩
            obtain ⟨A5, k5, rfl⟩ := Kd.S_slice hR5
            have hz := blk7 (blk_below HK8.out (below_trans2 hW hb5))
            exact ⟨A5, k5, rfl, (Kd.S_reads' hR5).2.2, below_trans2 hW hb5, hb5, hz.2.1, hz.2.2.1, hz.2.2.2.1, hz.2.2.2.2.1, hz.2.2.2.2.2.1⟩)
          have HCHO := Aside0.mk (show ∀ (W : World) (A6 : Option Addr) (k6 : Nat), Below wq.heap.size wq W → Kd.C kHolding W A6 l'.length l' → Calls Try.prog 19 #[.slice A flows.length c, .slice D duties.length dc, .int .i64 length, .int .i64 slot, .slice A6 l'.length k6] W fun e w' => ∃ j0 j1 j2 j3 j4 j5 j6 : Int, e = .returned (.tuple #[.agg #[.int .i64 j0, .int .i64 j1, .int .i64 j2, .int .i64 j3, .int .i64 j4, .int .i64 j5, .int .i64 j6], .int .i64 0]) ∧ ¬ (j0 = 1 ∧ j4 = x3 ∧ j5 = x4) ∧ Below wq.heap.size wq w' ∧ Below W.heap.size W w' ∧ w'.cell? ⟨w3.heap.size, 1, none⟩ = some (.int .i64 x0) ∧ w'.cell? ⟨w3.heap.size, 2, none⟩ = some (.int .i64 x1) ∧ w'.cell? ⟨w3.heap.size, 3, none⟩ = some (.int .i64 x2) ∧ w'.cell? ⟨w3.heap.size, 4, none⟩ = some (.int .i64 x3) ∧ w'.cell? ⟨w3.heap.size, 5, none⟩ = some (.int .i64 x4) from fun W A6 k6 hW hC => by
            refine (node_ChooseP 40 sort_perm _ _ _ _ _ _ flows duties l' length slot _ (Kd.C_below HF.out (below_trans2 HB8.out hW)) (Kd.C_below HD.out (below_trans2 HB8.out hW)) hC HDL.out HLIM.out).mono ?_
            rintro e w5 ⟨now3, _, rfl, hb5⟩
            rw [HCH.out l' now3 HS2.out.1]
            have hz := blk7 (blk_below HK8.out (below_trans2 hW hb5))
            refine ⟨_, _, _, _, _, _, _, rfl, ?_, below_trans2 hW hb5, hb5, hz.2.1, hz.2.2.1, hz.2.2.2.1, hz.2.2.2.2.1, hz.2.2.2.2.2.1⟩
            rintro ⟨j0, j4, j5⟩
            obtain ⟨i, hi, g1, g2⟩ := HS2.out.2
            rcases chosen_cases flows l' now3 with ⟨z, _, hsb, he⟩ | ⟨z, _, _, he⟩ | ⟨_, he⟩
            · rw [he] at j4 j5
              rw [sends_no HS2.out.1 hi g1 g2 j5 j4] at hsb
              cases hsb
            · rw [he] at j0; cases j0
            · rw [he] at j0; cases j0)
          have hne8 := World.new_ne wq _ cc1
          simp only at hne8
          clear HCK HCH HIX HMEM HMEM2 HP1 HS HDL HLIM HF HD HR HL' HS2 cc0 cc6
          go_upto_region 17 with (fail)
          go_cut [17, 18] (fun v17 v18 wz => ∃ (Y : Nat) (j0 j1 j2 j3 j4 j5 j6 : Int), v17 = .pointer (some ⟨Y, 0, none⟩) ∧ v18 = .int .i64 0 ∧ Aside0 (¬ (j0 = 1 ∧ j4 = x3 ∧ j5 = x4)) ∧ Aside0 (Below w.heap.size w wz) ∧ Aside0 (wz.cell? ⟨w3.heap.size, 1, none⟩ = some (.int .i64 x0) ∧ wz.cell? ⟨w3.heap.size, 2, none⟩ = some (.int .i64 x1) ∧ wz.cell? ⟨w3.heap.size, 3, none⟩ = some (.int .i64 x2) ∧ wz.cell? ⟨w3.heap.size, 4, none⟩ = some (.int .i64 x3) ∧ wz.cell? ⟨w3.heap.size, 5, none⟩ = some (.int .i64 x4)) ∧ Aside0 (wz.cell? ⟨Y, 0, none⟩ = some (.int .i64 j0) ∧ wz.cell? ⟨Y, 1, none⟩ = some (.int .i64 j1) ∧ wz.cell? ⟨Y, 2, none⟩ = some (.int .i64 j2) ∧ wz.cell? ⟨Y, 3, none⟩ = some (.int .i64 j3) ∧ wz.cell? ⟨Y, 4, none⟩ = some (.int .i64 j4) ∧ wz.cell? ⟨Y, 5, none⟩ = some (.int .i64 j5) ∧ wz.cell? ⟨Y, 6, none⟩ = some (.int .i64 j6)))
          case first =>
            go_region_held3 (fun w' => w'.cell? ⟨w3.heap.size, 1, none⟩ = some (.int .i64 x0) ∧ w'.cell? ⟨w3.heap.size, 2, none⟩ = some (.int .i64 x1) ∧ w'.cell? ⟨w3.heap.size, 3, none⟩ = some (.int .i64 x2) ∧ w'.cell? ⟨w3.heap.size, 4, none⟩ = some (.int .i64 x3) ∧ w'.cell? ⟨w3.heap.size, 5, none⟩ = some (.int .i64 x4)) (go_keep) (first
              | (go_at_call 11; refine (HCP.out _ ?_).mono ?_; (repeat (first | exact Below.refl _ _ | refine below_drew ?_ | refine below_alloc ?_ _)); rintro e wA ⟨A5, k5, rfl, hC5, hbA, hwA, dd1, dd2, dd3, dd4, dd5⟩; have HC5 := Aside0.mk hC5; have HBA := Aside0.mk hbA; (first | (have HZA := Aside0.mk (blk_below (blk_drew' (blk_new wq (Obj.cells #[.int .i64 0, .int .i64 0, .int .i64 0, .int .i64 0, .int .i64 0, .int .i64 0, .int .i64 0] 56))) hwA)) | skip); (first | (have hz7 := blk7 HZA.out; obtain ⟨z0, z1, z2, z3, z4, z5, z6, zf⟩ := hz7) | skip); have hnA := World.new_ne wA _ dd1; simp only at hnA; clear hC5 hbA hwA)
              | (go_at_call 25; refine (HSENT.out _ _ _ ?_ ?_).mono ?_; (repeat (first | exact HBA.out | refine below_alloc ?_ _)); (first | exact HC5.out | exact Kd.C_below HC5.out (below_alloc (Below.refl _ _) _)); rintro e wB ⟨A6, k6, rfl, hC6, hbB, hwB, ee1, ee2, ee3, ee4, ee5⟩; have HC6 := Aside0.mk hC6; have HBB := Aside0.mk hbB; (first | (have HZB := Aside0.mk (blk_below HZA.out hwB)) | (have HZB := Aside0.mk (blk_below (blk_new wA (Obj.cells #[.int .i64 0, .int .i64 0, .int .i64 0, .int .i64 0, .int .i64 0, .int .i64 0, .int .i64 0] 56)) hwB)) | skip); (first | (have hy7 := blk7 HZB.out; obtain ⟨y0, y1, y2, y3, y4, y5, y6, yf⟩ := hy7) | skip); have hnB := World.new_ne wB _ ee1; simp only at hnB; clear hC6 hbB hwB)
              | (go_at_call 19; refine (HCHO.out _ _ _ ?_ ?_).mono ?_; (repeat (first | exact HBB.out | refine below_alloc ?_ _)); (first | exact HC6.out | exact Kd.C_below HC6.out (below_alloc (Below.refl _ _) _)); rintro e wD ⟨j0, j1, j2, j3, j4, j5, j6, rfl, hno, hbD, hwD, ff1, ff2, ff3, ff4, ff5⟩; have HNO := Aside0.mk hno; have HBD := Aside0.mk hbD; (first | (have HZD := Aside0.mk (blk_below HZB.out hwD)) | (have HZD := Aside0.mk (blk_below (blk_new wB (Obj.cells #[.int .i64 0, .int .i64 0, .int .i64 0, .int .i64 0, .int .i64 0, .int .i64 0, .int .i64 0] 56)) hwD)) | skip); (first | (have hu7 := blk7 HZD.out; obtain ⟨u0, u1, u2, u3, u4, u5, u6, uf⟩ := hu7) | skip); have hnD := World.new_ne wD _ ff1; simp only at hnD; clear hno hbD hwD))
            all_goals
              go_wp2
              go_meet
            · (refine ⟨_, j0, j1, j2, j3, j4, j5, j6, rfl, rfl, HNO, ⟨below_alloc (below_trans2 HB8.out HBD.out) _⟩, ⟨lat_cell ff1 ⟨_, below_alloc (Below.refl _ _) _⟩, lat_cell ff2 ⟨_, below_alloc (Below.refl _ _) _⟩, lat_cell ff3 ⟨_, below_alloc (Below.refl _ _) _⟩, lat_cell ff4 ⟨_, below_alloc (Below.refl _ _) _⟩, lat_cell ff5 ⟨_, below_alloc (Below.refl _ _) _⟩⟩, ⟨new7_cells wD⟩⟩)
            · (refine ⟨_, j0, j1, j2, j3, j4, j5, j6, rfl, rfl, HNO, ⟨?_⟩, ⟨?_⟩, ⟨set7_cells u0 u1 u2 u3 u4 u5 u6⟩⟩; (focus (have hsz := (below_trans2 HB8.out HBB.out).size; (repeat (first | with_reducible exact below_trans2 HB8.out HBD.out | (with_reducible refine Below.setCell ?_ ?_ _; rotate_left; (focus (dsimp only; omega))))))); exact ⟨far1 hnB (far1 hnB (far1 hnB (far1 hnB (far1 hnB (far1 hnB (far1 hnB ff1)))))), far1 hnB (far1 hnB (far1 hnB (far1 hnB (far1 hnB (far1 hnB (far1 hnB ff2)))))), far1 hnB (far1 hnB (far1 hnB (far1 hnB (far1 hnB (far1 hnB (far1 hnB ff3)))))), far1 hnB (far1 hnB (far1 hnB (far1 hnB (far1 hnB (far1 hnB (far1 hnB ff4)))))), far1 hnB (far1 hnB (far1 hnB (far1 hnB (far1 hnB (far1 hnB (far1 hnB ff5))))))⟩)
            · (refine ⟨_, j0, j1, j2, j3, j4, j5, j6, rfl, rfl, HNO, ⟨?_⟩, ⟨?_⟩, ⟨set7_cells u0 u1 u2 u3 u4 u5 u6⟩⟩; (focus (have hsz := (below_trans2 HB8.out HBA.out).size; (repeat (first | with_reducible exact below_trans2 HB8.out HBD.out | (with_reducible refine Below.setCell ?_ ?_ _; rotate_left; (focus (dsimp only; omega))))))); exact ⟨far1 hnA (far1 hnA (far1 hnA (far1 hnA (far1 hnA (far1 hnA (far1 hnA ff1)))))), far1 hnA (far1 hnA (far1 hnA (far1 hnA (far1 hnA (far1 hnA (far1 hnA ff2)))))), far1 hnA (far1 hnA (far1 hnA (far1 hnA (far1 hnA (far1 hnA (far1 hnA ff3)))))), far1 hnA (far1 hnA (far1 hnA (far1 hnA (far1 hnA (far1 hnA (far1 hnA ff4)))))), far1 hnA (far1 hnA (far1 hnA (far1 hnA (far1 hnA (far1 hnA (far1 hnA ff5))))))⟩)
            · (refine ⟨_, j0, j1, j2, j3, j4, j5, j6, rfl, rfl, HNO, ⟨?_⟩, ⟨?_⟩, ⟨set7_cells u0 u1 u2 u3 u4 u5 u6⟩⟩; (focus (have hsz := HB8.out.size; (repeat (first | with_reducible exact below_trans2 HB8.out HBD.out | (with_reducible refine Below.setCell ?_ ?_ _; rotate_left; (focus (dsimp only; omega))))))); exact ⟨far1 hne8 (far1 hne8 (far1 hne8 (far1 hne8 (far1 hne8 (far1 hne8 (far1 hne8 ff1)))))), far1 hne8 (far1 hne8 (far1 hne8 (far1 hne8 (far1 hne8 (far1 hne8 (far1 hne8 ff2)))))), far1 hne8 (far1 hne8 (far1 hne8 (far1 hne8 (far1 hne8 (far1 hne8 (far1 hne8 ff3)))))), far1 hne8 (far1 hne8 (far1 hne8 (far1 hne8 (far1 hne8 (far1 hne8 (far1 hne8 ff4)))))), far1 hne8 (far1 hne8 (far1 hne8 (far1 hne8 (far1 hne8 (far1 hne8 (far1 hne8 ff5))))))⟩)
          case rest =>
            obtain ⟨Y, j0, j1, j2, j3, j4, j5, j6, rfl, rfl, HNO, HBZ, HBX, HYZ⟩ := hcut
            clear HCP HSENT HCHO cc1 cc2 cc3 cc4 cc5
            obtain ⟨b1, b2, b3, b4, b5⟩ := HBX.out
            obtain ⟨y0, y1, y2, y3, y4, y5, y6⟩ := HYZ.out
            by_cases g0 : j0 = 1
            · subst g0
              by_cases g4 : j4 = x3
              · subst g4
                have g5 : (j5 != x4) = true := by
                  have := HNO.out
                  simp at this
                  simpa using this
                have g4' : (j4 != j4) = false := by simp
                go_wp2
                go_ret
                exact ⟨rfl, HBZ.out⟩
              · have g4' : (j4 != x3) = true := by simpa using g4
                clear g4
                go_wp2
                go_ret
                exact ⟨rfl, HBZ.out⟩
            · have g0' : (j0 != 1) = true := by simpa using g0
              clear g0
              go_wp2
              go_ret
              exact ⟨rfl, HBZ.out⟩
      · injection he with e1 e2 e3
        subst e1
        subst e3
        have HY := Aside0.mk (show 0 ≤ ix (fun z : SDuty => !z.f1 && cellB z.f0 ⟨x0, x1, x2, x3, x4⟩) zDuty now2 from ix_pos.2 ⟨y, HMEM.out y hy, by simp [hnf, cellB_eq, ← e2]⟩)
        clear hy hnf e2 HCS
        have eg3 : ∀ args w, (callFunc 26 args).run Try.prog w = .ok (.enter 26 args) w := enters_of Try.func26 (by kernel_rfl) rfl
        have HCON := Aside0.mk (Contains_duty 26 #[.pointer (some ⟨w3.heap.size, 0, none⟩)] eg3 (fun z => !z.f1 && cellB z.f0 ⟨x0, x1, x2, x3, x4⟩) N kn now2 w5 (sends_3 ⟨x0, x1, x2, x3, x4⟩ w3.heap.size w5 ⟨blk_lt HK5.out, cc1, cc2, cc3, cc4, cc5⟩) HN5.out)
        clear eg3
        go_wp2_with (fail)
        refine HCON.out.mono ?_
        rintro e w6 ⟨rfl, hb6⟩
        rw [decide_eq_true HY.out]
        have HB6 := Aside0.mk (below_trans2 HB5.out hb6)
        clear hb6
        go_wp2
        go_ret
        exact ⟨rfl, HB6.out⟩
      · injection he with e1 e2 e3
        injection e2 with f0 f1 f2 f3 f4
        subst e1
        subst e3
        subst f0
        subst f1
        subst f2
        subst f3
        subst f4
        have HY := Aside0.mk (show ¬ 0 ≤ ix (fun z : SDuty => !z.f1) zDuty now2 from fun h => by
          obtain ⟨z, hz, hz1⟩ := ix_pos.1 h
          rw [hall z (HMEM2.out z hz)] at hz1
          cases hz1)
        clear hall HCS
        have eg4 : ∀ args w, (callFunc 27 args).run Try.prog w = .ok (.enter 27 args) w := enters_of Try.func27 (by kernel_rfl) rfl
        have HCON := Aside0.mk (Contains_duty 27 #[] eg4 (fun z => !z.f1) N kn now2 w5 (sends_4 w5) HN5.out)
        clear eg4
        go_wp2_with (fail)
        refine HCON.out.mono ?_
        rintro e w6 ⟨rfl, hb6⟩
        rw [show decide (0 ≤ ix (fun z : SDuty => !z.f1) zDuty now2) = false from decide_eq_false (by have := HY.out; omega)]
        have HB6 := Aside0.mk (below_trans2 HB5.out hb6)
        clear hb6
        go_wp2
        go_ret
        exact ⟨rfl, HB6.out⟩
end Go.Proofs.Ytjgkalppjfmkoaa
