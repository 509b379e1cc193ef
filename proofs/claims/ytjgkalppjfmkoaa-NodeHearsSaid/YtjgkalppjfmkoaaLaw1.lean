/- The law NodeHears, walked: it returns true. -/
import Derived.Test.YtjgkalppjfmkoaaPlain1
import Derived.Deep.RegionWith
namespace Go.Proofs.Ytjgkalppjfmkoaa
open Go.RowKit Go.Shelf Go.Proofs.YtjgkalppjfmkoaaW.PrintWords
set_option linter.unusedVariables false
set_option linter.unusedSimpArgs false

set_option maxRecDepth 100000 in
set_option maxHeartbeats 4000000 in
theorem law_NodeHears (A B : Option Addr) (c d : Nat) (flows : List SFlow) (self slot : Int) (l : List SHolding) (c0 c1 c2 c3 c4 frame : Int) (w : World) (hf : Kd.C kFlow w A flows.length flows) (hr : Kd.C kHolding w B l.length l) :
    Calls Try.prog 3 #[.slice A flows.length c, .int .i64 self, .int .i64 slot, .slice B l.length d, .agg #[.int .i64 c0, .int .i64 c1, .int .i64 c2, .int .i64 c3, .int .i64 c4], .int .i64 frame] w fun e w' => e = .returned (.bool true) ∧ Below w.heap.size w w' := by
  have HF := Aside0.mk hf
  have HR := Aside0.mk hr
  have HB0 := Aside0.mk (show Below w.heap.size w (w.alloc (.cells #[.int .i64 c0, .int .i64 c1, .int .i64 c2, .int .i64 c3, .int .i64 c4] 25)) from (Below.refl _ _).alloc (Nat.le_refl _) _)
  have HK0 := Aside0.mk (blk_new w (.cells #[.int .i64 c0, .int .i64 c1, .int .i64 c2, .int .i64 c3, .int .i64 c4] 25))
  obtain ⟨q, hq⟩ : ∃ q, q = few flows.length l 0 := ⟨_, rfl⟩
  have HQ := Aside0.mk hq.symm
  clear hf hr hq
  cases q with
  | false =>
    go_enter Try.func3, Try.ntmps3
    go_wp2_with (fail)
    refine (law_awake _).mono ?_
    rintro e w1 ⟨rfl, hb1⟩
    have HB1 := Aside0.mk (below_trans2 HB0.out hb1)
    clear hb1 HB0 HK0
    go_wp2_with (fail)
    refine (ref_Few _ _ none _ _ 0 _ 0 _ _ (Kd.C_below HR.out HB1.out)).mono ?_
    rintro e w2 ⟨rfl, rfl⟩
    rw [HQ.out]
    go_wp2_with (fail)
    refine (law_awake _).mono ?_
    rintro e w3 ⟨rfl, hb3⟩
    have HB3 := Aside0.mk (below_trans2 HB1.out hb3)
    go_wp2
    go_ret
    exact ⟨rfl, HB3.out⟩
  | true =>
    have HS := Aside0.mk (few_sized HQ.out)
    have HFL := Aside0.mk (show flows.length * 48 ≤ 140737488355328 by have := (few_ok HQ.out).1; omega)
    have HE := Aside0.mk (hear_eq flows self slot l c4 frame)
    obtain ⟨r, hrr⟩ : ∃ r, r = hear flows self slot l c4 frame := ⟨_, rfl⟩
    have HRR := Aside0.mk hrr
    clear hrr
    obtain ⟨rl, rx, re⟩ := r
    have hxx : (rx == rx) = true := by simp
    have hee : (re == re) = true := by simp
    go_enter Try.func3, Try.ntmps3
    go_wp2_with (fail)
    refine (law_awake _).mono ?_
    rintro e w1 ⟨rfl, hb1⟩
    have HB1 := Aside0.mk (below_trans2 HB0.out hb1)
    have HK1 := Aside0.mk (blk_below HK0.out hb1)
    clear hb1 HB0 HK0
    go_wp2_with (fail)
    refine (ref_Few _ _ none _ _ 0 _ 0 _ _ (Kd.C_below HR.out HB1.out)).mono ?_
    rintro e w2 ⟨rfl, rfl⟩
    rw [HQ.out]
    obtain ⟨cc0, cc1, cc2, cc3, cc4⟩ := blk5 HK1.out
    go_upto_region 3 with (fail)
    go_cut [13, 14, 15] (fun v13 v14 v15 wc => ∃ A9 k9, v13 = .slice A9 rl.length k9 ∧ v14 = .bool rx ∧ v15 = .int .i64 re ∧ Aside0 (Below w.heap.size w wc) ∧ Aside0 (wc.heap[w.heap.size]? = some (.cells #[.int .i64 c0, .int .i64 c1, .int .i64 c2, .int .i64 c3, .int .i64 c4] 25 (0, 0))) ∧ Aside0 (Kd.C kHolding wc A9 rl.length rl))
    case first =>
      go_region_with (first
        | (go_at_call 10; refine (Clone_flow _ _ flows _ (Kd.C_below HF.out ?_) HFL.out).mono ?_; (repeat (first | exact HB1.out | refine below_drew ?_)); rintro e w3 ⟨v3, rfl, hR3, hb3⟩; obtain ⟨A3, k3, rfl⟩ := Kd.R_slice hR3; have HC3 := Aside0.mk (Kd.R_reads' hR3).2.2; have HB3 := Aside0.mk (below_trans2 (below_drew HB1.out) hb3); have HK3 := Aside0.mk (blk_below (blk_drew' HK1.out) hb3); obtain ⟨dd0, dd1, dd2, dd3, dd4⟩ := blk5 HK3.out; clear hR3 hb3)
        | (go_at_call 11; refine (law_cp _ _ l _ (Kd.C_below HR.out HB3.out) HS.out).mono ?_; rintro e w4 ⟨v4, rfl, hR4, hb4⟩; obtain ⟨A4, k4, rfl⟩ := Kd.R_slice hR4; have HC4 := Aside0.mk (Kd.R_reads' hR4).2.2; have HB4 := Aside0.mk (below_trans2 HB3.out hb4); have HK4 := Aside0.mk (blk_below HK3.out hb4); have HF4 := Aside0.mk (Kd.C_below HC3.out hb4); obtain ⟨ee0, ee1, ee2, ee3, ee4⟩ := blk5 HK4.out; clear hR4 hb4)
        | (go_at_call 9; refine (node_Hear _ _ _ _ flows self slot l c0 c1 c2 c3 c4 frame _ HF4.out HC4.out HS.out).mono ?_; rw [← HRR.out]; rintro e w5 ⟨v5, rfl, hR5, hb5⟩; obtain ⟨A5, k5, rfl⟩ := Kd.R_slice hR5; have HC5 := Aside0.mk (Kd.R_reads' hR5).2.2; have HB5 := Aside0.mk (below_trans2 HB4.out hb5); have HK5 := Aside0.mk (blk_below HK4.out hb5); clear hR5 hb5))
      all_goals
        go_wp2
        go_meet
        exact ⟨_, _, rfl, rfl, rfl, HB5, HK5, HC5⟩
    case rest =>
      obtain ⟨A3, k3, rfl, rfl, rfl, HB3, HK3, HC3⟩ := hcut
      clear cc0 cc1 cc2 cc3 cc4
      obtain ⟨cc0, cc1, cc2, cc3, cc4⟩ := blk5 HK3.out
      go_wp2_with (fail)
      refine (ref_Hear _ _ _ _ flows self slot l c0 c1 c2 c3 c4 frame _ (Kd.C_below HF.out HB3.out) (Kd.C_below HR.out HB3.out) HS.out).mono ?_
      rw [← HE.out, ← HRR.out]
      rintro e w6 ⟨A6, k6, rfl, hC6, hb6⟩
      have HC6 := Aside0.mk hC6
      have HB6 := Aside0.mk (below_trans2 HB3.out hb6)
      have HC7 := Aside0.mk (Kd.C_below HC3.out hb6)
      clear hC6 hb6 cc0 cc1 cc2 cc3 cc4
      go_wp2_with (fail)
      refine (ref_Same _ _ _ _ rl _ HC7.out HC6.out).mono ?_
      rintro e w8 ⟨rfl, hb8⟩
      have HB8 := Aside0.mk (below_trans2 HB6.out hb8)
      go_wp2
      go_ret
      exact ⟨rfl, HB8.out⟩
end Go.Proofs.Ytjgkalppjfmkoaa
