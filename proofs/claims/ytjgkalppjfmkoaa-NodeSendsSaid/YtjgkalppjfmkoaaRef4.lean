/- The reference's side: checking holdings. -/
import Derived.Test.YtjgkalppjfmkoaaRef3
namespace Go.Proofs.Ytjgkalppjfmkoaa
open Go.RowKit Go.Shelf Go.Proofs.YtjgkalppjfmkoaaW.PrintWords
set_option linter.unusedVariables false
set_option linter.unusedSimpArgs false

set_option maxRecDepth 100000 in
set_option maxHeartbeats 4000000 in
theorem ref_Check (A B : Option Addr) (c d : Nat) (flows : List SFlow) (l : List SHolding) (w : World) (hf : Kd.C kFlow w A flows.length flows) (hr : Kd.C kHolding w B l.length l) :
    Calls Try.prog 63 #[.slice A flows.length c, .slice B l.length d] w fun e w' => e = .returned (.int .i64 (hck flows l)) ∧ Below w.heap.size w w' := by
  obtain ⟨r, hrr⟩ : ∃ r, r = hck flows l := ⟨_, rfl⟩
  have hn := hr.2.1
  rw [← hrr]
  have HF := Aside0.mk hf
  have HR := Aside0.mk hr
  clear hr hf
  by_cases h1 : (fck 32 flows).2 = 0
  · have H0 := Aside0.mk (show hckGo flows l (l.length - 0) 0 = r by rw [hrr, hck, if_pos h1]; rfl)
    have H1 := Aside0.mk h1
    clear hrr h1
    go_enter Try.func63, Try.ntmps63
    go_wp2_with (go_at_call 73; refine (ref32_Check _ _ _ _ HF.out).mono ?_; rintro e w1 ⟨rfl, hb1⟩; rw [H1.out])
    have HB1 := Aside0.mk hb1
    clear hb1
    go_loopg [7] l.length (fun gg v7 wr => ∃ k : Nat, k ≤ l.length ∧ l.length - k ≤ gg ∧ v7 = .int .i64 k ∧ Aside0 (Below w.heap.size w wr) ∧ Aside0 (hckGo flows l (l.length - k) k = r))
    case atStart => exact ⟨0, Nat.zero_le _, by omega, rfl, HB1, H0⟩
    case round =>
      obtain ⟨k, hk, hg, rfl, HB, HX⟩ := hrel
      by_cases hlt : k < l.length
      · obtain ⟨ad, A2, c2, rfl, hx0, hx1, hx2, hl2, hC2⟩ := THolding_nat (Kd.C_below HR.out HB.out) k hlt
        have hprev : 0 < k → wr.cell? (ad.add ((k - 1) * 3)) = some (.int .i64 (l.getD (k - 1) zHolding).f0) := fun h0 => by
          obtain ⟨ad', _, _, ha, hy0, _⟩ := THolding_nat (Kd.C_below HR.out HB.out) (k - 1) (by omega)
          obtain rfl : ad = ad' := by injection ha
          exact hy0
        obtain ⟨b, hbb⟩ : ∃ b, b = hbad flows l k := ⟨_, rfl⟩
        have hs : l.length - k = (l.length - (k + 1)) + 1 := by omega
        have hx := HX.out
        rw [hs, hckGo, ← hbb] at hx
        unfold hbad at hbb
        generalize hy : l.getD k zHolding = y at *
        clear hy HX hs
        obtain ⟨f0, f1, f2⟩ := y
        simp only at hx0 hx1 hx2 hl2 hC2 hx hbb
        have HP := Aside0.mk hprev
        have HX := Aside0.mk hx
        have HBB := Aside0.mk hbb
        have HC2 := Aside0.mk hC2
        have hlti : (k : Int) < (l.length : Int) := by omega
        clear hprev hx hbb hC2
        go_upto_region 7 with (fail)
        go_cut [64] (fun v64 wc => v64 = .bool b ∧ Aside0 (Below wr.heap.size wr wc))
        case first =>
          have dd0 := lat_cell hx0
          have dd1 := lat_cell hx1
          have hq := HBB.out
          generalize hqq : ix (fun f : SFlow => f.f0 == f0) zFlow flows = q at hq
          have HQ := Aside0.mk hqq
          have HBB := Aside0.mk hq
          clear hq hqq
          by_cases h0 : 0 < k
          · have hz := HP.out h0
            have dd2 := lat_cell hz
            generalize hz0 : (l.getD (k - 1) zHolding).f0 = z0 at *
            have hki : decide ((0 : Int) < (k : Int)) = true := decide_eq_true (by omega)
            have hkn : decide (0 < k) = true := decide_eq_true h0
            have hw1 : IntKind.i64.wrap ((k : Int) - 1) = (k : Int) - 1 := IntWalk.i64_in _ (by omega)
            have hw2 : 0 ≤ (k : Int) - 1 := by omega
            have hw3 : ((k : Int) - 1).toNat = k - 1 := by omega
            have hw4 : (k : Int) - 1 < (l.length : Int) := by omega
            clear hz hz0
            have key : decide (q < 0) = true ∨ (decide (q < 0) = false ∧ decide (f0 ≤ z0) = true) ∨ (decide (q < 0) = false ∧ decide (f0 ≤ z0) = false ∧ decide (f1 < 0) = true) ∨ (decide (q < 0) = false ∧ decide (f0 ≤ z0) = false ∧ decide (f1 < 0) = false ∧ decide (1073741824 < f1) = true) ∨ (decide (q < 0) = false ∧ decide (f0 ≤ z0) = false ∧ decide (f1 < 0) = false ∧ decide (1073741824 < f1) = false) := by
              simp only [decide_eq_true_eq, decide_eq_false_iff_not]; omega
            rcases key with g1 | ⟨g1, g2⟩ | ⟨g1, g2, g3⟩ | ⟨g1, g2, g3, g4⟩ | ⟨g1, g2, g3, g4⟩
            all_goals
              refine wp_region_lat (by kernel_rfl) (by kernel_rfl) ?_
              repeat (go_big_quiet_step ((go_at_call 37; refine calls_lat_same (HQ.out ▸ ref_Find _ _ _ _ _ (Kd.C_below HF.out (below_trans2 HB.out (Lat.h _)))))))
              refine wpQuiet_nil ?_
              intro _ hw'
              obtain ⟨⟨wq, hq⟩, rfl⟩ := hw'
              have HQ2 := Aside0.mk hq
              have hv := HBB.out
              clear hq dd0 dd1
              go_wp2_with fail
              go_meet
              exact ⟨by rw [hv]; simp only [g1, *]; rfl, HQ2⟩
          · have hki : decide ((0 : Int) < (k : Int)) = false := decide_eq_false (by omega)
            have hk0 : decide (0 < k) = false := decide_eq_false h0
            have key : decide (q < 0) = true ∨ (decide (q < 0) = false ∧ decide (f1 < 0) = true) ∨ (decide (q < 0) = false ∧ decide (f1 < 0) = false ∧ decide (1073741824 < f1) = true) ∨ (decide (q < 0) = false ∧ decide (f1 < 0) = false ∧ decide (1073741824 < f1) = false) := by
              simp only [decide_eq_true_eq, decide_eq_false_iff_not]; omega
            rcases key with g1 | ⟨g1, g3⟩ | ⟨g1, g3, g4⟩ | ⟨g1, g3, g4⟩
            all_goals
              refine wp_region_lat (by kernel_rfl) (by kernel_rfl) ?_
              repeat (go_big_quiet_step ((go_at_call 37; refine calls_lat_same (HQ.out ▸ ref_Find _ _ _ _ _ (Kd.C_below HF.out (below_trans2 HB.out (Lat.h _)))))))
              refine wpQuiet_nil ?_
              intro _ hw'
              obtain ⟨⟨wq, hq⟩, rfl⟩ := hw'
              have HQ2 := Aside0.mk hq
              have hv := HBB.out
              clear hq dd0 dd1
              go_wp2_with fail
              go_meet
              exact ⟨by rw [hv]; simp only [g1, *]; rfl, HQ2⟩
        case rest =>
          obtain ⟨rfl, HB2⟩ := hcut
          have hx := HX.out
          have hx2' : wc.cell? ⟨(ad.add (k * 3)).block, (ad.add (k * 3)).off + 2, none⟩ = some (.slice A2 f2.length c2) := lat_cell hx2 ⟨wc, HB2.out⟩
          clear HX HBB hx0 hx1 hx2
          cases b with
          | true =>
            rw [if_pos rfl] at hx
            have HX := Aside0.mk hx
            clear hx
            go_wp2
            go_ret
            exact ⟨ret_int HX.out, below_trans2 HB.out HB2.out⟩
          | false =>
            rw [if_neg (by simp)] at hx
            have hn2 := HC2.out.2.1
            have HX := Aside0.mk (show (if ackGo f2 (f2.length - 0) 0 = true then hckGo flows l (l.length - (k + 1)) (k + 1) else 1) = r from hx)
            clear hx
            go_wp2
            go_loopg [8] f2.length (fun gg v8 wi => ∃ j : Nat, j ≤ f2.length ∧ f2.length - j ≤ gg ∧ v8 = .int .i64 j ∧ wi = wc ∧ Aside0 ((if ackGo f2 (f2.length - j) j = true then hckGo flows l (l.length - (k + 1)) (k + 1) else 1) = r))
            case atStart => exact ⟨0, Nat.zero_le _, by omega, rfl, rfl, HX⟩
            case round =>
              clear HX
              obtain ⟨j, hj, hg2, rfl, rfl, HX⟩ := hrel
              by_cases hjl : j < f2.length
              · obtain ⟨ad2, rfl, hy0⟩ := int_nat (Kd.C_below HC2.out HB2.out) j hjl
                have hjli : (j : Int) < (f2.length : Int) := by omega
                have hs2 : f2.length - j = (f2.length - (j + 1)) + 1 := by omega
                have hx := HX.out
                rw [hs2, ackGo] at hx
                unfold ackBad at hx
                clear HX hs2
                generalize hzz : f2.getD j 0 = z at *
                clear hzz
                by_cases hin : 0 ≤ z ∧ z < 32
                · have hin2 : decide (¬ (0 ≤ z ∧ z < 32)) = false := by simp; omega
                  have hz1 : decide (z < 0) = false := decide_eq_false (by omega)
                  have hz2 : decide (32 ≤ z) = false := decide_eq_false (by omega)
                  rw [hin2] at hx
                  by_cases hj0 : 0 < j
                  · obtain ⟨ad3, ha3, hy1⟩ := int_nat (Kd.C_below HC2.out HB2.out) (j - 1) (by omega)
                    obtain rfl : ad2 = ad3 := by injection ha3
                    generalize hpp : f2.getD (j - 1) 0 = p at *
                    have hki : decide ((0 : Int) < (j : Int)) = true := decide_eq_true (by omega)
                    have hk0 : decide (0 < j) = true := decide_eq_true hj0
                    have hw1 : IntKind.i64.wrap ((j : Int) - 1) = (j : Int) - 1 := IntWalk.i64_in _ (by omega)
                    have hw2 : 0 ≤ (j : Int) - 1 := by omega
                    have hw3 : ((j : Int) - 1).toNat = j - 1 := by omega
                    have hw4 : (j : Int) - 1 < (f2.length : Int) := by omega
                    rw [hk0] at hx
                    clear hpp ha3
                    by_cases hle : z ≤ p
                    · have hle' : decide (z ≤ p) = true := decide_eq_true hle
                      rw [hle'] at hx
                      have HX := Aside0.mk (show (1 : Int) = r by simpa using hx)
                      clear hx hin hin2 hle
                      go_wp2
                      go_ret
                      exact ⟨ret_int HX.out, below_trans2 HB.out HB2.out⟩
                    · have hle' : decide (z ≤ p) = false := decide_eq_false hle
                      rw [hle'] at hx
                      have HX := Aside0.mk (show (if ackGo f2 (f2.length - (j + 1)) (j + 1) = true then hckGo flows l (l.length - (k + 1)) (k + 1) else 1) = r by simpa using hx)
                      clear hx hin hin2 hle
                      go_wp2
                      go_roundg (f2.length - (j + 1))
                      case measure => omega
                      case rel => exact ⟨j + 1, by omega, by omega, by go_num, rfl, HX⟩
                  · have hki : decide ((0 : Int) < (j : Int)) = false := decide_eq_false (by omega)
                    have hk0 : decide (0 < j) = false := decide_eq_false hj0
                    rw [hk0] at hx
                    have HX := Aside0.mk (show (if ackGo f2 (f2.length - (j + 1)) (j + 1) = true then hckGo flows l (l.length - (k + 1)) (k + 1) else 1) = r by simpa using hx)
                    clear hx hin hin2
                    go_wp2
                    go_roundg (f2.length - (j + 1))
                    case measure => omega
                    case rel => exact ⟨j + 1, by omega, by omega, by go_num, rfl, HX⟩
                · have hin2 : decide (¬ (0 ≤ z ∧ z < 32)) = true := decide_eq_true hin
                  rw [hin2] at hx
                  have HX := Aside0.mk (show (1 : Int) = r by simpa using hx)
                  have key : decide (z < 0) = true ∨ (decide (z < 0) = false ∧ decide (32 ≤ z) = true) := by
                    simp only [decide_eq_true_eq, decide_eq_false_iff_not]; omega
                  clear hx hin2 hin
                  rcases key with g1 | ⟨g1, g2⟩
                  all_goals
                    go_wp2
                    go_ret
                    exact ⟨ret_int HX.out, below_trans2 HB.out HB2.out⟩
              · obtain rfl : j = f2.length := by omega
                have hjli : ¬ ((f2.length : Int) < (f2.length : Int)) := by omega
                have hx := HX.out
                rw [Nat.sub_self, ackGo, if_pos rfl] at hx
                have HX := Aside0.mk hx
                clear hx
                go_wp2
                go_roundg (l.length - (k + 1))
                case measure => omega
                case rel => exact ⟨k + 1, by omega, by omega, by go_num, ⟨below_trans2 HB.out HB2.out⟩, HX⟩
      · obtain rfl : k = l.length := by omega
        have hlti : ¬ ((l.length : Int) < (l.length : Int)) := by omega
        have hx := HX.out
        rw [Nat.sub_self, hckGo] at hx
        have HX := Aside0.mk hx
        clear hx
        go_wp2
        go_ret
        exact ⟨ret_int HX.out, HB.out⟩
  · have HX := Aside0.mk (show (1 : Int) = r by rw [hrr, hck, if_neg h1])
    have h1' : ((fck 32 flows).2 != 0) = true := by simpa using h1
    generalize hq : (fck 32 flows).2 = q at *
    have HQ := Aside0.mk hq
    clear hq hrr h1
    go_enter Try.func63, Try.ntmps63
    go_wp2_with (go_at_call 73; refine (ref32_Check _ _ _ _ HF.out).mono ?_; rintro e w1 ⟨rfl, hb1⟩; rw [HQ.out])
    go_ret
    exact ⟨ret_int HX.out, hb1⟩
end Go.Proofs.Ytjgkalppjfmkoaa
