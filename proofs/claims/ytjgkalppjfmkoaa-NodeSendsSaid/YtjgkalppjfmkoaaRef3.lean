/- The reference's side: checking flows. -/
import Derived.Test.YtjgkalppjfmkoaaRef2
namespace Go.Proofs.Ytjgkalppjfmkoaa
open Go.RowKit Go.Shelf Go.Proofs.YtjgkalppjfmkoaaW.PrintWords
set_option linter.unusedVariables false
set_option linter.unusedSimpArgs false

set_option maxRecDepth 100000 in
set_option maxHeartbeats 4000000 in
theorem ref32_Check (A : Option Addr) (c : Nat) (l : List SFlow) (w : World) (hr : Kd.C kFlow w A l.length l) :
    Calls Try.prog 73 #[.int .i64 32, .slice A l.length c] w fun e w' => e = .returned (.tuple #[.int .i64 (fck 32 l).1, .int .i64 (fck 32 l).2]) ∧ Below w.heap.size w w' := by
  obtain ⟨r, hrr⟩ : ∃ r, fck 32 l = r := ⟨_, rfl⟩
  have hn := hr.2.1
  rw [hrr]
  unfold fck at hrr
  rw [if_neg (by decide)] at hrr
  have HR := Aside0.mk hr
  clear hr
  by_cases h16 : 16 < l.length
  · rw [if_pos h16] at hrr
    have h16' : (16 : Int) < (l.length : Int) := by omega
    have HX := Aside0.mk hrr
    clear hrr h16
    go_enter Try.func73, Try.ntmps73
    go_wp2_with (go_at_call 65; refine (ref_in _ _ _ _).mono ?_; rintro e w' ⟨rfl, rfl⟩; simp only [show decide ((2 : Int) ≤ 32 ∧ (32 : Int) ≤ 32) = true from by decide])
    go_ret2
    exact ⟨ret_ints HX.out, Below.refl _ _⟩
  · rw [if_neg h16] at hrr
    have h16' : ¬ ((16 : Int) < (l.length : Int)) := by omega
    have H0 := Aside0.mk (show fckGo 32 l (l.length - 0) 0 = r from hrr)
    clear hrr h16
    go_enter Try.func73, Try.ntmps73
    go_wp2_with (go_at_call 65; refine (ref_in _ _ _ _).mono ?_; rintro e w' ⟨rfl, rfl⟩; simp only [show decide ((2 : Int) ≤ 32 ∧ (32 : Int) ≤ 32) = true from by decide])
    go_loopg [6] l.length (fun gg v6 wr => ∃ k : Nat, k ≤ l.length ∧ l.length - k ≤ gg ∧ v6 = .int .i64 k ∧ Aside0 (Below w.heap.size w wr) ∧ Aside0 (fckGo 32 l (l.length - k) k = r))
    case atStart => exact ⟨0, Nat.zero_le _, by omega, rfl, ⟨Below.refl _ _⟩, H0⟩
    case round =>
      obtain ⟨k, hk, hg, rfl, HB, HX⟩ := hrel
      by_cases hlt : k < l.length
      · obtain ⟨ad, rfl, hx0, hx1, hx2, hx3, hx4, hx5⟩ := TFlow_nat (Kd.C_below HR.out HB.out) k hlt
        have hprev : 0 < k → wr.cell? (ad.add ((k - 1) * 6)) = some (.int .i64 (l.getD (k - 1) zFlow).f0) := fun h0 => by
          obtain ⟨ad2, e, hz, _⟩ := TFlow_nat (Kd.C_below HR.out HB.out) (k - 1) (by omega)
          obtain rfl : ad = ad2 := by injection e
          exact hz
        have hx := HX.out
        rw [show l.length - k = (l.length - (k + 1)) + 1 by omega, fckGo] at hx
        clear HX
        generalize l.getD k zFlow = y at *
        obtain ⟨f0, f1, f2, f3, f4, f5⟩ := y
        simp only at hx0 hx1 hx2 hx3 hx4 hx5 hx
        have hlti : (k : Int) < (l.length : Int) := by omega
        generalize hq : fchk 32 ⟨f0, f1, f2, f3, f4, f5⟩ = q at *
        have HQ := Aside0.mk hq
        have HP := Aside0.mk hprev
        clear hq hprev
        by_cases h0 : q = 0
        · rw [if_neg (by simp [h0])] at hx
          subst h0
          have HX := Aside0.mk hx
          clear hx
          go_wp2_with (fail)
          refine (ref_Fault _ _ _ _ _ _ _ (by decide) (by decide) _).mono ?_
          rintro e w1 ⟨rfl, hb1⟩
          rw [HQ.out]
          have HB1 := Aside0.mk (below_trans2 HB.out hb1)
          have hx0' : w1.cell? (ad.add (k * 6)) = some (.int .i64 f0) := lat_cell hx0 ⟨w1, hb1⟩
          have dd0 := lat_cell hx0'
          have hx := HX.out
          by_cases hk0 : 0 < k
          · have hz : w1.cell? (ad.add ((k - 1) * 6)) = some (.int .i64 (l.getD (k - 1) zFlow).f0) := lat_cell (HP.out hk0) ⟨w1, hb1⟩
            have dd1 := lat_cell hz
            generalize (l.getD (k - 1) zFlow).f0 = z0 at *
            have hki : decide ((0 : Int) < (k : Int)) = true := decide_eq_true (by omega)
            have hkn : decide (0 < k) = true := decide_eq_true hk0
            have hw1 : IntKind.i64.wrap ((k : Int) - 1) = (k : Int) - 1 := IntWalk.i64_in _ (by omega)
            have hw2 : 0 ≤ (k : Int) - 1 := by omega
            have hw3 : ((k : Int) - 1).toNat = k - 1 := by omega
            have hw4 : (k : Int) - 1 < (l.length : Int) := by omega
            clear hb1 hz hx0' hx0 hx1 hx2 hx3 hx4 hx5 HX
            by_cases hle : f0 ≤ z0
            · rw [if_pos ⟨hk0, hle⟩] at hx
              have hle' : decide (f0 ≤ z0) = true := decide_eq_true hle
              have HX := Aside0.mk hx
              clear hx hle hk0
              go_wp2_with (fail)
              refine wp_region_lat (by kernel_rfl) (by kernel_rfl) ?_
              repeat (go_big_quiet_step (fail))
              refine wpQuiet_nil ?_
              intro wq hw'
              obtain ⟨⟨_, hq⟩, rfl⟩ := hw'
              have HB2 := Aside0.mk (below_trans2 HB1.out hq)
              clear hq dd0 dd1
              go_wp2
              go_ret2
              exact ⟨ret_ints HX.out, HB2.out⟩
            · rw [if_neg (fun h => hle h.2)] at hx
              have hle' : decide (f0 ≤ z0) = false := decide_eq_false hle
              have HX := Aside0.mk hx
              clear hx hle hk0
              go_wp2_with (fail)
              refine wp_region_lat (by kernel_rfl) (by kernel_rfl) ?_
              repeat (go_big_quiet_step (fail))
              refine wpQuiet_nil ?_
              intro wq hw'
              obtain ⟨⟨_, hq⟩, rfl⟩ := hw'
              have HB2 := Aside0.mk (below_trans2 HB1.out hq)
              clear hq dd0 dd1
              go_wp2
              go_roundg (l.length - (k + 1))
              case measure => omega
              case rel => exact ⟨k + 1, by omega, by omega, by go_num, HB2, HX⟩
          · have hki : decide ((0 : Int) < (k : Int)) = false := decide_eq_false (by omega)
            have hkn : decide (0 < k) = false := decide_eq_false hk0
            rw [if_neg (fun h => hk0 h.1)] at hx
            clear hb1 hx0' hx0 hx1 hx2 hx3 hx4 hx5 HX
            have HX := Aside0.mk hx
            clear hx
            go_wp2_with (fail)
            refine wp_region_lat (by kernel_rfl) (by kernel_rfl) ?_
            repeat (go_big_quiet_step (fail))
            refine wpQuiet_nil ?_
            intro wq hw'
            obtain ⟨⟨_, hq⟩, rfl⟩ := hw'
            have HB2 := Aside0.mk (below_trans2 HB1.out hq)
            clear hq dd0
            go_wp2
            go_roundg (l.length - (k + 1))
            case measure => omega
            case rel => exact ⟨k + 1, by omega, by omega, by go_num, HB2, HX⟩
        · rw [if_pos h0] at hx
          have h0' : (q != 0) = true := by simpa using h0
          have HX := Aside0.mk hx
          clear hx h0
          go_wp2_with (fail)
          refine (ref_Fault _ _ _ _ _ _ _ (by decide) (by decide) _).mono ?_
          rintro e w1 ⟨rfl, hb1⟩
          rw [HQ.out]
          have HB1 := Aside0.mk (below_trans2 HB.out hb1)
          clear hb1
          go_wp2
          go_ret2
          exact ⟨ret_ints HX.out, HB1.out⟩
      · obtain rfl : k = l.length := by omega
        have hlti : ¬ ((l.length : Int) < (l.length : Int)) := by omega
        have hx := HX.out
        rw [Nat.sub_self, fckGo] at hx
        have HX := Aside0.mk hx
        clear hx
        go_wp2
        go_ret2
        exact ⟨ret_ints HX.out, HB.out⟩
end Go.Proofs.Ytjgkalppjfmkoaa
