/- The reference's side: the arguments' check, and two equal lists. -/
import Derived.Test.YtjgkalppjfmkoaaRef4
namespace Go.Proofs.Ytjgkalppjfmkoaa
open Go.RowKit Go.Shelf Go.Proofs.YtjgkalppjfmkoaaW.PrintWords
set_option linter.unusedVariables false
set_option linter.unusedSimpArgs false

set_option maxHeartbeats 1000000 in
theorem ref_check (A B : Option Addr) (c d : Nat) (flows : List SFlow) (self slot : Int) (l : List SHolding) (w : World) (hf : Kd.C kFlow w A flows.length flows) (hr : Kd.C kHolding w B l.length l) :
    Calls Try.prog 35 #[.slice A flows.length c, .int .i64 self, .int .i64 slot, .slice B l.length d] w fun e w' => e = .returned (.int .i64 (hcheck flows self slot l)) ∧ Below w.heap.size w w' := by
  obtain ⟨r, hrr⟩ : ∃ r, r = hcheck flows self slot l := ⟨_, rfl⟩
  rw [← hrr]
  have HF := Aside0.mk hf
  have HR := Aside0.mk hr
  unfold hcheck at hrr
  generalize hq : hck flows l = q at *
  have HQ := Aside0.mk hq
  clear hf hr hq
  by_cases h0 : q = 0
  · subst h0
    have hrr' : r = if self < 0 ∨ 32 ≤ self ∨ slot < 0 ∨ 1073741824 < slot then 2 else 0 := by simpa using hrr
    have HX := Aside0.mk hrr'
    clear hrr hrr'
    go_enter Try.func35, Try.ntmps35
    go_wp2_with (go_at_call 63; refine (ref_Check _ _ _ _ _ _ _ HF.out HR.out).mono ?_; rintro e w1 ⟨rfl, hb1⟩; rw [HQ.out])
    all_goals
      go_ret
      refine ⟨ret_int ?_, hb1⟩
      rw [HX.out]
      first | rw [if_pos (by omega)] | rw [if_neg (by omega)]
  · have h0' : (q != 0) = true := by simpa using h0
    have HX := Aside0.mk (show q = r by rw [hrr, if_pos h0])
    clear hrr h0
    go_enter Try.func35, Try.ntmps35
    go_wp2_with (go_at_call 63; refine (ref_Check _ _ _ _ _ _ _ HF.out HR.out).mono ?_; rintro e w1 ⟨rfl, hb1⟩; rw [HQ.out])
    go_ret
    exact ⟨ret_int HX.out, hb1⟩


set_option maxRecDepth 100000 in
set_option maxHeartbeats 4000000 in
/-- Same is true of two rows that hold one list. -/
theorem ref_Same (A B : Option Addr) (c d : Nat) (l : List SHolding) (w : World) (ha : Kd.C kHolding w A l.length l) (hb : Kd.C kHolding w B l.length l) :
    Calls Try.prog 13 #[.slice A l.length c, .slice B l.length d] w fun e w' => e = .returned (.bool true) ∧ Below w.heap.size w w' := by
  have hn := ha.2.1
  have HA := Aside0.mk ha
  have HB := Aside0.mk hb
  have hll : ((l.length : Int) != (l.length : Int)) = false := by simp
  clear ha hb
  go_enter Try.func13, Try.ntmps13
  go_wp2
  go_loopg [5] l.length (fun gg v5 wr => ∃ k : Nat, k ≤ l.length ∧ l.length - k ≤ gg ∧ v5 = .int .i64 k ∧ Aside0 (Below w.heap.size w wr))
  case atStart => exact ⟨0, Nat.zero_le _, by omega, rfl, ⟨Below.refl _ _⟩⟩
  case round =>
    obtain ⟨k, hk, hg, rfl, HW⟩ := hrel
    by_cases hlt : k < l.length
    · obtain ⟨ad, A2, c2, rfl, hx0, hx1, hx2, hl2, hC2⟩ := THolding_nat (Kd.C_below HA.out HW.out) k hlt
      obtain ⟨bd, B2, d2, rfl, hy0, hy1, hy2, hm2, hD2⟩ := THolding_nat (Kd.C_below HB.out HW.out) k hlt
      generalize l.getD k zHolding = y at *
      obtain ⟨f0, f1, f2⟩ := y
      simp only at hx0 hx1 hx2 hC2 hy0 hy1 hy2 hD2
      have hn2 := hC2.2.1
      have HC2 := Aside0.mk hC2
      have HD2 := Aside0.mk hD2
      have hlti : (k : Int) < (l.length : Int) := by omega
      have e0 : (f0 != f0) = false := by simp
      have e1 : (f1 != f1) = false := by simp
      have e2 : ((f2.length : Int) != (f2.length : Int)) = false := by simp
      have da0 := lat_cell hx0
      have da1 := lat_cell hx1
      have da2 := lat_cell hx2
      have db0 := lat_cell hy0
      have db1 := lat_cell hy1
      have db2 := lat_cell hy2
      clear hC2 hD2
      go_wp2_with (fail)
      refine wp_region_lat (by kernel_rfl) (by kernel_rfl) ?_
      repeat (go_big_quiet_step (fail))
      refine wpQuiet_nil ?_
      intro wq hw'
      obtain ⟨⟨_, hq⟩, rfl⟩ := hw'
      have hz2 := lat_cell hx2 ⟨wq, hq⟩
      have hv2 := lat_cell hy2 ⟨wq, hq⟩
      simp only at hz2 hv2
      have HW2 := Aside0.mk (below_trans2 HW.out hq)
      have HC3 := Aside0.mk (Kd.C_below HC2.out hq)
      have HD3 := Aside0.mk (Kd.C_below HD2.out hq)
      clear hq da0 da1 da2 db0 db1 db2 hx0 hx1 hx2 hy0 hy1 hy2 HC2 HD2 HW
      go_wp2
      go_loopg [6] f2.length (fun gg v6 wi => ∃ j : Nat, j ≤ f2.length ∧ f2.length - j ≤ gg ∧ v6 = .int .i64 j ∧ Aside0 (Below wq.heap.size wq wi))
      case atStart => exact ⟨0, Nat.zero_le _, by omega, rfl, ⟨Below.refl _ _⟩⟩
      case round =>
        obtain ⟨j, hj, hg2, rfl, HI⟩ := hrel
        have ha2 : wr.cell? ⟨(ad.add (k * 3)).block, (ad.add (k * 3)).off + 2, none⟩ = some (.slice A2 f2.length c2) := lat_cell hz2 ⟨wr, HI.out⟩
        have hb2 : wr.cell? ⟨(bd.add (k * 3)).block, (bd.add (k * 3)).off + 2, none⟩ = some (.slice B2 f2.length d2) := lat_cell hv2 ⟨wr, HI.out⟩
        by_cases hjl : j < f2.length
        · obtain ⟨ad2, rfl, hu0⟩ := int_nat (Kd.C_below HC3.out HI.out) j hjl
          obtain ⟨bd2, rfl, ht0⟩ := int_nat (Kd.C_below HD3.out HI.out) j hjl
          generalize f2.getD j 0 = z at *
          have hjli : (j : Int) < (f2.length : Int) := by omega
          have ez : (z != z) = false := by simp
          have da2 := lat_cell ha2
          have db2 := lat_cell hb2
          have du0 := lat_cell hu0
          have dt0 := lat_cell ht0
          go_wp2_with (fail)
          refine wp_region_lat (by kernel_rfl) (by kernel_rfl) ?_
          repeat (go_big_quiet_step (fail))
          refine wpQuiet_nil ?_
          intro wq2 hw'
          obtain ⟨⟨_, hq2⟩, rfl⟩ := hw'
          have HI2 := Aside0.mk (below_trans2 HI.out hq2)
          clear hq2 da2 db2 du0 dt0
          go_wp2
          go_roundg (f2.length - (j + 1))
          case measure => omega
          case rel => exact ⟨j + 1, by omega, by omega, by go_num, HI2⟩
        · obtain rfl : j = f2.length := by omega
          have hjli : ¬ ((f2.length : Int) < (f2.length : Int)) := by omega
          go_wp2
          go_roundg (l.length - (k + 1))
          case measure => omega
          case rel => exact ⟨k + 1, by omega, by omega, by go_num, ⟨below_trans2 HW2.out HI.out⟩⟩
    · obtain rfl : k = l.length := by omega
      have hlti : ¬ ((l.length : Int) < (l.length : Int)) := by omega
      go_wp2
      go_ret
      exact ⟨rfl, HW.out⟩
end Go.Proofs.Ytjgkalppjfmkoaa
