/- Package flow: Check. -/
import Derived.Test.YtjgkalppjfmkoaaFlow3
import Derived.IntWalk
namespace Go.Proofs.Ytjgkalppjfmkoaa
open Go.RowKit Go.Shelf Go.Proofs.YtjgkalppjfmkoaaW.PrintWords
set_option linter.unusedVariables false
set_option linter.unusedSimpArgs false

/-- flow.Check's loop, from index k on. -/
def fckGo (nodes : Int) (l : List SFlow) : Nat → Nat → Int × Int
  | 0, _ => (-1, 0)
  | d + 1, k => if fchk nodes (l.getD k zFlow) ≠ 0 then ((k : Int), fchk nodes (l.getD k zFlow))
    else if 0 < k ∧ (l.getD k zFlow).f0 ≤ (l.getD (k - 1) zFlow).f0 then ((k : Int), 5) else fckGo nodes l d (k + 1)
/-- flow.Check's answer. -/
def fck (nodes : Int) (l : List SFlow) : Int × Int := if nodes < 2 ∨ 32 < nodes then (-1, 2) else if 16 < l.length then (-1, 8) else fckGo nodes l l.length 0

theorem TFlow_nat {w : World} {A : Option Addr} {n : Nat} {xs : List SFlow} (h : Kd.C kFlow w A n xs) (k : Nat) (h1 : k < n) : ∃ ad, A = some ad ∧ w.cell? (ad.add (k * 6)) = some (.int .i64 (xs.getD k zFlow).f0) ∧ w.cell? ⟨(ad.add (k * 6)).block, (ad.add (k * 6)).off + 1, none⟩ = some (.int .i64 (xs.getD k zFlow).f1) ∧ w.cell? ⟨(ad.add (k * 6)).block, (ad.add (k * 6)).off + 2, none⟩ = some (.int .i64 (xs.getD k zFlow).f2) ∧ w.cell? ⟨(ad.add (k * 6)).block, (ad.add (k * 6)).off + 3, none⟩ = some (.int .i64 (xs.getD k zFlow).f3) ∧ w.cell? ⟨(ad.add (k * 6)).block, (ad.add (k * 6)).off + 4, none⟩ = some (.int .i64 (xs.getD k zFlow).f4) ∧ w.cell? ⟨(ad.add (k * 6)).block, (ad.add (k * 6)).off + 5, none⟩ = some (.int .i64 (xs.getD k zFlow).f5) := by
  have := at_TFlow h (k : Int) (by omega) (by omega)
  simpa [rd_TFlow, Int.toNat_natCast] using this

set_option maxHeartbeats 2000000 in
theorem flow_Check (nodes : Int) (A : Option Addr) (c : Nat) (l : List SFlow) (w : World) (hr : Kd.C kFlow w A l.length l) :
    Calls Try.prog 42 #[.int .i64 nodes, .slice A l.length c] w fun e w' => e = .returned (.tuple #[.int .i64 (fck nodes l).1, .int .i64 (fck nodes l).2]) ∧ Below w.heap.size w w' := by
  obtain ⟨r, hrr⟩ : ∃ r, r = fck nodes l := ⟨_, rfl⟩
  have hn := hr.2.1
  rw [← hrr]
  have HR := Aside0.mk hr
  clear hr
  by_cases h1 : nodes < 2
  · have HX := Aside0.mk (show r = (-1, 2) by rw [hrr, fck, if_pos (by omega)])
    clear hrr
    go_enter Try.func42, Try.ntmps42
    go_wp2
    go_ret2
    exact ⟨by rw [HX.out]; rfl, Below.refl _ _⟩
  by_cases h2 : 32 < nodes
  · have HX := Aside0.mk (show r = (-1, 2) by rw [hrr, fck, if_pos (by omega)])
    clear hrr
    go_enter Try.func42, Try.ntmps42
    go_wp2
    go_ret2
    exact ⟨by rw [HX.out]; rfl, Below.refl _ _⟩
  by_cases h3 : 16 < l.length
  · have HX := Aside0.mk (show r = (-1, 8) by rw [hrr, fck, if_neg (by omega), if_pos h3])
    clear hrr
    go_enter Try.func42, Try.ntmps42
    go_wp2
    go_ret2
    exact ⟨by rw [HX.out]; rfl, Below.refl _ _⟩
  have H0 := Aside0.mk (show fckGo nodes l (l.length - 0) 0 = r by rw [hrr, fck, if_neg (by omega), if_neg h3]; rfl)
  clear hrr
  go_enter Try.func42, Try.ntmps42
  go_wp2
  go_loopg [20] l.length (fun gg v20 wr => ∃ k : Nat, k ≤ l.length ∧ l.length - k ≤ gg ∧ v20 = .int .i64 k ∧ Aside0 (Below w.heap.size w wr) ∧ Aside0 (fckGo nodes l (l.length - k) k = r))
  case atStart => exact ⟨0, Nat.zero_le _, by omega, rfl, ⟨Below.refl _ w⟩, H0⟩
  case round =>
    obtain ⟨k, hk, hg, rfl, HB, HX⟩ := hrel
    by_cases hlt : k < l.length
    · obtain ⟨ad, rfl, hx0, hx1, hx2, hx3, hx4, hx5⟩ := TFlow_nat (Kd.C_below HR.out HB.out) k hlt
      have hs : l.length - k = (l.length - (k + 1)) + 1 := by omega
      have hx := HX.out
      rw [hs, fckGo] at hx
      clear HX hs
      have hlti : (k : Int) < (l.length : Int) := by omega
      have hblk : ad.block < wr.heap.size := by
        have := World.block_lt_of_cell? wr _ hx0
        rwa [show (ad.add (k * 6)).block = ad.block by unfold Addr.add; split <;> rfl] at this
      have hbx : Below w.heap.size w (wr.alloc (.cells #[.int .i64 (l.getD k zFlow).f0, .int .i64 (l.getD k zFlow).f1, .int .i64 (l.getD k zFlow).f2, .int .i64 (l.getD k zFlow).f3, .int .i64 (l.getD k zFlow).f4, .int .i64 (l.getD k zFlow).f5] 33)) := HB.out.alloc HB.out.size _
      have HBX := Aside0.mk hbx
      clear hbx
      by_cases hc : fchk nodes (l.getD k zFlow) = 0
      · rw [if_neg (by simpa using hc)] at hx
        by_cases h0 : 0 < k
        · obtain ⟨ad', ha, hy0, _⟩ := TFlow_nat (Kd.C_below HR.out HB.out) (k - 1) (by omega)
          obtain rfl : ad = ad' := by injection ha
          have HY := Aside0.mk hy0
          clear hy0 ha
          generalize hy : l.getD k zFlow = y at *
          generalize hz : l.getD (k - 1) zFlow = z at *
          clear hy hz
          obtain ⟨f0, f1, f2, f3, f4, f5⟩ := y
          obtain ⟨z0, z1, z2, z3, z4, z5⟩ := z
          simp only at hx0 hx1 hx2 hx3 hx4 hx5 HY HBX hx
          go_wp2_with (go_at_call 66; refine (flow_check _ _ _ _ _ _ _ _).mono ?_; rintro e w' ⟨rfl, hb⟩)
          have hcb : w'.cell? ⟨wr.heap.size, 0, none⟩ = some (.int .i64 f0) := (hb.cell (p := ⟨wr.heap.size, 0, none⟩) (by simp)).trans (by simp)
          have hcz : w'.cell? (ad.add ((k - 1) * 6)) = some (.int .i64 z0) := by
            refine (hb.cell (p := ad.add ((k - 1) * 6)) ?_).trans ?_
            · rw [show (ad.add ((k - 1) * 6)).block = ad.block by unfold Addr.add; split <;> rfl]; simp; omega
            · refine (World.cell?_alloc_lt _ _ _ ?_).trans HY.out
              rw [show (ad.add ((k - 1) * 6)).block = ad.block by unfold Addr.add; split <;> rfl]; exact hblk
          have HB2 := Aside0.mk (below_trans2 HBX.out hb)
          clear hb HB HBX hx0 hx1 hx2 hx3 hx4 hx5 HY hblk
          have hki : decide ((0 : Int) < (k : Int)) = true := decide_eq_true (by omega)
          have hw1 : IntKind.i64.wrap ((k : Int) - 1) = (k : Int) - 1 := IntWalk.i64_in _ (by omega)
          have hw2 : 0 ≤ (k : Int) - 1 := by omega
          have hw3 : ((k : Int) - 1).toNat = k - 1 := by omega
          have hw4 : (k : Int) - 1 < (l.length : Int) := by omega
          by_cases h5 : f0 ≤ z0
          · rw [if_pos ⟨h0, h5⟩] at hx
            have HX := Aside0.mk hx
            have h5' : decide (f0 ≤ z0) = true := decide_eq_true h5
            clear hx hc
            go_quiet (fail)
            go_wp2
            go_ret2
            exact ⟨ret_ints HX.out, pw_below_drewN HB2.out _⟩
          · rw [if_neg (by omega)] at hx
            have HX := Aside0.mk hx
            have h5' : decide (f0 ≤ z0) = false := decide_eq_false h5
            clear hx hc
            go_quiet (fail)
            go_wp2
            go_roundg (l.length - (k + 1))
            case measure => omega
            case rel => exact ⟨k + 1, by omega, by omega, by go_num, ⟨pw_below_drewN HB2.out _⟩, HX⟩
        · rw [if_neg (by omega)] at hx
          have HX := Aside0.mk hx
          have hki : decide ((0 : Int) < (k : Int)) = false := decide_eq_false (by omega)
          clear hx
          generalize hy : l.getD k zFlow = y at *
          clear hy
          obtain ⟨f0, f1, f2, f3, f4, f5⟩ := y
          simp only at hx0 hx1 hx2 hx3 hx4 hx5 HBX
          go_wp2_with (go_at_call 66; refine (flow_check _ _ _ _ _ _ _ _).mono ?_; rintro e w' ⟨rfl, hb⟩)
          have HB2 := Aside0.mk (below_trans2 HBX.out hb)
          clear hb HB HBX hx0 hx1 hx2 hx3 hx4 hx5 hblk hc
          go_quiet (fail)
          go_wp2
          go_roundg (l.length - (k + 1))
          case measure => omega
          case rel => exact ⟨k + 1, by omega, by omega, by go_num, ⟨pw_below_drewN HB2.out _⟩, HX⟩
      · rw [if_pos (by simpa using hc)] at hx
        have HX := Aside0.mk hx
        clear hx
        generalize hy : l.getD k zFlow = y at *
        clear hy
        obtain ⟨f0, f1, f2, f3, f4, f5⟩ := y
        simp only at hx0 hx1 hx2 hx3 hx4 hx5 HBX
        have hc' : (fchk nodes ⟨f0, f1, f2, f3, f4, f5⟩ != 0) = true := by simpa using hc
        generalize hq : fchk nodes ⟨f0, f1, f2, f3, f4, f5⟩ = q at *
        have HQ := Aside0.mk hq
        clear hq hc
        go_wp2_with (go_at_call 66; refine (flow_check _ _ _ _ _ _ _ _).mono ?_; rintro e w' ⟨rfl, hb⟩; rw [HQ.out])
        go_ret2
        exact ⟨ret_ints HX.out, below_trans2 HBX.out hb⟩
    · obtain rfl : k = l.length := by omega
      have hlti : ¬ ((l.length : Int) < (l.length : Int)) := by omega
      have hx := HX.out
      rw [Nat.sub_self, fckGo] at hx
      have HX := Aside0.mk hx
      clear hx
      go_wp2
      go_ret2
      exact ⟨ret_ints HX.out, HB.out⟩
end Go.Proofs.Ytjgkalppjfmkoaa
