/- Package node: Check. -/
import Derived.Test.YtjgkalppjfmkoaaFlow4
import Derived.Test.YtjgkalppjfmkoaaNode1
import Derived.Deep.RegionWith
import Derived.Deep.DeepCutAuto
namespace Go.Proofs.Ytjgkalppjfmkoaa
open Go.RowKit Go.Shelf Go.Proofs.YtjgkalppjfmkoaaW.PrintWords
set_option linter.unusedVariables false
set_option linter.unusedSimpArgs false

/-- Is holding k a bad one? -/
def hbad (flows : List SFlow) (l : List SHolding) (k : Nat) : Bool :=
  decide (ix (fun f : SFlow => f.f0 == (l.getD k zHolding).f0) zFlow flows < 0) || (decide (0 < k) && decide ((l.getD k zHolding).f0 ≤ (l.getD (k - 1) zHolding).f0)) || decide ((l.getD k zHolding).f1 < 0) || decide (1073741824 < (l.getD k zHolding).f1)
def ackBad (a : List Int) (k : Nat) : Bool := decide (¬ (0 ≤ a.getD k 0 ∧ a.getD k 0 < 32)) || (decide (0 < k) && decide (a.getD k 0 ≤ a.getD (k - 1) 0))
def ackGo (a : List Int) : Nat → Nat → Bool
  | 0, _ => true
  | d + 1, k => if ackBad a k = true then false else ackGo a d (k + 1)
def hckGo (flows : List SFlow) (l : List SHolding) : Nat → Nat → Int
  | 0, _ => 0
  | d + 1, k => if hbad flows l k = true then 1 else if ackGo (l.getD k zHolding).f2 (l.getD k zHolding).f2.length 0 = true then hckGo flows l d (k + 1) else 1
/-- node.Check's answer. -/
def hck (flows : List SFlow) (l : List SHolding) : Int := if (fck 32 flows).2 = 0 then hckGo flows l l.length 0 else 1

theorem int_nat {w : World} {A : Option Addr} {n : Nat} {xs : List Int} (h : (Kd.int .i64).C w A n xs) (k : Nat) (h1 : k < n) : ∃ ad, A = some ad ∧ w.cell? (ad.add k) = some (.int .i64 (xs.getD k 0)) := by
  have := Kd.at_int h (k : Int) (by omega) (by omega)
  simpa [rd, Int.toNat_natCast] using this

theorem node_Check1 (n : Int) (w : World) :
    Calls Try.prog 43 #[.int .i64 n] w fun e w' => e = .returned (.bool (decide (0 ≤ n ∧ n < 32))) ∧ w = w' := by
  by_cases h0 : 0 ≤ n
  · have h0' : decide (0 ≤ n) = true := decide_eq_true h0
    go_enter Try.func43, Try.ntmps43
    go_wp2
    go_ret
    exact ⟨by simp [h0], rfl⟩
  · have h0' : decide (0 ≤ n) = false := decide_eq_false h0
    go_enter Try.func43, Try.ntmps43
    go_wp2
    go_ret
    exact ⟨by simp [h0], rfl⟩

set_option maxRecDepth 100000 in
set_option maxHeartbeats 4000000 in
theorem node_Check (A B : Option Addr) (c d : Nat) (flows : List SFlow) (l : List SHolding) (w : World) (hf : Kd.C kFlow w A flows.length flows) (hr : Kd.C kHolding w B l.length l) :
    Calls Try.prog 15 #[.slice A flows.length c, .slice B l.length d] w fun e w' => e = .returned (.int .i64 (hck flows l)) ∧ Below w.heap.size w w' := by
  obtain ⟨r, hrr⟩ : ∃ r, r = hck flows l := ⟨_, rfl⟩
  have hn := hr.2.1
  rw [← hrr]
  have HF := Aside0.mk hf
  have HR := Aside0.mk hr
  clear hr hf
  by_cases h1 : (fck 32 flows).2 = 0
  · have H0 := Aside0.mk (show hckGo flows l (l.length - 0) 0 = r by rw [hrr, hck, if_pos h1]; rfl)
    have H1 := Aside0.mk h1
    clear hrr h1
    go_enter Try.func15, Try.ntmps15
    go_wp2_with (go_at_call 42; refine (flow_Check _ _ _ _ _ HF.out).mono ?_; rintro e w1 ⟨rfl, hb1⟩; rw [H1.out])
    have HB1 := Aside0.mk hb1
    clear hb1
    go_loopg [21] l.length (fun gg v21 wr => ∃ k : Nat, k ≤ l.length ∧ l.length - k ≤ gg ∧ v21 = .int .i64 k ∧ Aside0 (Below w.heap.size w wr) ∧ Aside0 (hckGo flows l (l.length - k) k = r))
    case atStart => exact ⟨0, Nat.zero_le _, by omega, rfl, HB1, H0⟩
    case round =>
      obtain ⟨k, hk, hg, rfl, HB, HX⟩ := hrel
      by_cases hlt : k < l.length
      · obtain ⟨ad, A2, c2, rfl, hx0, hx1, hx2, hl2, hC2⟩ := THolding_nat (Kd.C_below HR.out HB.out) k hlt
        have hblk : ad.block < wr.heap.size := by
          have := World.block_lt_of_cell? wr _ hx0
          rwa [add_block] at this
        have hprev : 0 < k → wr.cell? (ad.add ((k - 1) * 3)) = some (.int .i64 (l.getD (k - 1) zHolding).f0) := fun h0 => by
          obtain ⟨ad', _, _, ha, hy0, _⟩ := THolding_nat (Kd.C_below HR.out HB.out) (k - 1) (by omega)
          obtain rfl : ad = ad' := by injection ha
          exact hy0
        obtain ⟨b, hbb⟩ : ∃ b, b = hbad flows l k := ⟨_, rfl⟩
        have hs : l.length - k = (l.length - (k + 1)) + 1 := by omega
        have hx := HX.out
        rw [hs, hckGo, ← hbb] at hx
        unfold hbad at hbb
        generalize hy : l.getD k zHolding = y at *
        clear hy HX hs
        obtain ⟨f0, f1, f2⟩ := y
        simp only at hx0 hx1 hx2 hl2 hC2 hx hbb
        have HP := Aside0.mk hprev
        have HX := Aside0.mk hx
        have HBB := Aside0.mk hbb
        have HC2 := Aside0.mk hC2
        have hlti : (k : Int) < (l.length : Int) := by omega
        have HBX := Aside0.mk (show Below w.heap.size w (wr.alloc (.cells #[.int .i64 f0, .int .i64 f1, .slice A2 f2.length c2] 45)) from HB.out.alloc HB.out.size _)
        clear hprev hx hbb hC2
        go_upto_region 8 with (fail)
        go_cut [55] (fun v55 wc => v55 = .bool b ∧ Aside0 (Below wr.heap.size wr wc) ∧ Aside0 (wc.heap[wr.heap.size]? = some (.cells #[.int .i64 f0, .int .i64 f1, .slice A2 f2.length c2] 45 (0, 0))))
        case first =>
          have hfc := blk_new wr (.cells #[.int .i64 f0, .int .i64 f1, .slice A2 f2.length c2] 45)
          have HFC := Aside0.mk hfc
          obtain ⟨cc0, cc1, cc2, cf⟩ := blk3 hfc
          have dd0 := lat_cell cc0
          have dd1 := lat_cell cc1
          have hq := HBB.out
          generalize hqq : ix (fun f : SFlow => f.f0 == f0) zFlow flows = q at hq
          have HQ := Aside0.mk hqq
          have HBB := Aside0.mk hq
          clear hfc hx0 hx1 hx2 hl2 cc0 cc1 cc2 cf hq hqq
          by_cases h0 : 0 < k
          · have hz := HP.out h0
            have hz' := (World.cell?_alloc_lt wr (.cells #[.int .i64 f0, .int .i64 f1, .slice A2 f2.length c2] 45) (ad.add ((k - 1) * 3)) (by rw [add_block]; exact hblk)).trans hz
            have dd2 := lat_cell hz'
            generalize hz0 : (l.getD (k - 1) zHolding).f0 = z0 at *
            have hki : decide ((0 : Int) < (k : Int)) = true := decide_eq_true (by omega)
            have hw1 : IntKind.i64.wrap ((k : Int) - 1) = (k : Int) - 1 := IntWalk.i64_in _ (by omega)
            have hw2 : 0 ≤ (k : Int) - 1 := by omega
            have hw3 : ((k : Int) - 1).toNat = k - 1 := by omega
            have hw4 : (k : Int) - 1 < (l.length : Int) := by omega
            clear hz hz' hz0
            have key : decide (q < 0) = true ∨ (decide (q < 0) = false ∧ decide (f0 ≤ z0) = true) ∨ (decide (q < 0) = false ∧ decide (f0 ≤ z0) = false ∧ decide (f1 < 0) = true) ∨ (decide (q < 0) = false ∧ decide (f0 ≤ z0) = false ∧ decide (f1 < 0) = false ∧ decide (1073741824 < f1) = true) ∨ (decide (q < 0) = false ∧ decide (f0 ≤ z0) = false ∧ decide (f1 < 0) = false ∧ decide (1073741824 < f1) = false) := by
              simp only [decide_eq_true_eq, decide_eq_false_iff_not]; omega
            rcases key with g1 | ⟨g1, g2⟩ | ⟨g1, g2, g3⟩ | ⟨g1, g2, g3, g4⟩ | ⟨g1, g2, g3, g4⟩
            all_goals
              refine wp_region_lat (by kernel_rfl) (by kernel_rfl) ?_
              repeat (go_big_quiet_step ((go_at_call 30; refine calls_lat (HQ.out ▸ flow_Find _ _ _ _ _ (Kd.C_below HF.out (below_trans2 HBX.out (Lat.h _)))))))
              refine wpQuiet_nil ?_
              intro _ hw'
              obtain ⟨⟨wq, hq⟩, rfl⟩ := hw'
              have HQ1 := Aside0.mk (blk_below HFC.out hq)
              have HQ2 := Aside0.mk (below_trans2 ((Below.refl _ _).alloc (Nat.le_refl _) _) hq)
              have hv := HBB.out
              clear hq dd0 dd1
              go_wp2_with fail
              go_meet
              exact ⟨by rw [hv]; simp only [g1, *]; rfl, HQ2, HQ1⟩
          · have hki : decide ((0 : Int) < (k : Int)) = false := decide_eq_false (by omega)
            have hk0 : decide (0 < k) = false := decide_eq_false h0
            have key : decide (q < 0) = true ∨ (decide (q < 0) = false ∧ decide (f1 < 0) = true) ∨ (decide (q < 0) = false ∧ decide (f1 < 0) = false ∧ decide (1073741824 < f1) = true) ∨ (decide (q < 0) = false ∧ decide (f1 < 0) = false ∧ decide (1073741824 < f1) = false) := by
              simp only [decide_eq_true_eq, decide_eq_false_iff_not]; omega
            rcases key with g1 | ⟨g1, g3⟩ | ⟨g1, g3, g4⟩ | ⟨g1, g3, g4⟩
            all_goals
              refine wp_region_lat (by kernel_rfl) (by kernel_rfl) ?_
              repeat (go_big_quiet_step ((go_at_call 30; refine calls_lat (HQ.out ▸ flow_Find _ _ _ _ _ (Kd.C_below HF.out (below_trans2 HBX.out (Lat.h _)))))))
              refine wpQuiet_nil ?_
              intro _ hw'
              obtain ⟨⟨wq, hq⟩, rfl⟩ := hw'
              have HQ1 := Aside0.mk (blk_below HFC.out hq)
              have HQ2 := Aside0.mk (below_trans2 ((Below.refl _ _).alloc (Nat.le_refl _) _) hq)
              have hv := HBB.out
              clear hq dd0 dd1
              go_wp2_with fail
              go_meet
              exact ⟨by rw [hv]; simp only [g1, *]; rfl, HQ2, HQ1⟩
        case rest =>
          obtain ⟨rfl, HB2, HK2⟩ := hcut
          obtain ⟨cc0, cc1, cc2, cf⟩ := blk3 HK2.out
          have hx := HX.out
          clear HX HBB HBX hx0 hx1 hx2
          cases b with
          | true =>
            rw [if_pos rfl] at hx
            have HX := Aside0.mk hx
            clear hx
            go_wp2
            go_ret
            exact ⟨ret_int HX.out, below_trans2 HB.out HB2.out⟩
          | false =>
            rw [if_neg (by simp)] at hx
            have hn2 := HC2.out.2.1
            have HX := Aside0.mk (show (if ackGo f2 (f2.length - 0) 0 = true then hckGo flows l (l.length - (k + 1)) (k + 1) else 1) = r from hx)
            clear hx
            go_wp2
            go_loopg [59] f2.length (fun gg v59 wi => ∃ j : Nat, j ≤ f2.length ∧ f2.length - j ≤ gg ∧ v59 = .int .i64 j ∧ Aside0 (Below wr.heap.size wr wi) ∧ Aside0 (wi.heap[wr.heap.size]? = some (.cells #[.int .i64 f0, .int .i64 f1, .slice A2 f2.length c2] 45 (0, 0))) ∧ Aside0 ((if ackGo f2 (f2.length - j) j = true then hckGo flows l (l.length - (k + 1)) (k + 1) else 1) = r))
            case atStart => exact ⟨0, Nat.zero_le _, by omega, rfl, HB2, HK2, HX⟩
            case round =>
              clear HX HB2 HK2 cc0 cc1 cc2 cf
              obtain ⟨j, hj, hg2, rfl, HB2, HK2, HX⟩ := hrel
              obtain ⟨cc0, cc1, cc2, cf⟩ := blk3 HK2.out
              by_cases hjl : j < f2.length
              · obtain ⟨ad2, rfl, hy0⟩ := int_nat (Kd.C_below HC2.out HB2.out) j hjl
                have hjli : (j : Int) < (f2.length : Int) := by omega
                have hs2 : f2.length - j = (f2.length - (j + 1)) + 1 := by omega
                have hx := HX.out
                rw [hs2, ackGo] at hx
                unfold ackBad at hx
                clear HX hs2
                generalize hzz : f2.getD j 0 = z at *
                have HZZ := Aside0.mk hzz
                clear hzz
                by_cases hin : 0 ≤ z ∧ z < 32
                · have hin' : decide (0 ≤ z ∧ z < 32) = true := decide_eq_true hin
                  have hin2 : decide (¬ (0 ≤ z ∧ z < 32)) = false := by simp; omega
                  rw [hin2] at hx
                  by_cases hj0 : 0 < j
                  · obtain ⟨ad3, ha3, hy1⟩ := int_nat (Kd.C_below HC2.out HB2.out) (j - 1) (by omega)
                    obtain rfl : ad2 = ad3 := by injection ha3
                    generalize hpp : f2.getD (j - 1) 0 = p at *
                    have hki : decide ((0 : Int) < (j : Int)) = true := decide_eq_true (by omega)
                    have hk0 : decide (0 < j) = true := decide_eq_true hj0
                    have hw1 : IntKind.i64.wrap ((j : Int) - 1) = (j : Int) - 1 := IntWalk.i64_in _ (by omega)
                    have hw2 : 0 ≤ (j : Int) - 1 := by omega
                    have hw3 : ((j : Int) - 1).toNat = j - 1 := by omega
                    have hw4 : (j : Int) - 1 < (f2.length : Int) := by omega
                    rw [hk0] at hx
                    clear hpp ha3
                    by_cases hle : z ≤ p
                    · have hle' : decide (z ≤ p) = true := decide_eq_true hle
                      rw [hle'] at hx
                      have HX := Aside0.mk (show (1 : Int) = r by simpa using hx)
                      clear hx hk0 hin hin2 hle
                      go_wp2_with (go_at_call 43; refine (node_Check1 _ _).mono ?_; rintro e w' ⟨rfl, rfl⟩; rw [hin'])
                      go_ret
                      exact ⟨ret_int HX.out, below_trans2 HB.out HB2.out⟩
                    · have hle' : decide (z ≤ p) = false := decide_eq_false hle
                      rw [hle'] at hx
                      have HX := Aside0.mk (show (if ackGo f2 (f2.length - (j + 1)) (j + 1) = true then hckGo flows l (l.length - (k + 1)) (k + 1) else 1) = r by simpa using hx)
                      clear hx hk0 hin hin2 hle
                      go_wp2_with (go_at_call 43; refine (node_Check1 _ _).mono ?_; rintro e w' ⟨rfl, rfl⟩; rw [hin'])
                      go_roundg (f2.length - (j + 1))
                      case measure => omega
                      case rel => exact ⟨j + 1, by omega, by omega, by go_num, HB2, HK2, HX⟩
                  · have hki : decide ((0 : Int) < (j : Int)) = false := decide_eq_false (by omega)
                    have hk0 : decide (0 < j) = false := decide_eq_false hj0
                    rw [hk0] at hx
                    have HX := Aside0.mk (show (if ackGo f2 (f2.length - (j + 1)) (j + 1) = true then hckGo flows l (l.length - (k + 1)) (k + 1) else 1) = r by simpa using hx)
                    clear hx hk0 hin hin2
                    go_wp2_with (go_at_call 43; refine (node_Check1 _ _).mono ?_; rintro e w' ⟨rfl, rfl⟩; rw [hin'])
                    go_roundg (f2.length - (j + 1))
                    case measure => omega
                    case rel => exact ⟨j + 1, by omega, by omega, by go_num, HB2, HK2, HX⟩
                · have hin' : decide (0 ≤ z ∧ z < 32) = false := decide_eq_false hin
                  have hin2 : decide (¬ (0 ≤ z ∧ z < 32)) = true := decide_eq_true hin
                  rw [hin2] at hx
                  have HX := Aside0.mk (show (1 : Int) = r by simpa using hx)
                  clear hx hin2 hin
                  go_wp2_with (go_at_call 43; refine (node_Check1 _ _).mono ?_; rintro e w' ⟨rfl, rfl⟩; rw [hin'])
                  go_ret
                  exact ⟨ret_int HX.out, below_trans2 HB.out HB2.out⟩
              · obtain rfl : j = f2.length := by omega
                have hjli : ¬ ((f2.length : Int) < (f2.length : Int)) := by omega
                have hx := HX.out
                rw [Nat.sub_self, ackGo, if_pos rfl] at hx
                have HX := Aside0.mk hx
                clear hx
                go_wp2
                go_roundg (l.length - (k + 1))
                case measure => omega
                case rel => exact ⟨k + 1, by omega, by omega, by go_num, ⟨below_trans2 HB.out HB2.out⟩, HX⟩
      · obtain rfl : k = l.length := by omega
        have hlti : ¬ ((l.length : Int) < (l.length : Int)) := by omega
        have hx := HX.out
        rw [Nat.sub_self, hckGo] at hx
        have HX := Aside0.mk hx
        clear hx
        go_wp2
        go_ret
        exact ⟨ret_int HX.out, HB.out⟩
  · have HX := Aside0.mk (show (1 : Int) = r by rw [hrr, hck, if_neg h1])
    have h1' : ((fck 32 flows).2 != 0) = true := by simpa using h1
    generalize hq : (fck 32 flows).2 = q at *
    have HQ := Aside0.mk hq
    clear hq hrr h1
    go_enter Try.func15, Try.ntmps15
    go_wp2_with (go_at_call 42; refine (flow_Check _ _ _ _ _ HF.out).mono ?_; rintro e w1 ⟨rfl, hb1⟩; rw [HQ.out])
    go_ret
    exact ⟨ret_int HX.out, hb1⟩
end Go.Proofs.Ytjgkalppjfmkoaa
