/- Package switchover: At, package node: Choose, over a sort that leaves a permutation. -/
import Derived.Test.YtjgkalppjfmkoaaSort5
import Derived.Deep.RegionHeld3
namespace Go.Proofs.Ytjgkalppjfmkoaa
open Go.RowKit Go.Shelf Go.Proofs.YtjgkalppjfmkoaaW.PrintWords
set_option linter.unusedVariables false
set_option linter.unusedSimpArgs false

/-- switchover.At's answer: the duties of the slot, in some order. -/
def AtR (w : World) (length slot : Int) (l : List SDuty) (e : Ending) (w' : World) : Prop :=
  ∃ now : List SDuty, now.Perm (dueGo length slot l l.length 0 []) ∧ OwnDuties w (atD (fun _ => now) length slot l) e w'

set_option maxRecDepth 100000 in
set_option maxHeartbeats 4000000 in
theorem switch_AtP (lim : Nat) (hsrt : SortP lim) (A : Option Addr) (c : Nat) (l : List SDuty) (length slot : Int) (w : World) (hr : Kd.C kDuty w A l.length l) (hl : (l.length + 1) * 64 ≤ 140737488355328) (hlim : (dueGo length slot l l.length 0 []).length ≤ lim) :
    Calls Try.prog 20 #[.slice A l.length c, .int .i64 length, .int .i64 slot] w (AtR w length slot l) := by
  have hn := hr.2.1
  have HR := Aside0.mk hr
  have HL := Aside0.mk hl
  have HSRT := Aside0.mk hsrt
  have HLIM := Aside0.mk hlim
  clear hr hl hsrt hlim
  by_cases hbad : length < 1 ∨ 512 < length ∨ slot < 0
  · have HX := Aside0.mk (show atD (fun _ => dueGo length slot l l.length 0 []) length slot l = ([], 2) from by unfold atD; rw [if_pos hbad])
    have key : decide (length < 1) = true ∨ (decide (length < 1) = false ∧ decide (512 < length) = true) ∨ (decide (length < 1) = false ∧ decide (512 < length) = false ∧ decide (slot < 0) = true) := by
      simp only [decide_eq_true_eq, decide_eq_false_iff_not]; omega
    clear hbad
    rcases key with g1 | ⟨g1, g2⟩ | ⟨g1, g2, g3⟩
    all_goals
      go_enter Try.func20, Try.ntmps20
      go_wp2
      go_ret2
      exact ⟨_, List.Perm.refl _, .slice none 0 0, by rw [HX.out]; rfl, by rw [HX.out]; exact Kd.R_nil _ _ _ _ _, Below.refl _ _⟩
  · have HXN := Aside0.mk (show ∀ now : List SDuty, atD (fun _ => now) length slot l = (now, 0) from fun now => by unfold atD; rw [if_neg hbad])
    have g1 : decide (length < 1) = false := decide_eq_false (by omega)
    have g2 : decide (512 < length) = false := decide_eq_false (by omega)
    have g3 : decide (slot < 0) = false := decide_eq_false (by omega)
    have g4 : length ≠ 0 := by omega
    obtain ⟨fin, hfin⟩ : ∃ fin, dueGo length slot l (l.length - 0) 0 [] = fin := ⟨_, rfl⟩
    have HFIN := Aside0.mk (show dueGo length slot l l.length 0 [] = fin from hfin)
    have HFL := Aside0.mk (show fin.length ≤ lim by rw [← hfin]; exact HLIM.out)
    have H0 := Aside0.mk hfin
    have HB0 := Aside0.mk (show Below w.heap.size w (w.alloc (.cells #[.func (.func 48) #[] #[]] 79)) from (Below.refl _ _).alloc (Nat.le_refl _) _)
    have HK0 := Aside0.mk (blk_new w (.cells #[.func (.func 48) #[] #[]] 79))
    clear hfin hbad HLIM
    go_enter Try.func20, Try.ntmps20
    go_wp2
    go_loopg [9, 24] l.length (fun gg v9 v24 wr => ∃ (k : Nat) (acc : List SDuty), k ≤ l.length ∧ l.length - k ≤ gg ∧ v24 = .int .i64 k ∧ acc.length ≤ k ∧ Aside0 (Below w.heap.size w wr) ∧ Aside0 (wr.heap[w.heap.size]? = some (.cells #[.func (.func 48) #[] #[]] 79 (0, 0))) ∧ Aside0 (kDuty.R 63 wr w.heap.size (fun _ => True) v9 acc ∧ some w.heap.size ≠ v9.ownBlock) ∧ Aside0 (dueGo length slot l (l.length - k) k acc = fin))
    case atStart => exact ⟨0, [], Nat.zero_le _, by omega, rfl, Nat.le_refl _, HB0, HK0, ⟨Kd.R_nil _ _ _ _ _, by simp [Value.ownBlock]⟩, H0⟩
    case round =>
      clear H0 HB0 HK0
      obtain ⟨k, acc, hk, hg, rfl, hak, HB, HK, HO, HY⟩ := hrel
      by_cases hlt : k < l.length
      · obtain ⟨ad, rfl, hx0, hx1, hx2, hx3, hx4, hx5, hx6, hx7, hx8⟩ := TDuty_nat (Kd.C_below HR.out HB.out) k hlt
        have hlti : (k : Int) < (l.length : Int) := by omega
        have hy := HY.out
        rw [show l.length - k = (l.length - (k + 1)) + 1 by omega, dueGo] at hy
        clear HY
        generalize l.getD k zDuty = x at *
        obtain ⟨⟨x0, x1, x2, x3, x4⟩, x5, x6, x7, x8⟩ := x
        obtain ⟨b, hb⟩ : ∃ b, dueB length slot ⟨⟨x0, x1, x2, x3, x4⟩, x5, x6, x7, x8⟩ = b := ⟨_, rfl⟩
        rw [hb] at hy
        unfold dueB at hb
        simp only at hx0 hx1 hx2 hx3 hx4 hx5 hx6 hx7 hx8 hy hb
        have HY := Aside0.mk hy
        clear hy
        have HB1 := Aside0.mk (show Below w.heap.size w (wr.alloc (.cells #[.int .i64 x0, .int .i64 x1, .int .i64 x2, .int .i64 x3, .int .i64 x4, .bool x5, .bool x6, .int .i64 x7, .int .i64 x8] 63)) from HB.out.alloc HB.out.size _)
        have HK1 := Aside0.mk (blk_alloc HK.out (.cells #[.int .i64 x0, .int .i64 x1, .int .i64 x2, .int .i64 x3, .int .i64 x4, .bool x5, .bool x6, .int .i64 x7, .int .i64 x8] 63))
        have HX1 := Aside0.mk (blk_new wr (.cells #[.int .i64 x0, .int .i64 x1, .int .i64 x2, .int .i64 x3, .int .i64 x4, .bool x5, .bool x6, .int .i64 x7, .int .i64 x8] 63))
        have HO1 := Aside0.mk (Kd.R_below HO.out.1 (below_alloc (Below.refl _ _) (.cells #[.int .i64 x0, .int .i64 x1, .int .i64 x2, .int .i64 x3, .int .i64 x4, .bool x5, .bool x6, .int .i64 x7, .int .i64 x8] 63)))
        have HNE := Aside0.mk HO.out.2
        have key : ((x0 == slot.tmod length) = false ∧ b = false) ∨ ((x0 == slot.tmod length) = true ∧ decide (x7 ≤ slot) = false ∧ b = false) ∨ ((x0 == slot.tmod length) = true ∧ decide (x7 ≤ slot) = true ∧ (x8 == -1) = true ∧ b = true) ∨
            ((x0 == slot.tmod length) = true ∧ decide (x7 ≤ slot) = true ∧ (x8 == -1) = false ∧ decide (slot < x8) = true ∧ b = true) ∨ ((x0 == slot.tmod length) = true ∧ decide (x7 ≤ slot) = true ∧ (x8 == -1) = false ∧ decide (slot < x8) = false ∧ b = false) := by
          clear HY
          generalize (x0 == slot.tmod length) = p1 at hb ⊢
          generalize decide (x7 ≤ slot) = p2 at hb ⊢
          generalize (x8 == -1) = p3 at hb ⊢
          generalize decide (slot < x8) = p4 at hb ⊢
          subst hb
          revert p1 p2 p3 p4
          decide
        clear hb HO
        rcases key with ⟨k1, rfl⟩ | ⟨k1, k2, rfl⟩ | ⟨k1, k2, k3, rfl⟩ | ⟨k1, k2, k3, k4, rfl⟩ | ⟨k1, k2, k3, k4, rfl⟩
        all_goals
          obtain ⟨cc0, cc1, cc2, cc3, cc4, cc5, cc6, cc7, cc8⟩ := blk9 HX1.out
          have dd0 := lat_cell cc0
          have dd7 := lat_cell cc7
          have dd8 := lat_cell cc8
          go_wp2_with (fail)
          refine wp_region_lat (by kernel_rfl) (by kernel_rfl) ?_
          repeat (go_big_quiet_step (fail))
          refine wpQuiet_nil ?_
          intro wq hw'
          obtain ⟨⟨_, hq⟩, rfl⟩ := hw'
          have HB2 := Aside0.mk (below_trans2 HB1.out hq)
          have HK2 := Aside0.mk (blk_below HK1.out hq)
          have HX2 := Aside0.mk (blk_below HX1.out hq)
          have HO2 := Aside0.mk (Kd.R_below HO1.out hq)
          have hy := HY.out
          clear hq dd0 dd7 dd8 cc0 cc1 cc2 cc3 cc4 cc5 cc6 cc7 cc8 hx0 hx1 hx2 hx3 hx4 hx5 hx6 hx7 hx8 HY HB1 HK1 HX1 HO1
        · rw [if_neg (by simp)] at hy
          have HY := Aside0.mk hy
          clear hy
          go_wp2
          go_roundg (l.length - (k + 1))
          case measure => omega
          case rel => exact ⟨k + 1, acc, by omega, by omega, by go_num, by omega, HB2, HK2, ⟨HO2.out, HNE.out⟩, HY⟩
        · rw [if_neg (by simp)] at hy
          have HY := Aside0.mk hy
          clear hy
          go_wp2
          go_roundg (l.length - (k + 1))
          case measure => omega
          case rel => exact ⟨k + 1, acc, by omega, by omega, by go_num, by omega, HB2, HK2, ⟨HO2.out, HNE.out⟩, HY⟩
        · first | rw [if_pos rfl] at hy | rw [if_pos trivial] at hy
          have HY := Aside0.mk hy
          clear hy
          obtain ⟨cc0, cc1, cc2, cc3, cc4, cc5, cc6, cc7, cc8⟩ := blk9 HX2.out
          go_wp2_with (refine gate_ (.call { callee := .builtin .append, args := #[.tmp 52, .tmp 54], argTypes := #[54, 54] }) rfl ?_; refine Kd.R_append kDuty (w0 := w) w.heap.size rfl (.tmp 52) (.tmp 54) 54 63 (.agg #[.int .i64 0, .int .i64 0, .int .i64 0, .int .i64 0, .int .i64 0, .bool false, .bool false, .int .i64 0, .int .i64 0]) 64 rfl Try.underlying54 info_Duty rfl (by decide) (by decide) _ acc ⟨⟨x0, x1, x2, x3, x4⟩, x5, x6, x7, x8⟩ [.int .i64 x0, .int .i64 x1, .int .i64 x2, .int .i64 x3, .int .i64 x4, .bool x5, .bool x6, .int .i64 x7, .int .i64 x8] (fun _ => True) (fun _ => False) rfl rfl ?c1 ?c2 ?c3 HO2.out HB2.out ?c4 ?c5 ?c6)
          case c1 => exact kDuty_mkM _ _ _ ⟨⟨x0, x1, x2, x3, x4⟩, x5, x6, x7, x8⟩
          case c2 => exact fun q hq => hq.elim
          case c3 => exact fun q _ => trivial
          case c4 => exact HB2.out.size
          case c5 =>
            have := HL.out
            omega
          case c6 =>
            intro v4 w4 hR hb hg4 hat4
            have HR4 := Aside0.mk (And.intro hR (show some w.heap.size ≠ v4.ownBlock from by
              rcases hat4 with h | ⟨b, h, hle⟩
              · rw [h]; exact HNE.out
              · rw [h]; intro he; injection he with he; have := blk_lt HK2.out; omega))
            have HB4 := Aside0.mk hb
            have HK4 := Aside0.mk (show w4.heap[w.heap.size]? = some (.cells #[.func (.func 48) #[] #[]] 79 (0, 0)) from (hg4.block _ (blk_lt HK2.out) HNE.out).trans HK2.out)
            clear hR hb hg4 hat4 cc0 cc1 cc2 cc3 cc4 cc5 cc6 cc7 cc8
            go_wp2
            go_roundg (l.length - (k + 1))
            case measure => omega
            case rel => exact ⟨k + 1, acc ++ [⟨⟨x0, x1, x2, x3, x4⟩, x5, x6, x7, x8⟩], by omega, by omega, by go_num, by simp; omega, HB4, HK4, HR4, HY⟩
        · first | rw [if_pos rfl] at hy | rw [if_pos trivial] at hy
          have HY := Aside0.mk hy
          clear hy
          obtain ⟨cc0, cc1, cc2, cc3, cc4, cc5, cc6, cc7, cc8⟩ := blk9 HX2.out
          go_wp2_with (refine gate_ (.call { callee := .builtin .append, args := #[.tmp 52, .tmp 54], argTypes := #[54, 54] }) rfl ?_; refine Kd.R_append kDuty (w0 := w) w.heap.size rfl (.tmp 52) (.tmp 54) 54 63 (.agg #[.int .i64 0, .int .i64 0, .int .i64 0, .int .i64 0, .int .i64 0, .bool false, .bool false, .int .i64 0, .int .i64 0]) 64 rfl Try.underlying54 info_Duty rfl (by decide) (by decide) _ acc ⟨⟨x0, x1, x2, x3, x4⟩, x5, x6, x7, x8⟩ [.int .i64 x0, .int .i64 x1, .int .i64 x2, .int .i64 x3, .int .i64 x4, .bool x5, .bool x6, .int .i64 x7, .int .i64 x8] (fun _ => True) (fun _ => False) rfl rfl ?c1 ?c2 ?c3 HO2.out HB2.out ?c4 ?c5 ?c6)
          case c1 => exact kDuty_mkM _ _ _ ⟨⟨x0, x1, x2, x3, x4⟩, x5, x6, x7, x8⟩
          case c2 => exact fun q hq => hq.elim
          case c3 => exact fun q _ => trivial
          case c4 => exact HB2.out.size
          case c5 =>
            have := HL.out
            omega
          case c6 =>
            intro v4 w4 hR hb hg4 hat4
            have HR4 := Aside0.mk (And.intro hR (show some w.heap.size ≠ v4.ownBlock from by
              rcases hat4 with h | ⟨b, h, hle⟩
              · rw [h]; exact HNE.out
              · rw [h]; intro he; injection he with he; have := blk_lt HK2.out; omega))
            have HB4 := Aside0.mk hb
            have HK4 := Aside0.mk (show w4.heap[w.heap.size]? = some (.cells #[.func (.func 48) #[] #[]] 79 (0, 0)) from (hg4.block _ (blk_lt HK2.out) HNE.out).trans HK2.out)
            clear hR hb hg4 hat4 cc0 cc1 cc2 cc3 cc4 cc5 cc6 cc7 cc8
            go_wp2
            go_roundg (l.length - (k + 1))
            case measure => omega
            case rel => exact ⟨k + 1, acc ++ [⟨⟨x0, x1, x2, x3, x4⟩, x5, x6, x7, x8⟩], by omega, by omega, by go_num, by simp; omega, HB4, HK4, HR4, HY⟩
        · rw [if_neg (by simp)] at hy
          have HY := Aside0.mk hy
          clear hy
          go_wp2
          go_roundg (l.length - (k + 1))
          case measure => omega
          case rel => exact ⟨k + 1, acc, by omega, by omega, by go_num, by omega, HB2, HK2, ⟨HO2.out, HNE.out⟩, HY⟩
      · obtain rfl : k = l.length := by omega
        have hlti : ¬ ((l.length : Int) < (l.length : Int)) := by omega
        have hy := HY.out
        rw [Nat.sub_self, dueGo] at hy
        subst hy
        have HBM := Aside0.mk (HSRT.out _ _ acc w.heap.size w.heap.size HFL.out HO.out.1 (cell_of_row _ _ 0 _ _ (0, 0) HK.out) (blk_lt HK.out) HO.out.2)
        go_wp2_with (fail)
        refine HBM.out.mono ?_
        rintro e w' ⟨rfl, now, hpm, hR', hg'⟩
        have HPM := Aside0.mk hpm
        have HR' := Aside0.mk hR'
        have HBE := Aside0.mk (HB.out.grown hg' HB.out.size (Kd.R_base HO.out.1))
        clear hR' hg' hpm
        go_wp2
        go_ret2
        exact ⟨now, by rw [HFIN.out]; exact HPM.out, _, by rw [HXN.out]; rfl, by rw [HXN.out]; exact HR'.out, HBE.out⟩

/-- node.Choose's answer: by some order of the duties of the slot. -/
def ChooseR (w : World) (flows : List SFlow) (duties : List SDuty) (length slot : Int) (l : List SHolding) (e : Ending) (w' : World) : Prop :=
  ∃ now : List SDuty, now.Perm (dueGo length slot duties duties.length 0 []) ∧ ChoosePost w (choose (fun _ => now) flows duties length slot l) e w'

set_option maxRecDepth 100000 in
set_option maxHeartbeats 8000000 in
theorem node_ChooseP (lim : Nat) (hsrt : SortP lim) (A D B : Option Addr) (c dc d : Nat) (flows : List SFlow) (duties : List SDuty) (l : List SHolding) (length slot : Int) (w : World)
    (hf : Kd.C kFlow w A flows.length flows) (hd : Kd.C kDuty w D duties.length duties) (hr : Kd.C kHolding w B l.length l) (hl : (duties.length + 1) * 64 ≤ 140737488355328) (hlim : (dueGo length slot duties duties.length 0 []).length ≤ lim) :
    Calls Try.prog 19 #[.slice A flows.length c, .slice D duties.length dc, .int .i64 length, .int .i64 slot, .slice B l.length d] w (ChooseR w flows duties length slot l) := by
  have HF := Aside0.mk hf
  have HR := Aside0.mk hr
  have HD := Aside0.mk hd
  have HL := Aside0.mk hl
  have HLIM := Aside0.mk hlim
  have HSRT := Aside0.mk hsrt
  obtain ⟨nw, hnw⟩ : ∃ nw : List SDuty, nw.Perm (dueGo length slot duties duties.length 0 []) := ⟨_, List.Perm.refl _⟩
  have HPM := Aside0.mk hnw
  obtain ⟨r, hrr⟩ : ∃ r, r = choose (fun _ => nw) flows duties length slot l := ⟨_, rfl⟩
  have HREQ := Aside0.mk hrr.symm
  clear hnw
  unfold choose at hrr
  have HB0 := Aside0.mk (show Below w.heap.size w (((w.alloc (.cells #[.slice A flows.length c] 22)).alloc (.cells #[.slice B l.length d] 23)).alloc (.cells #[.int .i64 0, .int .i64 0, .int .i64 0, .int .i64 0, .int .i64 0, .int .i64 0, .int .i64 0] 56)) from (((Below.refl _ _).alloc (Nat.le_refl _) _).alloc (by simp) _).alloc (by simp; omega) _)
  have HKF0 := Aside0.mk (blk_alloc (blk_alloc (blk_new w (.cells #[.slice A flows.length c] 22)) (.cells #[.slice B l.length d] 23)) (.cells #[.int .i64 0, .int .i64 0, .int .i64 0, .int .i64 0, .int .i64 0, .int .i64 0, .int .i64 0] 56))
  have HKL0 := Aside0.mk (show (((w.alloc (.cells #[.slice A flows.length c] 22)).alloc (.cells #[.slice B l.length d] 23)).alloc (.cells #[.int .i64 0, .int .i64 0, .int .i64 0, .int .i64 0, .int .i64 0, .int .i64 0, .int .i64 0] 56)).heap[w.heap.size + 1]? = some (.cells #[.slice B l.length d] 23 (0, 0)) from by
    have := blk_alloc (blk_new (w.alloc (.cells #[.slice A flows.length c] 22)) (.cells #[.slice B l.length d] 23)) (.cells #[.int .i64 0, .int .i64 0, .int .i64 0, .int .i64 0, .int .i64 0, .int .i64 0, .int .i64 0] 56)
    rwa [show (w.alloc (.cells #[.slice A flows.length c] 22)).heap.size = w.heap.size + 1 by simp] at this)
  have HKR0 := Aside0.mk (show (((w.alloc (.cells #[.slice A flows.length c] 22)).alloc (.cells #[.slice B l.length d] 23)).alloc (.cells #[.int .i64 0, .int .i64 0, .int .i64 0, .int .i64 0, .int .i64 0, .int .i64 0, .int .i64 0] 56)).heap[w.heap.size + 1 + 1]? = some (.cells #[.int .i64 0, .int .i64 0, .int .i64 0, .int .i64 0, .int .i64 0, .int .i64 0, .int .i64 0] 56 (0, 0)) from by
    have := blk_new ((w.alloc (.cells #[.slice A flows.length c] 22)).alloc (.cells #[.slice B l.length d] 23)) (.cells #[.int .i64 0, .int .i64 0, .int .i64 0, .int .i64 0, .int .i64 0, .int .i64 0, .int .i64 0] 56)
    rwa [show ((w.alloc (.cells #[.slice A flows.length c] 22)).alloc (.cells #[.slice B l.length d] 23)).heap.size = w.heap.size + 1 + 1 by simp] at this)
  generalize hq : hck flows l = q at *
  have HQ := Aside0.mk hq
  have HRR := Aside0.mk hrr
  clear hf hr hd hl hlim hsrt hq hrr
  go_enter Try.func19, Try.ntmps19
  go_wp2_with (fail)
  refine (node_Check _ _ _ _ _ _ _ (Kd.C_below HF.out HB0.out) (Kd.C_below HR.out HB0.out)).mono ?_
  rintro e w1 ⟨rfl, hb1⟩
  rw [HQ.out]
  have HB1 := Aside0.mk (below_trans2 HB0.out hb1)
  have HKF1 := Aside0.mk (blk_below HKF0.out hb1)
  have HKL1 := Aside0.mk (blk_below HKL0.out hb1)
  have HKR1 := Aside0.mk (blk_below HKR0.out hb1)
  clear hb1 HB0 HKF0 HKL0 HKR0
  have hrr := HRR.out
  clear HRR
  by_cases h0 : q = 0
  · rw [if_neg (by simp [h0])] at hrr
    subst h0
    by_cases hbad : length < 1 ∨ 512 < length ∨ slot < 0 ∨ 1073741824 < slot
    · rw [if_pos hbad] at hrr
      have HX := Aside0.mk hrr
      have key : decide (length < 1) = true ∨ (decide (length < 1) = false ∧ decide (512 < length) = true) ∨ (decide (length < 1) = false ∧ decide (512 < length) = false ∧ decide (slot < 0) = true) ∨ (decide (length < 1) = false ∧ decide (512 < length) = false ∧ decide (slot < 0) = false ∧ decide (1073741824 < slot) = true) := by
        simp only [decide_eq_true_eq, decide_eq_false_iff_not]; omega
      clear hbad hrr
      obtain ⟨rr0, rr1, rr2, rr3, rr4, rr5, rr6, rrf⟩ := blk7 HKR1.out
      rcases key with g1 | ⟨g1, g2⟩ | ⟨g1, g2, g3⟩ | ⟨g1, g2, g3, g4⟩
      all_goals
        go_wp2
        refine bodyPost_ret (v := .tuple #[.agg #[.int .i64 0, .int .i64 0, .int .i64 0, .int .i64 0, .int .i64 0, .int .i64 0, .int .i64 0], .int .i64 2]) (by simp [results, Try.results19, go_sem, *]) rfl ?_
        refine ⟨nw, HPM.out, ?_⟩
        rw [HREQ.out]
        refine ⟨by rw [HX.out]; rfl, ?_⟩
        repeat (refine Below.setCell ?_ ?_ _; rotate_left; · (simp; omega))
        exact HB1.out
    · rw [if_neg hbad] at hrr
      have g1 : decide (length < 1) = false := decide_eq_false (by omega)
      have g2 : decide (512 < length) = false := decide_eq_false (by omega)
      have g3 : decide (slot < 0) = false := decide_eq_false (by omega)
      have g4 : decide (1073741824 < slot) = false := decide_eq_false (by omega)
      have HRR := Aside0.mk hrr
      have HBAD := Aside0.mk hbad
      clear hrr hbad
      go_wp2_with (fail)
      refine (switch_AtP lim HSRT.out _ _ duties _ _ _ (Kd.C_below HD.out HB1.out) HL.out HLIM.out).mono ?_
      rintro e w2 ⟨nw2, hnw2, v2, rfl, hR2, hb2⟩
      clear HRR HREQ HPM
      have HPM := Aside0.mk hnw2
      obtain ⟨r2, hrr⟩ : ∃ r2, r2 = choose (fun _ => nw2) flows duties length slot l := ⟨_, rfl⟩
      have HREQ := Aside0.mk hrr.symm
      clear hnw2
      unfold choose at hrr
      rw [HQ.out, if_neg (by simp), if_neg HBAD.out] at hrr
      generalize atD (fun _ => nw2) length slot duties = at_ at *
      obtain ⟨now, ae⟩ := at_
      simp only at hR2 hrr ⊢
      have HB2 := Aside0.mk (below_trans2 HB1.out hb2)
      have HKF2 := Aside0.mk (blk_below HKF1.out hb2)
      have HKL2 := Aside0.mk (blk_below HKL1.out hb2)
      have HKR2 := Aside0.mk (blk_below HKR1.out hb2)
      obtain ⟨N, cn, rfl⟩ := Kd.R_slice hR2
      obtain ⟨_, hncn, hCN⟩ := Kd.R_reads' hR2
      have HCN2 := Aside0.mk hCN
      have HRB := Aside0.mk (And.intro (blk_lt HKR1.out) hR2)
      have HNN := Aside0.mk hCN.2.1
      clear hb2 HB1 HKF1 HKL1 HKR1 hR2 hCN
      have eg : ∀ args w, (callFunc 45 args).run Try.prog w = .ok (.enter 45 args) w := enters_of Try.func45 (by kernel_rfl) rfl
      have HCON := Aside0.mk (IndexFunc_duty 45 #[.pointer (some ⟨w.heap.size + 1, 0, none⟩), .pointer (some ⟨w.heap.size, 0, none⟩)] eg (sendsB flows l) N cn now w2 (node_Choose1 A B c d flows l (w.heap.size + 1) w.heap.size w2 (blk_lt HKL2.out) (blk_lt HKF2.out) (cell_of_row _ _ 0 _ _ (0, 0) HKL2.out) (cell_of_row _ _ 0 _ _ (0, 0) HKF2.out) (Kd.C_below HF.out HB2.out) (Kd.C_below HR.out HB2.out) HQ.out) HCN2.out)
      clear eg
      go_wp2_with (fail)
      refine HCON.out.mono ?_
      rintro e w3 ⟨rfl, hb3⟩
      have HB3 := Aside0.mk (below_trans2 HB2.out hb3)
      have HKF3 := Aside0.mk (blk_below HKF2.out hb3)
      have HKL3 := Aside0.mk (blk_below HKL2.out hb3)
      have HKR3 := Aside0.mk (blk_below HKR2.out hb3)
      have HCN3 := Aside0.mk (Kd.C_below HCN2.out hb3)
      clear hb3 HB2 HKF2 HKL2 HKR2 HCN2 HCON
      unfold chosen at hrr
      have hil := ix_lt (sendsB flows l) zDuty now
      have hhit := ix_hit (sendsB flows l) zDuty now
      generalize ix (sendsB flows l) zDuty now = i at *
      by_cases hi : 0 ≤ i
      · rw [if_pos hi] at hrr
        have gi : decide (0 ≤ i) = true := decide_eq_true hi
        have hs := sendsB_holds (hhit hi)
        obtain ⟨n, rfl⟩ := Int.eq_ofNat_of_zero_le hi
        rw [Int.toNat_natCast] at hrr hs
        have hnl : n < now.length := by omega
        have hni : (n : Int) < (now.length : Int) := by omega
        obtain ⟨ad, rfl, hx0, hx1, hx2, hx3, hx4, hx5, hx6, hx7, hx8⟩ := TDuty_nat HCN3.out n hnl
        generalize now.getD n zDuty = x at *
        obtain ⟨⟨x0, x1, x2, x3, x4⟩, x5, x6, x7, x8⟩ := x
        simp only at hx0 hx1 hx2 hx3 hx4 hx5 hx6 hx7 hx8 hrr hs
        have hjl : ix (fun h : SHolding => h.f0 == x4) zHolding l < l.length := ix_lt _ _ _
        obtain ⟨j, hj⟩ : ∃ j, j = ix (fun h : SHolding => h.f0 == x4) zHolding l := ⟨_, rfl⟩
        rw [← hj] at hs hjl hrr
        obtain ⟨m, rfl⟩ := Int.eq_ofNat_of_zero_le hs
        rw [Int.toNat_natCast] at hrr
        have hml : m < l.length := by omega
        have hmi : (m : Int) < (l.length : Int) := by omega
        obtain ⟨ad2, A2, c2, rfl, hy0, hy1, hy2, hl2, hC2⟩ := THolding_nat HR.out m hml
        have HY1 := Aside0.mk hy1
        generalize l.getD m zHolding = y at *
        obtain ⟨f0, f1, f2⟩ := y
        simp only at HY1 hrr
        have hy1' := lat_cell HY1.out ⟨w3, HB3.out⟩
        simp only at hy1'
        have HX := Aside0.mk hrr
        have HJ := Aside0.mk hj.symm
        have ll0 := cell_of_row _ _ 0 _ _ (0, 0) HKL3.out
        obtain ⟨rr0, rr1, rr2, rr3, rr4, rr5, rr6, rrf⟩ := blk7 HKR3.out
        clear hrr hj hs hjl hy0 hy1 hy2 hl2 hC2 hhit hil
        go_wp2_with (fail)
        have hne1 : ¬ (w.heap.size + 1 + 1 = (ad.add (n * 9)).block) := by
          obtain ⟨hlt1, hR2⟩ := HRB.out
          obtain ⟨g, rfl⟩ := Kd.R_head hR2
          have := Kd.R_base hR2 g rfl
          rw [add_block]
          simp only
          omega
        have hne2 : ¬ (w.heap.size + 1 + 1 = (ad2.add (m * 3)).block) := by
          have := World.block_lt_of_cell? w _ HY1.out
          simp only at this
          omega
        go_region_held3 (fun w' => w'.cell? (ad.add (n * 9)) = some (.int .i64 x0) ∧ w'.cell? ⟨(ad.add (n * 9)).block, (ad.add (n * 9)).off + 1, none⟩ = some (.int .i64 x1) ∧ w'.cell? ⟨(ad.add (n * 9)).block, (ad.add (n * 9)).off + 2, none⟩ = some (.int .i64 x2) ∧ w'.cell? ⟨(ad.add (n * 9)).block, (ad.add (n * 9)).off + 3, none⟩ = some (.int .i64 x3) ∧ w'.cell? ⟨(ad.add (n * 9)).block, (ad.add (n * 9)).off + 4, none⟩ = some (.int .i64 x4) ∧ w'.cell? ⟨w.heap.size + 1, 0, none⟩ = some (.slice (some ad2) l.length d) ∧ w'.cell? ⟨(ad2.add (m * 3)).block, (ad2.add (m * 3)).off + 1, none⟩ = some (.int .i64 f1)) (go_keep) (first | (go_at_call 31; refine (node_find _ _ _ _ _ (Kd.C_below HR.out (below_drew HB3.out))).mono ?_; rintro e w4 ⟨rfl, hb4⟩; rw [HJ.out]; have HQ4 := Aside0.mk (show Below w3.heap.size w3 w4 from below_trans2 (below_drew (Below.refl _ _)) hb4); have hx0' := lat_cell hx0 ⟨w4, HQ4.out⟩; have hx1' := lat_cell hx1 ⟨w4, HQ4.out⟩; have hx2' := lat_cell hx2 ⟨w4, HQ4.out⟩; have hx3' := lat_cell hx3 ⟨w4, HQ4.out⟩; have hx4' := lat_cell hx4 ⟨w4, HQ4.out⟩; have ll0' := lat_cell ll0 ⟨w4, HQ4.out⟩; have hy1'' := lat_cell hy1' ⟨w4, HQ4.out⟩; simp only at hx0' hx1' hx2' hx3' hx4' ll0' hy1''; obtain ⟨ss0, ss1, ss2, ss3, ss4, ss5, ss6, ssf⟩ := blk7 (blk_below HKR3.out HQ4.out); clear hb4))
        all_goals
          go_wp2
          refine bodyPost_ret (v := .tuple #[.agg #[.int .i64 1, .int .i64 x0, .int .i64 x1, .int .i64 x2, .int .i64 x3, .int .i64 x4, .int .i64 f1], .int .i64 0]) (by simp [results, Try.results19, go_sem, *]) rfl ?_
          refine ⟨nw2, HPM.out, ?_⟩
          rw [HREQ.out]
          refine ⟨by rw [HX.out], ?_⟩
          repeat (refine Below.setCell ?_ ?_ _; rotate_left; · (simp; omega))
          exact below_trans2 HB3.out HQ4.out
      · rw [if_neg hi] at hrr
        have gi : decide (0 ≤ i) = false := decide_eq_false hi
        have eg : ∀ args w, (callFunc 47 args).run Try.prog w = .ok (.enter 47 args) w := enters_of Try.func47 (by kernel_rfl) rfl
        have HCON := Aside0.mk (IndexFunc_duty 47 #[] eg (fun x => !x.f1) N cn now w3 (node_Choose2 w3) HCN3.out)
        have HRR := Aside0.mk hrr
        clear eg hhit hil hrr
        go_wp2_with (fail)
        refine HCON.out.mono ?_
        rintro e w4 ⟨rfl, hb4⟩
        have HB4 := Aside0.mk (below_trans2 HB3.out hb4)
        have HKR4 := Aside0.mk (blk_below HKR3.out hb4)
        have HCN4 := Aside0.mk (Kd.C_below HCN3.out hb4)
        clear hb4 HB3 HKF3 HKL3 HKR3 HCN3 HCON
        have hrr := HRR.out
        clear HRR
        have hil := ix_lt (fun x : SDuty => !x.f1) zDuty now
        generalize ix (fun x : SDuty => !x.f1) zDuty now = k at *
        obtain ⟨rr0, rr1, rr2, rr3, rr4, rr5, rr6, rrf⟩ := blk7 HKR4.out
        by_cases hk : 0 ≤ k
        · rw [if_pos hk] at hrr
          have gk : decide (0 ≤ k) = true := decide_eq_true hk
          obtain ⟨n, rfl⟩ := Int.eq_ofNat_of_zero_le hk
          rw [Int.toNat_natCast] at hrr
          have hnl : n < now.length := by omega
          have hni : (n : Int) < (now.length : Int) := by omega
          obtain ⟨ad, rfl, hx0, hx1, hx2, hx3, hx4, hx5, hx6, hx7, hx8⟩ := TDuty_nat HCN4.out n hnl
          generalize now.getD n zDuty = x at *
          obtain ⟨⟨x0, x1, x2, x3, x4⟩, x5, x6, x7, x8⟩ := x
          simp only at hx0 hx1 hx2 hx3 hx4 hx5 hx6 hx7 hx8 hrr
          have HX := Aside0.mk hrr
          clear hrr hil
          go_wp2
          refine bodyPost_ret (v := .tuple #[.agg #[.int .i64 2, .int .i64 x0, .int .i64 x1, .int .i64 x2, .int .i64 x3, .int .i64 x4, .int .i64 0], .int .i64 0]) (by simp [results, Try.results19, go_sem, *]) rfl ?_
          refine ⟨nw2, HPM.out, ?_⟩
          rw [HREQ.out]
          refine ⟨by rw [HX.out], ?_⟩
          repeat (refine Below.setCell ?_ ?_ _; rotate_left; · (simp; omega))
          exact HB4.out
        · rw [if_neg hk] at hrr
          have gk : decide (0 ≤ k) = false := decide_eq_false hk
          have HX := Aside0.mk hrr
          clear hrr hil
          go_wp2
          refine bodyPost_ret (v := .tuple #[.agg #[.int .i64 0, .int .i64 0, .int .i64 0, .int .i64 0, .int .i64 0, .int .i64 0, .int .i64 0], .int .i64 0]) (by simp [results, Try.results19, go_sem, *]) rfl ?_
          refine ⟨nw2, HPM.out, ?_⟩
          rw [HREQ.out]
          refine ⟨by rw [HX.out]; rfl, ?_⟩
          repeat (refine Below.setCell ?_ ?_ _; rotate_left; · (simp; omega))
          exact HB4.out
  · rw [if_pos h0] at hrr
    have h0' : (q != 0) = true := by simpa using h0
    have HX := Aside0.mk hrr
    clear hrr h0
    obtain ⟨rr0, rr1, rr2, rr3, rr4, rr5, rr6, rrf⟩ := blk7 HKR1.out
    go_wp2
    refine bodyPost_ret (v := .tuple #[.agg #[.int .i64 0, .int .i64 0, .int .i64 0, .int .i64 0, .int .i64 0, .int .i64 0, .int .i64 0], .int .i64 q]) (by simp [results, Try.results19, go_sem, *]) rfl ?_
    refine ⟨nw, HPM.out, ?_⟩
    rw [HREQ.out]
    refine ⟨by rw [HX.out]; rfl, ?_⟩
    repeat (refine Below.setCell ?_ ?_ _; rotate_left; · (simp; omega))
    exact HB1.out
end Go.Proofs.Ytjgkalppjfmkoaa
