/- Package node: Choose, over a contract of the sort. -/
import Derived.Test.YtjgkalppjfmkoaaChoose1
import Derived.Deep.RegionHeld3
namespace Go.Proofs.Ytjgkalppjfmkoaa
open Go.RowKit Go.Shelf Go.Proofs.YtjgkalppjfmkoaaW.PrintWords
set_option linter.unusedVariables false
set_option linter.unusedSimpArgs false

/-- What a node does, its duties of the slot being told. -/
def chosen (flows : List SFlow) (l : List SHolding) (now : List SDuty) : SIntent :=
  if 0 ≤ ix (sendsB flows l) zDuty now then ⟨1, (now.getD (ix (sendsB flows l) zDuty now).toNat zDuty).f0, (l.getD (ix (fun h : SHolding => h.f0 == (now.getD (ix (sendsB flows l) zDuty now).toNat zDuty).f0.f4) zHolding l).toNat zHolding).f1⟩
  else if 0 ≤ ix (fun x : SDuty => !x.f1) zDuty now then ⟨2, (now.getD (ix (fun x : SDuty => !x.f1) zDuty now).toNat zDuty).f0, 0⟩
  else zIntent
/-- node.Choose's answer. -/
def choose (srt : List SDuty → List SDuty) (flows : List SFlow) (duties : List SDuty) (length slot : Int) (l : List SHolding) : SIntent × Int :=
  if hck flows l ≠ 0 then (zIntent, hck flows l)
  else if length < 1 ∨ 512 < length ∨ slot < 0 ∨ 1073741824 < slot then (zIntent, 2)
  else (chosen flows l (atD srt length slot duties).1, 0)

def ChoosePost (w : World) (r : SIntent × Int) (e : Ending) (w' : World) : Prop :=
  e = .returned (.tuple #[.agg #[.int .i64 r.1.f0, .int .i64 r.1.f1.f0, .int .i64 r.1.f1.f1, .int .i64 r.1.f1.f2, .int .i64 r.1.f1.f3, .int .i64 r.1.f1.f4, .int .i64 r.1.f2], .int .i64 r.2]) ∧ Below w.heap.size w w'

theorem blk7 {w : World} {g : Nat} {a0 a1 a2 a3 a4 a5 a6 : Value} {T : TypeId} (h : w.heap[g]? = some (.cells #[a0, a1, a2, a3, a4, a5, a6] T (0, 0))) :
    w.cell? ⟨g, 0, none⟩ = some a0 ∧ w.cell? ⟨g, 1, none⟩ = some a1 ∧ w.cell? ⟨g, 2, none⟩ = some a2 ∧ w.cell? ⟨g, 3, none⟩ = some a3 ∧ w.cell? ⟨g, 4, none⟩ = some a4 ∧ w.cell? ⟨g, 5, none⟩ = some a5 ∧ w.cell? ⟨g, 6, none⟩ = some a6 ∧ ∀ j, w.frozen? ⟨g, j, none⟩ = false :=
  ⟨cell_of_row w g 0 _ T (0, 0) h, cell_of_row w g 1 _ T (0, 0) h, cell_of_row w g 2 _ T (0, 0) h, cell_of_row w g 3 _ T (0, 0) h, cell_of_row w g 4 _ T (0, 0) h, cell_of_row w g 5 _ T (0, 0) h, cell_of_row w g 6 _ T (0, 0) h, fun j => blk_frozen h j⟩

theorem sendsB_holds {flows : List SFlow} {l : List SHolding} {x : SDuty} (h : sendsB flows l x = true) : 0 ≤ ix (fun h : SHolding => h.f0 == x.f0.f4) zHolding l := by
  unfold sendsB at h
  simp only [Bool.and_eq_true, decide_eq_true_eq] at h
  exact h.1.1.2

set_option maxRecDepth 100000 in
set_option maxHeartbeats 8000000 in
theorem node_Choose (lim : Nat) (srt : List SDuty → List SDuty) (hsrt : SortC lim srt) (A D B : Option Addr) (c dc d : Nat) (flows : List SFlow) (duties : List SDuty) (l : List SHolding) (length slot : Int) (w : World)
    (hf : Kd.C kFlow w A flows.length flows) (hd : Kd.C kDuty w D duties.length duties) (hr : Kd.C kHolding w B l.length l) (hl : (duties.length + 1) * 64 ≤ 140737488355328) (hlim : (dueGo length slot duties duties.length 0 []).length ≤ lim) :
    Calls Try.prog 19 #[.slice A flows.length c, .slice D duties.length dc, .int .i64 length, .int .i64 slot, .slice B l.length d] w (ChoosePost w (choose srt flows duties length slot l)) := by
  have HF := Aside0.mk hf
  have HR := Aside0.mk hr
  have HD := Aside0.mk hd
  have HL := Aside0.mk hl
  have HLIM := Aside0.mk hlim
  have HSRT := Aside0.mk hsrt
  obtain ⟨r, hrr⟩ : ∃ r, r = choose srt flows duties length slot l := ⟨_, rfl⟩
  rw [← hrr]
  unfold choose at hrr
  have HB0 := Aside0.mk (show Below w.heap.size w (((w.alloc (.cells #[.slice A flows.length c] 22)).alloc (.cells #[.slice B l.length d] 23)).alloc (.cells #[.int .i64 0, .int .i64 0, .int .i64 0, .int .i64 0, .int .i64 0, .int .i64 0, .int .i64 0] 56)) from (((Below.refl _ _).alloc (Nat.le_refl _) _).alloc (by simp) _).alloc (by simp; omega) _)
  have HKF0 := Aside0.mk (blk_alloc (blk_alloc (blk_new w (.cells #[.slice A flows.length c] 22)) (.cells #[.slice B l.length d] 23)) (.cells #[.int .i64 0, .int .i64 0, .int .i64 0, .int .i64 0, .int .i64 0, .int .i64 0, .int .i64 0] 56))
  have HKL0 := Aside0.mk (show (((w.alloc (.cells #[.slice A flows.length c] 22)).alloc (.cells #[.slice B l.length d] 23)).alloc (.cells #[.int .i64 0, .int .i64 0, .int .i64 0, .int .i64 0, .int .i64 0, .int .i64 0, .int .i64 0] 56)).heap[w.heap.size + 1]? = some (.cells #[.slice B l.length d] 23 (0, 0)) from by
    have := blk_alloc (blk_new (w.alloc (.cells #[.slice A flows.length c] 22)) (.cells #[.slice B l.length d] 23)) (.cells #[.int .i64 0, .int .i64 0, .int .i64 0, .int .i64 0, .int .i64 0, .int .i64 0, .int .i64 0] 56)
    rwa [show (w.alloc (.cells #[.slice A flows.length c] 22)).heap.size = w.heap.size + 1 by simp] at this)
  have HKR0 := Aside0.mk (show (((w.alloc (.cells #[.slice A flows.length c] 22)).alloc (.cells #[.slice B l.length d] 23)).alloc (.cells #[.int .i64 0, .int .i64 0, .int .i64 0, .int .i64 0, .int .i64 0, .int .i64 0, .int .i64 0] 56)).heap[w.heap.size + 1 + 1]? = some (.cells #[.int .i64 0, .int .i64 0, .int .i64 0, .int .i64 0, .int .i64 0, .int .i64 0, .int .i64 0] 56 (0, 0)) from by
    have := blk_new ((w.alloc (.cells #[.slice A flows.length c] 22)).alloc (.cells #[.slice B l.length d] 23)) (.cells #[.int .i64 0, .int .i64 0, .int .i64 0, .int .i64 0, .int .i64 0, .int .i64 0, .int .i64 0] 56)
    rwa [show ((w.alloc (.cells #[.slice A flows.length c] 22)).alloc (.cells #[.slice B l.length d] 23)).heap.size = w.heap.size + 1 + 1 by simp] at this)
  generalize hq : hck flows l = q at *
  have HQ := Aside0.mk hq
  have HRR := Aside0.mk hrr
  clear hf hr hd hl hlim hsrt hq hrr
  go_enter Try.func19, Try.ntmps19
  go_wp2_with (fail)
  refine (node_Check _ _ _ _ _ _ _ (Kd.C_below HF.out HB0.out) (Kd.C_below HR.out HB0.out)).mono ?_
  rintro e w1 ⟨rfl, hb1⟩
  rw [HQ.out]
  have HB1 := Aside0.mk (below_trans2 HB0.out hb1)
  have HKF1 := Aside0.mk (blk_below HKF0.out hb1)
  have HKL1 := Aside0.mk (blk_below HKL0.out hb1)
  have HKR1 := Aside0.mk (blk_below HKR0.out hb1)
  clear hb1 HB0 HKF0 HKL0 HKR0
  have hrr := HRR.out
  clear HRR
  by_cases h0 : q = 0
  · rw [if_neg (by simp [h0])] at hrr
    subst h0
    by_cases hbad : length < 1 ∨ 512 < length ∨ slot < 0 ∨ 1073741824 < slot
    · rw [if_pos hbad] at hrr
      have HX := Aside0.mk hrr
      have key : decide (length < 1) = true ∨ (decide (length < 1) = false ∧ decide (512 < length) = true) ∨ (decide (length < 1) = false ∧ decide (512 < length) = false ∧ decide (slot < 0) = true) ∨ (decide (length < 1) = false ∧ decide (512 < length) = false ∧ decide (slot < 0) = false ∧ decide (1073741824 < slot) = true) := by
        simp only [decide_eq_true_eq, decide_eq_false_iff_not]; omega
      clear hbad hrr
      obtain ⟨rr0, rr1, rr2, rr3, rr4, rr5, rr6, rrf⟩ := blk7 HKR1.out
      rcases key with g1 | ⟨g1, g2⟩ | ⟨g1, g2, g3⟩ | ⟨g1, g2, g3, g4⟩
      all_goals
        go_wp2
        refine bodyPost_ret (v := .tuple #[.agg #[.int .i64 0, .int .i64 0, .int .i64 0, .int .i64 0, .int .i64 0, .int .i64 0, .int .i64 0], .int .i64 2]) (by simp [results, Try.results19, go_sem, *]) rfl ?_
        refine ⟨by rw [HX.out]; rfl, ?_⟩
        repeat (refine Below.setCell ?_ ?_ _; rotate_left; · (simp; omega))
        exact HB1.out
    · rw [if_neg hbad] at hrr
      have g1 : decide (length < 1) = false := decide_eq_false (by omega)
      have g2 : decide (512 < length) = false := decide_eq_false (by omega)
      have g3 : decide (slot < 0) = false := decide_eq_false (by omega)
      have g4 : decide (1073741824 < slot) = false := decide_eq_false (by omega)
      have HRR := Aside0.mk hrr
      clear hrr hbad
      go_wp2_with (fail)
      refine (switch_At lim srt HSRT.out _ _ duties _ _ _ (Kd.C_below HD.out HB1.out) HL.out HLIM.out).mono ?_
      rintro e w2 ⟨v2, rfl, hR2, hb2⟩
      have hrr := HRR.out
      clear HRR
      generalize atD srt length slot duties = at_ at *
      obtain ⟨now, ae⟩ := at_
      simp only at hR2 hrr ⊢
      have HB2 := Aside0.mk (below_trans2 HB1.out hb2)
      have HKF2 := Aside0.mk (blk_below HKF1.out hb2)
      have HKL2 := Aside0.mk (blk_below HKL1.out hb2)
      have HKR2 := Aside0.mk (blk_below HKR1.out hb2)
      obtain ⟨N, cn, rfl⟩ := Kd.R_slice hR2
      obtain ⟨_, hncn, hCN⟩ := Kd.R_reads' hR2
      have HCN2 := Aside0.mk hCN
      have HRB := Aside0.mk (And.intro (blk_lt HKR1.out) hR2)
      have HNN := Aside0.mk hCN.2.1
      clear hb2 HB1 HKF1 HKL1 HKR1 hR2 hCN
      have eg : ∀ args w, (callFunc 45 args).run Try.prog w = .ok (.enter 45 args) w := enters_of Try.func45 (by kernel_rfl) rfl
      have HCON := Aside0.mk (IndexFunc_duty 45 #[.pointer (some ⟨w.heap.size + 1, 0, none⟩), .pointer (some ⟨w.heap.size, 0, none⟩)] eg (sendsB flows l) N cn now w2 (node_Choose1 A B c d flows l (w.heap.size + 1) w.heap.size w2 (blk_lt HKL2.out) (blk_lt HKF2.out) (cell_of_row _ _ 0 _ _ (0, 0) HKL2.out) (cell_of_row _ _ 0 _ _ (0, 0) HKF2.out) (Kd.C_below HF.out HB2.out) (Kd.C_below HR.out HB2.out) HQ.out) HCN2.out)
      clear eg
      go_wp2_with (fail)
      refine HCON.out.mono ?_
      rintro e w3 ⟨rfl, hb3⟩
      have HB3 := Aside0.mk (below_trans2 HB2.out hb3)
      have HKF3 := Aside0.mk (blk_below HKF2.out hb3)
      have HKL3 := Aside0.mk (blk_below HKL2.out hb3)
      have HKR3 := Aside0.mk (blk_below HKR2.out hb3)
      have HCN3 := Aside0.mk (Kd.C_below HCN2.out hb3)
      clear hb3 HB2 HKF2 HKL2 HKR2 HCN2 HCON
      unfold chosen at hrr
      have hil := ix_lt (sendsB flows l) zDuty now
      have hhit := ix_hit (sendsB flows l) zDuty now
      generalize ix (sendsB flows l) zDuty now = i at *
      by_cases hi : 0 ≤ i
      · rw [if_pos hi] at hrr
        have gi : decide (0 ≤ i) = true := decide_eq_true hi
        have hs := sendsB_holds (hhit hi)
        obtain ⟨n, rfl⟩ := Int.eq_ofNat_of_zero_le hi
        rw [Int.toNat_natCast] at hrr hs
        have hnl : n < now.length := by omega
        have hni : (n : Int) < (now.length : Int) := by omega
        obtain ⟨ad, rfl, hx0, hx1, hx2, hx3, hx4, hx5, hx6, hx7, hx8⟩ := TDuty_nat HCN3.out n hnl
        generalize now.getD n zDuty = x at *
        obtain ⟨⟨x0, x1, x2, x3, x4⟩, x5, x6, x7, x8⟩ := x
        simp only at hx0 hx1 hx2 hx3 hx4 hx5 hx6 hx7 hx8 hrr hs
        have hjl : ix (fun h : SHolding => h.f0 == x4) zHolding l < l.length := ix_lt _ _ _
        obtain ⟨j, hj⟩ : ∃ j, j = ix (fun h : SHolding => h.f0 == x4) zHolding l := ⟨_, rfl⟩
        rw [← hj] at hs hjl hrr
        obtain ⟨m, rfl⟩ := Int.eq_ofNat_of_zero_le hs
        rw [Int.toNat_natCast] at hrr
        have hml : m < l.length := by omega
        have hmi : (m : Int) < (l.length : Int) := by omega
        obtain ⟨ad2, A2, c2, rfl, hy0, hy1, hy2, hl2, hC2⟩ := THolding_nat HR.out m hml
        have HY1 := Aside0.mk hy1
        generalize l.getD m zHolding = y at *
        obtain ⟨f0, f1, f2⟩ := y
        simp only at HY1 hrr
        have hy1' := lat_cell HY1.out ⟨w3, HB3.out⟩
        simp only at hy1'
        have HX := Aside0.mk hrr
        have HJ := Aside0.mk hj.symm
        have ll0 := cell_of_row _ _ 0 _ _ (0, 0) HKL3.out
        obtain ⟨rr0, rr1, rr2, rr3, rr4, rr5, rr6, rrf⟩ := blk7 HKR3.out
        clear hrr hj hs hjl hy0 hy1 hy2 hl2 hC2 hhit hil
        go_wp2_with (fail)
        have hne1 : ¬ (w.heap.size + 1 + 1 = (ad.add (n * 9)).block) := by
          obtain ⟨hlt1, hR2⟩ := HRB.out
          obtain ⟨g, rfl⟩ := Kd.R_head hR2
          have := Kd.R_base hR2 g rfl
          rw [add_block]
          simp only
          omega
        have hne2 : ¬ (w.heap.size + 1 + 1 = (ad2.add (m * 3)).block) := by
          have := World.block_lt_of_cell? w _ HY1.out
          simp only at this
          omega
        go_region_held3 (fun w' => w'.cell? (ad.add (n * 9)) = some (.int .i64 x0) ∧ w'.cell? ⟨(ad.add (n * 9)).block, (ad.add (n * 9)).off + 1, none⟩ = some (.int .i64 x1) ∧ w'.cell? ⟨(ad.add (n * 9)).block, (ad.add (n * 9)).off + 2, none⟩ = some (.int .i64 x2) ∧ w'.cell? ⟨(ad.add (n * 9)).block, (ad.add (n * 9)).off + 3, none⟩ = some (.int .i64 x3) ∧ w'.cell? ⟨(ad.add (n * 9)).block, (ad.add (n * 9)).off + 4, none⟩ = some (.int .i64 x4) ∧ w'.cell? ⟨w.heap.size + 1, 0, none⟩ = some (.slice (some ad2) l.length d) ∧ w'.cell? ⟨(ad2.add (m * 3)).block, (ad2.add (m * 3)).off + 1, none⟩ = some (.int .i64 f1)) (go_keep) (first | (go_at_call 31; refine (node_find _ _ _ _ _ (Kd.C_below HR.out (below_drew HB3.out))).mono ?_; rintro e w4 ⟨rfl, hb4⟩; rw [HJ.out]; have HQ4 := Aside0.mk (show Below w3.heap.size w3 w4 from below_trans2 (below_drew (Below.refl _ _)) hb4); have hx0' := lat_cell hx0 ⟨w4, HQ4.out⟩; have hx1' := lat_cell hx1 ⟨w4, HQ4.out⟩; have hx2' := lat_cell hx2 ⟨w4, HQ4.out⟩; have hx3' := lat_cell hx3 ⟨w4, HQ4.out⟩; have hx4' := lat_cell hx4 ⟨w4, HQ4.out⟩; have ll0' := lat_cell ll0 ⟨w4, HQ4.out⟩; have hy1'' := lat_cell hy1' ⟨w4, HQ4.out⟩; simp only at hx0' hx1' hx2' hx3' hx4' ll0' hy1''; obtain ⟨ss0, ss1, ss2, ss3, ss4, ss5, ss6, ssf⟩ := blk7 (blk_below HKR3.out HQ4.out); clear hb4))
        all_goals
          go_wp2
          refine bodyPost_ret (v := .tuple #[.agg #[.int .i64 1, .int .i64 x0, .int .i64 x1, .int .i64 x2, .int .i64 x3, .int .i64 x4, .int .i64 f1], .int .i64 0]) (by simp [results, Try.results19, go_sem, *]) rfl ?_
          refine ⟨by rw [HX.out], ?_⟩
          repeat (refine Below.setCell ?_ ?_ _; rotate_left; · (simp; omega))
          exact below_trans2 HB3.out HQ4.out
      · rw [if_neg hi] at hrr
        have gi : decide (0 ≤ i) = false := decide_eq_false hi
        have eg : ∀ args w, (callFunc 47 args).run Try.prog w = .ok (.enter 47 args) w := enters_of Try.func47 (by kernel_rfl) rfl
        have HCON := Aside0.mk (IndexFunc_duty 47 #[] eg (fun x => !x.f1) N cn now w3 (node_Choose2 w3) HCN3.out)
        have HRR := Aside0.mk hrr
        clear eg hhit hil hrr
        go_wp2_with (fail)
        refine HCON.out.mono ?_
        rintro e w4 ⟨rfl, hb4⟩
        have HB4 := Aside0.mk (below_trans2 HB3.out hb4)
        have HKR4 := Aside0.mk (blk_below HKR3.out hb4)
        have HCN4 := Aside0.mk (Kd.C_below HCN3.out hb4)
        clear hb4 HB3 HKF3 HKL3 HKR3 HCN3 HCON
        have hrr := HRR.out
        clear HRR
        have hil := ix_lt (fun x : SDuty => !x.f1) zDuty now
        generalize ix (fun x : SDuty => !x.f1) zDuty now = k at *
        obtain ⟨rr0, rr1, rr2, rr3, rr4, rr5, rr6, rrf⟩ := blk7 HKR4.out
        by_cases hk : 0 ≤ k
        · rw [if_pos hk] at hrr
          have gk : decide (0 ≤ k) = true := decide_eq_true hk
          obtain ⟨n, rfl⟩ := Int.eq_ofNat_of_zero_le hk
          rw [Int.toNat_natCast] at hrr
          have hnl : n < now.length := by omega
          have hni : (n : Int) < (now.length : Int) := by omega
          obtain ⟨ad, rfl, hx0, hx1, hx2, hx3, hx4, hx5, hx6, hx7, hx8⟩ := TDuty_nat HCN4.out n hnl
          generalize now.getD n zDuty = x at *
          obtain ⟨⟨x0, x1, x2, x3, x4⟩, x5, x6, x7, x8⟩ := x
          simp only at hx0 hx1 hx2 hx3 hx4 hx5 hx6 hx7 hx8 hrr
          have HX := Aside0.mk hrr
          clear hrr hil
          go_wp2
          refine bodyPost_ret (v := .tuple #[.agg #[.int .i64 2, .int .i64 x0, .int .i64 x1, .int .i64 x2, .int .i64 x3, .int .i64 x4, .int .i64 0], .int .i64 0]) (by simp [results, Try.results19, go_sem, *]) rfl ?_
          refine ⟨by rw [HX.out], ?_⟩
          repeat (refine Below.setCell ?_ ?_ _; rotate_left; · (simp; omega))
          exact HB4.out
        · rw [if_neg hk] at hrr
          have gk : decide (0 ≤ k) = false := decide_eq_false hk
          have HX := Aside0.mk hrr
          clear hrr hil
          go_wp2
          refine bodyPost_ret (v := .tuple #[.agg #[.int .i64 0, .int .i64 0, .int .i64 0, .int .i64 0, .int .i64 0, .int .i64 0, .int .i64 0], .int .i64 0]) (by simp [results, Try.results19, go_sem, *]) rfl ?_
          refine ⟨by rw [HX.out]; rfl, ?_⟩
          repeat (refine Below.setCell ?_ ?_ _; rotate_left; · (simp; omega))
          exact HB4.out
  · rw [if_pos h0] at hrr
    have h0' : (q != 0) = true := by simpa using h0
    have HX := Aside0.mk hrr
    clear hrr h0
    obtain ⟨rr0, rr1, rr2, rr3, rr4, rr5, rr6, rrf⟩ := blk7 HKR1.out
    go_wp2
    refine bodyPost_ret (v := .tuple #[.agg #[.int .i64 0, .int .i64 0, .int .i64 0, .int .i64 0, .int .i64 0, .int .i64 0, .int .i64 0], .int .i64 q]) (by simp [results, Try.results19, go_sem, *]) rfl ?_
    refine ⟨by rw [HX.out]; rfl, ?_⟩
    repeat (refine Below.setCell ?_ ?_ _; rotate_left; · (simp; omega))
    exact HB1.out
end Go.Proofs.Ytjgkalppjfmkoaa
