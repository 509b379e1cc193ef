/- Package node: Sent. -/
import Derived.Test.YtjgkalppjfmkoaaSent1
import Derived.Test.YtjgkalppjfmkoaaInsI3
import Derived.Test.YtjgkalppjfmkoaaNode5
namespace Go.Proofs.Ytjgkalppjfmkoaa
open Go.RowKit Go.Shelf Go.Proofs.YtjgkalppjfmkoaaW.PrintWords
set_option linter.unusedVariables false
set_option linter.unusedSimpArgs false

/-- One holding's own row taken out, written, and stored again. -/
theorem put_acked {W : World} {base g n cap : Nat} {l : List SHolding} (hS : kHolding.S 45 W base (fun _ => True) (.slice (some ⟨g, 0, none⟩) n cap) l) (i : Nat) (hi : i < n) :
    ∃ v2, W.cell? ⟨g, i * 3, none⟩ = some (.int .i64 (l.getD i zHolding).f0) ∧ W.cell? ⟨g, i * 3 + 1, none⟩ = some (.int .i64 (l.getD i zHolding).f1) ∧ W.cell? ⟨g, i * 3 + 2, none⟩ = some v2 ∧ W.frozen? ⟨g, i * 3 + 2, none⟩ = false ∧ g < W.heap.size ∧ base ≤ g ∧
      (Kd.int .i64).R 3 W base (fun _ => True) v2 (l.getD i zHolding).f2 ∧ some g ≠ v2.ownBlock ∧
      ∀ (W1 w' : World) (v' : Value) (ys : List Int), Below W.heap.size W W1 → W1.grownBy w' v2.ownBlock → (Kd.int .i64).R 3 w' base (fun _ => True) v' ys → (v'.ownBlock = v2.ownBlock ∨ ∃ b, v'.ownBlock = some b ∧ W1.heap.size ≤ b) →
        kHolding.S 45 (w'.setCell ⟨g, i * 3 + 2, none⟩ v') base (fun _ => True) (.slice (some ⟨g, 0, none⟩) n cap) (l.set i ⟨(l.getD i zHolding).f0, (l.getD i zHolding).f1, ys⟩) := by
  have hg1 : g < W.heap.size := Kd.S_lt hS g rfl
  have hg2 : base ≤ g := Kd.S_base hS g rfl
  obtain ⟨oki, c, hcl, hM, hcc, hfr, hoki, hH⟩ := Kd.S_elem hS zHolding (i : Int) (by omega) (by omega)
  rw [Int.toNat_natCast] at hM hcc hfr
  generalize l.getD i zHolding = y at *
  obtain ⟨v2, rfl, hR⟩ := kHolding_openM hM
  have h0 := hcc 0 _ rfl
  have h1 := hcc 1 _ rfl
  have h2 := hcc 2 _ rfl
  have hok2 : ∀ k, v2.ownBlock = some k → oki k := fun k hk => hR.1 k hk
  refine ⟨v2, h0, h1, h2, hfr 2, hg1, hg2, Kd.R_mono hR (fun _ _ => trivial), fun he => (hoki g (hok2 g he.symm)).2 rfl, ?_⟩
  intro W1 w' v' ys hb hg hR' hat
  have hH1 := Kd.H_grown (Kd.H_below (Kd.H_widen hH) hb) hg (fun k hk => Or.inl (hok2 k hk))
  obtain ⟨hH2, hg3⟩ := Kd.H_seg hH1 (seg := [v']) (j := 2) (by omega) (by omega) (show 2 + 1 ≤ 3 by omega) (fun q hq => by
    obtain rfl := List.mem_singleton.1 hq
    exact (Kd.R_val hR').2)
  rw [Int.toNat_natCast] at hH2 hg3
  have hvk : ∀ k, v'.ownBlock = some k → (oki k ∨ True ∧ W.heap.size ≤ k) ∧ k ≠ g := fun k hk => by
    rcases hat with h | ⟨b, hb2, hle⟩
    · rw [h] at hk
      exact ⟨Or.inl (hok2 k hk), (hoki k (hok2 k hk)).2⟩
    · rw [hb2] at hk
      injection hk with hk
      subst hk
      have := hb.size
      exact ⟨Or.inr ⟨trivial, by omega⟩, by omega⟩
  have hRt := Kd.R_tight rfl hR'
  have hRf := Kd.R_far (p := ⟨g, i * 3 + 2, none⟩) hRt (fun k hk => (hvk k hk.symm).2) v'
  have := Kd.H_back hH2 (x' := ⟨y.f0, y.f1, ys⟩) (okp := fun k => some k = v'.ownBlock) (kHolding_mkM _ _ _ ⟨y.f0, y.f1, ys⟩ hRf) (fun k hk => (hvk k hk.symm).1)
  rw [Int.toNat_natCast] at this
  exact this

/-- The place of a node's number among those of a holding. -/
def ackAt (a : List Int) (t : Int) : Nat := if ix (fun n => decide (t < n)) 0 a < 0 then a.length else (ix (fun n => decide (t < n)) 0 a).toNat
/-- node.Sent's answer. -/
def sent (l : List SHolding) (cflow cto : Int) (acked : Bool) : List SHolding :=
  if acked = false ∨ ix (fun h : SHolding => h.f0 == cflow) zHolding l < 0 ∨ 0 ≤ ix (fun n => cto == n) 0 (l.getD (ix (fun h : SHolding => h.f0 == cflow) zHolding l).toNat zHolding).f2 then l
  else l.set (ix (fun h : SHolding => h.f0 == cflow) zHolding l).toNat ⟨(l.getD (ix (fun h : SHolding => h.f0 == cflow) zHolding l).toNat zHolding).f0, (l.getD (ix (fun h : SHolding => h.f0 == cflow) zHolding l).toNat zHolding).f1,
    insAtI (l.getD (ix (fun h : SHolding => h.f0 == cflow) zHolding l).toNat zHolding).f2 (ackAt (l.getD (ix (fun h : SHolding => h.f0 == cflow) zHolding l).toNat zHolding).f2 cto) cto⟩

theorem ackAt_le (a : List Int) (t : Int) : ackAt a t ≤ a.length := by
  unfold ackAt
  have := ix_lt (fun n => decide (t < n)) 0 a
  split <;> omega

set_option maxRecDepth 100000 in
set_option maxHeartbeats 4000000 in
theorem node_Sent (A : Option Addr) (d : Nat) (l : List SHolding) (c0 c1 c2 c3 c4 : Int) (acked : Bool) (w : World) (hr : Kd.C kHolding w A l.length l) (hs : HSized l) :
    Calls Try.prog 25 #[.slice A l.length d, .agg #[.int .i64 c0, .int .i64 c1, .int .i64 c2, .int .i64 c3, .int .i64 c4], .bool acked] w (OwnHoldings w (sent l c4 c3 acked)) := by
  have HL := Aside0.mk hr
  have HS := Aside0.mk hs
  obtain ⟨r, hrr⟩ : ∃ r, r = sent l c4 c3 acked := ⟨_, rfl⟩
  rw [← hrr]
  unfold sent at hrr
  have HB0 := Aside0.mk (show Below w.heap.size w (w.alloc (.cells #[.int .i64 c0, .int .i64 c1, .int .i64 c2, .int .i64 c3, .int .i64 c4] 25)) from (Below.refl _ _).alloc (Nat.le_refl _) _)
  have HK0 := Aside0.mk (blk_new w (.cells #[.int .i64 c0, .int .i64 c1, .int .i64 c2, .int .i64 c3, .int .i64 c4] 25))
  have HRR := Aside0.mk hrr
  clear hr hs hrr
  go_enter Try.func25, Try.ntmps25
  go_wp2_with (fail)
  refine (node_copied _ _ _ _ (Kd.C_below HL.out HB0.out) HS.out).mono ?_
  rintro e w1 ⟨v1, rfl, hS1, hb1⟩
  have hS2 := Kd.S_lower hS1 HB0.out.size
  obtain ⟨A1, cap, rfl⟩ := Kd.S_slice hS2
  obtain ⟨_, hcap, hC1⟩ := Kd.S_reads' hS2
  have HS1 := Aside0.mk hS2
  have HC1 := Aside0.mk hC1
  have HB1 := Aside0.mk (below_trans2 HB0.out hb1)
  have HK1 := Aside0.mk (blk_below HK0.out hb1)
  obtain ⟨cc0, cc1, cc2, cc3, cc4⟩ := blk5 HK1.out
  clear hb1 hS1 hS2 hC1 HB0 HK0
  go_wp2_with (fail)
  refine (node_find _ _ _ _ _ HC1.out).mono ?_
  rintro e w2 ⟨rfl, hb2⟩
  have hil : ix (fun h : SHolding => h.f0 == c4) zHolding l < l.length := ix_lt _ _ _
  have hrr := HRR.out
  clear HRR
  generalize hi : ix (fun h : SHolding => h.f0 == c4) zHolding l = i at *
  clear hi
  have HS2 := Aside0.mk (Kd.S_below HS1.out hb2)
  have HC2 := Aside0.mk (Kd.C_below HC1.out hb2)
  have HB2 := Aside0.mk (below_trans2 HB1.out hb2)
  have HK2 := Aside0.mk (blk_below HK1.out hb2)
  clear hb2 HS1 HC1 HB1 HK1 cc0 cc1 cc2 cc3 cc4
  obtain ⟨cc0, cc1, cc2, cc3, cc4⟩ := blk5 HK2.out
  by_cases hearly : acked = false ∨ i < 0
  · have HX := Aside0.mk (show r = l by rw [hrr, if_pos (by rcases hearly with h | h; exact Or.inl h; exact Or.inr (Or.inl h))])
    clear hrr
    have key : (!acked) = true ∨ ((!acked) = false ∧ decide (i < 0) = true) := by
      rcases hearly with h | h
      · subst h; exact Or.inl rfl
      · cases acked
        · exact Or.inl rfl
        · exact Or.inr ⟨rfl, decide_eq_true h⟩
    clear hearly
    have dd3 := lat_cell cc3
    have dd4 := lat_cell cc4
    rcases key with g1 | ⟨g1, g2⟩
    all_goals
      go_wp2_with (fail)
      refine wp_region_lat (by kernel_rfl) (by kernel_rfl) ?_
      repeat (go_big_quiet_step (fail))
      refine wpQuiet_nil ?_
      intro _ hw'
      obtain ⟨⟨wq, hq⟩, rfl⟩ := hw'
      have HS3 := Aside0.mk (Kd.S_below HS2.out hq)
      have HB3 := Aside0.mk (below_trans2 HB2.out hq)
      clear hq dd3 dd4
      go_wp2
      go_ret
      exact ⟨_, rfl, by rw [HX.out]; exact HS3.out, HB3.out⟩
  · obtain ⟨ha, hi0⟩ : acked = true ∧ ¬ i < 0 := by simpa using hearly
    subst ha
    obtain ⟨n, rfl⟩ := Int.eq_ofNat_of_zero_le (show 0 ≤ i by omega)
    rw [Int.toNat_natCast] at hrr
    have hnl : n < l.length := by omega
    have hni : (n : Int) < (l.length : Int) := by omega
    have hsz := HS.out.at_ n
    obtain ⟨g, cap', he, hbg, hgl, _⟩ := Kd.S_form HS2.out (by omega)
    obtain ⟨rfl, rfl⟩ : A1 = some ⟨g, 0, none⟩ ∧ cap = cap' := by injection he with h1 h2 h3; exact ⟨h1, h3⟩
    clear he
    obtain ⟨v2, p0, p1, p2, pf, pg, pb, pR, pne, put⟩ := put_acked HS2.out n hnl
    generalize l.getD n zHolding = y at *
    obtain ⟨f0, f1, f2⟩ := y
    simp only at p0 p1 pR put hrr hsz
    obtain ⟨A2, cap2, rfl⟩ := Kd.R_slice pR
    have PC := Aside0.mk (Kd.R_reads' pR).2.2
    have PR := Aside0.mk pR
    have PUT := Aside0.mk put
    have PNE := Aside0.mk pne
    have HSZ := Aside0.mk hsz
    clear pR put pne hsz
    have hii : decide ((n : Int) < 0) = false := decide_eq_false (by omega)
    obtain ⟨q, hq⟩ : ∃ q, decide (0 ≤ ix (fun n => c3 == n) 0 f2) = q := ⟨_, rfl⟩
    have HQ := Aside0.mk hq
    have hrr2 : r = if q = true then l else l.set n ⟨f0, f1, insAtI f2 (ackAt f2 c3) c3⟩ := by
      rw [hrr]
      subst hq
      by_cases hc : 0 ≤ ix (fun n => c3 == n) 0 f2
      · rw [if_pos (Or.inr (Or.inr hc)), if_pos (decide_eq_true hc)]
      · rw [if_neg (by simp; omega), if_neg (by simpa using hc)]
    have HRR := Aside0.mk hrr2
    clear hrr hrr2 hq
    have dd3 := lat_cell cc3
    have dd4 := lat_cell cc4
    have pp2 := lat_cell p2
    go_wp2_with (fail)
    refine wp_region_lat (by kernel_rfl) (by kernel_rfl) ?_
    repeat (go_big_quiet_step ((go_at_call 24; refine calls_lat_same (HQ.out ▸ Contains_int _ _ _ _ _ (Kd.C_below PC.out (Lat.h _))))))
    refine wpQuiet_nil ?_
    intro wq hw'
    obtain ⟨⟨_, hq⟩, rfl⟩ := hw'
    have hrr := HRR.out
    have p0 := lat_cell p0 ⟨wq, hq⟩
    have p1 := lat_cell p1 ⟨wq, hq⟩
    have p2 := lat_cell p2 ⟨wq, hq⟩
    have pf := (hq.frozen (p := ⟨g, n * 3 + 2, none⟩) pg).trans pf
    have cc3 := lat_cell cc3 ⟨wq, hq⟩
    have pgq := Nat.lt_of_lt_of_le pg hq.size
    simp only at p0 p1 p2 cc3
    have PC3 := Aside0.mk (Kd.C_below PC.out hq)
    have PR3 := Aside0.mk (Kd.R_below PR.out hq)
    have HS3 := Aside0.mk (Kd.S_below HS2.out hq)
    have HB3 := Aside0.mk (below_trans2 HB2.out hq)
    have HK3 := Aside0.mk (blk_below HK2.out hq)
    have HQ2 := Aside0.mk hq
    clear hq dd3 dd4 pp2 HRR HQ
    cases q with
    | true =>
      rw [if_pos rfl] at hrr
      have HX := Aside0.mk hrr
      clear hrr
      go_wp2
      go_ret
      exact ⟨_, rfl, by rw [HX.out]; exact HS3.out, HB3.out⟩
    | false =>
      rw [if_neg (by simp)] at hrr
      have HX := Aside0.mk hrr
      clear hrr
      have eg : ∀ args w, (callFunc 54 args).run Try.prog w = .ok (.enter 54 args) w := enters_of Try.func54 (by kernel_rfl) rfl
      have HCON := Aside0.mk (IndexFunc_int 54 #[.pointer (some ⟨w.heap.size, 0, none⟩)] eg (fun n => decide (c3 < n)) A2 cap2 f2 wq (node_Sent1 c0 c1 c2 c3 c4 w.heap.size wq (blk_lt HK3.out) cc3) PC3.out)
      clear eg
      go_wp2_with (fail)
      refine HCON.out.mono ?_
      rintro e w4 ⟨rfl, hb4⟩
      have hx := HX.out
      have hal := ackAt_le f2 c3
      obtain ⟨m, hm⟩ : ∃ m, m = ackAt f2 c3 := ⟨_, rfl⟩
      rw [← hm] at hx hal
      have hm2 := hm
      unfold ackAt at hm2
      generalize ix (fun n => decide (c3 < n)) 0 f2 = j at *
      have p2 := lat_cell p2 ⟨w4, hb4⟩
      have pf := (hb4.frozen (p := ⟨g, n * 3 + 2, none⟩) pgq).trans pf
      have cc3 := lat_cell cc3 ⟨w4, hb4⟩
      have pg4 := Nat.lt_of_lt_of_le pgq hb4.size
      simp only at p2 cc3
      have PR4 := Aside0.mk (Kd.R_below PR3.out hb4)
      have HB4 := Aside0.mk (below_trans2 HB3.out hb4)
      have HQ4 := Aside0.mk (below_trans2 HQ2.out hb4)
      have HX := Aside0.mk hx
      have HM := Aside0.mk hm2
      clear hx hm hm2 hb4 PC3 PR3 HS3 HB3 HK3 HQ2 HCON p0 p1
      have hfl : f2.length < 17592186044416 := by have := HSZ.out; omega
      have HF2 := Aside0.mk hfl
      clear hfl
      rcases Int.lt_or_le j 0 with hj | hj
      · have hj' : decide (j < 0) = true := decide_eq_true hj
        have hmf := HM.out
        rw [if_pos hj] at hmf
        subst hmf
        clear HM
        go_wp2_with (fail)
        have HBA := Aside0.mk (show Below w4.heap.size w4 (w4.alloc (.cells #[.int .i64 c3] 3)).drew from below_drew (below_alloc (Below.refl _ _) _))
        have HVL := Aside0.mk (Kd.R_lt PR4.out)
        go_region_with (go_at_call 55; refine (Insert_int w.heap.size _ f2 c3 f2.length hal w4.heap.size [.int .i64 c3] _ (fun _ => False) (Kd.R_below PR4.out HBA.out) rfl (blk_new w4 _) (fun he => Nat.lt_irrefl _ (HVL.out _ he.symm)) (fun _ h => h.elim) ?_ (by have := HSZ.out; omega)).mono ?_; exact Nat.le_trans HB4.out.size HBA.out.size; rintro e w' ⟨v', rfl, hR', hg', hat'⟩; have hlt : g < (w4.alloc (.cells #[.int .i64 c3] 3)).drew.heap.size := Nat.lt_of_lt_of_le pg4 HBA.out.size; have p2' := (hg'.cell_far ⟨g, n * 3 + 2, none⟩ hlt PNE.out).trans ((HBA.out.cell (p := ⟨g, n * 3 + 2, none⟩) pg4).trans p2); have pf' := (hg'.frozen_far ⟨g, n * 3 + 2, none⟩ hlt PNE.out).trans ((HBA.out.frozen (p := ⟨g, n * 3 + 2, none⟩) pg4).trans pf); obtain ⟨A3, cap3, rfl⟩ := Kd.R_slice hR'; have HR' := Aside0.mk hR'; have HG' := Aside0.mk hg'; have HA' := Aside0.mk hat'; clear hR' hg' hat' hlt p2 pf cc3)
        all_goals
          go_wp2
          go_ret
          refine ⟨_, rfl, by rw [HX.out]; exact PUT.out _ _ _ _ (below_trans2 HQ4.out HBA.out) HG'.out HR'.out HA'.out, ?_⟩
          refine Below.setCell ?_ ?_ _
          · exact (HB4.out.trans (HBA.out.mono HB4.out.size)).grown HG'.out (Nat.le_trans HB4.out.size HBA.out.size) (Kd.R_base PR4.out)
          · exact pb
      · have hj' : decide (j < 0) = false := decide_eq_false (by omega)
        have hmf := HM.out
        rw [if_neg (by omega)] at hmf
        obtain ⟨n2, rfl⟩ := Int.eq_ofNat_of_zero_le hj
        rw [Int.toNat_natCast] at hmf
        subst hmf
        clear HM
        go_wp2_with (fail)
        have HBA := Aside0.mk (show Below w4.heap.size w4 (w4.alloc (.cells #[.int .i64 c3] 3)).drew from below_drew (below_alloc (Below.refl _ _) _))
        have HVL := Aside0.mk (Kd.R_lt PR4.out)
        go_region_with (go_at_call 55; refine (Insert_int w.heap.size _ f2 c3 m hal w4.heap.size [.int .i64 c3] _ (fun _ => False) (Kd.R_below PR4.out HBA.out) rfl (blk_new w4 _) (fun he => Nat.lt_irrefl _ (HVL.out _ he.symm)) (fun _ h => h.elim) ?_ (by have := HSZ.out; omega)).mono ?_; exact Nat.le_trans HB4.out.size HBA.out.size; rintro e w' ⟨v', rfl, hR', hg', hat'⟩; have hlt : g < (w4.alloc (.cells #[.int .i64 c3] 3)).drew.heap.size := Nat.lt_of_lt_of_le pg4 HBA.out.size; have p2' := (hg'.cell_far ⟨g, n * 3 + 2, none⟩ hlt PNE.out).trans ((HBA.out.cell (p := ⟨g, n * 3 + 2, none⟩) pg4).trans p2); have pf' := (hg'.frozen_far ⟨g, n * 3 + 2, none⟩ hlt PNE.out).trans ((HBA.out.frozen (p := ⟨g, n * 3 + 2, none⟩) pg4).trans pf); obtain ⟨A3, cap3, rfl⟩ := Kd.R_slice hR'; have HR' := Aside0.mk hR'; have HG' := Aside0.mk hg'; have HA' := Aside0.mk hat'; clear hR' hg' hat' hlt p2 pf cc3)
        all_goals
          go_wp2
          go_ret
          refine ⟨_, rfl, by rw [HX.out]; exact PUT.out _ _ _ _ (below_trans2 HQ4.out HBA.out) HG'.out HR'.out HA'.out, ?_⟩
          refine Below.setCell ?_ ?_ _
          · exact (HB4.out.trans (HBA.out.mono HB4.out.size)).grown HG'.out (Nat.le_trans HB4.out.size HBA.out.size) (Kd.R_base PR4.out)
          · exact pb
end Go.Proofs.Ytjgkalppjfmkoaa
