/- Package node: Begin. -/
import Derived.Test.YtjgkalppjfmkoaaNode5
namespace Go.Proofs.Ytjgkalppjfmkoaa
open Go.RowKit Go.Shelf Go.Proofs.YtjgkalppjfmkoaaW.PrintWords
set_option linter.unusedVariables false
set_option linter.unusedSimpArgs false

/-- What flow.Current says of a holding's flow. -/
def hcur (flows : List SFlow) (slot : Int) (h : SHolding) : Int × Bool := fcur (flows.getD (ix (fun f : SFlow => f.f0 == h.f0) zFlow flows).toNat zFlow) slot
def begGo1 (flows : List SFlow) (slot : Int) (l : List SHolding) : Nat → Nat → List SHolding → List SHolding
  | 0, _, acc => acc
  | d + 1, k, acc => begGo1 flows slot l d (k + 1) (if (hcur flows slot (l.getD k zHolding)).2 = true ∧ (hcur flows slot (l.getD k zHolding)).1 = (l.getD k zHolding).f1 then acc ++ [l.getD k zHolding] else acc)
def begGo2 (flows : List SFlow) (self slot : Int) : Nat → Nat → List SHolding → List SHolding
  | 0, _, acc => acc
  | d + 1, k, acc => begGo2 flows self slot d (k + 1) (if (fcur (flows.getD k zFlow) slot).2 = true ∧ (flows.getD k zFlow).f1 = self ∧ ix (fun h : SHolding => h.f0 == (flows.getD k zFlow).f0) zHolding acc < 0 then addH acc ⟨(flows.getD k zFlow).f0, (fcur (flows.getD k zFlow) slot).1, []⟩ else acc)
/-- node.Begin's answer. -/
def begin_ (flows : List SFlow) (self slot : Int) (l : List SHolding) : List SHolding × Int :=
  if hcheck flows self slot l ≠ 0 then ([], hcheck flows self slot l)
  else (begGo2 flows self slot flows.length 0 (begGo1 flows slot l l.length 0 []), 0)

theorem hckGo_find (flows : List SFlow) (l : List SHolding) : ∀ d k : Nat, hckGo flows l d k = 0 → ∀ j, k ≤ j → j < k + d → 0 ≤ ix (fun f : SFlow => f.f0 == (l.getD j zHolding).f0) zFlow flows
  | 0, k, _, j, h1, h2 => by omega
  | d + 1, k, h, j, h1, h2 => by
    rw [hckGo] at h
    by_cases hb : hbad flows l k = true
    · rw [if_pos hb] at h; simp at h
    · rw [if_neg hb] at h
      split at h
      · by_cases hj : j = k
        · subst hj
          unfold hbad at hb
          simp only [Bool.or_eq_true, decide_eq_true_eq, not_or, Int.not_lt] at hb
          exact hb.1.1.1
        · exact hckGo_find flows l d (k + 1) h j (by omega) (by omega)
      · simp at h
theorem hcheck_0 {flows : List SFlow} {self slot : Int} {l : List SHolding} (h : hcheck flows self slot l = 0) : hck flows l = 0 ∧ 0 ≤ self ∧ self < 32 ∧ 0 ≤ slot ∧ slot ≤ 1073741824 := by
  unfold hcheck at h
  split at h
  · exact absurd h ‹_›
  · split at h
    · simp at h
    · refine ⟨by simp_all, ?_⟩
      omega
theorem hck_find {flows : List SFlow} {l : List SHolding} (h : hck flows l = 0) (k : Nat) (hk : k < l.length) : 0 ≤ ix (fun f : SFlow => f.f0 == (l.getD k zHolding).f0) zFlow flows := by
  unfold hck at h
  split at h
  · exact hckGo_find flows l _ 0 h k (Nat.zero_le _) (by omega)
  · simp at h
theorem hck_flows {flows : List SFlow} {l : List SHolding} (h : hck flows l = 0) : flows.length ≤ 16 := by
  unfold hck at h
  split at h
  · rename_i h2
    unfold fck at h2
    simp at h2
    split at h2
    · simp at h2
    · omega
  · simp at h
theorem addH_length (l : List SHolding) (h : SHolding) : (addH l h).length = l.length + 1 := by
  unfold addH insAt
  have : bsGo l h.f0 (l.length + 1) 0 l.length ≤ l.length := bsGo_le l h.f0 _ _ _ (Nat.zero_le _)
  simp
  omega

theorem blk6 {w : World} {g : Nat} {a b c d e f : Value} {T : TypeId} (h : w.heap[g]? = some (.cells #[a, b, c, d, e, f] T (0, 0))) : w.cell? ⟨g, 0, none⟩ = some a ∧ w.cell? ⟨g, 1, none⟩ = some b ∧ w.cell? ⟨g, 2, none⟩ = some c ∧ w.cell? ⟨g, 3, none⟩ = some d ∧ w.cell? ⟨g, 4, none⟩ = some e ∧ w.cell? ⟨g, 5, none⟩ = some f :=
  ⟨cell_of_row w g 0 _ T (0, 0) h, cell_of_row w g 1 _ T (0, 0) h, cell_of_row w g 2 _ T (0, 0) h, cell_of_row w g 3 _ T (0, 0) h, cell_of_row w g 4 _ T (0, 0) h, cell_of_row w g 5 _ T (0, 0) h⟩

def BeginPost (w : World) (r : List SHolding × Int) (e : Ending) (w' : World) : Prop :=
  ∃ v, e = .returned (.tuple #[v, .int .i64 r.2]) ∧ kHolding.R 45 w' w.heap.size (fun _ => True) v r.1 ∧ Below w.heap.size w w'

set_option maxRecDepth 100000 in
set_option maxHeartbeats 8000000 in
theorem node_Begin (A B : Option Addr) (c d : Nat) (flows : List SFlow) (self slot : Int) (l : List SHolding) (w : World) (hf : Kd.C kFlow w A flows.length flows) (hr : Kd.C kHolding w B l.length l) (hs : HSized l) (hs2 : (l.length + 20) * 40 ≤ 140737488351232) :
    Calls Try.prog 14 #[.slice A flows.length c, .int .i64 self, .int .i64 slot, .slice B l.length d] w (BeginPost w (begin_ flows self slot l)) := by
  have hfn := hf.2.1
  have hrn := hr.2.1
  have HF := Aside0.mk hf
  have HL := Aside0.mk hr
  have HS := Aside0.mk hs
  have HS2 := Aside0.mk hs2
  obtain ⟨r, hrr⟩ : ∃ r, r = begin_ flows self slot l := ⟨_, rfl⟩
  rw [← hrr]
  unfold begin_ at hrr
  generalize hq : hcheck flows self slot l = q at *
  have HQ := Aside0.mk hq
  clear hf hr hs hq hs2
  by_cases h0 : q = 0
  · subst h0
    rw [if_neg (by simp)] at hrr
    have HCK := Aside0.mk (hcheck_0 HQ.out)
    have HRR := Aside0.mk hrr
    clear hrr
    go_enter Try.func14, Try.ntmps14
    go_wp2_with (fail)
    refine (node_check _ _ _ _ _ _ _ _ _ HF.out HL.out).mono ?_
    rintro e w1 ⟨rfl, hb1⟩
    rw [HQ.out]
    have HB1 := Aside0.mk hb1
    clear hb1
    go_wp2
    obtain ⟨r1, hr1⟩ : ∃ r1, begGo1 flows slot l (l.length - 0) 0 [] = r1 := ⟨_, rfl⟩
    have hrr := HRR.out
    rw [show begGo1 flows slot l l.length 0 [] = r1 from hr1] at hrr
    have HRR2 := Aside0.mk hr1
    have HRR3 := Aside0.mk hrr
    clear hr1 hrr HRR
    go_loopg [11, 30] l.length (fun gg v11 v30 wr => ∃ (k : Nat) (acc : List SHolding), k ≤ l.length ∧ l.length - k ≤ gg ∧ v30 = .int .i64 k ∧ acc.length ≤ k ∧ Aside0 (Below w.heap.size w wr) ∧ Aside0 (kHolding.R 45 wr w.heap.size (fun _ => True) v11 acc) ∧ Aside0 (begGo1 flows slot l (l.length - k) k acc = r1))
    case atStart => exact ⟨0, [], Nat.zero_le _, by omega, rfl, Nat.le_refl _, HB1, ⟨Kd.R_nil _ _ _ _ _⟩, HRR2⟩
    case round =>
      clear HRR2 HB1
      obtain ⟨k, acc, hk, hg, rfl, hak, HB, HO, HX⟩ := hrel
      by_cases hlt : k < l.length
      · obtain ⟨ad, A2, c2, rfl, hx0, hx1, hx2, hl2, hC2⟩ := THolding_nat (Kd.C_below HL.out HB.out) k hlt
        have hsz := HS.out.at_ k
        have hfi := hck_find HCK.out.1 k hlt
        have hx := HX.out
        rw [show l.length - k = (l.length - (k + 1)) + 1 by omega, begGo1] at hx
        unfold hcur at hx
        clear HX
        generalize hy : l.getD k zHolding = y at *
        clear hy
        have hlti : (k : Int) < (l.length : Int) := by omega
        have HC2 := Aside0.mk hC2
        have HSZ := Aside0.mk hsz
        obtain ⟨f0, f1, f2⟩ := y
        simp only at hx0 hx1 hx2 hl2 hfi HC2 HSZ hx
        have hil : ix (fun f : SFlow => f.f0 == f0) zFlow flows < flows.length := ix_lt _ _ _
        generalize hi : ix (fun f : SFlow => f.f0 == f0) zFlow flows = i at *
        obtain ⟨n, rfl⟩ := Int.eq_ofNat_of_zero_le hfi
        rw [Int.toNat_natCast] at hx
        have hnl : n < flows.length := by omega
        have hni : (n : Int) < (flows.length : Int) := by omega
        have HI := Aside0.mk hi
        have HX := Aside0.mk hx
        have HB1 := Aside0.mk (show Below w.heap.size w (wr.alloc (.cells #[.int .i64 f0, .int .i64 f1, .slice A2 f2.length c2] 45)) from HB.out.alloc HB.out.size _)
        have HO1 := Aside0.mk (Kd.R_below HO.out (below_alloc (Below.refl _ _) (.cells #[.int .i64 f0, .int .i64 f1, .slice A2 f2.length c2] 45)))
        have HC3 := Aside0.mk (Kd.C_below HC2.out (below_alloc (Below.refl _ _) (.cells #[.int .i64 f0, .int .i64 f1, .slice A2 f2.length c2] 45)))
        have HK1 := Aside0.mk (blk_new wr (.cells #[.int .i64 f0, .int .i64 f1, .slice A2 f2.length c2] 45))
        clear hC2 hsz hi hx hfi hil HO HC2
        go_wp2_with (fail)
        refine (flow_Find _ _ _ _ _ (Kd.C_below HF.out HB1.out)).mono ?_
        rintro e w1 ⟨rfl, hb1⟩
        rw [HI.out]
        obtain ⟨ad2, rfl, hz0, hz1, hz2, hz3, hz4, hz5⟩ := TFlow_nat (Kd.C_below HF.out (below_trans2 HB1.out hb1)) n hnl
        generalize hy : flows.getD n zFlow = y at *
        obtain ⟨g0, g1, g2, g3, g4, g5⟩ := y
        simp only at hz0 hz1 hz2 hz3 hz4 hz5
        have HB2 := Aside0.mk (below_trans2 HB1.out hb1)
        have HO2 := Aside0.mk (Kd.R_below HO1.out hb1)
        have HC4 := Aside0.mk (Kd.C_below HC3.out hb1)
        have HK2 := Aside0.mk (blk_below HK1.out hb1)
        clear hb1 HB1 HO1 HC3 HK1 hy hx0 hx1 hx2
        go_wp2_with (fail)
        refine (flow_Current _ _ _ _ _ _ _ _).mono ?_
        rintro e w2 ⟨rfl, hb2⟩
        generalize hcu : fcur ⟨g0, g1, g2, g3, g4, g5⟩ slot = cu at *
        obtain ⟨cn, cb⟩ := cu
        have HB3 := Aside0.mk (below_trans2 HB2.out hb2)
        have HO3 := Aside0.mk (Kd.R_below HO2.out hb2)
        have HC5 := Aside0.mk (Kd.C_below HC4.out hb2)
        have HK3 := Aside0.mk (blk_below HK2.out hb2)
        clear hb2 HB2 HO2 HC4 HK2 hcu hz0 hz1 hz2 hz3 hz4 hz5
        obtain ⟨cc0, cc1, cc2, cf⟩ := blk3 HK3.out
        have hx := HX.out
        clear HX
        simp only at hx ⊢
        by_cases hc : cb = true ∧ cn = f1
        · obtain ⟨rfl, rfl⟩ := hc
          rw [if_pos ⟨rfl, rfl⟩] at hx
          have HX := Aside0.mk hx
          clear hx
          go_wp2_with (fail)
          refine (node_own f0 cn f2 A2 c2 _ HC5.out HSZ.out).mono ?_
          rintro e w3 ⟨v1, rfl, hR1, hb3⟩
          have HR1 := Aside0.mk hR1
          have HB4 := Aside0.mk (below_trans2 HB3.out hb3)
          have HO4 := Aside0.mk (Kd.R_below HO3.out hb3)
          have hvl := Kd.R_lt HO3.out
          clear hR1 hb3 HO3 cc0 cc1 cc2 cf HK3 HC5
          go_wp2_with (at_builtin; refine Kd.R_append kHolding (w0 := w) w.heap.size rfl (.tmp 53) (.tmp 56) 23 45 (.agg #[.int .i64 0, .int .i64 0, .slice none 0 0]) 40 rfl Try.underlying23 info_Holding rfl (by decide) (by decide) _ acc ⟨f0, cn, f2⟩ [.int .i64 f0, .int .i64 cn, v1] (fun _ => True) (fun k => w2.heap.size ≤ k) rfl rfl ?c1 ?c2 ?c3 HO4.out HB4.out ?c4 ?c5 ?c6)
          case c1 => exact kHolding_mkM _ _ _ ⟨f0, cn, f2⟩ (Kd.R_mono (Kd.R_lower HR1.out HB3.out.size) (fun k hk => hk))
          case c2 => exact fun q hq => ⟨trivial, fun e => by have := hvl q e.symm; omega⟩
          case c3 => exact fun q _ => trivial
          case c4 => exact HB4.out.size
          case c5 =>
            have := HS2.out
            omega
          case c6 =>
            intro v4 w4 hR hb _ _
            have HR4 := Aside0.mk hR
            have HB5 := Aside0.mk hb
            clear hR hb hvl
            go_wp2
            go_roundg (l.length - (k + 1))
            case measure => omega
            case rel => exact ⟨k + 1, acc ++ [⟨f0, cn, f2⟩], by omega, by omega, by go_num, by simp; omega, HB5, HR4, HX⟩
        · rw [if_neg hc] at hx
          have HX := Aside0.mk hx
          clear hx
          cases cb with
          | false =>
            go_wp2
            go_roundg (l.length - (k + 1))
            case measure => omega
            case rel => exact ⟨k + 1, acc, by omega, by omega, by go_num, by omega, HB3, HO3, HX⟩
          | true =>
            have hcn : (cn == f1) = false := by simpa using hc
            go_wp2
            go_roundg (l.length - (k + 1))
            case measure => omega
            case rel => exact ⟨k + 1, acc, by omega, by omega, by go_num, by omega, HB3, HO3, HX⟩
      · obtain rfl : k = l.length := by omega
        have hlti : ¬ ((l.length : Int) < (l.length : Int)) := by omega
        have hx := HX.out
        rw [Nat.sub_self, begGo1] at hx
        subst hx
        clear HX
        have hal : acc.length ≤ l.length := hak
        clear hak hg hk
        obtain ⟨r2, hr2⟩ : ∃ r2, begGo2 flows self slot (flows.length - 0) 0 acc = r2 := ⟨_, rfl⟩
        have hrr := HRR3.out
        rw [show begGo2 flows self slot flows.length 0 acc = r2 from hr2] at hrr
        have HR2 := Aside0.mk hr2
        have HX := Aside0.mk hrr
        clear hr2 hrr HRR3
        have h16 := hck_flows HCK.out.1
        go_wp2
        go_loopg [11, 61] flows.length (fun gg v11 v61 wr => ∃ (k : Nat) (acc : List SHolding), k ≤ flows.length ∧ flows.length - k ≤ gg ∧ v61 = .int .i64 k ∧ acc.length ≤ l.length + k ∧ Aside0 (Below w.heap.size w wr) ∧ Aside0 (kHolding.R 45 wr w.heap.size (fun _ => True) v11 acc) ∧ Aside0 (begGo2 flows self slot (flows.length - k) k acc = r2))
        case atStart => exact ⟨0, acc, Nat.zero_le _, by omega, rfl, by omega, HB, HO, HR2⟩
        case round =>
          clear HR2 HB HO
          obtain ⟨k, acc, hk, hg, rfl, hak, HB, HO, HR2⟩ := hrel
          by_cases hlt : k < flows.length
          · obtain ⟨ad, rfl, hz0, hz1, hz2, hz3, hz4, hz5⟩ := TFlow_nat (Kd.C_below HF.out HB.out) k hlt
            have hlt2 : (k : Int) < (flows.length : Int) := by omega
            have hx := HR2.out
            rw [show flows.length - k = (flows.length - (k + 1)) + 1 by omega, begGo2] at hx
            clear HR2
            generalize hy : flows.getD k zFlow = y at *
            clear hy
            obtain ⟨g0, g1, g2, g3, g4, g5⟩ := y
            simp only at hz0 hz1 hz2 hz3 hz4 hz5 hx
            have HX2 := Aside0.mk hx
            have HB1 := Aside0.mk (show Below w.heap.size w (wr.alloc (.cells #[.int .i64 g0, .int .i64 g1, .int .i64 g2, .int .i64 g3, .int .i64 g4, .int .i64 g5] 33)) from HB.out.alloc HB.out.size _)
            have HO1 := Aside0.mk (Kd.R_below HO.out (below_alloc (Below.refl _ _) (.cells #[.int .i64 g0, .int .i64 g1, .int .i64 g2, .int .i64 g3, .int .i64 g4, .int .i64 g5] 33)))
            have HK1 := Aside0.mk (blk_new wr (.cells #[.int .i64 g0, .int .i64 g1, .int .i64 g2, .int .i64 g3, .int .i64 g4, .int .i64 g5] 33))
            clear hx HO
            go_wp2_with (fail)
            refine (flow_Current _ _ _ _ _ _ _ _).mono ?_
            rintro e w1 ⟨rfl, hb1⟩
            generalize hcu : fcur ⟨g0, g1, g2, g3, g4, g5⟩ slot = cu at *
            obtain ⟨cn, cb⟩ := cu
            have HB2 := Aside0.mk (below_trans2 HB1.out hb1)
            have HO2 := Aside0.mk (Kd.R_below HO1.out hb1)
            have HK2 := Aside0.mk (blk_below HK1.out hb1)
            clear hb1 HB1 HO1 HK1 hcu hz0 hz1 hz2 hz3 hz4 hz5
            obtain ⟨cc0, cc1, cc2, cc3, cc4, cc5⟩ := blk6 HK2.out
            have hx := HX2.out
            clear HX2
            simp only at hx ⊢
            cases cb with
            | false =>
              rw [if_neg (by simp)] at hx
              have HX2 := Aside0.mk hx
              clear hx
              go_wp2
              go_roundg (flows.length - (k + 1))
              case measure => omega
              case rel => exact ⟨k + 1, acc, by omega, by omega, by go_num, by omega, HB2, HO2, HX2⟩
            | true =>
              by_cases hse : g1 = self
              · subst hse
                have hse' : (g1 == g1) = true := by simp
                obtain ⟨A3, c3, rfl⟩ := Kd.R_slice HO2.out
                obtain ⟨_, _, he, _, hC⟩ := Kd.R_reads HO2.out
                obtain ⟨rfl, rfl⟩ : A3 = _ ∧ c3 = _ := by injection he with h1 h2 h3; exact ⟨h1, h3⟩
                have HC := Aside0.mk hC
                clear hC he
                generalize hi : ix (fun h : SHolding => h.f0 == g0) zHolding acc = i at hx
                have HI := Aside0.mk hi
                have HX3 := Aside0.mk hx
                clear hi hx
                go_wp2_with (fail)
                refine (node_find _ _ _ _ _ HC.out).mono ?_
                rintro e w2 ⟨rfl, hb2⟩
                rw [HI.out]
                have HB3 := Aside0.mk (below_trans2 HB2.out hb2)
                have HO3 := Aside0.mk (Kd.R_below HO2.out hb2)
                have HK3 := Aside0.mk (blk_below HK2.out hb2)
                clear hb2 HB2 HO2 HK2 HC HI cc0 cc1 cc2 cc3 cc4 cc5
                obtain ⟨cc0, cc1, cc2, cc3, cc4, cc5⟩ := blk6 HK3.out
                have hx := HX3.out
                clear HX3
                by_cases hi0 : i < 0
                · rw [if_pos (by simp [hi0])] at hx
                  have hi0' : decide (i < 0) = true := decide_eq_true hi0
                  have HX2 := Aside0.mk hx
                  clear hx
                  go_wp2_with (fail)
                  refine (node_add w.heap.size _ acc g0 cn _ HO3.out HB3.out.size (by have := HS2.out; omega)).mono ?_
                  rintro e w3 ⟨v3, rfl, hR', hg', hat'⟩
                  have HR' := Aside0.mk hR'
                  have HB4 := Aside0.mk (Below.grown HB3.out hg' HB3.out.size (Kd.R_base HO3.out))
                  clear hR' hg' hat' cc0 cc1 cc2 cc3 cc4 cc5 HK3
                  go_wp2
                  go_roundg (flows.length - (k + 1))
                  case measure => omega
                  case rel => exact ⟨k + 1, addH acc ⟨g0, cn, []⟩, by omega, by omega, by go_num, by rw [addH_length]; omega, HB4, HR', HX2⟩
                · rw [if_neg (fun h => hi0 h.2.2)] at hx
                  have hi0' : decide (i < 0) = false := decide_eq_false hi0
                  have HX2 := Aside0.mk hx
                  clear hx
                  go_wp2
                  go_roundg (flows.length - (k + 1))
                  case measure => omega
                  case rel => exact ⟨k + 1, acc, by omega, by omega, by go_num, by omega, HB3, HO3, HX2⟩
              · rw [if_neg (fun h => hse h.2.1)] at hx
                have hse' : (g1 == self) = false := by simpa using hse
                have HX2 := Aside0.mk hx
                clear hx
                go_wp2
                go_roundg (flows.length - (k + 1))
                case measure => omega
                case rel => exact ⟨k + 1, acc, by omega, by omega, by go_num, by omega, HB2, HO2, HX2⟩
          · obtain rfl : k = flows.length := by omega
            have hlt2 : ¬ ((flows.length : Int) < (flows.length : Int)) := by omega
            have hx := HR2.out
            rw [Nat.sub_self, begGo2] at hx
            subst hx
            go_wp2
            go_ret2
            exact ⟨_, by rw [HX.out]; rfl, by rw [HX.out]; exact HO.out, HB.out⟩
  · rw [if_pos h0] at hrr
    have h0' : (q != 0) = true := by simpa using h0
    have HX := Aside0.mk hrr
    clear hrr h0
    go_enter Try.func14, Try.ntmps14
    go_wp2_with (fail)
    refine (node_check _ _ _ _ _ _ _ _ _ HF.out HL.out).mono ?_
    rintro e w1 ⟨rfl, hb1⟩
    rw [HQ.out]
    have HB1 := Aside0.mk hb1
    clear hb1
    go_wp2
    go_ret2
    exact ⟨.slice none 0 0, by rw [HX.out]; rfl, by rw [HX.out]; exact Kd.R_nil _ _ _ _ _, HB1.out⟩
end Go.Proofs.Ytjgkalppjfmkoaa
