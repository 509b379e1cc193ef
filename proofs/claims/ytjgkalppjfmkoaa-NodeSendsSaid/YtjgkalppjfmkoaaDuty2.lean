/- Package switchover: At, over a contract of the sort. -/
import Derived.Test.YtjgkalppjfmkoaaDuty1
import Derived.Laws.EntriesVeiled
namespace Go.Proofs.Ytjgkalppjfmkoaa
open Go.RowKit Go.Shelf Go.Proofs.YtjgkalppjfmkoaaW.PrintWords
set_option linter.unusedVariables false
set_option linter.unusedSimpArgs false

/-- Is a duty one of a slot? -/
def dueB (length slot : Int) (x : SDuty) : Bool := (x.f0.f0 == slot.tmod length) && decide (x.f3 ≤ slot) && ((x.f4 == -1) || decide (slot < x.f4))
def dueGo (length slot : Int) (l : List SDuty) : Nat → Nat → List SDuty → List SDuty
  | 0, _, acc => acc
  | d + 1, k, acc => dueGo length slot l d (k + 1) (if dueB length slot (l.getD k zDuty) = true then acc ++ [l.getD k zDuty] else acc)
/-- switchover.At's answer, srt being the sort. -/
def atD (srt : List SDuty → List SDuty) (length slot : Int) (l : List SDuty) : List SDuty × Int :=
  if length < 1 ∨ 512 < length ∨ slot < 0 then ([], 2) else (srt (dueGo length slot l l.length 0 []), 0)
theorem dueGo_length (length slot : Int) (l : List SDuty) : ∀ (d k : Nat) (acc : List SDuty), (dueGo length slot l d k acc).length ≤ acc.length + d
  | 0, _, acc => by simp [dueGo]
  | d + 1, k, acc => by
    rw [dueGo]
    refine Nat.le_trans (dueGo_length length slot l d (k + 1) _) ?_
    split <;> simp <;> omega

/-- What is asked of slices.SortStableFunc at duties, by At's comparison, up to a length. -/
def SortC (lim : Nat) (srt : List SDuty → List SDuty) : Prop :=
  ∀ (W : World) (v : Value) (xs : List SDuty) (B bT : Nat), xs.length ≤ lim → kDuty.R 63 W B (fun _ => True) v xs → W.cell? ⟨bT, 0, none⟩ = some (.func (.func 48) #[] #[]) → bT < W.heap.size → some bT ≠ v.ownBlock →
    Calls Try.prog 50 #[v, .func (.func 51) #[] #[.pointer (some ⟨bT, 0, none⟩)]] W fun e w' => e = .returned (.tuple #[]) ∧ kDuty.R 63 w' B (fun _ => True) v (srt xs) ∧ W.grownBy w' v.ownBlock

def OwnDuties (w : World) (r : List SDuty × Int) (e : Ending) (w' : World) : Prop := ∃ v, e = .returned (.tuple #[v, .int .i64 r.2]) ∧ kDuty.R 63 w' w.heap.size (fun _ => True) v r.1 ∧ Below w.heap.size w w'

set_option maxRecDepth 100000 in
set_option maxHeartbeats 4000000 in
theorem switch_At (lim : Nat) (srt : List SDuty → List SDuty) (hsrt : SortC lim srt) (A : Option Addr) (c : Nat) (l : List SDuty) (length slot : Int) (w : World) (hr : Kd.C kDuty w A l.length l) (hl : (l.length + 1) * 64 ≤ 140737488355328) (hlim : (dueGo length slot l l.length 0 []).length ≤ lim) :
    Calls Try.prog 20 #[.slice A l.length c, .int .i64 length, .int .i64 slot] w (OwnDuties w (atD srt length slot l)) := by
  have hn := hr.2.1
  have HR := Aside0.mk hr
  have HL := Aside0.mk hl
  have HSRT := Aside0.mk hsrt
  have HLIM := Aside0.mk hlim
  obtain ⟨r, hrr⟩ : ∃ r, r = atD srt length slot l := ⟨_, rfl⟩
  rw [← hrr]
  unfold atD at hrr
  clear hr hl hsrt hlim
  by_cases hbad : length < 1 ∨ 512 < length ∨ slot < 0
  · rw [if_pos hbad] at hrr
    have HX := Aside0.mk hrr
    clear hrr
    have key : decide (length < 1) = true ∨ (decide (length < 1) = false ∧ decide (512 < length) = true) ∨ (decide (length < 1) = false ∧ decide (512 < length) = false ∧ decide (slot < 0) = true) := by
      simp only [decide_eq_true_eq, decide_eq_false_iff_not]; omega
    clear hbad
    rcases key with g1 | ⟨g1, g2⟩ | ⟨g1, g2, g3⟩
    all_goals
      go_enter Try.func20, Try.ntmps20
      go_wp2
      go_ret2
      exact ⟨.slice none 0 0, by rw [HX.out]; rfl, by rw [HX.out]; exact Kd.R_nil _ _ _ _ _, Below.refl _ _⟩
  · rw [if_neg hbad] at hrr
    have g1 : decide (length < 1) = false := decide_eq_false (by omega)
    have g2 : decide (512 < length) = false := decide_eq_false (by omega)
    have g3 : decide (slot < 0) = false := decide_eq_false (by omega)
    have g4 : length ≠ 0 := by omega
    obtain ⟨fin, hfin⟩ : ∃ fin, dueGo length slot l (l.length - 0) 0 [] = fin := ⟨_, rfl⟩
    rw [show dueGo length slot l l.length 0 [] = fin from hfin] at hrr
    have HFL := Aside0.mk (show fin.length ≤ lim by rw [← hfin]; exact HLIM.out)
    have H0 := Aside0.mk hfin
    have HX := Aside0.mk hrr
    have HB0 := Aside0.mk (show Below w.heap.size w (w.alloc (.cells #[.func (.func 48) #[] #[]] 79)) from (Below.refl _ _).alloc (Nat.le_refl _) _)
    have HK0 := Aside0.mk (blk_new w (.cells #[.func (.func 48) #[] #[]] 79))
    clear hrr hfin hbad HLIM
    go_enter Try.func20, Try.ntmps20
    go_wp2
    go_loopg [9, 24] l.length (fun gg v9 v24 wr => ∃ (k : Nat) (acc : List SDuty), k ≤ l.length ∧ l.length - k ≤ gg ∧ v24 = .int .i64 k ∧ acc.length ≤ k ∧ Aside0 (Below w.heap.size w wr) ∧ Aside0 (wr.heap[w.heap.size]? = some (.cells #[.func (.func 48) #[] #[]] 79 (0, 0))) ∧ Aside0 (kDuty.R 63 wr w.heap.size (fun _ => True) v9 acc ∧ some w.heap.size ≠ v9.ownBlock) ∧ Aside0 (dueGo length slot l (l.length - k) k acc = fin))
    case atStart => exact ⟨0, [], Nat.zero_le _, by omega, rfl, Nat.le_refl _, HB0, HK0, ⟨Kd.R_nil _ _ _ _ _, by simp [Value.ownBlock]⟩, H0⟩
    case round =>
      clear H0 HB0 HK0
      obtain ⟨k, acc, hk, hg, rfl, hak, HB, HK, HO, HY⟩ := hrel
      by_cases hlt : k < l.length
      · obtain ⟨ad, rfl, hx0, hx1, hx2, hx3, hx4, hx5, hx6, hx7, hx8⟩ := TDuty_nat (Kd.C_below HR.out HB.out) k hlt
        have hlti : (k : Int) < (l.length : Int) := by omega
        have hy := HY.out
        rw [show l.length - k = (l.length - (k + 1)) + 1 by omega, dueGo] at hy
        clear HY
        generalize l.getD k zDuty = x at *
        obtain ⟨⟨x0, x1, x2, x3, x4⟩, x5, x6, x7, x8⟩ := x
        obtain ⟨b, hb⟩ : ∃ b, dueB length slot ⟨⟨x0, x1, x2, x3, x4⟩, x5, x6, x7, x8⟩ = b := ⟨_, rfl⟩
        rw [hb] at hy
        unfold dueB at hb
        simp only at hx0 hx1 hx2 hx3 hx4 hx5 hx6 hx7 hx8 hy hb
        have HY := Aside0.mk hy
        clear hy
        have HB1 := Aside0.mk (show Below w.heap.size w (wr.alloc (.cells #[.int .i64 x0, .int .i64 x1, .int .i64 x2, .int .i64 x3, .int .i64 x4, .bool x5, .bool x6, .int .i64 x7, .int .i64 x8] 63)) from HB.out.alloc HB.out.size _)
        have HK1 := Aside0.mk (blk_alloc HK.out (.cells #[.int .i64 x0, .int .i64 x1, .int .i64 x2, .int .i64 x3, .int .i64 x4, .bool x5, .bool x6, .int .i64 x7, .int .i64 x8] 63))
        have HX1 := Aside0.mk (blk_new wr (.cells #[.int .i64 x0, .int .i64 x1, .int .i64 x2, .int .i64 x3, .int .i64 x4, .bool x5, .bool x6, .int .i64 x7, .int .i64 x8] 63))
        have HO1 := Aside0.mk (Kd.R_below HO.out.1 (below_alloc (Below.refl _ _) (.cells #[.int .i64 x0, .int .i64 x1, .int .i64 x2, .int .i64 x3, .int .i64 x4, .bool x5, .bool x6, .int .i64 x7, .int .i64 x8] 63)))
        have HNE := Aside0.mk HO.out.2
        have key : ((x0 == slot.tmod length) = false ∧ b = false) ∨ ((x0 == slot.tmod length) = true ∧ decide (x7 ≤ slot) = false ∧ b = false) ∨ ((x0 == slot.tmod length) = true ∧ decide (x7 ≤ slot) = true ∧ (x8 == -1) = true ∧ b = true) ∨
            ((x0 == slot.tmod length) = true ∧ decide (x7 ≤ slot) = true ∧ (x8 == -1) = false ∧ decide (slot < x8) = true ∧ b = true) ∨ ((x0 == slot.tmod length) = true ∧ decide (x7 ≤ slot) = true ∧ (x8 == -1) = false ∧ decide (slot < x8) = false ∧ b = false) := by
          clear HY
          generalize (x0 == slot.tmod length) = p1 at hb ⊢
          generalize decide (x7 ≤ slot) = p2 at hb ⊢
          generalize (x8 == -1) = p3 at hb ⊢
          generalize decide (slot < x8) = p4 at hb ⊢
          subst hb
          revert p1 p2 p3 p4
          decide
        clear hb HO
        rcases key with ⟨k1, rfl⟩ | ⟨k1, k2, rfl⟩ | ⟨k1, k2, k3, rfl⟩ | ⟨k1, k2, k3, k4, rfl⟩ | ⟨k1, k2, k3, k4, rfl⟩
        all_goals
          obtain ⟨cc0, cc1, cc2, cc3, cc4, cc5, cc6, cc7, cc8⟩ := blk9 HX1.out
          have dd0 := lat_cell cc0
          have dd7 := lat_cell cc7
          have dd8 := lat_cell cc8
          go_wp2_with (fail)
          refine wp_region_lat (by kernel_rfl) (by kernel_rfl) ?_
          repeat (go_big_quiet_step (fail))
          refine wpQuiet_nil ?_
          intro wq hw'
          obtain ⟨⟨_, hq⟩, rfl⟩ := hw'
          have HB2 := Aside0.mk (below_trans2 HB1.out hq)
          have HK2 := Aside0.mk (blk_below HK1.out hq)
          have HX2 := Aside0.mk (blk_below HX1.out hq)
          have HO2 := Aside0.mk (Kd.R_below HO1.out hq)
          have hy := HY.out
          clear hq dd0 dd7 dd8 cc0 cc1 cc2 cc3 cc4 cc5 cc6 cc7 cc8 hx0 hx1 hx2 hx3 hx4 hx5 hx6 hx7 hx8 HY HB1 HK1 HX1 HO1
        · rw [if_neg (by simp)] at hy
          have HY := Aside0.mk hy
          clear hy
          go_wp2
          go_roundg (l.length - (k + 1))
          case measure => omega
          case rel => exact ⟨k + 1, acc, by omega, by omega, by go_num, by omega, HB2, HK2, ⟨HO2.out, HNE.out⟩, HY⟩
        · rw [if_neg (by simp)] at hy
          have HY := Aside0.mk hy
          clear hy
          go_wp2
          go_roundg (l.length - (k + 1))
          case measure => omega
          case rel => exact ⟨k + 1, acc, by omega, by omega, by go_num, by omega, HB2, HK2, ⟨HO2.out, HNE.out⟩, HY⟩
        · first | rw [if_pos rfl] at hy | rw [if_pos trivial] at hy
          have HY := Aside0.mk hy
          clear hy
          obtain ⟨cc0, cc1, cc2, cc3, cc4, cc5, cc6, cc7, cc8⟩ := blk9 HX2.out
          go_wp2_with (refine gate_ (.call { callee := .builtin .append, args := #[.tmp 52, .tmp 54], argTypes := #[54, 54] }) rfl ?_; refine Kd.R_append kDuty (w0 := w) w.heap.size rfl (.tmp 52) (.tmp 54) 54 63 (.agg #[.int .i64 0, .int .i64 0, .int .i64 0, .int .i64 0, .int .i64 0, .bool false, .bool false, .int .i64 0, .int .i64 0]) 64 rfl Try.underlying54 info_Duty rfl (by decide) (by decide) _ acc ⟨⟨x0, x1, x2, x3, x4⟩, x5, x6, x7, x8⟩ [.int .i64 x0, .int .i64 x1, .int .i64 x2, .int .i64 x3, .int .i64 x4, .bool x5, .bool x6, .int .i64 x7, .int .i64 x8] (fun _ => True) (fun _ => False) rfl rfl ?c1 ?c2 ?c3 HO2.out HB2.out ?c4 ?c5 ?c6)
          case c1 => exact kDuty_mkM _ _ _ ⟨⟨x0, x1, x2, x3, x4⟩, x5, x6, x7, x8⟩
          case c2 => exact fun q hq => hq.elim
          case c3 => exact fun q _ => trivial
          case c4 => exact HB2.out.size
          case c5 =>
            have := HL.out
            omega
          case c6 =>
            intro v4 w4 hR hb hg4 hat4
            have HR4 := Aside0.mk (And.intro hR (show some w.heap.size ≠ v4.ownBlock from by
              rcases hat4 with h | ⟨b, h, hle⟩
              · rw [h]; exact HNE.out
              · rw [h]; intro he; injection he with he; have := blk_lt HK2.out; omega))
            have HB4 := Aside0.mk hb
            have HK4 := Aside0.mk (show w4.heap[w.heap.size]? = some (.cells #[.func (.func 48) #[] #[]] 79 (0, 0)) from (hg4.block _ (blk_lt HK2.out) HNE.out).trans HK2.out)
            clear hR hb hg4 hat4 cc0 cc1 cc2 cc3 cc4 cc5 cc6 cc7 cc8
            go_wp2
            go_roundg (l.length - (k + 1))
            case measure => omega
            case rel => exact ⟨k + 1, acc ++ [⟨⟨x0, x1, x2, x3, x4⟩, x5, x6, x7, x8⟩], by omega, by omega, by go_num, by simp; omega, HB4, HK4, HR4, HY⟩
        · first | rw [if_pos rfl] at hy | rw [if_pos trivial] at hy
          have HY := Aside0.mk hy
          clear hy
          obtain ⟨cc0, cc1, cc2, cc3, cc4, cc5, cc6, cc7, cc8⟩ := blk9 HX2.out
          go_wp2_with (refine gate_ (.call { callee := .builtin .append, args := #[.tmp 52, .tmp 54], argTypes := #[54, 54] }) rfl ?_; refine Kd.R_append kDuty (w0 := w) w.heap.size rfl (.tmp 52) (.tmp 54) 54 63 (.agg #[.int .i64 0, .int .i64 0, .int .i64 0, .int .i64 0, .int .i64 0, .bool false, .bool false, .int .i64 0, .int .i64 0]) 64 rfl Try.underlying54 info_Duty rfl (by decide) (by decide) _ acc ⟨⟨x0, x1, x2, x3, x4⟩, x5, x6, x7, x8⟩ [.int .i64 x0, .int .i64 x1, .int .i64 x2, .int .i64 x3, .int .i64 x4, .bool x5, .bool x6, .int .i64 x7, .int .i64 x8] (fun _ => True) (fun _ => False) rfl rfl ?c1 ?c2 ?c3 HO2.out HB2.out ?c4 ?c5 ?c6)
          case c1 => exact kDuty_mkM _ _ _ ⟨⟨x0, x1, x2, x3, x4⟩, x5, x6, x7, x8⟩
          case c2 => exact fun q hq => hq.elim
          case c3 => exact fun q _ => trivial
          case c4 => exact HB2.out.size
          case c5 =>
            have := HL.out
            omega
          case c6 =>
            intro v4 w4 hR hb hg4 hat4
            have HR4 := Aside0.mk (And.intro hR (show some w.heap.size ≠ v4.ownBlock from by
              rcases hat4 with h | ⟨b, h, hle⟩
              · rw [h]; exact HNE.out
              · rw [h]; intro he; injection he with he; have := blk_lt HK2.out; omega))
            have HB4 := Aside0.mk hb
            have HK4 := Aside0.mk (show w4.heap[w.heap.size]? = some (.cells #[.func (.func 48) #[] #[]] 79 (0, 0)) from (hg4.block _ (blk_lt HK2.out) HNE.out).trans HK2.out)
            clear hR hb hg4 hat4 cc0 cc1 cc2 cc3 cc4 cc5 cc6 cc7 cc8
            go_wp2
            go_roundg (l.length - (k + 1))
            case measure => omega
            case rel => exact ⟨k + 1, acc ++ [⟨⟨x0, x1, x2, x3, x4⟩, x5, x6, x7, x8⟩], by omega, by omega, by go_num, by simp; omega, HB4, HK4, HR4, HY⟩
        · rw [if_neg (by simp)] at hy
          have HY := Aside0.mk hy
          clear hy
          go_wp2
          go_roundg (l.length - (k + 1))
          case measure => omega
          case rel => exact ⟨k + 1, acc, by omega, by omega, by go_num, by omega, HB2, HK2, ⟨HO2.out, HNE.out⟩, HY⟩
      · obtain rfl : k = l.length := by omega
        have hlti : ¬ ((l.length : Int) < (l.length : Int)) := by omega
        have hy := HY.out
        rw [Nat.sub_self, dueGo] at hy
        subst hy
        have HBM := Aside0.mk (HSRT.out _ _ acc w.heap.size w.heap.size HFL.out HO.out.1 (cell_of_row _ _ 0 _ _ (0, 0) HK.out) (blk_lt HK.out) HO.out.2)
        go_wp2_with (fail)
        refine HBM.out.mono ?_
        rintro e w' ⟨rfl, hR', hg'⟩
        have HR' := Aside0.mk hR'
        have HBE := Aside0.mk (HB.out.grown hg' HB.out.size (Kd.R_base HO.out.1))
        clear hR' hg'
        go_wp2
        go_ret2
        exact ⟨_, by rw [HX.out]; rfl, by rw [HX.out]; exact HR'.out, HBE.out⟩
end Go.Proofs.Ytjgkalppjfmkoaa
