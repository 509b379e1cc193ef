/- slices.Insert at holdings, told of the row's elements; node.add. -/
import Derived.Test.YtjgkalppjfmkoaaIns2
import Derived.Test.YtjgkalppjfmkoaaWArr
namespace Go.Proofs.Ytjgkalppjfmkoaa
open Go.RowKit Go.Shelf Go.Proofs.YtjgkalppjfmkoaaW.PrintWords
set_option linter.unusedVariables false
set_option linter.unusedSimpArgs false

/-- A row that was built anew, out of elements that stood outside the old row's block. -/
theorem R_rebuilt {α : Type} {d : Kd α} {e base : Nat} {W w1 : World} {v v1 : Value} {ys : List α} {inner : List Value} (hr : Reps (d.M W base (fun k => True ∧ some k ≠ v.ownBlock)) d.sz ys inner) (hown : w1.ownsRow base e d.sz v1 ys.length inner)
    (hg : W.grownBy w1 v.ownBlock) (hat : v1.ownBlock = v.ownBlock ∨ ∃ b, v1.ownBlock = some b ∧ W.heap.size ≤ b) : d.R e w1 base (fun _ => True) v1 ys := by
  refine ⟨fun _ _ => trivial, inner, hown, hr.imp_ (fun x c hp => ?_)⟩
  refine d.M_mono (fun k hk => ⟨trivial, ?_⟩) (d.M_move (w1 := w1) (fun k hk => hg.block k hk.2.2.1 hk.1.2) (d.M_bound hp))
  rcases hat with hat | ⟨b, hb, hle⟩
  · rw [hat]; exact hk.1.2
  · rw [hb]
    intro he
    injection he with he
    have := hk.2.2.1
    omega

def InsertPost (w : World) (B : Nat) (v : Value) (ys : List SHolding) (e : Ending) (w' : World) : Prop :=
  ∃ v', e = .returned v' ∧ kHolding.R 45 w' B (fun _ => True) v' ys ∧ w.grownBy w' v.ownBlock ∧ (v'.ownBlock = v.ownBlock ∨ ∃ b, v'.ownBlock = some b ∧ w.heap.size ≤ b)

/-- l with h at place i. -/
def insAt (l : List SHolding) (i : Nat) (h : SHolding) : List SHolding := l.take i ++ [h] ++ l.drop i

theorem kHolding_one {w : World} {B : Nat} {okk : Nat → Prop} (p : SHolding) (c : List Value) (hp : kHolding.M w B okk p c) : ∀ u ∈ c, u.oneCell' = true := fun u hu => kHolding.K_one (kHolding.K_of_M hp) u hu

set_option maxRecDepth 100000 in
set_option maxHeartbeats 4000000 in
theorem Insert_holding (B : Nat) (v : Value) (l : List SHolding) (h : SHolding) (i : Nat) (hi : i ≤ l.length) (vb : Nat) (cs : List Value) (w : World) (okp : Nat → Prop)
    (hR : kHolding.R 45 w B (fun _ => True) v l) (hM : kHolding.M w B okp h cs) (hvb : w.heap[vb]? = some (.cells cs.toArray 45 (0, 0))) (hne : some vb ≠ v.ownBlock) (hok : ∀ k, okp k → some k ≠ v.ownBlock) (hB : B ≤ w.heap.size)
    (hlen : (l.length + 1) * 40 ≤ 140737488355328) :
    Calls Try.prog 62 #[v, .int .i64 i, .slice (some ⟨vb, 0, none⟩) 1 1] w (InsertPost w B v (insAt l i h)) := by
  have hcs : cs.length = 3 := kHolding.K_len (kHolding.K_of_M hM)
  have h2 : ∀ u ∈ cs, u.oneCell' = true := kHolding_one _ _ hM
  have hM' : kHolding.M w B (fun k => True ∧ some k ≠ v.ownBlock) h cs := kHolding.M_mono (fun k hk => ⟨trivial, hok k hk⟩) hM
  obtain ⟨_, inner, hown, hr⟩ := hR
  have hinner : inner.length = l.length * 3 := hr.1
  have hreps : Reps (kHolding.M w B (fun k => True ∧ some k ≠ v.ownBlock)) 3 (insAt l i h) (inner.take (i * 3) ++ cs ++ inner.drop (i * 3)) :=
    Kd.reps_append (Kd.reps_append (Kd.reps_take hr hi) (Reps.snoc (Reps.none _ _) hM' hcs)) (Kd.reps_drop hr)
  have hil : (insAt l i h).length = l.length + 1 := by unfold insAt; simp; omega
  have hone := Kd.reps_one hr (by decide) (fun p c hp => kHolding_one p c hp)
  rcases Nat.lt_or_ge i l.length with hlt | hge
  · rcases hown.2 with ⟨rfl, h0⟩ | ⟨g, cap, cur, rfl, hbg, hh, hnc, hcm, hcs2, htk⟩
    · omega
    · have hneg : vb ≠ g := fun e => hne (by rw [e]; rfl)
      have htl : cur.toList.take (l.length * 3) = inner := htk
      have hcs3 : cur.size = cap * 3 := hcs2
      have hcl : cur.toList.length = cap * 3 := by simpa using hcs3
      rcases Nat.lt_or_ge cap (l.length + 1) with hfull | hroom
      · obtain rfl : cap = l.length := by omega
        have hall : cur.toList = inner := by rw [← htl, List.take_of_length_le (by omega)]
        refine (Insert_grow g l.length i vb inner cs w hlt hlen (by rw [← hall]; simpa using hh) hinner hvb hcs hone h2).mono ?_
        rintro e w' ⟨G, rest, rfl, hG1, hG2, hrl, hhp, hgr⟩
        refine ⟨_, rfl, ?_, ⟨hgr.os, hgr.tape, hgr.output, hgr.size, fun k hk _ => hgr.block k hk (by simp)⟩, .inr ⟨w.heap.size, rfl, Nat.le_refl _⟩⟩
        refine R_rebuilt (v := .slice (some ⟨g, 0, none⟩) l.length l.length) hreps ?_ ⟨hgr.os, hgr.tape, hgr.output, hgr.size, fun k hk _ => hgr.block k hk (by simp)⟩ (.inr ⟨w.heap.size, rfl, Nat.le_refl _⟩)
        rw [hil]
        refine ⟨by simp [hcs, hinner]; show _ = (l.length + 1) * 3; omega, .inr ⟨w.heap.size, G, _, rfl, hB, hhp, hG1, hG2, ?_, ?_⟩⟩
        · show _ = G * 3
          simp [hcs, hinner, hrl]; omega
        · show List.take ((l.length + 1) * 3) _ = _
          rw [List.toList_toArray, List.take_append_of_le_length (by simp [hcs, hinner]; omega), List.take_of_length_le (by simp [hcs, hinner]; omega)]
      · refine (Insert_room g l.length cap i vb cur.toList cs w hlt hroom hcm (by simpa using hh) hcl hvb hneg hcs (by rw [htl]; exact hone) h2).mono ?_
        rintro e w' ⟨rfl, hhp, hgr⟩
        rw [htl] at hhp
        refine ⟨_, rfl, ?_, hgr, .inl rfl⟩
        refine R_rebuilt (v := .slice (some ⟨g, 0, none⟩) l.length cap) hreps ?_ hgr (.inl rfl)
        rw [hil]
        have htk2 : cur.toList.take (i * 3) = inner.take (i * 3) := by rw [← htl, List.take_take, Nat.min_eq_left (by omega)]
        rw [htk2] at hhp
        refine ⟨by simp [hcs, hinner]; show _ = (l.length + 1) * 3; omega, .inr ⟨g, cap, _, rfl, hbg, hhp, hroom, hcm, ?_, ?_⟩⟩
        · show _ = cap * 3
          have : cur.size = cap * 3 := hcs2
          simp [hcs, hinner]; omega
        · show List.take ((l.length + 1) * 3) _ = _
          rw [List.toList_toArray, List.take_append_of_le_length (by simp [hcs, hinner]; omega), List.take_of_length_le (by simp [hcs, hinner]; omega)]
  · obtain rfl : i = l.length := by omega
    have hins : insAt l l.length h = l ++ [h] := by unfold insAt; simp
    have hR2 : kHolding.R 45 w B (fun _ => True) v l := ⟨fun _ _ => trivial, inner, hown, hr⟩
    obtain ⟨A, c, rfl⟩ := Kd.R_slice hR2
    have hread : ReadsRow (kHolding.M w B okp) 3 w (some ⟨vb, 0, none⟩) 1 [h] := ⟨rfl, by omega, fun _ => ⟨_, rfl, fun j p hj => by
      obtain rfl : j = 0 := by
        rcases Nat.eq_zero_or_pos j with h0 | h0
        · exact h0
        · rw [List.getElem?_eq_none (by simp; omega)] at hj; cases hj
      simp only [List.getElem?_cons_zero, Option.some.injEq] at hj
      subst hj
      refine ⟨cs, hcs, hM, fun q u hu => ?_⟩
      rw [Addr.add_lit, cell_of_row w vb _ _ _ _ hvb]
      simpa using hu⟩⟩
    rw [hins]
    have HR := Aside0.mk hR2
    have HD := Aside0.mk hread
    have HL := Aside0.mk hlen
    have HOK := Aside0.mk hok
    clear hread hR2 hins hil hreps hinner hone hown hr hM hM' hcs h2 hvb hlen hok hne hi
    go_enter Try.func62, Try.ntmps62
    go_wp2_with (at_builtin; refine Kd.R_append_rows kHolding (w0 := w) B rfl (.tmp 23) (.tmp 24) 23 45 (.agg #[.int .i64 0, .int .i64 0, .slice none 0 0]) 40 rfl Try.underlying23 info_Holding rfl (by decide) (by decide) _ l [h] _ 1 1 (fun _ => True) okp rfl rfl HR.out HD.out (fun x c hx => hx) (fun k hk => ⟨trivial, HOK.out k hk⟩) (fun _ _ => trivial) ?c1 hB ?c2 ?c3)
    case c1 => exact Below.refl _ _
    case c2 => exact HL.out
    all_goals
      intro v1 w1 hR1 _ hg1 hat1
      have HR1 := Aside0.mk hR1
      have HG1 := Aside0.mk hg1
      have HA1 := Aside0.mk hat1
      clear hR1 hg1 hat1
      go_wp2
      go_ret
      exact ⟨v1, rfl, HR1.out, (by have := HG1.out; cases A <;> exact this), (by have := HA1.out; cases A <;> exact this)⟩

/-- node.add's answer. -/
def addH (l : List SHolding) (h : SHolding) : List SHolding := insAt l (bsGo l h.f0 (l.length + 1) 0 l.length) h
theorem bsGo_le (l : List SHolding) (id : Int) : ∀ (d i j : Nat), i ≤ j → bsGo l id d i j ≤ j
  | 0, i, j, h => h
  | d + 1, i, j, h => by
    unfold bsGo
    split
    · split
      · exact bsGo_le l id d _ _ (by omega)
      · exact Nat.le_trans (bsGo_le l id d _ _ (by omega)) (by omega)
    · exact h

set_option maxHeartbeats 1000000 in
/-- A holding without acknowledgements, added to a row of the call's own. -/
theorem node_add (B : Nat) (v : Value) (l : List SHolding) (f0 f1 : Int) (w : World) (hR : kHolding.R 45 w B (fun _ => True) v l) (hB : B ≤ w.heap.size) (hlen : (l.length + 1) * 40 ≤ 140737488355328) :
    Calls Try.prog 32 #[v, .agg #[.int .i64 f0, .int .i64 f1, .slice none 0 0]] w (InsertPost w B v (addH l ⟨f0, f1, []⟩)) := by
  obtain ⟨A, c, rfl⟩ := Kd.R_slice hR
  obtain ⟨_, _, he, _, hC⟩ := Kd.R_reads hR
  obtain ⟨rfl, rfl⟩ : A = _ ∧ c = _ := by injection he with h1 h2 h3; exact ⟨h1, h3⟩
  clear he
  obtain ⟨i, hi⟩ : ∃ i, i = bsGo l f0 (l.length + 1) 0 l.length := ⟨_, rfl⟩
  have hil : i ≤ l.length := by rw [hi]; exact bsGo_le l f0 _ _ _ (Nat.zero_le _)
  have hadd : addH l ⟨f0, f1, []⟩ = insAt l i ⟨f0, f1, []⟩ := by rw [hi]; rfl
  have hvl := Kd.R_lt hR
  rw [hadd]
  have HC := Aside0.mk hC
  have HR := Aside0.mk hR
  have HI := Aside0.mk hi
  have HL := Aside0.mk hlen
  have hn : l.length < 4611686018427387904 := by omega
  have HN := Aside0.mk hn
  have HVL := Aside0.mk hvl
  have HB := Aside0.mk (show Below w.heap.size w (w.alloc (.cells #[.int .i64 f0, .int .i64 f1, .slice none 0 0] 45)) from (Below.refl _ _).alloc (Nat.le_refl _) _)
  clear hC hR hi hlen hadd hn hvl
  go_enter Try.func32, Try.ntmps32
  go_wp2_with (fail)
  refine (BinarySearch_holding _ _ _ _ _ (Kd.C_below HC.out HB.out) HN.out).mono ?_
  rintro e w1 ⟨b, rfl, hb1⟩
  rw [← HI.out]
  have HK := Aside0.mk (blk_below (blk_new w (.cells #[.int .i64 f0, .int .i64 f1, .slice none 0 0] 45)) hb1)
  have HB1 := Aside0.mk (below_trans2 HB.out hb1)
  have hsz := hb1.size
  clear hb1
  obtain ⟨cc0, cc1, cc2, cf⟩ := blk3 HK.out
  go_wp2_with (fail)
  have HB2 := Aside0.mk (show Below w.heap.size w (w1.alloc (.cells #[.int .i64 f0, .int .i64 f1, .slice none 0 0] 45)) from below_alloc HB1.out _)
  refine (Insert_holding B _ l ⟨f0, f1, []⟩ i hil w1.heap.size [.int .i64 f0, .int .i64 f1, .slice none 0 0] _ (fun _ => False) (Kd.R_below HR.out HB2.out) (kHolding_mkM _ _ _ ⟨f0, f1, []⟩ (Kd.R_nil _ _ _ _ _)) (blk_new w1 _) (fun e => ?_) (fun _ h => h.elim) (by have := HB2.out.size; omega) HL.out).mono ?_
  · have h1 := HVL.out _ e.symm
    have h2 := HB1.out.size
    omega
  · rintro e w' ⟨v', rfl, hR', hg', hat'⟩
    have HR' := Aside0.mk hR'
    have HG' := Aside0.mk ((grown_of_below HB2.out _).trans hg')
    have HA' := Aside0.mk hat'
    clear hR' hg' hat' cc0 cc1 cc2 cf
    go_wp2
    go_ret
    refine ⟨v', rfl, HR'.out, HG'.out, HA'.out.imp id (fun ⟨b, hb, hle⟩ => ⟨b, hb, Nat.le_trans HB2.out.size hle⟩)⟩
end Go.Proofs.Ytjgkalppjfmkoaa
