/- slices.Insert at ints, told of the row's elements. -/
import Derived.Test.YtjgkalppjfmkoaaInsI2
import Derived.Test.YtjgkalppjfmkoaaIns3
namespace Go.Proofs.Ytjgkalppjfmkoaa
open Go.RowKit Go.Shelf Go.Proofs.YtjgkalppjfmkoaaW.PrintWords
set_option linter.unusedVariables false
set_option linter.unusedSimpArgs false

def InsertPostI (w : World) (B : Nat) (v : Value) (ys : List Int) (e : Ending) (w' : World) : Prop :=
  ∃ v', e = .returned v' ∧ (Kd.int .i64).R 3 w' B (fun _ => True) v' ys ∧ w.grownBy w' v.ownBlock ∧ (v'.ownBlock = v.ownBlock ∨ ∃ b, v'.ownBlock = some b ∧ w.heap.size ≤ b)

/-- l with h at place i. -/
def insAtI (l : List Int) (i : Nat) (h : Int) : List Int := l.take i ++ [h] ++ l.drop i

set_option maxRecDepth 100000 in
set_option maxHeartbeats 4000000 in
theorem Insert_int (B : Nat) (v : Value) (l : List Int) (h : Int) (i : Nat) (hi : i ≤ l.length) (vb : Nat) (cs : List Value) (w : World) (okp : Nat → Prop)
    (hR : (Kd.int .i64).R 3 w B (fun _ => True) v l) (hM : (Kd.int .i64).M w B okp h cs) (hvb : w.heap[vb]? = some (.cells cs.toArray 3 (0, 0))) (hne : some vb ≠ v.ownBlock) (hok : ∀ k, okp k → some k ≠ v.ownBlock) (hB : B ≤ w.heap.size)
    (hlen : (l.length + 1) * 8 ≤ 140737488355328) :
    Calls Try.prog 55 #[v, .int .i64 i, .slice (some ⟨vb, 0, none⟩) 1 1] w (InsertPostI w B v (insAtI l i h)) := by
  have hcs : cs.length = 1 := (Kd.int .i64).K_len ((Kd.int .i64).K_of_M hM)
  have h2 : ∀ u ∈ cs, u.oneCell' = true := (Kd.int .i64).K_one ((Kd.int .i64).K_of_M hM)
  have hM' : (Kd.int .i64).M w B (fun k => True ∧ some k ≠ v.ownBlock) h cs := (Kd.int .i64).M_mono (fun k hk => ⟨trivial, hok k hk⟩) hM
  obtain ⟨_, inner, hown, hr⟩ := hR
  have hinner : inner.length = l.length := hr.1.trans (Nat.mul_one _)
  have hreps : Reps ((Kd.int .i64).M w B (fun k => True ∧ some k ≠ v.ownBlock)) (Kd.int .i64).sz (insAtI l i h) (inner.take i ++ cs ++ inner.drop i) := by
    have h1 := Kd.reps_take hr hi
    have h2 := Kd.reps_drop (m := i) hr
    rw [show i * (Kd.int .i64).sz = i from Nat.mul_one i] at h1 h2
    exact Kd.reps_append (Kd.reps_append h1 (Reps.snoc (Reps.none _ _) hM' hcs)) h2
  have hil : (insAtI l i h).length = l.length + 1 := by unfold insAtI; simp; omega
  have hone := Kd.reps_one hr (by decide) (fun p c hp => (Kd.int .i64).K_one ((Kd.int .i64).K_of_M hp))
  rcases Nat.lt_or_ge i l.length with hlt | hge
  · rcases hown.2 with ⟨rfl, h0⟩ | ⟨g, cap, cur, rfl, hbg, hh, hnc, hcm, hcs2, htk⟩
    · omega
    · have hneg : vb ≠ g := fun e => hne (by rw [e]; rfl)
      have htl : cur.toList.take (l.length) = inner := by rw [← htk]; show _ = List.take (l.length * 1) _; rw [Nat.mul_one]
      have hcs3 : cur.size = cap := hcs2.trans (Nat.mul_one _)
      have hcl : cur.toList.length = cap := by simpa using hcs3
      rcases Nat.lt_or_ge cap (l.length + 1) with hfull | hroom
      · obtain rfl : cap = l.length := by omega
        have hall : cur.toList = inner := by rw [← htl, List.take_of_length_le (by omega)]
        refine (InsertI_grow g l.length i vb inner cs w hlt hlen (by rw [← hall]; simpa using hh) hinner hvb hcs hone h2).mono ?_
        rintro e w' ⟨G, rest, rfl, hG1, hG2, hrl, hhp, hgr⟩
        refine ⟨_, rfl, ?_, ⟨hgr.os, hgr.tape, hgr.output, hgr.size, fun k hk _ => hgr.block k hk (by simp)⟩, .inr ⟨w.heap.size, rfl, Nat.le_refl _⟩⟩
        refine R_rebuilt (v := .slice (some ⟨g, 0, none⟩) l.length l.length) hreps ?_ ⟨hgr.os, hgr.tape, hgr.output, hgr.size, fun k hk _ => hgr.block k hk (by simp)⟩ (.inr ⟨w.heap.size, rfl, Nat.le_refl _⟩)
        rw [hil]
        refine ⟨by simp [hcs, hinner]; show _ = (l.length + 1) * 1; omega, .inr ⟨w.heap.size, G, _, rfl, hB, hhp, hG1, hG2, ?_, ?_⟩⟩
        · show _ = G * 1
          simp [hcs, hinner, hrl]; omega
        · show List.take ((l.length + 1) * 1) _ = _
          rw [List.toList_toArray, List.take_append_of_le_length (by simp [hcs, hinner]; omega), List.take_of_length_le (by simp [hcs, hinner]; omega)]
      · refine (InsertI_room g l.length cap i vb cur.toList cs w hlt hroom hcm (by simpa using hh) hcl hvb hneg hcs (by rw [htl]; exact hone) h2).mono ?_
        rintro e w' ⟨rfl, hhp, hgr⟩
        rw [htl] at hhp
        refine ⟨_, rfl, ?_, hgr, .inl rfl⟩
        refine R_rebuilt (v := .slice (some ⟨g, 0, none⟩) l.length cap) hreps ?_ hgr (.inl rfl)
        rw [hil]
        have htk2 : cur.toList.take (i) = inner.take (i) := by rw [← htl, List.take_take, Nat.min_eq_left (by omega)]
        rw [htk2] at hhp
        refine ⟨by simp [hcs, hinner]; show _ = (l.length + 1) * 1; omega, .inr ⟨g, cap, _, rfl, hbg, hhp, hroom, hcm, ?_, ?_⟩⟩
        · show _ = cap * 1
          have : cur.size = cap := hcs3
          simp [hcs, hinner]; omega
        · show List.take ((l.length + 1) * 1) _ = _
          rw [List.toList_toArray, List.take_append_of_le_length (by simp [hcs, hinner]; omega), List.take_of_length_le (by simp [hcs, hinner]; omega)]
  · obtain rfl : i = l.length := by omega
    have hins : insAtI l l.length h = l ++ [h] := by unfold insAtI; simp
    have hR2 : (Kd.int .i64).R 3 w B (fun _ => True) v l := ⟨fun _ _ => trivial, inner, hown, hr⟩
    obtain ⟨A, c, rfl⟩ := Kd.R_slice hR2
    have hread : ReadsRow ((Kd.int .i64).M w B okp) 1 w (some ⟨vb, 0, none⟩) 1 [h] := ⟨rfl, by omega, fun _ => ⟨_, rfl, fun j p hj => by
      obtain rfl : j = 0 := by
        rcases Nat.eq_zero_or_pos j with h0 | h0
        · exact h0
        · rw [List.getElem?_eq_none (by simp; omega)] at hj; cases hj
      simp only [List.getElem?_cons_zero, Option.some.injEq] at hj
      subst hj
      refine ⟨cs, hcs, hM, fun q u hu => ?_⟩
      rw [Addr.add_lit, cell_of_row w vb _ _ _ _ hvb]
      simpa using hu⟩⟩
    rw [hins]
    have HR := Aside0.mk hR2
    have HD := Aside0.mk hread
    have HL := Aside0.mk hlen
    have HOK := Aside0.mk hok
    clear hread hR2 hins hil hreps hinner hone hown hr hM hM' hcs h2 hvb hlen hok hne hi
    go_enter Try.func55, Try.ntmps55
    go_wp2_with (at_builtin; refine Kd.R_append_rows (Kd.int .i64) (w0 := w) B rfl (.tmp 23) (.tmp 24) 43 3 (.int .i64 0) 8 rfl Try.underlying43 info_i64 rfl (by decide) (by decide) _ l [h] _ 1 1 (fun _ => True) okp rfl rfl HR.out HD.out (fun x c hx => hx) (fun k hk => ⟨trivial, HOK.out k hk⟩) (fun _ _ => trivial) ?c1 hB ?c2 ?c3)
    case c1 => exact Below.refl _ _
    case c2 => exact HL.out
    all_goals
      intro v1 w1 hR1 _ hg1 hat1
      have HR1 := Aside0.mk hR1
      have HG1 := Aside0.mk hg1
      have HA1 := Aside0.mk hat1
      clear hR1 hg1 hat1
      go_wp2
      go_ret
      exact ⟨v1, rfl, HR1.out, (by have := HG1.out; cases A <;> exact this), (by have := HA1.out; cases A <;> exact this)⟩

end Go.Proofs.Ytjgkalppjfmkoaa
