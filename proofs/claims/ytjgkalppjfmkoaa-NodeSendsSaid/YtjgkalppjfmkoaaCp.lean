/- slices.Clone at holdings, and the law's copy of holdings. -/
import Derived.Test.YtjgkalppjfmkoaaClone1
namespace Go.Proofs.Ytjgkalppjfmkoaa
open Go.RowKit Go.Shelf Go.Proofs.YtjgkalppjfmkoaaW.PrintWords
set_option linter.unusedVariables false
set_option linter.unusedSimpArgs false

/-- A holding of the call's own (true), or one whose cells alone are the call's, the rest lying in D (false). -/
def kCp (D : World) : Kd (SHolding × Bool) where
  sz := 3
  E := kHolding.E
  K := fun w x cs => (x.2 = true → kHolding.K w x.1 cs) ∧ (x.2 = false → kHolding.K D x.1 cs)
  M := fun w base ok x cs => (x.2 = true → kHolding.M w base ok x.1 cs) ∧ (x.2 = false → kHolding.K D x.1 cs)
  K_len := fun {w x cs} h => by
    cases hx : x.2
    · exact kHolding.K_len (h.2 hx)
    · exact kHolding.K_len (h.1 hx)
  K_one := fun {w x cs} h => by
    cases hx : x.2
    · exact kHolding.K_one (h.2 hx)
    · exact kHolding.K_one (h.1 hx)
  K_below := fun hb h => ⟨fun hx => kHolding.K_below hb (h.1 hx), h.2⟩
  K_of_M := fun h => ⟨fun hx => kHolding.K_of_M (h.1 hx), h.2⟩
  M_mono := fun hok h => ⟨fun hx => kHolding.M_mono hok (h.1 hx), h.2⟩
  M_bound := fun h => ⟨fun hx => kHolding.M_bound (h.1 hx), h.2⟩
  M_move := fun hm h => ⟨fun hx => kHolding.M_move hm (h.1 hx), h.2⟩
  M_lower := fun hb h => ⟨fun hx => kHolding.M_lower hb (h.1 hx), h.2⟩

theorem ReadsRow_map {α β : Type} {R : α → List Value → Prop} {R' : β → List Value → Prop} (f : α → β) {size : Nat} {w : World} {A : Option Addr} {n : Nat} {ps : List α} (h : ReadsRow R size w A n ps) (hR : ∀ p c, R p c → R' (f p) c) : ReadsRow R' size w A n (ps.map f) :=
  ⟨by rw [List.length_map]; exact h.1, h.2.1, fun hn => by
    obtain ⟨ad, e, hc⟩ := h.2.2 hn
    refine ⟨ad, e, fun j p hj => ?_⟩
    rw [List.getElem?_map] at hj
    obtain ⟨q, hq, rfl⟩ := Option.map_eq_some_iff.1 hj
    obtain ⟨c, h1, h2, h3⟩ := hc j q hq
    exact ⟨c, h1, hR _ _ h2, h3⟩⟩

set_option maxRecDepth 100000 in
set_option maxHeartbeats 1000000 in
theorem Clone_holding (A : Option Addr) (c : Nat) (l : List SHolding) (w : World) (hr : Kd.C kHolding w A l.length l) (hl : l.length * 40 ≤ 140737488355328) :
    Calls Try.prog 33 #[.slice A l.length c] w (OwnRowPost (kCp w) 45 w (l.map (·, false))) := by
  cases A with
  | none =>
    obtain rfl := C_nil hr
    clear hl
    have heq := fun W : World => Lib.run_eql_slice_nil (P := Try.prog) W 23 45 none 0 c 0 0 Try.underlying23
    go_enter Try.func33, Try.ntmps33
    go_wp2
    go_ret
    exact ⟨_, rfl, Kd.R_nil _ _ _ _ _, Below.refl _ _⟩
  | some ad =>
    have hM : ReadsRow ((kCp w).M (w.alloc (.cells #[] 45)) w.heap.size (fun _ => False)) 3 (w.alloc (.cells #[] 45)) (some ad) l.length (l.map (·, false)) :=
      ReadsRow.imp_ (ReadsRow_map (·, false) hr (R' := fun p c => p.2 = false ∧ kHolding.K w p.1 c) (fun x cs hK => ⟨rfl, hK⟩)) (below_alloc (Below.refl _ _) _) (fun x cs hK => ⟨fun hx => (by rw [hK.1] at hx; cases hx), fun _ => hK.2⟩)
    have HM := Aside0.mk hM
    have HL := Aside0.mk hl
    have HB := Aside0.mk (below_alloc (Below.refl w.heap.size w) (.cells #[] 45))
    have HR := Aside0.mk (R_empty (kCp w) 45 (W := w.alloc (.cells #[] 45)) (base := w.heap.size) (Nat.le_refl _) (blk_new w _))
    have heq := fun W : World => Lib.run_eql_slice_nil (P := Try.prog) W 23 45 (some ad) l.length c 0 0 Try.underlying23
    clear hr hM hl
    go_enter Try.func33, Try.ntmps33
    go_wp2_with (at_builtin; refine Kd.R_append_rows (kCp w) (w0 := w) w.heap.size rfl (.tmp 5) (.tmp 6) 23 45 (.agg #[.int .i64 0, .int .i64 0, .slice none 0 0]) 40 rfl Try.underlying23 info_Holding rfl (show 0 < 3 by decide) (by decide) _ [] (l.map (·, false)) _ l.length c (fun _ => True) (fun _ => False) rfl rfl HR.out HM.out (fun x c hx => hx) (fun k hk => hk.elim) (fun _ _ => trivial) HB.out ?c1 ?c2 ?c3)
    case c1 => simp
    case c2 => have := HL.out; simpa using this
    all_goals
      intro v1 w1 hR1 hb1 hg1 hat1
      have HR1 := Aside0.mk hR1
      have HB1 := Aside0.mk hb1
      clear hR1 hg1 hat1 hb1
      go_wp2
      go_ret
      exact ⟨v1, rfl, HR1.out, HB1.out⟩

theorem kCp_own {D w : World} {e : TypeId} {base : Nat} {ok : Nat → Prop} {v : Value} {l : List SHolding} (h : (kCp D).R e w base ok v (l.map (·, true))) : kHolding.R e w base ok v l := by
  obtain ⟨h0, inner, ho, hr⟩ := h
  rw [List.length_map] at ho
  refine ⟨h0, inner, ho, by have := hr.1; rw [List.length_map] at this; exact this, fun j p hj => ?_⟩
  have := hr.2 j (p, true) (by rw [List.getElem?_map, hj]; rfl)
  exact this.1 rfl

theorem cp_step {α : Type} (l : List α) (k : Nat) (z : α) (h : k < l.length) : (((l.take k).map (·, true) ++ (l.drop k).map (·, false)).set k (l.getD k z, true)) = (l.take (k + 1)).map (·, true) ++ (l.drop (k + 1)).map (·, false) := by
  have hlen : (l.take k).length = k := by rw [List.length_take]; omega
  rw [List.drop_eq_getElem_cons h, List.take_succ_eq_append_getElem h, List.getD_eq_getElem?_getD, List.getElem?_eq_getElem h, List.set_append_right _ _ (by rw [List.length_map, hlen]; exact Nat.le_refl _)]
  simp only [List.length_map, hlen, Nat.sub_self, List.map_cons, List.set_cons_zero, List.map_append, List.map_nil, List.append_assoc, List.cons_append, List.nil_append, Option.getD_some]
theorem cp_get {α : Type} (l : List α) (k : Nat) (z : α) (h : k < l.length) : ((l.take k).map (·, true) ++ (l.drop k).map (·, false)).getD k (z, false) = (l.getD k z, false) := by
  have hlen : (l.take k).length = k := by rw [List.length_take]; omega
  rw [List.drop_eq_getElem_cons h, List.getD_eq_getElem?_getD, List.getD_eq_getElem?_getD, List.getElem?_eq_getElem h, List.getElem?_append_right (by rw [List.length_map, hlen]; exact Nat.le_refl _)]
  simp only [List.length_map, hlen, Nat.sub_self, List.map_cons, List.getElem?_cons_zero, Option.getD_some]

set_option maxRecDepth 100000 in
set_option maxHeartbeats 4000000 in
theorem law_cp (A : Option Addr) (c : Nat) (l : List SHolding) (w : World) (hr : Kd.C kHolding w A l.length l) (hs : HSized l) :
    Calls Try.prog 11 #[.slice A l.length c] w (OwnRowPost kHolding 45 w l) := by
  have HR := Aside0.mk hr
  have HS := Aside0.mk hs
  have hn := hr.2.1
  clear hr hs
  go_enter Try.func11, Try.ntmps11
  go_wp2_with (fail)
  refine (Clone_holding _ _ l _ HR.out (by have := HS.out.1; omega)).mono ?_
  rintro e w1 ⟨v1, rfl, hR1, hb1⟩
  obtain ⟨A1, c1, rfl⟩ := Kd.R_slice hR1
  rw [List.length_map] at hR1 ⊢
  have HB1 := Aside0.mk hb1
  have HR1 := Aside0.mk (show (kCp w).R 45 w1 w.heap.size (fun _ => True) (.slice A1 l.length c1) ((l.take 0).map (·, true) ++ (l.drop 0).map (·, false)) from by simpa using hR1)
  clear hR1 hb1
  go_wp2
  go_loopg [8] l.length (fun gg v8 wr => ∃ k : Nat, k ≤ l.length ∧ l.length - k ≤ gg ∧ v8 = .int .i64 k ∧ Aside0 (Below w.heap.size w wr) ∧ Aside0 ((kCp w).R 45 wr w.heap.size (fun _ => True) (.slice A1 l.length c1) ((l.take k).map (·, true) ++ (l.drop k).map (·, false))))
  case atStart => exact ⟨0, Nat.zero_le _, by omega, rfl, HB1, HR1⟩
  case round =>
    clear HB1 HR1
    obtain ⟨k, hk, hg, rfl, HB, HO⟩ := hrel
    by_cases hlt : k < l.length
    · have hlti : (k : Int) < (l.length : Int) := by omega
      have hO := HO.out
      obtain ⟨g, cap, he, hbg, hgl, _⟩ := Kd.R_form hO (by simp; omega)
      obtain ⟨rfl, rfl⟩ : A1 = some ⟨g, 0, none⟩ ∧ c1 = cap := by injection he with h1 h2 h3; exact ⟨h1, h3⟩
      clear he
      obtain ⟨cs, hcl, hM, hcc, hfr⟩ := Kd.R_elem hO (zHolding, false) (k : Int) (by omega) (by omega)
      rw [Int.toNat_natCast] at hM hcc hfr
      rw [cp_get l k zHolding hlt] at hM
      have hK := hM.2 rfl
      have hstep := cp_step l k zHolding hlt
      have hsz := HS.out.at_ k
      generalize hy : l.getD k zHolding = y at *
      have HY := Aside0.mk hy
      clear hy
      obtain ⟨A2, c2, rfl, hl2, hC2⟩ := kHolding_open hK
      obtain ⟨f0, f1, f2⟩ := y
      have p2 := hcc 2 _ rfl
      have pf := hfr 2
      simp only at p2 hC2 hsz hstep
      replace p2 : wr.cell? ⟨g, k * 3 + 2, none⟩ = _ := p2
      replace pf : wr.frozen? ⟨g, k * 3 + 2, none⟩ = false := pf
      have HSZ := Aside0.mk hsz
      have HC2 := Aside0.mk hC2
      have HST := Aside0.mk hstep
      clear hM hcc hfr hK hcl hl2 hsz hC2 hstep hO
      go_wp2_with (fail)
      refine (Clone_int _ _ f2 _ (Kd.C_below HC2.out HB.out) (by have := HSZ.out; omega)).mono ?_
      rintro e w2 ⟨v2, rfl, hR2, hb2⟩
      have HR2 := Aside0.mk hR2
      have HB2 := Aside0.mk (below_trans2 HB.out hb2)
      have p2' := (hb2.cell (p := ⟨g, k * 3 + 2, none⟩) hgl).trans p2
      have pf' := (hb2.frozen (p := ⟨g, k * 3 + 2, none⟩) hgl).trans pf
      have hsw := hb2.size
      obtain ⟨cs2, hcl2, hM2, hcc2, hfr2⟩ := Kd.R_elem (Kd.R_below HO.out hb2) (zHolding, false) (k : Int) (by omega) (by omega)
      rw [Int.toNat_natCast, cp_get l k zHolding hlt, HY.out] at hM2
      obtain ⟨A4, c4, rfl, _, _⟩ := kHolding_open (hM2.2 rfl)
      have hvne : ∀ q, v2.ownBlock = some q → q ≠ g := fun q hq => by have := Kd.R_base hR2 q hq; omega
      obtain ⟨A3, c3, rfl⟩ := Kd.R_slice hR2
      obtain ⟨hseg, hgs⟩ := Kd.R_seg (Kd.R_below HO.out hb2) (k : Int) (by omega) (by omega) (c := [.int .i64 f0, .int .i64 f1, .slice A4 f2.length c4]) (seg := [.slice A3 f2.length c3]) (j := 2) (x' := (⟨f0, f1, f2⟩, true)) (okp := fun q => some q = (Value.slice A3 f2.length c3).ownBlock) hcl2 hcc2 (show 2 + 1 ≤ 3 by omega)
        ⟨fun _ => kHolding_mkM _ _ _ ⟨f0, f1, f2⟩ (Kd.R_tight rfl (Kd.R_lower hR2 HB.out.size)), fun h => by cases h⟩ (fun q hq => ⟨trivial, hvne q hq.symm⟩)
      rw [Int.toNat_natCast, HST.out] at hseg
      have HSEG := Aside0.mk (show (kCp w).R 45 (w2.setCell ⟨g, k * 3 + 2, none⟩ (.slice A3 f2.length c3)) w.heap.size (fun _ => True) (.slice (some ⟨g, 0, none⟩) l.length c1) ((l.take (k + 1)).map (·, true) ++ (l.drop (k + 1)).map (·, false)) from hseg)
      clear hseg hgs hvne hM2 hcc2 hfr2 hcl2 hR2 hb2 p2 pf HST HY HC2
      go_wp2
      go_roundg (l.length - (k + 1))
      case measure => omega
      case rel => exact ⟨k + 1, by omega, by omega, by go_num, ⟨Below.setCell HB2.out hbg _⟩, HSEG⟩
    · obtain rfl : k = l.length := by omega
      have hlti : ¬ ((l.length : Int) < (l.length : Int)) := by omega
      have HF := Aside0.mk (kCp_own (by simpa using HO.out))
      go_wp2
      go_ret
      exact ⟨_, rfl, HF.out, HB.out⟩
end Go.Proofs.Ytjgkalppjfmkoaa
