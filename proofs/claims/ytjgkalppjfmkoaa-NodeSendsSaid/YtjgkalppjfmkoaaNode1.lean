/- Package node: find (over slices.IndexFunc at holdings), own. -/
import Derived.Test.YtjgkalppjfmkoaaFlow3
namespace Go.Proofs.Ytjgkalppjfmkoaa
open Go.RowKit Go.Shelf Go.Proofs.YtjgkalppjfmkoaaW.PrintWords
set_option linter.unusedVariables false
set_option linter.unusedSimpArgs false

theorem THolding_nat {w : World} {A : Option Addr} {n : Nat} {xs : List SHolding} (h : Kd.C kHolding w A n xs) (k : Nat) (h1 : k < n) : ∃ ad A2 c2, A = some ad ∧ w.cell? (ad.add (k * 3)) = some (.int .i64 (xs.getD k zHolding).f0) ∧ w.cell? ⟨(ad.add (k * 3)).block, (ad.add (k * 3)).off + 1, none⟩ = some (.int .i64 (xs.getD k zHolding).f1) ∧ w.cell? ⟨(ad.add (k * 3)).block, (ad.add (k * 3)).off + 2, none⟩ = some (.slice A2 (xs.getD k zHolding).f2.length c2) ∧ (xs.getD k zHolding).f2.length ≤ c2 ∧ (Kd.int .i64).C w A2 (xs.getD k zHolding).f2.length (xs.getD k zHolding).f2 := by
  have := at_THolding h (k : Int) (by omega) (by omega)
  simpa [rd_THolding, Int.toNat_natCast] using this

theorem add_block (ad : Addr) (k : Nat) : (ad.add k).block = ad.block := by unfold Addr.add; split <;> rfl

/-- What is asked of a predicate on holdings. -/
def PredHolding (g : Nat) (lb : Array Value) (p : SHolding → Bool) (w : World) : Prop :=
  ∀ (W : World) (x : SHolding) (A : Option Addr) (c : Nat), Below w.heap.size w W → x.f2.length ≤ c → (Kd.int .i64).C W A x.f2.length x.f2 →
    Calls Try.prog g (#[.agg #[.int .i64 x.f0, .int .i64 x.f1, .slice A x.f2.length c]] ++ lb) W fun e w' => e = .returned (.bool (p x)) ∧ Below W.heap.size W w'

set_option maxHeartbeats 1000000 in
theorem IndexFunc_holding (g : Nat) (lb : Array Value) (eg : ∀ args w, (callFunc g args).run Try.prog w = .ok (.enter g args) w) (p : SHolding → Bool) (A : Option Addr) (c : Nat) (l : List SHolding) (w : World) (hp : PredHolding g lb p w) (hr : Kd.C kHolding w A l.length l) :
    Calls Try.prog 17 #[.slice A l.length c, .func (.func g) #[] lb] w fun e w' => e = .returned (.int .i64 (ix p zHolding l)) ∧ Below w.heap.size w w' := by
  obtain ⟨r, hrr⟩ : ∃ r, r = ix p zHolding l := ⟨_, rfl⟩
  have hn := hr.2.1
  rw [← hrr]
  have H0 := Aside0.mk (show ixGo p zHolding l (l.length - 0) 0 = r from hrr.symm)
  have HR := Aside0.mk hr
  have HP := Aside0.mk hp
  clear hr hp hrr
  go_enter Try.func17, Try.ntmps17
  go_wp2
  go_loopg [8] l.length (fun gg v8 wr => ∃ k : Nat, k ≤ l.length ∧ l.length - k ≤ gg ∧ v8 = .int .i64 k ∧ Aside0 (Below w.heap.size w wr) ∧ Aside0 (ixGo p zHolding l (l.length - k) k = r))
  case atStart => exact ⟨0, Nat.zero_le _, by omega, rfl, ⟨Below.refl _ w⟩, H0⟩
  case round =>
    obtain ⟨k, hk, hg, rfl, HB, HX⟩ := hrel
    by_cases hlt : k < l.length
    · obtain ⟨ad, A2, c2, rfl, hx0, hx1, hx2, hl2, hC2⟩ := THolding_nat (Kd.C_below HR.out HB.out) k hlt
      have hcall := HP.out wr (l.getD k zHolding) A2 c2 HB.out hl2 hC2
      have hs : l.length - k = (l.length - (k + 1)) + 1 := by omega
      have hx := HX.out
      rw [hs, ixGo] at hx
      clear HX hs hl2 hC2
      generalize hy : l.getD k zHolding = y at *
      clear hy
      have hlti : (k : Int) < (l.length : Int) := by omega
      cases hq : p y with
      | true =>
        rw [hq] at hx hcall
        rw [if_pos rfl] at hx
        have HX := Aside0.mk hx
        have HC := Aside0.mk hcall
        clear hx hcall hq
        go_wp2_with (go_at_fn g; refine HC.out.mono ?_; rintro e w' ⟨rfl, hb'⟩)
        go_ret
        exact ⟨ret_int HX.out, below_trans2 HB.out hb'⟩
      | false =>
        rw [hq] at hx hcall
        rw [if_neg (by simp)] at hx
        have HX := Aside0.mk hx
        have HC := Aside0.mk hcall
        clear hx hcall hq
        go_wp2_with (go_at_fn g; refine HC.out.mono ?_; rintro e w' ⟨rfl, hb'⟩)
        go_roundg (l.length - (k + 1))
        case measure => omega
        case rel => exact ⟨k + 1, by omega, by omega, by go_num, ⟨below_trans2 HB.out hb'⟩, HX⟩
    · obtain rfl : k = l.length := by omega
      have hlti : ¬ ((l.length : Int) < (l.length : Int)) := by omega
      have hx := HX.out
      rw [Nat.sub_self, ixGo] at hx
      have HX := Aside0.mk hx
      clear hx
      go_wp2
      go_ret
      exact ⟨ret_int HX.out, HB.out⟩

theorem node_find1 (id : Int) (B : Nat) (w : World) (hB : B < w.heap.size) (hc : w.cell? ⟨B, 0, none⟩ = some (.int .i64 id)) :
    PredHolding 58 #[.pointer (some ⟨B, 0, none⟩)] (fun f => f.f0 == id) w := fun W x A c hb _ _ => by
  have hc' : W.cell? ⟨B, 0, none⟩ = some (.int .i64 id) := (hb.cell (p := ⟨B, 0, none⟩) hB).trans hc
  have hB' : B < W.heap.size := Nat.lt_of_lt_of_le hB hb.size
  clear hc
  show Calls Try.prog 58 #[.agg #[.int .i64 x.f0, .int .i64 x.f1, .slice A x.f2.length c], .pointer (some ⟨B, 0, none⟩)] W _
  go_enter Try.func58, Try.ntmps58
  go_wp2
  go_ret
  exact ⟨rfl, (Below.refl _ _).alloc (Nat.le_refl _) _⟩

set_option maxHeartbeats 1000000 in
theorem node_find (A : Option Addr) (c : Nat) (l : List SHolding) (id : Int) (w : World) (hr : Kd.C kHolding w A l.length l) :
    Calls Try.prog 31 #[.slice A l.length c, .int .i64 id] w fun e w' => e = .returned (.int .i64 (ix (fun f : SHolding => f.f0 == id) zHolding l)) ∧ Below w.heap.size w w' := by
  have eg : ∀ args w, (callFunc 58 args).run Try.prog w = .ok (.enter 58 args) w := enters_of Try.func58 (by kernel_rfl) rfl
  have hb1 : Below w.heap.size w (w.alloc (.cells #[.int .i64 id] 3)) := (Below.refl _ _).alloc (Nat.le_refl _) _
  have hcon := IndexFunc_holding 58 #[.pointer (some ⟨w.heap.size, 0, none⟩)] eg (fun f : SHolding => f.f0 == id) A c l (w.alloc (.cells #[.int .i64 id] 3)) (node_find1 id w.heap.size _ (by simp) (by simp)) (Kd.C_below hr hb1)
  generalize ix (fun f : SHolding => f.f0 == id) zHolding l = r at hcon ⊢
  have HC := Aside0.mk hcon
  have HB := Aside0.mk hb1
  clear hcon hr hb1
  go_enter Try.func31, Try.ntmps31
  go_wp2_with (go_at_call 17; refine HC.out.mono ?_; rintro e w' ⟨rfl, hb⟩)
  go_ret
  exact ⟨rfl, below_trans2 HB.out hb⟩

theorem blk3 {w : World} {g : Nat} {a b c : Value} {T : TypeId} (h : w.heap[g]? = some (.cells #[a, b, c] T (0, 0))) : w.cell? ⟨g, 0, none⟩ = some a ∧ w.cell? ⟨g, 1, none⟩ = some b ∧ w.cell? ⟨g, 2, none⟩ = some c ∧ ∀ j, w.frozen? ⟨g, j, none⟩ = false :=
  ⟨cell_of_row w g 0 _ T (0, 0) h, cell_of_row w g 1 _ T (0, 0) h, cell_of_row w g 2 _ T (0, 0) h, fun j => blk_frozen h j⟩

/-- A struct's result, and a row of the call's own inside. -/
def OwnHolding (w : World) (B : Nat) (h : SHolding) (e : Ending) (w' : World) : Prop := ∃ v, e = .returned (.agg #[.int .i64 h.f0, .int .i64 h.f1, v]) ∧ (Kd.int .i64).R 3 w' w.heap.size (fun k => B ≤ k) v h.f2 ∧ Below w.heap.size w w'

set_option maxHeartbeats 1000000 in
theorem node_own (f0 f1 : Int) (l : List Int) (A : Option Addr) (c : Nat) (w : World) (hc : (Kd.int .i64).C w A l.length l) (hlen : l.length * 8 ≤ 140737488351232) :
    Calls Try.prog 41 #[.agg #[.int .i64 f0, .int .i64 f1, .slice A l.length c]] w (OwnHolding w w.heap.size ⟨f0, f1, l⟩) := by
  have hn := hc.2.1
  have HC := Aside0.mk hc
  have HL := Aside0.mk hlen
  have HB1 := Aside0.mk (show Below w.heap.size w ((w.alloc (.cells #[.int .i64 f0, .int .i64 f1, .slice A l.length c] 45)).alloc (.cells #[.int .i64 0, .int .i64 0, .slice none 0 0] 45)) from ((Below.refl _ _).alloc (Nat.le_refl _) _).alloc (by simp) _)
  clear hc hlen
  go_enter Try.func41, Try.ntmps41
  go_wp2_with (at_make; refine Kd.R_make (Kd.int .i64) (w0 := w) w.heap.size 3 rfl rfl 43 (.tmp 6) (.tmp 6) rfl (l.length : Int) rfl rfl Try.underlying43 (.int .i64 0) 8 info_i64 rfl (by decide) (by decide) (0 : Int) (ok := fun k => w.heap.size + 2 ≤ k) (okp := fun _ => False) rfl (fun _ h => h.elim) (by simp) (by omega) (by have := HL.out; omega) HB1.out (by simp; omega) ?_)
  intro v1 w1 hR hb hg b hv hle
  clear hv hle
  obtain ⟨A1, c1, rfl⟩ := Kd.R_slice hR
  simp only [List.length_replicate] at hR ⊢
  have hbk : w1.heap[w.heap.size]? = some (.cells #[.int .i64 f0, .int .i64 f1, .slice A l.length c] 45 (0, 0)) := (hg.block w.heap.size (by simp; omega) (by intro h; cases h)).trans ((Below.heap_alloc _ _ _ (by simp)).trans (heap_alloc_new w _))
  have hbk2 : w1.heap[w.heap.size + 1]? = some (.cells #[.int .i64 0, .int .i64 0, .slice none 0 0] 45 (0, 0)) := (hg.block (w.heap.size + 1) (by simp) (by intro h; cases h)).trans (by have := heap_alloc_new (w.alloc (.cells #[.int .i64 f0, .int .i64 f1, .slice A l.length c] 45)) (.cells #[.int .i64 0, .int .i64 0, .slice none 0 0] 45); simpa using this)
  have HK2 := Aside0.mk hbk2
  clear hbk2
  obtain ⟨cc0, cc1, cc2, cf⟩ := blk3 hbk
  have HR := Aside0.mk hR
  have HB := Aside0.mk hb
  have HK := Aside0.mk hbk
  clear hR hb hg hbk
  go_wp2_with (refine gate_ (.call { callee := .builtin .copy, args := #[.tmp 8, .tmp 10], argTypes := #[43, 43] }) rfl ?_; refine Kd.R_copy (0 : Int) (w0 := w) w.heap.size rfl (.tmp 8) (.tmp 10) 43 43 3 rfl Try.underlying43 (by kernel_rfl) (.slice A1 l.length c1) (List.replicate l.length 0) l A l.length c (fun k => w.heap.size + 2 ≤ k) rfl rfl HR.out (Kd.C_below HC.out HB.out) HB.out (by have := HB.out.size; omega) ?_)
  intro w2 hR2 hb2 hg2
  have hne : some w.heap.size ≠ (Value.slice A1 l.length c1).ownBlock := fun e => by have := HR.out.1 w.heap.size e.symm; omega
  have hne2 : some (w.heap.size + 1) ≠ (Value.slice A1 l.length c1).ownBlock := fun e => by have := HR.out.1 (w.heap.size + 1) e.symm; omega
  have hbk2 := blk_grown HK.out hg2 hne
  have hbk3 := blk_grown HK2.out hg2 hne2
  have hS := blk_set hbk2 2 (Value.slice A1 l.length c1)
  have hT := blk_far hbk3 (p := ⟨w.heap.size, 2, none⟩) (by simp) (Value.slice A1 l.length c1)
  have hRS := Kd.R_far hR2 (p := ⟨w.heap.size, 2, none⟩) (fun k hk => by simp only; omega) (Value.slice A1 l.length c1)
  clear cc0 cc1 cc2 cf HK HK2 HR HB HB1 hg2 hne hne2
  obtain ⟨cc0, cc1, cc2, cf⟩ := blk3 hbk2
  obtain ⟨dd0, dd1, dd2, df⟩ := blk3 hbk3
  have HR := Aside0.mk hR2
  have HB := Aside0.mk hb2
  have HS := Aside0.mk hS
  have HT := Aside0.mk hT
  have HRS := Aside0.mk hRS
  clear hR2 hb2 hbk2 hbk3 hS hT hRS
  by_cases h0 : l.length = 0
  · have h0' : ((l.length : Int) == 0) = true := by simp [h0]
    go_wp2
    refine bodyPost_ret (v := .agg #[.int .i64 f0, .int .i64 f1, .slice none 0 0]) (by simp [results, Try.results41, go_sem, *]) rfl ?_
    refine ⟨_, rfl, ?_, ?_⟩
    · rw [show l = [] from List.eq_nil_of_length_eq_zero h0]
      exact Kd.R_nil _ _ _ _ _
    · repeat (refine Below.setCell ?_ ?_ _; rotate_left; · simp)
      exact HB.out
  · have h0' : ((l.length : Int) == 0) = false := by simpa using h0
    go_wp2
    refine bodyPost_ret (v := .agg #[.int .i64 f0, .int .i64 f1, .slice A1 l.length c1]) (by simp [results, Try.results41, go_sem, *]) rfl ?_
    refine ⟨_, rfl, ?_, ?_⟩
    · refine Kd.R_mono (ok := fun k => w.heap.size + 2 ≤ k) ?_ (fun k hk => by omega)
      repeat (refine Kd.R_far ?_ ?_ _; rotate_left; · (intro k hk; dsimp only; omega))
      exact HR.out
    · repeat (refine Below.setCell ?_ ?_ _; rotate_left; · simp)
      exact HB.out
end Go.Proofs.Ytjgkalppjfmkoaa
