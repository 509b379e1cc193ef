/- The stable sort's family at duties: the merge in place, in four cases. Behind it the row holds a permutation of what it held. (Printed by wip/tools/symmerge_gen.py.) -/
import Derived.Test.YtjgkalppjfmkoaaSort2
namespace Go.Proofs.Ytjgkalppjfmkoaa
open Go.RowKit Go.Shelf Go.Lib Go.Sort Go.Proofs.YtjgkalppjfmkoaaW.PrintWords
set_option linter.unusedVariables false
set_option linter.unusedSimpArgs false

variable {α : Type} [Inhabited α]
/-- What is asked of the merges of shorter ranges. -/
def SymOK (P : Program) (k : Nat) (enc : α → List Value) (g : Nat) (cb : Array Value) (blk off cap : Nat) (d0 : Array α) (w0 : World) (G : Nat) : Prop :=
  ∀ (a m b : Nat) (d : Array α) (w : World), b - a ≤ G → d0.size = d.size → SWK enc k w0 blk off d w → a < m → m < b → b ≤ d.size →
    Calls P 76 #[.slice (some ⟨blk, off, none⟩) d.size cap, .int .i64 a, .int .i64 m, .int .i64 b, .func (.func g) #[] cb] w (SortedP enc k w0 blk off d)
set_option maxHeartbeats 16000000 in
set_option maxRecDepth 1000000 in
theorem srt_symA {P : Program} {k : Nat} (L : SortB P k) (enc : α → List Value) (cf : α → α → Int) (g : Nat) (cb : Array Value) (blk off cap : Nat) (d0 : Array α) (w0 : World)
    (eg : ∀ args w, (callFunc g args).run P w = .ok (.enter g args) w) (hcmp : CmpLays P g cb enc k cf blk off d0.size w0)
    (R : RowK enc k w0 blk off d0) (hsz : d0.size < 4611686018427387904) (G a m b : Nat) (d : Array α) (w : World) (IH : Aside0 (SymOK P k enc g cb blk off cap d0 w0 G)) (hG : b - a ≤ G + 1) (hs : d0.size = d.size) (S : SWK enc k w0 blk off d w) (ham : a < m) (hmb : m < b) (hb : b ≤ d.size) (hm1 : m ≤ a + 1) :
    Calls P 76 #[.slice (some ⟨blk, off, none⟩) d.size cap, .int .i64 a, .int .i64 m, .int .i64 b, .func (.func g) #[] cb] w (SortedP enc k w0 blk off d) := by
  have mixed := L.mixed; have t0 := L.t0; have a0 := L.a0; have z0 := L.z0; have v0 := L.v0; have t3 := L.t3; have a3 := L.a3; have z3 := L.z3; have v3 := L.v3; have t4 := L.t4; have a4 := L.a4; have z4 := L.z4; have v4 := L.v4; have t22 := L.t22; have a22 := L.a22; have z22 := L.z22; have v22 := L.v22; have t25 := L.t25; have a25 := L.a25; have z25 := L.z25; have v25 := L.v25; have t96 := L.t96; have a96 := L.a96; have z96 := L.z96; have v96 := L.v96; have aE := L.aE; have zE := L.zE
  have u22 := run_underlying L.t22
  have FG := L.f76
  have eg79 : ∀ args w, (callFunc 79 args).run P w = .ok (.enter 79 args) w := enters_of L.f79 (by kernel_rfl) rfl
  have eg76 : ∀ args w, (callFunc 76 args).run P w = .ok (.enter 76 args) w := enters_of L.f76 (by kernel_rfl) rfl
  have S0 : Aside (SWK enc k w0 blk off d w) := S
  have HC : Aside _ := hcmp
  rw [hs] at hsz
  clear S hcmp
  have hmaz : (m : Int) - (a : Int) = 1 := by omega
  go_enter FG, Try.ntmps76
  go_wp2
  clear hmaz
  go_loopg [10, 11] (b - m) (fun kx s1 s2 wr => ∃ (i j : Nat), s1 = .int .i64 i ∧ s2 = .int .i64 j ∧ m ≤ i ∧ i ≤ j ∧ j ≤ b ∧ j - i ≤ kx ∧ Aside (SWK enc k w0 blk off d wr))
  case atStart => exact ⟨m, b, rfl, rfl, by omega, by omega, by omega, Nat.le_refl _, S0⟩
  case round =>
    clear S0
    obtain ⟨i, j, rfl, rfl, hi1, hi2, hi3, hkx, S1⟩ := hrel
    by_cases hlt : i < j
    · have hltz : (i : Int) < (j : Int) := by omega
      obtain ⟨H, hH, hH1, hH2⟩ : ∃ H : Nat, ((i : Int) + (j : Int)) / 2 = (H : Int) ∧ i ≤ H ∧ H < j := ⟨(i + j) / 2, by omega, by omega, by omega⟩
      have eX : ((H : Int)).toNat = H := by omega
      have pX : (0 : Int) ≤ (H : Int) := by omega
      have bX : (H : Int) < (d.size : Int) := by omega
      have rX : IntKind.i64.wrap ((H : Int)) = (H : Int) := by rw [IntKind.wrap_i64]; omega
      have eY : ((a : Int)).toNat = a := by omega
      have pY : (0 : Int) ≤ (a : Int) := by omega
      have bY : (a : Int) < (d.size : Int) := by omega
      have rY : IntKind.i64.wrap ((a : Int)) = (a : Int) := by rw [IntKind.wrap_i64]; omega
      obtain ⟨x24, hx24⟩ : ∃ x, x = d[H]! := ⟨_, rfl⟩
      obtain ⟨y24, hy24⟩ : ∃ x, x = d[a]! := ⟨_, rfl⟩
      have l24a := S1.out.ld R (by omega) P H (by omega)
      have l24b := S1.out.ld R (by omega) P a (by omega)
      rw [← hx24] at l24a
      rw [← hy24] at l24b
      have hc24 := S1.out.cmp HC.out (by omega) x24 y24
      clear hx24 hy24
      obtain ⟨bb, hd24⟩ : ∃ bb, decide (cf x24 y24 < 0) = bb := ⟨_, rfl⟩
      go_wp2_with fail
      go_quiet_grown (first | (go_at_fn g; refine Calls.grown_of (hc24 _ _)))
      have S2 : Aside (SWK enc k w0 blk off d (grow (wr.drewN nq) osq)) := S1.out.grown nq osq
      clear l24a l24b hc24 S1 hd24 eX pX bX rX eY pY bY rY
      generalize grow (wr.drewN nq) osq = w2 at S2 ⊢
      clear nq osq
      cases bb with
      | true =>
        go_wp2
        go_roundg (j - (H + 1))
        case measure => omega
        case rel => exact ⟨H + 1, j, by go_num, rfl, by omega, by omega, by omega, by omega, S2⟩
      | false =>
        go_wp2
        go_roundg (H - i)
        case measure => omega
        case rel => exact ⟨i, H, rfl, rfl, by omega, by omega, by omega, by omega, S2⟩
    · obtain rfl : i = j := by omega
      have hltz : ¬ (i : Int) < (i : Int) := by omega
      obtain ⟨I1, hI, hI2⟩ : ∃ I1 : Nat, (i : Int) - 1 = (I1 : Int) ∧ I1 + 1 = i := ⟨i - 1, by omega, by omega⟩
      go_wp2
      go_loopg [13] (I1 - a) (fun kx s1 wr => ∃ (q : Nat) (dk : Array α), s1 = .int .i64 q ∧ a ≤ q ∧ q ≤ I1 ∧ I1 - q ≤ kx ∧ dk.size = d.size ∧ Aside (SWK enc k w0 blk off dk wr) ∧ Aside (dk.toList.Perm d.toList))
      case atStart => exact ⟨a, d, rfl, by omega, by omega, Nat.le_refl _, rfl, S1, List.Perm.refl _⟩
      case round =>
        clear S1
        obtain ⟨q, dk, rfl, hq1, hq2, hkx, hds, S1, hp⟩ := hrel
        by_cases hlt : q < I1
        · have hltz2 : (q : Int) < (I1 : Int) := by omega
          obtain ⟨Y, hY, hY2, hY3⟩ : ∃ Y : Nat, (q : Int) + 1 = (Y : Int) ∧ Y ≤ q + 1 ∧ q + 1 ≤ Y := ⟨q + 1, by omega, Nat.le_refl _, Nat.le_refl _⟩
          have eX : ((q : Int)).toNat = q := by omega
          have pX : (0 : Int) ≤ (q : Int) := by omega
          have bX : (q : Int) < (d.size : Int) := by omega
          have rX : IntKind.i64.wrap ((q : Int)) = (q : Int) := by rw [IntKind.wrap_i64]; omega
          have eY : ((Y : Int)).toNat = Y := by omega
          have pY : (0 : Int) ≤ (Y : Int) := by omega
          have bY : (Y : Int) < (d.size : Int) := by omega
          have rY : IntKind.i64.wrap ((Y : Int)) = (Y : Int) := by rw [IntKind.wrap_i64]; omega
          go_wp2_with fail
          have S2 : Aside (SWK enc k w0 blk off (swp dk q Y) ((wr.drew.setCells blk (off + q * k) (enc dk[Y]!)).setCells blk (off + Y * k) (enc dk[q]!))) := S1.out.swapped R q Y (by omega) (by omega)
          have HP2 : Aside ((swp dk q Y).toList.Perm d.toList) := (swp_perm dk q Y (by omega) (by omega)).trans hp.out
          have l44a := S1.out.ld1 R (by omega) P q (by omega)
          have l44b := S1.out.ld1 R (by omega) P Y (by omega)
          have s44a := S1.out.st1 R (by omega) P q (by omega) dk[Y]!
          have s44b := S1.out.st2 R (by omega) P q Y (by omega) (by omega) dk[Y]! dk[q]!
          have n44a : (enc dk[q]!).length = k := R.hk _
          have n44b : (enc dk[Y]!).length = k := R.hk _
          generalize enc dk[q]! = cI44 at S2 l44a s44b n44a
          generalize enc dk[Y]! = cJ44 at S2 l44b s44a s44b n44b
          clear S1
          go_big_region_o
          clear l44a l44b s44a s44b
          generalize (wr.drew.setCells blk (off + q * k) cJ44).setCells blk (off + Y * k) cI44 = w3 at S2 ⊢
          clear eX pX bX rX eY pY bY rY
          go_wp2
          go_roundg (I1 - Y)
          case measure => omega
          case rel => exact ⟨Y, swp dk q Y, rfl, by omega, by omega, by omega, by rw [size_swp]; exact hds, S2, HP2⟩
        · have hltz2 : ¬ (q : Int) < (I1 : Int) := by omega
          go_wp2
          go_end0
          exact ⟨rfl, dk, hds, hp.out, S1.out⟩
set_option maxHeartbeats 16000000 in
set_option maxRecDepth 1000000 in
theorem srt_symB {P : Program} {k : Nat} (L : SortB P k) (enc : α → List Value) (cf : α → α → Int) (g : Nat) (cb : Array Value) (blk off cap : Nat) (d0 : Array α) (w0 : World)
    (eg : ∀ args w, (callFunc g args).run P w = .ok (.enter g args) w) (hcmp : CmpLays P g cb enc k cf blk off d0.size w0)
    (R : RowK enc k w0 blk off d0) (hsz : d0.size < 4611686018427387904) (G a m b : Nat) (d : Array α) (w : World) (IH : Aside0 (SymOK P k enc g cb blk off cap d0 w0 G)) (hG : b - a ≤ G + 1) (hs : d0.size = d.size) (S : SWK enc k w0 blk off d w) (ham : a < m) (hmb : m < b) (hb : b ≤ d.size) (hm1 : a + 1 < m) (hm2 : b ≤ m + 1) :
    Calls P 76 #[.slice (some ⟨blk, off, none⟩) d.size cap, .int .i64 a, .int .i64 m, .int .i64 b, .func (.func g) #[] cb] w (SortedP enc k w0 blk off d) := by
  have mixed := L.mixed; have t0 := L.t0; have a0 := L.a0; have z0 := L.z0; have v0 := L.v0; have t3 := L.t3; have a3 := L.a3; have z3 := L.z3; have v3 := L.v3; have t4 := L.t4; have a4 := L.a4; have z4 := L.z4; have v4 := L.v4; have t22 := L.t22; have a22 := L.a22; have z22 := L.z22; have v22 := L.v22; have t25 := L.t25; have a25 := L.a25; have z25 := L.z25; have v25 := L.v25; have t96 := L.t96; have a96 := L.a96; have z96 := L.z96; have v96 := L.v96; have aE := L.aE; have zE := L.zE
  have u22 := run_underlying L.t22
  have FG := L.f76
  have eg79 : ∀ args w, (callFunc 79 args).run P w = .ok (.enter 79 args) w := enters_of L.f79 (by kernel_rfl) rfl
  have eg76 : ∀ args w, (callFunc 76 args).run P w = .ok (.enter 76 args) w := enters_of L.f76 (by kernel_rfl) rfl
  have S0 : Aside (SWK enc k w0 blk off d w) := S
  have HC : Aside _ := hcmp
  rw [hs] at hsz
  clear S hcmp
  have hmaz : ((m : Int) - (a : Int) == 1) = false := beq_eq_false_iff_ne.2 (by omega)
  have hbmz : (b : Int) - (m : Int) = 1 := by omega
  go_enter FG, Try.ntmps76
  go_wp2
  clear hmaz hbmz
  go_loopg [14, 15] (m - a) (fun kx s1 s2 wr => ∃ (i j : Nat), s1 = .int .i64 i ∧ s2 = .int .i64 j ∧ a ≤ i ∧ i ≤ j ∧ j ≤ m ∧ j - i ≤ kx ∧ Aside (SWK enc k w0 blk off d wr))
  case atStart => exact ⟨a, m, rfl, rfl, by omega, by omega, by omega, Nat.le_refl _, S0⟩
  case round =>
    clear S0
    obtain ⟨i, j, rfl, rfl, hi1, hi2, hi3, hkx, S1⟩ := hrel
    by_cases hlt : i < j
    · have hltz : (i : Int) < (j : Int) := by omega
      obtain ⟨H, hH, hH1, hH2⟩ : ∃ H : Nat, ((i : Int) + (j : Int)) / 2 = (H : Int) ∧ i ≤ H ∧ H < j := ⟨(i + j) / 2, by omega, by omega, by omega⟩
      have eX : ((m : Int)).toNat = m := by omega
      have pX : (0 : Int) ≤ (m : Int) := by omega
      have bX : (m : Int) < (d.size : Int) := by omega
      have rX : IntKind.i64.wrap ((m : Int)) = (m : Int) := by rw [IntKind.wrap_i64]; omega
      have eY : ((H : Int)).toNat = H := by omega
      have pY : (0 : Int) ≤ (H : Int) := by omega
      have bY : (H : Int) < (d.size : Int) := by omega
      have rY : IntKind.i64.wrap ((H : Int)) = (H : Int) := by rw [IntKind.wrap_i64]; omega
      obtain ⟨x24, hx24⟩ : ∃ x, x = d[m]! := ⟨_, rfl⟩
      obtain ⟨y24, hy24⟩ : ∃ x, x = d[H]! := ⟨_, rfl⟩
      have l24a := S1.out.ld R (by omega) P m (by omega)
      have l24b := S1.out.ld R (by omega) P H (by omega)
      rw [← hx24] at l24a
      rw [← hy24] at l24b
      have hc24 := S1.out.cmp HC.out (by omega) x24 y24
      clear hx24 hy24
      obtain ⟨bb, hd24⟩ : ∃ bb, decide (cf x24 y24 < 0) = bb := ⟨_, rfl⟩
      go_wp2_with fail
      go_quiet_grown (first | (go_at_fn g; refine Calls.grown_of (hc24 _ _)))
      have S2 : Aside (SWK enc k w0 blk off d (grow (wr.drewN nq) osq)) := S1.out.grown nq osq
      clear l24a l24b hc24 S1 hd24 eX pX bX rX eY pY bY rY
      generalize grow (wr.drewN nq) osq = w2 at S2 ⊢
      clear nq osq
      cases bb with
      | true =>
        go_wp2
        go_roundg (H - i)
        case measure => omega
        case rel => exact ⟨i, H, rfl, rfl, by omega, by omega, by omega, by omega, S2⟩
      | false =>
        go_wp2
        go_roundg (j - (H + 1))
        case measure => omega
        case rel => exact ⟨H + 1, j, by go_num, rfl, by omega, by omega, by omega, by omega, S2⟩
    · obtain rfl : i = j := by omega
      have hltz : ¬ (i : Int) < (i : Int) := by omega
      go_wp2
      go_loopg [17] (m - i) (fun kx s1 wr => ∃ (q : Nat) (dk : Array α), s1 = .int .i64 q ∧ i ≤ q ∧ q ≤ m ∧ q - i ≤ kx ∧ dk.size = d.size ∧ Aside (SWK enc k w0 blk off dk wr) ∧ Aside (dk.toList.Perm d.toList))
      case atStart => exact ⟨m, d, rfl, by omega, by omega, Nat.le_refl _, rfl, S1, List.Perm.refl _⟩
      case round =>
        clear S1
        obtain ⟨q, dk, rfl, hq1, hq2, hkx, hds, S1, hp⟩ := hrel
        by_cases hlt : i < q
        · have hltz2 : (i : Int) < (q : Int) := by omega
          obtain ⟨Y, hY, hY2⟩ : ∃ Y : Nat, (q : Int) - 1 = (Y : Int) ∧ Y + 1 = q := ⟨q - 1, by omega, by omega⟩
          have eX : ((q : Int)).toNat = q := by omega
          have pX : (0 : Int) ≤ (q : Int) := by omega
          have bX : (q : Int) < (d.size : Int) := by omega
          have rX : IntKind.i64.wrap ((q : Int)) = (q : Int) := by rw [IntKind.wrap_i64]; omega
          have eY : ((Y : Int)).toNat = Y := by omega
          have pY : (0 : Int) ≤ (Y : Int) := by omega
          have bY : (Y : Int) < (d.size : Int) := by omega
          have rY : IntKind.i64.wrap ((Y : Int)) = (Y : Int) := by rw [IntKind.wrap_i64]; omega
          go_wp2_with fail
          have S2 : Aside (SWK enc k w0 blk off (swp dk q Y) ((wr.drew.setCells blk (off + q * k) (enc dk[Y]!)).setCells blk (off + Y * k) (enc dk[q]!))) := S1.out.swapped R q Y (by omega) (by omega)
          have HP2 : Aside ((swp dk q Y).toList.Perm d.toList) := (swp_perm dk q Y (by omega) (by omega)).trans hp.out
          have l44a := S1.out.ld1 R (by omega) P q (by omega)
          have l44b := S1.out.ld1 R (by omega) P Y (by omega)
          have s44a := S1.out.st1 R (by omega) P q (by omega) dk[Y]!
          have s44b := S1.out.st2 R (by omega) P q Y (by omega) (by omega) dk[Y]! dk[q]!
          have n44a : (enc dk[q]!).length = k := R.hk _
          have n44b : (enc dk[Y]!).length = k := R.hk _
          generalize enc dk[q]! = cI44 at S2 l44a s44b n44a
          generalize enc dk[Y]! = cJ44 at S2 l44b s44a s44b n44b
          clear S1
          go_big_region_o
          clear l44a l44b s44a s44b
          generalize (wr.drew.setCells blk (off + q * k) cJ44).setCells blk (off + Y * k) cI44 = w3 at S2 ⊢
          clear eX pX bX rX eY pY bY rY
          go_wp2
          go_roundg (Y - i)
          case measure => omega
          case rel => exact ⟨Y, swp dk q Y, rfl, by omega, by omega, by omega, by rw [size_swp]; exact hds, S2, HP2⟩
        · have hltz2 : ¬ (i : Int) < (q : Int) := by omega
          go_wp2
          go_end0
          exact ⟨rfl, dk, hds, hp.out, S1.out⟩
set_option maxHeartbeats 16000000 in
set_option maxRecDepth 1000000 in
theorem srt_symC {P : Program} {k : Nat} (L : SortB P k) (enc : α → List Value) (cf : α → α → Int) (g : Nat) (cb : Array Value) (blk off cap : Nat) (d0 : Array α) (w0 : World)
    (eg : ∀ args w, (callFunc g args).run P w = .ok (.enter g args) w) (hcmp : CmpLays P g cb enc k cf blk off d0.size w0)
    (R : RowK enc k w0 blk off d0) (hsz : d0.size < 4611686018427387904) (G a m b : Nat) (d : Array α) (w : World) (IH : Aside0 (SymOK P k enc g cb blk off cap d0 w0 G)) (hG : b - a ≤ G + 1) (hs : d0.size = d.size) (S : SWK enc k w0 blk off d w) (ham : a < m) (hmb : m < b) (hb : b ≤ d.size) (hm1 : a + 1 < m) (hm2 : m + 1 < b) (hgt : (a + b) / 2 < m) :
    Calls P 76 #[.slice (some ⟨blk, off, none⟩) d.size cap, .int .i64 a, .int .i64 m, .int .i64 b, .func (.func g) #[] cb] w (SortedP enc k w0 blk off d) := by
  have mixed := L.mixed; have t0 := L.t0; have a0 := L.a0; have z0 := L.z0; have v0 := L.v0; have t3 := L.t3; have a3 := L.a3; have z3 := L.z3; have v3 := L.v3; have t4 := L.t4; have a4 := L.a4; have z4 := L.z4; have v4 := L.v4; have t22 := L.t22; have a22 := L.a22; have z22 := L.z22; have v22 := L.v22; have t25 := L.t25; have a25 := L.a25; have z25 := L.z25; have v25 := L.v25; have t96 := L.t96; have a96 := L.a96; have z96 := L.z96; have v96 := L.v96; have aE := L.aE; have zE := L.zE
  have u22 := run_underlying L.t22
  have FG := L.f76
  have eg79 : ∀ args w, (callFunc 79 args).run P w = .ok (.enter 79 args) w := enters_of L.f79 (by kernel_rfl) rfl
  have eg76 : ∀ args w, (callFunc 76 args).run P w = .ok (.enter 76 args) w := enters_of L.f76 (by kernel_rfl) rfl
  have S0 : Aside (SWK enc k w0 blk off d w) := S
  have HC : Aside _ := hcmp
  rw [hs] at hsz
  clear S hcmp
  have hmaz : ((m : Int) - (a : Int) == 1) = false := beq_eq_false_iff_ne.2 (by omega)
  have hbmz : ((b : Int) - (m : Int) == 1) = false := beq_eq_false_iff_ne.2 (by omega)
  obtain ⟨MID, hMID, hM1, hM2, hM3⟩ : ∃ MID : Nat, ((a : Int) + (b : Int)) / 2 = (MID : Int) ∧ a < MID ∧ MID < b ∧ (2 * MID = a + b ∨ 2 * MID + 1 = a + b) := ⟨(a + b) / 2, by omega, by omega, by omega, by omega⟩
  obtain ⟨N, hN, hN2, hN3⟩ : ∃ N : Nat, (MID : Int) + (m : Int) = (N : Int) ∧ N ≤ MID + m ∧ MID + m ≤ N := ⟨MID + m, by omega, Nat.le_refl _, Nat.le_refl _⟩
  obtain ⟨Pp, hP, hP2, hP3⟩ : ∃ Pp : Nat, (N : Int) - 1 = (Pp : Int) ∧ Pp + 1 ≤ N ∧ N ≤ Pp + 1 := ⟨N - 1, by omega, by omega, by omega⟩
  have hgtz : (MID : Int) < (m : Int) := by omega
  clear hgt
  obtain ⟨LO, hLO, hLO2, hLO3⟩ : ∃ LO : Nat, (N : Int) - (b : Int) = (LO : Int) ∧ LO + b ≤ N ∧ N ≤ LO + b := ⟨N - b, by omega, by omega, by omega⟩
  go_enter FG, Try.ntmps76
  go_wp2
  clear hmaz hbmz hMID hN hP hLO
  have hgt : MID < m := by omega
  clear hgtz
  go_loopg [20, 21] (MID - LO) (fun kx s1 s2 wr => ∃ (i j : Nat), s1 = .int .i64 i ∧ s2 = .int .i64 j ∧ LO ≤ i ∧ i ≤ j ∧ j ≤ MID ∧ j - i ≤ kx ∧ Aside (SWK enc k w0 blk off d wr))
  case atStart => exact ⟨LO, MID, rfl, rfl, by omega, by omega, by omega, Nat.le_refl _, S0⟩
  case round =>
    clear S0
    obtain ⟨i, j, rfl, rfl, hi1, hi2, hi3, hkx, S1⟩ := hrel
    by_cases hlt : i < j
    · have hltz : (i : Int) < (j : Int) := by omega
      obtain ⟨H, hH, hH1, hH2⟩ : ∃ H : Nat, ((i : Int) + (j : Int)) / 2 = (H : Int) ∧ i ≤ H ∧ H < j := ⟨(i + j) / 2, by omega, by omega, by omega⟩
      obtain ⟨Z, hZ, hZ2⟩ : ∃ Z : Nat, (Pp : Int) - (H : Int) = (Z : Int) ∧ Z + H = Pp := ⟨Pp - H, by omega, by omega⟩
      have eX : ((Z : Int)).toNat = Z := by omega
      have pX : (0 : Int) ≤ (Z : Int) := by omega
      have bX : (Z : Int) < (d.size : Int) := by omega
      have rX : IntKind.i64.wrap ((Z : Int)) = (Z : Int) := by rw [IntKind.wrap_i64]; omega
      have eY : ((H : Int)).toNat = H := by omega
      have pY : (0 : Int) ≤ (H : Int) := by omega
      have bY : (H : Int) < (d.size : Int) := by omega
      have rY : IntKind.i64.wrap ((H : Int)) = (H : Int) := by rw [IntKind.wrap_i64]; omega
      obtain ⟨x24, hx24⟩ : ∃ x, x = d[Z]! := ⟨_, rfl⟩
      obtain ⟨y24, hy24⟩ : ∃ x, x = d[H]! := ⟨_, rfl⟩
      have l24a := S1.out.ld R (by omega) P Z (by omega)
      have l24b := S1.out.ld R (by omega) P H (by omega)
      rw [← hx24] at l24a
      rw [← hy24] at l24b
      have hc24 := S1.out.cmp HC.out (by omega) x24 y24
      clear hx24 hy24
      obtain ⟨bb, hd24⟩ : ∃ bb, decide (cf x24 y24 < 0) = bb := ⟨_, rfl⟩
      go_wp2_with fail
      go_quiet_grown (first | (go_at_fn g; refine Calls.grown_of (hc24 _ _)))
      have S2 : Aside (SWK enc k w0 blk off d (grow (wr.drewN nq) osq)) := S1.out.grown nq osq
      clear l24a l24b hc24 S1 hd24 eX pX bX rX eY pY bY rY
      generalize grow (wr.drewN nq) osq = w2 at S2 ⊢
      clear nq osq
      cases bb with
      | true =>
        go_wp2
        go_roundg (H - i)
        case measure => omega
        case rel => exact ⟨i, H, rfl, rfl, by omega, by omega, by omega, by omega, S2⟩
      | false =>
        go_wp2
        go_roundg (j - (H + 1))
        case measure => omega
        case rel => exact ⟨H + 1, j, by go_num, rfl, by omega, by omega, by omega, by omega, S2⟩
    · obtain rfl : i = j := by omega
      have hltz : ¬ (i : Int) < (i : Int) := by omega
      clear a0 z0 v0 a3 z3 v3 a4 z4 v4 a22 z22 v22 a25 z25 v25 t96 a96 z96 v96 aE zE u22 t22 t25
      obtain ⟨EN, hEN, hEN2⟩ : ∃ EN : Nat, (N : Int) - (i : Int) = (EN : Int) ∧ EN + i = N := ⟨N - i, by omega, by omega⟩
      have hEb : EN ≤ b := by omega
      clear hltz
      go_upto_region 39 with (fail)
      clear hEN
      by_cases kp0 : i < m
      · by_cases kq0 : m < EN
        · have gp : (i : Int) < (m : Int) := by omega
          have gp' : decide ((i : Int) < (m : Int)) = true := decide_eq_true gp
          have gq : (m : Int) < (EN : Int) := by omega
          have gq' : decide ((m : Int) < (EN : Int)) = true := decide_eq_true gq
          have HR1 := Aside0.mk (fun fv' => srt_rotate L enc fv' blk off cap i m EN d0 d w0 wr R (by omega) S1.out (by omega) (by omega) (by omega) hsz)
          go_upto_region 41 with (go_at_call 79; refine (HR1.out _).mono ?_; intro e wA hA; obtain ⟨rfl, dA, hsA, hpA, sA⟩ := hA)
          have SA : Aside (SWK enc k w0 blk off dA wA) := sA
          have HPA : Aside (dA.toList.Perm d.toList) := hpA
          clear sA hpA gp gp' gq gq' HR1
          by_cases kp1 : a < i
          · by_cases kq1 : i < MID
            · have gp : (a : Int) < (i : Int) := by omega
              have gp' : decide ((a : Int) < (i : Int)) = true := decide_eq_true gp
              have gq : (i : Int) < (MID : Int) := by omega
              have gq' : decide ((i : Int) < (MID : Int)) = true := decide_eq_true gq
              have hcon := IH.out a i MID dA wA (by omega) (by omega) SA.out (by omega) (by omega) (by omega)
              rw [hsA] at hcon
              have HR1 := Aside0.mk hcon
              clear hcon
              go_upto_region 43 with (go_at_call 76; refine HR1.out.mono ?_; intro e wB hB; obtain ⟨rfl, dB, hsB, hpB, sB⟩ := hB.trans hsA HPA.out)
              have SB : Aside (SWK enc k w0 blk off dB wB) := sB
              have HPB : Aside (dB.toList.Perm d.toList) := hpB
              clear sB hpB gp gp' gq gq' HR1
              by_cases kp2 : MID < EN
              · by_cases kq2 : EN < b
                · have gp : (MID : Int) < (EN : Int) := by omega
                  have gp' : decide ((MID : Int) < (EN : Int)) = true := decide_eq_true gp
                  have gq : (EN : Int) < (b : Int) := by omega
                  have gq' : decide ((EN : Int) < (b : Int)) = true := decide_eq_true gq
                  have hcon := IH.out MID EN b dB wB (by omega) (by omega) SB.out (by omega) (by omega) (by omega)
                  rw [hsB] at hcon
                  have HR1 := Aside0.mk hcon
                  clear hcon
                  go_wp2_with (go_at_call 76; refine HR1.out.mono ?_; intro e wD hD; obtain ⟨rfl, dD, hsD, hpD, sD⟩ := hD.trans hsB HPB.out)
                  go_end0
                  exact ⟨rfl, dD, hsD, hpD, sD⟩
                · have gp : (MID : Int) < (EN : Int) := by omega
                  have gp' : decide ((MID : Int) < (EN : Int)) = true := decide_eq_true gp
                  have gq : ¬ (EN : Int) < (b : Int) := by omega
                  have gq' : decide ((EN : Int) < (b : Int)) = false := decide_eq_false gq
                  go_wp2
                  go_end0
                  exact ⟨rfl, dB, hsB, HPB.out, SB.out⟩
              · exfalso
                omega
            · exfalso
              omega
          · have gp : ¬ (a : Int) < (i : Int) := by omega
            have gp' : decide ((a : Int) < (i : Int)) = false := decide_eq_false gp
            go_upto_region 43 with (fail)
            clear gp gp'
            by_cases kp2 : MID < EN
            · by_cases kq2 : EN < b
              · exfalso
                omega
              · have gp : (MID : Int) < (EN : Int) := by omega
                have gp' : decide ((MID : Int) < (EN : Int)) = true := decide_eq_true gp
                have gq : ¬ (EN : Int) < (b : Int) := by omega
                have gq' : decide ((EN : Int) < (b : Int)) = false := decide_eq_false gq
                go_wp2
                go_end0
                exact ⟨rfl, dA, hsA, HPA.out, SA.out⟩
            · exfalso
              omega
        · have gp : (i : Int) < (m : Int) := by omega
          have gp' : decide ((i : Int) < (m : Int)) = true := decide_eq_true gp
          have gq : ¬ (m : Int) < (EN : Int) := by omega
          have gq' : decide ((m : Int) < (EN : Int)) = false := decide_eq_false gq
          go_upto_region 41 with (fail)
          clear gp gp' gq gq'
          by_cases kp1 : a < i
          · by_cases kq1 : i < MID
            · exfalso
              omega
            · have gp : (a : Int) < (i : Int) := by omega
              have gp' : decide ((a : Int) < (i : Int)) = true := decide_eq_true gp
              have gq : ¬ (i : Int) < (MID : Int) := by omega
              have gq' : decide ((i : Int) < (MID : Int)) = false := decide_eq_false gq
              go_upto_region 43 with (fail)
              clear gp gp' gq gq'
              by_cases kp2 : MID < EN
              · by_cases kq2 : EN < b
                · have gp : (MID : Int) < (EN : Int) := by omega
                  have gp' : decide ((MID : Int) < (EN : Int)) = true := decide_eq_true gp
                  have gq : (EN : Int) < (b : Int) := by omega
                  have gq' : decide ((EN : Int) < (b : Int)) = true := decide_eq_true gq
                  have hcon := IH.out MID EN b d wr (by omega) (by omega) S1.out (by omega) (by omega) (by omega)
                  have HR1 := Aside0.mk hcon
                  clear hcon
                  go_wp2_with (go_at_call 76; refine HR1.out.mono ?_; intro e wD hD; obtain ⟨rfl, dD, hsD, hpD, sD⟩ := hD)
                  go_end0
                  exact ⟨rfl, dD, hsD, hpD, sD⟩
                · exfalso
                  omega
              · exfalso
                omega
          · exfalso
            omega
      · exfalso
        omega
set_option maxHeartbeats 16000000 in
set_option maxRecDepth 1000000 in
theorem srt_symD {P : Program} {k : Nat} (L : SortB P k) (enc : α → List Value) (cf : α → α → Int) (g : Nat) (cb : Array Value) (blk off cap : Nat) (d0 : Array α) (w0 : World)
    (eg : ∀ args w, (callFunc g args).run P w = .ok (.enter g args) w) (hcmp : CmpLays P g cb enc k cf blk off d0.size w0)
    (R : RowK enc k w0 blk off d0) (hsz : d0.size < 4611686018427387904) (G a m b : Nat) (d : Array α) (w : World) (IH : Aside0 (SymOK P k enc g cb blk off cap d0 w0 G)) (hG : b - a ≤ G + 1) (hs : d0.size = d.size) (S : SWK enc k w0 blk off d w) (ham : a < m) (hmb : m < b) (hb : b ≤ d.size) (hm1 : a + 1 < m) (hm2 : m + 1 < b) (hgt : m ≤ (a + b) / 2) :
    Calls P 76 #[.slice (some ⟨blk, off, none⟩) d.size cap, .int .i64 a, .int .i64 m, .int .i64 b, .func (.func g) #[] cb] w (SortedP enc k w0 blk off d) := by
  have mixed := L.mixed; have t0 := L.t0; have a0 := L.a0; have z0 := L.z0; have v0 := L.v0; have t3 := L.t3; have a3 := L.a3; have z3 := L.z3; have v3 := L.v3; have t4 := L.t4; have a4 := L.a4; have z4 := L.z4; have v4 := L.v4; have t22 := L.t22; have a22 := L.a22; have z22 := L.z22; have v22 := L.v22; have t25 := L.t25; have a25 := L.a25; have z25 := L.z25; have v25 := L.v25; have t96 := L.t96; have a96 := L.a96; have z96 := L.z96; have v96 := L.v96; have aE := L.aE; have zE := L.zE
  have u22 := run_underlying L.t22
  have FG := L.f76
  have eg79 : ∀ args w, (callFunc 79 args).run P w = .ok (.enter 79 args) w := enters_of L.f79 (by kernel_rfl) rfl
  have eg76 : ∀ args w, (callFunc 76 args).run P w = .ok (.enter 76 args) w := enters_of L.f76 (by kernel_rfl) rfl
  have S0 : Aside (SWK enc k w0 blk off d w) := S
  have HC : Aside _ := hcmp
  rw [hs] at hsz
  clear S hcmp
  have hmaz : ((m : Int) - (a : Int) == 1) = false := beq_eq_false_iff_ne.2 (by omega)
  have hbmz : ((b : Int) - (m : Int) == 1) = false := beq_eq_false_iff_ne.2 (by omega)
  obtain ⟨MID, hMID, hM1, hM2, hM3⟩ : ∃ MID : Nat, ((a : Int) + (b : Int)) / 2 = (MID : Int) ∧ a < MID ∧ MID < b ∧ (2 * MID = a + b ∨ 2 * MID + 1 = a + b) := ⟨(a + b) / 2, by omega, by omega, by omega, by omega⟩
  obtain ⟨N, hN, hN2, hN3⟩ : ∃ N : Nat, (MID : Int) + (m : Int) = (N : Int) ∧ N ≤ MID + m ∧ MID + m ≤ N := ⟨MID + m, by omega, Nat.le_refl _, Nat.le_refl _⟩
  obtain ⟨Pp, hP, hP2, hP3⟩ : ∃ Pp : Nat, (N : Int) - 1 = (Pp : Int) ∧ Pp + 1 ≤ N ∧ N ≤ Pp + 1 := ⟨N - 1, by omega, by omega, by omega⟩
  have hgtz : ¬ (MID : Int) < (m : Int) := by omega
  clear hgt
  go_enter FG, Try.ntmps76
  go_wp2
  clear hmaz hbmz hMID hN hP
  have hgt : m ≤ MID := by omega
  clear hgtz
  go_loopg [20, 21] (m - a) (fun kx s1 s2 wr => ∃ (i j : Nat), s1 = .int .i64 i ∧ s2 = .int .i64 j ∧ a ≤ i ∧ i ≤ j ∧ j ≤ m ∧ j - i ≤ kx ∧ Aside (SWK enc k w0 blk off d wr))
  case atStart => exact ⟨a, m, rfl, rfl, by omega, by omega, by omega, Nat.le_refl _, S0⟩
  case round =>
    clear S0
    obtain ⟨i, j, rfl, rfl, hi1, hi2, hi3, hkx, S1⟩ := hrel
    by_cases hlt : i < j
    · have hltz : (i : Int) < (j : Int) := by omega
      obtain ⟨H, hH, hH1, hH2⟩ : ∃ H : Nat, ((i : Int) + (j : Int)) / 2 = (H : Int) ∧ i ≤ H ∧ H < j := ⟨(i + j) / 2, by omega, by omega, by omega⟩
      obtain ⟨Z, hZ, hZ2⟩ : ∃ Z : Nat, (Pp : Int) - (H : Int) = (Z : Int) ∧ Z + H = Pp := ⟨Pp - H, by omega, by omega⟩
      have eX : ((Z : Int)).toNat = Z := by omega
      have pX : (0 : Int) ≤ (Z : Int) := by omega
      have bX : (Z : Int) < (d.size : Int) := by omega
      have rX : IntKind.i64.wrap ((Z : Int)) = (Z : Int) := by rw [IntKind.wrap_i64]; omega
      have eY : ((H : Int)).toNat = H := by omega
      have pY : (0 : Int) ≤ (H : Int) := by omega
      have bY : (H : Int) < (d.size : Int) := by omega
      have rY : IntKind.i64.wrap ((H : Int)) = (H : Int) := by rw [IntKind.wrap_i64]; omega
      obtain ⟨x24, hx24⟩ : ∃ x, x = d[Z]! := ⟨_, rfl⟩
      obtain ⟨y24, hy24⟩ : ∃ x, x = d[H]! := ⟨_, rfl⟩
      have l24a := S1.out.ld R (by omega) P Z (by omega)
      have l24b := S1.out.ld R (by omega) P H (by omega)
      rw [← hx24] at l24a
      rw [← hy24] at l24b
      have hc24 := S1.out.cmp HC.out (by omega) x24 y24
      clear hx24 hy24
      obtain ⟨bb, hd24⟩ : ∃ bb, decide (cf x24 y24 < 0) = bb := ⟨_, rfl⟩
      go_wp2_with fail
      go_quiet_grown (first | (go_at_fn g; refine Calls.grown_of (hc24 _ _)))
      have S2 : Aside (SWK enc k w0 blk off d (grow (wr.drewN nq) osq)) := S1.out.grown nq osq
      clear l24a l24b hc24 S1 hd24 eX pX bX rX eY pY bY rY
      generalize grow (wr.drewN nq) osq = w2 at S2 ⊢
      clear nq osq
      cases bb with
      | true =>
        go_wp2
        go_roundg (H - i)
        case measure => omega
        case rel => exact ⟨i, H, rfl, rfl, by omega, by omega, by omega, by omega, S2⟩
      | false =>
        go_wp2
        go_roundg (j - (H + 1))
        case measure => omega
        case rel => exact ⟨H + 1, j, by go_num, rfl, by omega, by omega, by omega, by omega, S2⟩
    · obtain rfl : i = j := by omega
      have hltz : ¬ (i : Int) < (i : Int) := by omega
      clear a0 z0 v0 a3 z3 v3 a4 z4 v4 a22 z22 v22 a25 z25 v25 t96 a96 z96 v96 aE zE u22 t22 t25
      obtain ⟨EN, hEN, hEN2⟩ : ∃ EN : Nat, (N : Int) - (i : Int) = (EN : Int) ∧ EN + i = N := ⟨N - i, by omega, by omega⟩
      have hEb : EN ≤ b := by omega
      clear hltz
      go_upto_region 39 with (fail)
      clear hEN
      by_cases kp0 : i < m
      · by_cases kq0 : m < EN
        · have gp : (i : Int) < (m : Int) := by omega
          have gp' : decide ((i : Int) < (m : Int)) = true := decide_eq_true gp
          have gq : (m : Int) < (EN : Int) := by omega
          have gq' : decide ((m : Int) < (EN : Int)) = true := decide_eq_true gq
          have HR1 := Aside0.mk (fun fv' => srt_rotate L enc fv' blk off cap i m EN d0 d w0 wr R (by omega) S1.out (by omega) (by omega) (by omega) hsz)
          go_upto_region 41 with (go_at_call 79; refine (HR1.out _).mono ?_; intro e wA hA; obtain ⟨rfl, dA, hsA, hpA, sA⟩ := hA)
          have SA : Aside (SWK enc k w0 blk off dA wA) := sA
          have HPA : Aside (dA.toList.Perm d.toList) := hpA
          clear sA hpA gp gp' gq gq' HR1
          by_cases kp1 : a < i
          · by_cases kq1 : i < MID
            · have gp : (a : Int) < (i : Int) := by omega
              have gp' : decide ((a : Int) < (i : Int)) = true := decide_eq_true gp
              have gq : (i : Int) < (MID : Int) := by omega
              have gq' : decide ((i : Int) < (MID : Int)) = true := decide_eq_true gq
              have hcon := IH.out a i MID dA wA (by omega) (by omega) SA.out (by omega) (by omega) (by omega)
              rw [hsA] at hcon
              have HR1 := Aside0.mk hcon
              clear hcon
              go_upto_region 43 with (go_at_call 76; refine HR1.out.mono ?_; intro e wB hB; obtain ⟨rfl, dB, hsB, hpB, sB⟩ := hB.trans hsA HPA.out)
              have SB : Aside (SWK enc k w0 blk off dB wB) := sB
              have HPB : Aside (dB.toList.Perm d.toList) := hpB
              clear sB hpB gp gp' gq gq' HR1
              by_cases kp2 : MID < EN
              · by_cases kq2 : EN < b
                · have gp : (MID : Int) < (EN : Int) := by omega
                  have gp' : decide ((MID : Int) < (EN : Int)) = true := decide_eq_true gp
                  have gq : (EN : Int) < (b : Int) := by omega
                  have gq' : decide ((EN : Int) < (b : Int)) = true := decide_eq_true gq
                  have hcon := IH.out MID EN b dB wB (by omega) (by omega) SB.out (by omega) (by omega) (by omega)
                  rw [hsB] at hcon
                  have HR1 := Aside0.mk hcon
                  clear hcon
                  go_wp2_with (go_at_call 76; refine HR1.out.mono ?_; intro e wD hD; obtain ⟨rfl, dD, hsD, hpD, sD⟩ := hD.trans hsB HPB.out)
                  go_end0
                  exact ⟨rfl, dD, hsD, hpD, sD⟩
                · exfalso
                  omega
              · exfalso
                omega
            · exfalso
              omega
          · have gp : ¬ (a : Int) < (i : Int) := by omega
            have gp' : decide ((a : Int) < (i : Int)) = false := decide_eq_false gp
            go_upto_region 43 with (fail)
            clear gp gp'
            by_cases kp2 : MID < EN
            · by_cases kq2 : EN < b
              · have gp : (MID : Int) < (EN : Int) := by omega
                have gp' : decide ((MID : Int) < (EN : Int)) = true := decide_eq_true gp
                have gq : (EN : Int) < (b : Int) := by omega
                have gq' : decide ((EN : Int) < (b : Int)) = true := decide_eq_true gq
                have hcon := IH.out MID EN b dA wA (by omega) (by omega) SA.out (by omega) (by omega) (by omega)
                rw [hsA] at hcon
                have HR1 := Aside0.mk hcon
                clear hcon
                go_wp2_with (go_at_call 76; refine HR1.out.mono ?_; intro e wD hD; obtain ⟨rfl, dD, hsD, hpD, sD⟩ := hD.trans hsA HPA.out)
                go_end0
                exact ⟨rfl, dD, hsD, hpD, sD⟩
              · have gp : (MID : Int) < (EN : Int) := by omega
                have gp' : decide ((MID : Int) < (EN : Int)) = true := decide_eq_true gp
                have gq : ¬ (EN : Int) < (b : Int) := by omega
                have gq' : decide ((EN : Int) < (b : Int)) = false := decide_eq_false gq
                go_wp2
                go_end0
                exact ⟨rfl, dA, hsA, HPA.out, SA.out⟩
            · exfalso
              omega
        · exfalso
          omega
      · have gp : ¬ (i : Int) < (m : Int) := by omega
        have gp' : decide ((i : Int) < (m : Int)) = false := decide_eq_false gp
        go_upto_region 41 with (fail)
        clear gp gp'
        by_cases kp1 : a < i
        · by_cases kq1 : i < MID
          · have gp : (a : Int) < (i : Int) := by omega
            have gp' : decide ((a : Int) < (i : Int)) = true := decide_eq_true gp
            have gq : (i : Int) < (MID : Int) := by omega
            have gq' : decide ((i : Int) < (MID : Int)) = true := decide_eq_true gq
            have hcon := IH.out a i MID d wr (by omega) (by omega) S1.out (by omega) (by omega) (by omega)
            have HR1 := Aside0.mk hcon
            clear hcon
            go_upto_region 43 with (go_at_call 76; refine HR1.out.mono ?_; intro e wB hB; obtain ⟨rfl, dB, hsB, hpB, sB⟩ := hB)
            have SB : Aside (SWK enc k w0 blk off dB wB) := sB
            have HPB : Aside (dB.toList.Perm d.toList) := hpB
            clear sB hpB gp gp' gq gq' HR1
            by_cases kp2 : MID < EN
            · by_cases kq2 : EN < b
              · exfalso
                omega
              · exfalso
                omega
            · have gp : ¬ (MID : Int) < (EN : Int) := by omega
              have gp' : decide ((MID : Int) < (EN : Int)) = false := decide_eq_false gp
              go_wp2
              go_end0
              exact ⟨rfl, dB, hsB, HPB.out, SB.out⟩
          · have gp : (a : Int) < (i : Int) := by omega
            have gp' : decide ((a : Int) < (i : Int)) = true := decide_eq_true gp
            have gq : ¬ (i : Int) < (MID : Int) := by omega
            have gq' : decide ((i : Int) < (MID : Int)) = false := decide_eq_false gq
            go_upto_region 43 with (fail)
            clear gp gp' gq gq'
            by_cases kp2 : MID < EN
            · by_cases kq2 : EN < b
              · exfalso
                omega
              · exfalso
                omega
            · have gp : ¬ (MID : Int) < (EN : Int) := by omega
              have gp' : decide ((MID : Int) < (EN : Int)) = false := decide_eq_false gp
              go_wp2
              go_end0
              exact ⟨rfl, d, rfl, List.Perm.refl _, S1.out⟩
        · exfalso
          omega
theorem srt_symMerge {P : Program} {k : Nat} (L : SortB P k) (enc : α → List Value) (cf : α → α → Int) (g : Nat) (cb : Array Value) (blk off cap : Nat) (d0 : Array α) (w0 : World)
    (eg : ∀ args w, (callFunc g args).run P w = .ok (.enter g args) w) (hcmp : CmpLays P g cb enc k cf blk off d0.size w0)
    (R : RowK enc k w0 blk off d0) (hsz : d0.size < 4611686018427387904) : ∀ G, SymOK P k enc g cb blk off cap d0 w0 G
  | 0 => fun a m b d w hG hs S ham hmb hb => absurd hG (by omega)
  | G + 1 => fun a m b d w hG hs S ham hmb hb => by
    have IH := Aside0.mk (srt_symMerge L enc cf g cb blk off cap d0 w0 eg hcmp R hsz G)
    by_cases h1 : m ≤ a + 1
    · exact srt_symA L enc cf g cb blk off cap d0 w0 eg hcmp R hsz G a m b d w IH hG hs S ham hmb hb h1
    · by_cases h2 : b ≤ m + 1
      · exact srt_symB L enc cf g cb blk off cap d0 w0 eg hcmp R hsz G a m b d w IH hG hs S ham hmb hb (by omega) h2
      · by_cases h3 : (a + b) / 2 < m
        · exact srt_symC L enc cf g cb blk off cap d0 w0 eg hcmp R hsz G a m b d w IH hG hs S ham hmb hb (by omega) (by omega) h3
        · exact srt_symD L enc cf g cb blk off cap d0 w0 eg hcmp R hsz G a m b d w IH hG hs S ham hmb hb (by omega) (by omega) (by omega)
end Go.Proofs.Ytjgkalppjfmkoaa
