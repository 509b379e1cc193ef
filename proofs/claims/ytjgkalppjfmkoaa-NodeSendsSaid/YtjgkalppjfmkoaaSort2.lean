/- The stable sort's family at duties, over whatever program bears its bodies: the exchange of ranges, the rotation. Behind each the row holds a permutation of what it held. -/
import Derived.Test.YtjgkalppjfmkoaaSort1
namespace Go.Proofs.Ytjgkalppjfmkoaa
open Go.RowKit Go.Shelf Go.Lib Go.Sort Go.Proofs.YtjgkalppjfmkoaaW.PrintWords
set_option linter.unusedVariables false
set_option linter.unusedSimpArgs false

/-- What is asked of the program: the family's bodies, their types; k: how many cells an element has. -/
structure SortB (P : Program) (k : Nat) : Prop where
  mixed : P.follows .mixedOrders = true
  f82 : P.funcs[82]? = some Try.f82
  f79 : P.funcs[79]? = some Try.f79
  f76 : P.funcs[76]? = some Try.f76
  f75 : P.funcs[75]? = some Try.f75
  f67 : P.funcs[67]? = some Try.f67
  t0 : P.underlying 0 = some (TypeDesc.tuple #[])
  a0 : ∀ w, (isAgg 0).run P w = .ok false w
  z0 : ∀ w, (Go.sizeOf 0).run P w = .ok 1 w
  v0 : ∀ w, (zeroValue 0).run P w = .ok (Value.tuple #[]) w
  t3 : P.underlying 3 = some (TypeDesc.int IntKind.i64)
  a3 : ∀ w, (isAgg 3).run P w = .ok false w
  z3 : ∀ w, (Go.sizeOf 3).run P w = .ok 1 w
  v3 : ∀ w, (zeroValue 3).run P w = .ok (Value.int IntKind.i64 0) w
  t4 : P.underlying 4 = some (TypeDesc.bool)
  a4 : ∀ w, (isAgg 4).run P w = .ok false w
  z4 : ∀ w, (Go.sizeOf 4).run P w = .ok 1 w
  v4 : ∀ w, (zeroValue 4).run P w = .ok (Value.bool false) w
  t22 : P.underlying 54 = some (TypeDesc.slice 63)
  a22 : ∀ w, (isAgg 54).run P w = .ok false w
  z22 : ∀ w, (Go.sizeOf 54).run P w = .ok 1 w
  v22 : ∀ w, (zeroValue 54).run P w = .ok (Value.slice none 0 0) w
  t25 : P.underlying 81 = some (TypeDesc.func #[63, 63] #[3] false)
  a25 : ∀ w, (isAgg 81).run P w = .ok false w
  z25 : ∀ w, (Go.sizeOf 81).run P w = .ok 1 w
  v25 : ∀ w, (zeroValue 81).run P w = .ok (Value.nilFunc) w
  t96 : P.underlying 96 = some (TypeDesc.int IntKind.u64)
  a96 : ∀ w, (isAgg 96).run P w = .ok false w
  z96 : ∀ w, (Go.sizeOf 96).run P w = .ok 1 w
  v96 : ∀ w, (zeroValue 96).run P w = .ok (Value.int IntKind.u64 0) w
  aE : ∀ w, (isAgg 63).run P w = .ok true w
  zE : ∀ w, (Go.sizeOf 63).run P w = .ok k w

theorem sortB : SortB Try.prog 9 where
  mixed := by kernel_rfl
  f82 := Try.func82
  f79 := Try.func79
  f76 := Try.func76
  f75 := Try.func75
  f67 := Try.func67
  t0 := Try.underlying0
  a0 := fun w => by kernel_rfl
  z0 := fun w => by kernel_rfl
  v0 := fun w => by kernel_rfl
  t3 := Try.underlying3
  a3 := fun w => by kernel_rfl
  z3 := fun w => by kernel_rfl
  v3 := fun w => by kernel_rfl
  t4 := Try.underlying4
  a4 := fun w => by kernel_rfl
  z4 := fun w => by kernel_rfl
  v4 := fun w => by kernel_rfl
  t22 := Try.underlying54
  a22 := fun w => by kernel_rfl
  z22 := fun w => by kernel_rfl
  v22 := fun w => by kernel_rfl
  t25 := Try.underlying81
  a25 := fun w => by kernel_rfl
  z25 := fun w => by kernel_rfl
  v25 := fun w => by kernel_rfl
  t96 := Try.underlying96
  a96 := fun w => by kernel_rfl
  z96 := fun w => by kernel_rfl
  v96 := fun w => by kernel_rfl
  aE := fun w => by kernel_rfl
  zE := fun w => by kernel_rfl

variable {α : Type} [Inhabited α]
theorem swp_perm (d : Array α) (i j : Nat) (hi : i < d.size) (hj : j < d.size) : (swp d i j).toList.Perm d.toList := by
  obtain ⟨h1, _, h3⟩ := swp_permIn d 0 d.size i j (Nat.zero_le _) hi (Nat.zero_le _) hj (Nat.le_refl _)
  have e1 : d.extract 0 d.size = d := by simp
  have e2 : (swp d i j).extract 0 d.size = swp d i j := by rw [← h1]; simp
  rwa [e1, e2] at h3

/-- Behind a function of the family. -/
def SortedP (enc : α → List Value) (k : Nat) (w0 : World) (blk off : Nat) (d : Array α) (e : Ending) (w' : World) : Prop :=
  e = .returned (.tuple #[]) ∧ ∃ d' : Array α, d'.size = d.size ∧ d'.toList.Perm d.toList ∧ SWK enc k w0 blk off d' w'

set_option maxHeartbeats 4000000 in
set_option maxRecDepth 1000000 in
theorem srt_swapRange {P : Program} {k : Nat} (L : SortB P k) (enc : α → List Value) (fv : Value) (blk off cap a b n : Nat) (d0 d : Array α) (w0 w : World)
    (R : RowK enc k w0 blk off d0) (hs : d0.size = d.size) (S : SWK enc k w0 blk off d w) (ha : a + n ≤ d.size) (hb : b + n ≤ d.size) (hsz : d.size < 4611686018427387904) :
    Calls P 82 #[.slice (some ⟨blk, off, none⟩) d.size cap, .int .i64 a, .int .i64 b, .int .i64 n, fv] w (SortedP enc k w0 blk off d) := by
  have mixed := L.mixed; have t0 := L.t0; have a0 := L.a0; have z0 := L.z0; have v0 := L.v0; have t3 := L.t3; have a3 := L.a3; have z3 := L.z3; have v3 := L.v3; have t4 := L.t4; have a4 := L.a4; have z4 := L.z4; have v4 := L.v4; have t22 := L.t22; have a22 := L.a22; have z22 := L.z22; have v22 := L.v22; have t25 := L.t25; have a25 := L.a25; have z25 := L.z25; have v25 := L.v25; have aE := L.aE; have zE := L.zE
  have FG := L.f82
  have S0 : Aside (SWK enc k w0 blk off d w) := S
  clear S
  go_enter FG, Try.ntmps82
  go_wp2
  go_loopg [10] n (fun kx s10 wr => ∃ (i : Nat) (dk : Array α), s10 = .int .i64 i ∧ i ≤ n ∧ n - i ≤ kx ∧ dk.size = d.size ∧ Aside (SWK enc k w0 blk off dk wr) ∧ Aside (dk.toList.Perm d.toList))
  case atStart => exact ⟨0, d, rfl, Nat.zero_le _, by omega, rfl, S0, List.Perm.refl _⟩
  case round =>
    clear S0
    obtain ⟨i, dk, rfl, hi, hkx, hds, S1, hp⟩ := hrel
    by_cases hlt : i < n
    · have hlt2 : (i : Int) < (n : Int) := by omega
      go_wp2_with fail
      obtain ⟨X, hX, hXd⟩ : ∃ X : Nat, (a : Int) + (i : Int) = (X : Int) ∧ X < d.size := ⟨a + i, by omega, by omega⟩
      obtain ⟨Y, hY, hYd⟩ : ∃ Y : Nat, (b : Int) + (i : Int) = (Y : Int) ∧ Y < d.size := ⟨b + i, by omega, by omega⟩
      have ea44 : ((X : Int)).toNat = X := by omega
      have pa44 : (0 : Int) ≤ (X : Int) := by omega
      have ba44 : (X : Int) < (d.size : Int) := by omega
      have ra44 : IntKind.i64.wrap ((X : Int)) = (X : Int) := by rw [IntKind.wrap_i64]; omega
      have ec44 : ((Y : Int)).toNat = Y := by omega
      have pc44 : (0 : Int) ≤ (Y : Int) := by omega
      have bc44 : (Y : Int) < (d.size : Int) := by omega
      have rc44 : IntKind.i64.wrap ((Y : Int)) = (Y : Int) := by rw [IntKind.wrap_i64]; omega
      have S2 : Aside (SWK enc k w0 blk off (swp dk X Y) ((wr.drew.setCells blk (off + X * k) (enc dk[Y]!)).setCells blk (off + Y * k) (enc dk[X]!))) := S1.out.swapped R X Y (by omega) (by omega)
      have HP2 : Aside ((swp dk X Y).toList.Perm d.toList) := (swp_perm dk X Y (by omega) (by omega)).trans hp.out
      have l44a := S1.out.ld1 R (by omega) P X (by omega)
      have l44b := S1.out.ld1 R (by omega) P Y (by omega)
      have s44a := S1.out.st1 R (by omega) P X (by omega) dk[Y]!
      have s44b := S1.out.st2 R (by omega) P X Y (by omega) (by omega) dk[Y]! dk[X]!
      have n44a : (enc dk[X]!).length = k := R.hk _
      have n44b : (enc dk[Y]!).length = k := R.hk _
      generalize enc dk[X]! = cI44 at S2 l44a s44b n44a
      generalize enc dk[Y]! = cJ44 at S2 l44b s44a s44b n44b
      clear S1
      go_big_region_o
      clear l44a l44b s44a s44b
      generalize (wr.drew.setCells blk (off + X * k) cJ44).setCells blk (off + Y * k) cI44 = w2 at S2 ⊢
      clear hX hY ea44 pa44 ba44 ra44 ec44 pc44 bc44 rc44
      go_wp2
      go_roundg (n - (i + 1))
      case measure => omega
      case rel => exact ⟨i + 1, swp dk X Y, by go_num, by omega, by omega, by rw [size_swp]; exact hds, S2, HP2⟩
    · have hlt2 : ¬ (i : Int) < (n : Int) := by omega
      go_wp2
      go_end0
      exact ⟨rfl, dk, hds, hp.out, S1.out⟩

theorem SortedP.trans {enc : α → List Value} {k : Nat} {w0 : World} {blk off : Nat} {d d1 : Array α} {e : Ending} {w' : World} (hs : d1.size = d.size) (hp : d1.toList.Perm d.toList) (h : SortedP enc k w0 blk off d1 e w') : SortedP enc k w0 blk off d e w' := by
  obtain ⟨he, d', h1, h2, h3⟩ := h
  exact ⟨he, d', h1.trans hs, h2.trans hp, h3⟩

set_option maxHeartbeats 4000000 in
set_option maxRecDepth 1000000 in
theorem srt_rotate {P : Program} {k : Nat} (L : SortB P k) (enc : α → List Value) (fv : Value) (blk off cap a m b : Nat) (d0 d : Array α) (w0 w : World)
    (R : RowK enc k w0 blk off d0) (hs : d0.size = d.size) (S : SWK enc k w0 blk off d w) (ha : a < m) (hm : m < b) (hb : b ≤ d.size) (hsz : d.size < 4611686018427387904) :
    Calls P 79 #[.slice (some ⟨blk, off, none⟩) d.size cap, .int .i64 a, .int .i64 m, .int .i64 b, fv] w (SortedP enc k w0 blk off d) := by
  have mixed := L.mixed; have t0 := L.t0; have a0 := L.a0; have z0 := L.z0; have v0 := L.v0; have t3 := L.t3; have a3 := L.a3; have z3 := L.z3; have v3 := L.v3; have t4 := L.t4; have a4 := L.a4; have z4 := L.z4; have v4 := L.v4; have t22 := L.t22; have a22 := L.a22; have z22 := L.z22; have v22 := L.v22; have t25 := L.t25; have a25 := L.a25; have z25 := L.z25; have v25 := L.v25
  have FG := L.f79
  have eg82 : ∀ args w, (callFunc 82 args).run P w = .ok (.enter 82 args) w := enters_of L.f82 (by kernel_rfl) rfl
  have S0 : Aside (SWK enc k w0 blk off d w) := S
  clear S
  go_enter FG, Try.ntmps79
  obtain ⟨i0, hi0⟩ : ∃ i0 : Nat, (m : Int) - (a : Int) = (i0 : Int) := ⟨m - a, by omega⟩
  obtain ⟨j0, hj0⟩ : ∃ j0 : Nat, (b : Int) - (m : Int) = (j0 : Int) := ⟨b - m, by omega⟩
  have hij0 : 0 < i0 ∧ 0 < j0 ∧ i0 ≤ m ∧ m + j0 ≤ d.size := by omega
  have HIJ := Aside0.mk hij0
  clear hij0
  go_wp2
  clear hi0 hj0
  go_loopg [10, 11] (i0 + j0) (fun kx s10 s11 wr => ∃ (i j : Nat) (dk : Array α), s10 = .int .i64 i ∧ s11 = .int .i64 j ∧ Aside0 (0 < i ∧ 0 < j ∧ i ≤ m ∧ m + j ≤ d.size) ∧ i + j ≤ kx ∧ dk.size = d.size ∧ Aside (SWK enc k w0 blk off dk wr) ∧ Aside (dk.toList.Perm d.toList))
  case atStart => exact ⟨i0, j0, d, rfl, rfl, HIJ, Nat.le_refl _, rfl, S0, List.Perm.refl _⟩
  case round =>
    clear S0 HIJ
    obtain ⟨i, j, dk, rfl, rfl, HIJ, hkx, hds, S1, hp⟩ := hrel
    obtain ⟨b1, b2, b3, b4⟩ := HIJ.out
    obtain ⟨X, hX, hX2⟩ : ∃ X : Nat, (m : Int) - (i : Int) = (X : Int) ∧ X + i = m := ⟨m - i, by omega, by omega⟩
    by_cases hij : i = j
    · have hne : ((i : Int) != (j : Int)) = false := by simp; omega
      have hcon := fun fv' => srt_swapRange L enc fv' blk off cap X m i d0 dk w0 wr R (by omega) S1.out (by omega) (by omega) (by omega)
      rw [hds] at hcon
      have HC := Aside0.mk hcon
      clear hcon hij
      go_wp2_with (fail)
      refine (HC.out _).mono ?_
      intro e w2 h2
      obtain ⟨rfl, d2, h21, h22, h23⟩ := h2.trans hds hp.out
      go_wp2
      go_end0
      exact ⟨rfl, d2, h21, h22, h23⟩
    · have hne : ((i : Int) != (j : Int)) = true := by simp; omega
      by_cases hgt : j < i
      · have hgt2 : (j : Int) < (i : Int) := by omega
        have hcon := fun fv' => srt_swapRange L enc fv' blk off cap X m j d0 dk w0 wr R (by omega) S1.out (by omega) (by omega) (by omega)
        rw [hds] at hcon
        have HC := Aside0.mk hcon
        clear hcon hij
        go_wp2_with (fail)
        refine (HC.out _).mono ?_
        intro e w2 h2
        obtain ⟨rfl, d2, h21, h22, h23⟩ := h2.trans hds hp.out
        have S2 : Aside (SWK enc k w0 blk off d2 w2) := h23
        have HP2 : Aside (d2.toList.Perm d.toList) := h22
        clear h2 h22 h23 hX
        go_wp2
        go_roundg (i - j + j)
        case measure => omega
        case rel => exact ⟨i - j, j, d2, by rw [show (i : Int) - (j : Int) = ((i - j : Nat) : Int) by omega], rfl, ⟨by omega⟩, by omega, h21, S2, HP2⟩
      · have hgt2 : ¬ (j : Int) < (i : Int) := by omega
        obtain ⟨Y, hY, hY2⟩ : ∃ Y : Nat, (m : Int) + (j : Int) - (i : Int) = (Y : Int) ∧ Y + i = m + j := ⟨m + j - i, by omega, by omega⟩
        have hcon := fun fv' => srt_swapRange L enc fv' blk off cap X Y i d0 dk w0 wr R (by omega) S1.out (by omega) (by omega) (by omega)
        rw [hds] at hcon
        have HC := Aside0.mk hcon
        clear hcon
        go_wp2_with (fail)
        refine (HC.out _).mono ?_
        intro e w2 h2
        obtain ⟨rfl, d2, h21, h22, h23⟩ := h2.trans hds hp.out
        have S2 : Aside (SWK enc k w0 blk off d2 w2) := h23
        have HP2 : Aside (d2.toList.Perm d.toList) := h22
        clear h2 h22 h23 hX hY
        go_wp2
        go_roundg (i + (j - i))
        case measure => omega
        case rel => exact ⟨i, j - i, d2, rfl, by rw [show (j : Int) - (i : Int) = ((j - i : Nat) : Int) by omega], ⟨by omega⟩, by omega, h21, S2, HP2⟩

set_option maxHeartbeats 4000000 in
set_option maxRecDepth 1000000 in
theorem srt_insertion {P : Program} {k : Nat} (L : SortB P k) (enc : α → List Value) (cf : α → α → Int) (g : Nat) (cb : Array Value) (blk off cap a b : Nat) (d0 d : Array α) (w0 w : World)
    (eg : ∀ args w, (callFunc g args).run P w = .ok (.enter g args) w) (hcmp : CmpLays P g cb enc k cf blk off d0.size w0)
    (R : RowK enc k w0 blk off d0) (hs : d0.size = d.size) (S : SWK enc k w0 blk off d w) (hab : a ≤ b) (hb : b ≤ d.size) (hsz : d.size < 4611686018427387904) :
    Calls P 75 #[.slice (some ⟨blk, off, none⟩) d.size cap, .int .i64 a, .int .i64 b, .func (.func g) #[] cb] w (SortedP enc k w0 blk off d) := by
  have mixed := L.mixed; have t0 := L.t0; have a0 := L.a0; have z0 := L.z0; have v0 := L.v0; have t3 := L.t3; have a3 := L.a3; have z3 := L.z3; have v3 := L.v3; have t4 := L.t4; have a4 := L.a4; have z4 := L.z4; have v4 := L.v4; have t22 := L.t22; have a22 := L.a22; have z22 := L.z22; have v22 := L.v22; have t25 := L.t25; have a25 := L.a25; have z25 := L.z25; have v25 := L.v25; have aE := L.aE; have zE := L.zE
  have u22 := run_underlying L.t22
  have FG := L.f75
  have S0 : Aside (SWK enc k w0 blk off d w) := S
  have HC : Aside _ := hcmp
  clear S hcmp
  go_enter FG, Try.ntmps75
  go_wp2
  go_loopg [8] (b - a) (fun kx s8 wr => ∃ (i : Nat) (dk : Array α), s8 = .int .i64 i ∧ a < i ∧ i ≤ b + 1 ∧ b + 1 - i ≤ kx + 1 ∧ dk.size = d.size ∧ Aside (SWK enc k w0 blk off dk wr) ∧ Aside (dk.toList.Perm d.toList))
  case atStart => exact ⟨a + 1, d, by go_num, by omega, by omega, by omega, rfl, S0, List.Perm.refl _⟩
  case round =>
    clear S0
    obtain ⟨i, dk, rfl, hai, hib, hkx, hds, S1, hp⟩ := hrel
    by_cases hlt : i < b
    · have hltz : (i : Int) < (b : Int) := by omega
      go_wp2
      go_loopg [9] i (fun g2 vj wr => ∃ (j : Nat) (dj : Array α), vj = .int .i64 j ∧ a ≤ j ∧ j ≤ i ∧ j ≤ g2 ∧ dj.size = d.size ∧ Aside (SWK enc k w0 blk off dj wr) ∧ Aside (dj.toList.Perm d.toList))
      case atStart => exact ⟨i, dk, rfl, by omega, Nat.le_refl _, Nat.le_refl _, hds, S1, hp⟩
      case round =>
        clear S1 hp
        obtain ⟨j, dj, rfl, haj, hji, hg2, hsj, S1, hp⟩ := hrel
        by_cases hja : a < j
        · have hjaz : (a : Int) < (j : Int) := by omega
          obtain ⟨X, hX, hX2⟩ : ∃ X : Nat, (j : Int) - 1 = (X : Int) ∧ X + 1 = j := ⟨j - 1, by omega, by omega⟩
          have ea44 : ((j : Int)).toNat = j := by omega
          have pa44 : (0 : Int) ≤ (j : Int) := by omega
          have ba44 : (j : Int) < (d.size : Int) := by omega
          have ra44 : IntKind.i64.wrap ((j : Int)) = (j : Int) := by rw [IntKind.wrap_i64]; omega
          have ec44 : ((X : Int)).toNat = X := by omega
          have pc44 : (0 : Int) ≤ (X : Int) := by omega
          have bc44 : (X : Int) < (d.size : Int) := by omega
          have rc44 : IntKind.i64.wrap ((X : Int)) = (X : Int) := by rw [IntKind.wrap_i64]; omega
          obtain ⟨x24, hx24⟩ : ∃ x, x = dj[j]! := ⟨_, rfl⟩
          obtain ⟨y24, hy24⟩ : ∃ x, x = dj[X]! := ⟨_, rfl⟩
          have l24a := S1.out.ld R (by omega) P j (by omega)
          have l24b := S1.out.ld R (by omega) P X (by omega)
          rw [← hx24] at l24a
          rw [← hy24] at l24b
          have hc24 := S1.out.cmp HC.out (by omega) x24 y24
          clear hx24 hy24
          by_cases hv24 : cf x24 y24 < 0
          · have hd24 : decide (cf x24 y24 < 0) = true := decide_eq_true hv24
            go_wp2_with fail
            go_quiet_grown (first | (go_at_fn g; refine Calls.grown_of (hc24 _ _)))
            have S2 : Aside (SWK enc k w0 blk off dj (grow (wr.drewN nq) osq)) := S1.out.grown nq osq
            clear l24a l24b hc24 S1
            generalize grow (wr.drewN nq) osq = w2 at S2 ⊢
            clear nq osq
            go_wp2_with fail
            have S3 : Aside (SWK enc k w0 blk off (swp dj j X) ((w2.drew.setCells blk (off + j * k) (enc dj[X]!)).setCells blk (off + X * k) (enc dj[j]!))) := S2.out.swapped R j X (by omega) (by omega)
            have HP2 : Aside ((swp dj j X).toList.Perm d.toList) := (swp_perm dj j X (by omega) (by omega)).trans hp.out
            have l44a := S2.out.ld1 R (by omega) P j (by omega)
            have l44b := S2.out.ld1 R (by omega) P X (by omega)
            have s44a := S2.out.st1 R (by omega) P j (by omega) dj[X]!
            have s44b := S2.out.st2 R (by omega) P j X (by omega) (by omega) dj[X]! dj[j]!
            have n44a : (enc dj[j]!).length = k := R.hk _
            have n44b : (enc dj[X]!).length = k := R.hk _
            generalize enc dj[j]! = cI44 at S3 l44a s44b n44a
            generalize enc dj[X]! = cJ44 at S3 l44b s44a s44b n44b
            clear S2
            go_big_region_o
            clear l44a l44b s44a s44b
            generalize (w2.drew.setCells blk (off + j * k) cJ44).setCells blk (off + X * k) cI44 = w3 at S3 ⊢
            go_wp2
            go_roundg X
            case measure => omega
            case rel => exact ⟨X, swp dj j X, rfl, by omega, by omega, Nat.le_refl _, by rw [size_swp]; exact hsj, S3, HP2⟩
          · have hd24 : decide (cf x24 y24 < 0) = false := decide_eq_false hv24
            go_wp2_with fail
            go_quiet_grown (first | (go_at_fn g; refine Calls.grown_of (hc24 _ _)))
            have S2 : Aside (SWK enc k w0 blk off dj (grow (wr.drewN nq) osq)) := S1.out.grown nq osq
            clear l24a l24b hc24 S1 hX ea44 pa44 ba44 ra44 ec44 pc44 bc44 rc44
            go_wp2
            go_roundg (b - (i + 1))
            case measure => omega
            case rel => exact ⟨i + 1, dj, by go_num, by omega, by omega, by omega, hsj, S2, hp⟩
        · have hjaz : decide ((j : Int) > (a : Int)) = false := decide_eq_false (by omega)
          have hjaz' : ¬ (a : Int) < (j : Int) := by omega
          have S2 : Aside (SWK enc k w0 blk off dj wr.drew) := S1.out.drew
          go_wp2_with fail
          go_big_region_o
          all_goals go_wp2
          go_roundg (b - (i + 1))
          case measure => omega
          case rel => exact ⟨i + 1, dj, by go_num, by omega, by omega, by omega, hsj, S2, hp⟩
    · have hltz : ¬ (i : Int) < (b : Int) := by omega
      go_wp2
      go_end0
      exact ⟨rfl, dk, hds, hp.out, S1.out⟩
end Go.Proofs.Ytjgkalppjfmkoaa
