/- slices.SortStableFunc at duties, told of the row's elements: a permutation of them. -/
import Derived.Test.YtjgkalppjfmkoaaSort3
import Derived.Sort.OwnSorted
namespace Go.Proofs.Ytjgkalppjfmkoaa
open Go.RowKit Go.Shelf Go.Lib Go.Sort Go.Proofs.YtjgkalppjfmkoaaW.PrintWords
set_option linter.unusedVariables false
set_option linter.unusedSimpArgs false

section
variable {α : Type} [Inhabited α]
set_option maxHeartbeats 4000000 in
set_option maxRecDepth 1000000 in
theorem srt_stable {P : Program} {k : Nat} (L : SortB P k) (enc : α → List Value) (cf : α → α → Int) (g : Nat) (cb : Array Value) (blk off cap : Nat) (d0 d : Array α) (w0 w : World)
    (eg : ∀ args w, (callFunc g args).run P w = .ok (.enter g args) w) (hcmp : CmpLays P g cb enc k cf blk off d0.size w0)
    (R : RowK enc k w0 blk off d0) (hs : d0.size = d.size) (S : SWK enc k w0 blk off d w) (hsz : d.size < 1000000) :
    Calls P 67 #[.slice (some ⟨blk, off, none⟩) d.size cap, .int .i64 d.size, .func (.func g) #[] cb] w (SortedP enc k w0 blk off d) := by
  have mixed := L.mixed; have t0 := L.t0; have a0 := L.a0; have z0 := L.z0; have v0 := L.v0; have t3 := L.t3; have a3 := L.a3; have z3 := L.z3; have v3 := L.v3; have t4 := L.t4; have a4 := L.a4; have z4 := L.z4; have v4 := L.v4; have t22 := L.t22; have a22 := L.a22; have z22 := L.z22; have v22 := L.v22; have t25 := L.t25; have a25 := L.a25; have z25 := L.z25; have v25 := L.v25
  have FG := L.f67
  have eg75 : ∀ args w, (callFunc 75 args).run P w = .ok (.enter 75 args) w := enters_of L.f75 (by kernel_rfl) rfl
  have eg76 : ∀ args w, (callFunc 76 args).run P w = .ok (.enter 76 args) w := enters_of L.f76 (by kernel_rfl) rfl
  have S0 : Aside (SWK enc k w0 blk off d w) := S
  have HINS := Aside0.mk (fun (a b : Nat) (dk : Array α) (W : World) (hs' : d0.size = dk.size) (hd : dk.size = d.size) (S' : SWK enc k w0 blk off dk W) (hab : a ≤ b) (hb : b ≤ dk.size) => hd ▸ srt_insertion L enc cf g cb blk off cap a b d0 dk w0 W eg hcmp R hs' S' hab hb (by omega))
  have HSYM := Aside0.mk (fun (a m b : Nat) (dk : Array α) (W : World) (hs' : d0.size = dk.size) (hd : dk.size = d.size) (S' : SWK enc k w0 blk off dk W) (h1 : a < m) (h2 : m < b) (h3 : b ≤ dk.size) => hd ▸ srt_symMerge L enc cf g cb blk off cap d0 w0 eg hcmp R (by omega) (b - a) a m b dk W (Nat.le_refl _) hs' S' h1 h2 h3)
  clear S hcmp eg
  go_enter FG, Try.ntmps67
  go_wp2
  go_loopg [7, 8] d.size (fun kx s7 s8 wr => ∃ (a b : Nat) (dk : Array α), s7 = .int .i64 a ∧ s8 = .int .i64 b ∧ b ≤ a + 20 ∧ a + 20 ≤ b ∧ a ≤ d.size ∧ d.size - a ≤ kx ∧ dk.size = d.size ∧ Aside (SWK enc k w0 blk off dk wr) ∧ Aside (dk.toList.Perm d.toList))
  case atStart => exact ⟨0, 20, d, rfl, rfl, by omega, by omega, Nat.zero_le _, by omega, rfl, S0, List.Perm.refl _⟩
  case round =>
    clear S0
    obtain ⟨a, b, dk, rfl, rfl, hab, hab2, ha, hkx, hds, S1, hp⟩ := hrel
    by_cases hlt : b ≤ d.size
    · have hltz : (b : Int) ≤ (d.size : Int) := by omega
      go_wp2_with (fail)
      refine (HINS.out a b dk _ (by omega) hds S1.out (by omega) (by omega)).mono ?_
      intro e w2 h2
      obtain ⟨rfl, d2, h21, h22, h23⟩ := h2.trans hds hp.out
      have S2 : Aside (SWK enc k w0 blk off d2 w2) := h23
      have HP2 : Aside (d2.toList.Perm d.toList) := h22
      clear h2 h22 h23 S1 hp
      go_wp2
      go_roundg (d.size - b)
      case measure => omega
      case rel => exact ⟨b, b + 20, d2, rfl, by first | rfl | go_num | (congr 1; omega), by omega, by omega, by omega, by omega, h21, S2, HP2⟩
    · have hltz : ¬ (b : Int) ≤ (d.size : Int) := by omega
      go_wp2_with (fail)
      refine (HINS.out a d.size dk _ (by omega) hds S1.out (by omega) (by omega)).mono ?_
      intro e w2 h2
      obtain ⟨rfl, d2, h21, h22, h23⟩ := h2.trans hds hp.out
      have S2 : Aside (SWK enc k w0 blk off d2 w2) := h23
      have HP2 : Aside (d2.toList.Perm d.toList) := h22
      clear h2 h22 h23 S1 hp hltz
      go_wp2
      go_loopg [6] d.size (fun kx s6 wr => ∃ (bs : Nat) (dk : Array α), s6 = .int .i64 bs ∧ 0 < bs ∧ bs ≤ 2 * d.size + 20 ∧ d.size - bs ≤ kx ∧ dk.size = d.size ∧ Aside (SWK enc k w0 blk off dk wr) ∧ Aside (dk.toList.Perm d.toList))
      case atStart => exact ⟨20, d2, rfl, by omega, by omega, by omega, h21, S2, HP2⟩
      case round =>
        clear S2 HP2 hds hlt hab hab2 ha hkx
        obtain ⟨bs, dk, rfl, hbs, hbs2, hkx, hds, S1, hp⟩ := hrel
        by_cases hlt : bs < d.size
        · have hltz : (bs : Int) < (d.size : Int) := by omega
          obtain ⟨B2, hB2, hB3, hB4⟩ : ∃ B2 : Nat, 2 * (bs : Int) = (B2 : Int) ∧ B2 ≤ 2 * bs ∧ 2 * bs ≤ B2 := ⟨2 * bs, by omega, Nat.le_refl _, Nat.le_refl _⟩
          go_wp2
          clear hltz
          go_loopg [7, 8] d.size (fun kx s7 s8 wr => ∃ (a b : Nat) (dj : Array α), s7 = .int .i64 a ∧ s8 = .int .i64 b ∧ b ≤ a + 2 * bs ∧ a + 2 * bs ≤ b ∧ a ≤ d.size ∧ d.size - a ≤ kx ∧ dj.size = d.size ∧ Aside (SWK enc k w0 blk off dj wr) ∧ Aside (dj.toList.Perm d.toList))
          case atStart => exact ⟨0, B2, dk, rfl, rfl, by omega, by omega, Nat.zero_le _, by omega, hds, S1, hp⟩
          case round =>
            clear S1 hp
            obtain ⟨a, b, dj, rfl, rfl, hab, hab2, ha, hkx2, hdj, S1, hp⟩ := hrel
            obtain ⟨M, hM, hM2, hM3⟩ : ∃ M : Nat, (a : Int) + (bs : Int) = (M : Int) ∧ M ≤ a + bs ∧ a + bs ≤ M := ⟨a + bs, by omega, Nat.le_refl _, Nat.le_refl _⟩
            by_cases hltb : b ≤ d.size
            · have hltz : (b : Int) ≤ (d.size : Int) := by omega
              go_wp2_with (fail)
              refine (HSYM.out a M b dj _ (by omega) hdj S1.out (by omega) (by omega) (by omega)).mono ?_
              intro e w2 h2
              obtain ⟨rfl, d2, h21, h22, h23⟩ := h2.trans hdj hp.out
              have S2 : Aside (SWK enc k w0 blk off d2 w2) := h23
              have HP2 : Aside (d2.toList.Perm d.toList) := h22
              clear h2 h22 h23 S1 hp hM
              go_wp2
              go_roundg (d.size - b)
              case measure => omega
              case rel => exact ⟨b, b + B2, d2, rfl, by first | rfl | go_num | (congr 1; omega), by omega, by omega, by omega, by omega, h21, S2, HP2⟩
            · have hltz : ¬ (b : Int) ≤ (d.size : Int) := by omega
              by_cases hm : M < d.size
              · have hmz : (M : Int) < (d.size : Int) := by omega
                go_wp2_with (fail)
                refine (HSYM.out a M d.size dj _ (by omega) hdj S1.out (by omega) (by omega) (by omega)).mono ?_
                intro e w2 h2
                obtain ⟨rfl, d2, h21, h22, h23⟩ := h2.trans hdj hp.out
                have S2 : Aside (SWK enc k w0 blk off d2 w2) := h23
                have HP2 : Aside (d2.toList.Perm d.toList) := h22
                clear h2 h22 h23 S1 hp hM hltz hmz
                go_wp2
                go_roundg (d.size - B2)
                case measure => omega
                case rel => exact ⟨B2, d2, by first | rfl | go_num | (congr 1; omega), by omega, by omega, Nat.le_refl _, h21, S2, HP2⟩
              · have hmz : ¬ (M : Int) < (d.size : Int) := by omega
                go_wp2
                go_roundg (d.size - B2)
                case measure => omega
                case rel => exact ⟨B2, dj, by first | rfl | go_num | (congr 1; omega), by omega, by omega, Nat.le_refl _, hdj, S1, hp⟩
        · have hltz : ¬ (bs : Int) < (d.size : Int) := by omega
          go_wp2
          go_end0
          exact ⟨rfl, dk, hds, hp.out, S1.out⟩
end
theorem dutyL_len (x : SDuty) : (dutyL x).length = 9 := rfl
theorem dutyL_one (x : SDuty) : ∀ v ∈ dutyL x, v.oneCell' = true := by
  intro v hv
  simp only [dutyL, List.mem_cons, List.not_mem_nil, or_false] at hv
  rcases hv with rfl | rfl | rfl | rfl | rfl | rfl | rfl | rfl | rfl <;> rfl
theorem kDuty_L {W : World} {base : Nat} {ok : Nat → Prop} {x : SDuty} {c : List Value} (h : kDuty.M W base ok x c) : c = dutyL x := kDuty_openM h
theorem flat_get (d : Array SDuty) (j : Nat) (h : j < d.size * 9) : (flatK dutyL 9 d)[j]? = (dutyL d[j / 9]!)[j % 9]? := by
  have h1 : j < (flatK dutyL 9 d).size := by rw [size_flatK]; exact h
  have h2 := get_flatK dutyL 9 d j h
  rw [getElem!_pos _ j h1] at h2
  rw [Array.getElem?_eq_getElem h1, h2]
  have h3 : j % 9 < (dutyL d[j / 9]!).length := by rw [dutyL_len]; omega
  rw [List.getElem?_eq_getElem h3, List.getElem!_eq_getElem?_getD, List.getElem?_eq_getElem h3]
  rfl
theorem flat_seg (d : Array SDuty) (j : Nat) (h : j < d.size) : ((flatK dutyL 9 d).toList.drop (j * 9)).take 9 = dutyL d[j]! := by
  apply List.ext_getElem?
  intro q
  by_cases hq : q < 9
  · rw [List.getElem?_take_of_lt hq, List.getElem?_drop, Array.getElem?_toList, flat_get d (j * 9 + q) (by omega), show (j * 9 + q) / 9 = j by omega, show (j * 9 + q) % 9 = q by omega]
  · rw [List.getElem?_take_eq_none (by omega), List.getElem?_eq_none (by rw [dutyL_len]; omega)]
theorem holds_of_R {W : World} {B g cap : Nat} {xs : List SDuty} (h : kDuty.R 63 W B (fun _ => True) (.slice (some ⟨g, 0, none⟩) xs.length cap) xs) : HoldsK dutyL 9 W g 0 xs.toArray := by
  intro j hj
  rw [size_flatK] at hj
  have hj' : j < xs.length * 9 := by simpa using hj
  obtain ⟨c, hcl, hM, hcc, hfr⟩ := Kd.R_elem h zDuty ((j / 9 : Nat) : Int) (by omega) (by omega)
  rw [Int.toNat_natCast] at hM hcc hfr
  have hL := kDuty_L hM
  have h2 : xs.getD (j / 9) zDuty = xs.toArray[j / 9]! := by
    rw [getElem!_pos _ _ (by simp; omega), List.getD_eq_getElem?_getD, List.getElem?_eq_getElem (by omega)]
    simp
  rw [h2] at hL
  have h3 := flat_get xs.toArray j (by simpa using hj')
  have h4 : j % 9 < (dutyL xs.toArray[j / 9]!).length := by rw [dutyL_len]; omega
  have h5 := hcc (j % 9) _ (by rw [hL]; exact List.getElem?_eq_getElem h4)
  have h6 : j / 9 * 9 + j % 9 = j := by omega
  have h5' : W.cell? ⟨g, j / 9 * 9 + j % 9, none⟩ = some _ := h5
  have hf' : W.frozen? ⟨g, j / 9 * 9 + j % 9, none⟩ = false := hfr (j % 9)
  rw [h6] at h5' hf'
  rw [Nat.zero_add]
  refine ⟨?_, hf'⟩
  rw [h5', List.getElem?_eq_getElem h4] at *
  rw [getElem!_pos _ j (by rw [size_flatK]; simpa using hj')]
  have h7 := h3
  rw [Array.getElem?_eq_getElem (by rw [size_flatK]; simpa using hj')] at h7
  simp only [Option.some.injEq] at h7
  rw [h7]
  rfl
theorem heap_row {w : World} {g n : Nat} {os : Array Obj} {cur : Array Value} {e : TypeId} {fr : Nat × Nat} (F : Array Value) (hb : w.heap[g]? = some (.cells cur e fr)) :
    (grow (putRow id (Sort.ahead w n) g 0 F) os).heap[g]? = some (.cells (putCells id 0 F cur) e fr) := by
  have hg : g < w.heap.size := (Array.getElem?_eq_some_iff.1 hb).1
  rw [heap_grow_old _ _ (by simpa using hg)]
  simp [putRow, mapBlock, Sort.ahead, Array.getElem?_modify, hb, onCells]
theorem grownBy_row {w : World} {g n : Nat} {os : Array Obj} (F : Array Value) : w.grownBy (grow (putRow id (Sort.ahead w n) g 0 F) os) (some g) := by
  refine ⟨rfl, rfl, rfl, by simp, fun k hk hne => ?_⟩
  rw [heap_grow_old _ _ (by simpa using hk)]
  have : g ≠ k := fun e => hne (by rw [e])
  simp [putRow, mapBlock, Sort.ahead, Array.getElem?_modify, this]
theorem take_row (cur F : Array Value) (h : F.size ≤ cur.size) : (putCells id 0 F cur).toList.take F.size = F.toList := by
  apply List.ext_getElem?
  intro j
  by_cases hj : j < F.size
  · rw [List.getElem?_take_of_lt hj, Array.getElem?_toList, Array.getElem?_toList]
    simp [putCells, hj, show j < cur.size by omega]
  · rw [List.getElem?_take_eq_none (by omega), List.getElem?_eq_none (by simp; omega)]

/-- What is asked of slices.SortStableFunc at duties, by At's comparison: the row holds a permutation. -/
def SortP (lim : Nat) : Prop :=
  ∀ (W : World) (v : Value) (xs : List SDuty) (B bT : Nat), xs.length ≤ lim → kDuty.R 63 W B (fun _ => True) v xs → W.cell? ⟨bT, 0, none⟩ = some (.func (.func 48) #[] #[]) → bT < W.heap.size → some bT ≠ v.ownBlock →
    Calls Try.prog 50 #[v, .func (.func 51) #[] #[.pointer (some ⟨bT, 0, none⟩)]] W fun e w' => e = .returned (.tuple #[]) ∧ ∃ ys : List SDuty, ys.Perm xs ∧ kDuty.R 63 w' B (fun _ => True) v ys ∧ W.grownBy w' v.ownBlock

set_option maxHeartbeats 1000000 in
theorem sort_perm : SortP 40 := by
  intro W v xs B bT hl hR hc hlt hne
  by_cases h0 : xs.length = 0
  · refine (sort_one W v xs B bT (by omega) hR hc hlt hne).mono ?_
    rintro e w' ⟨he, h1, h2⟩
    exact ⟨he, xs, List.Perm.refl _, h1, h2⟩
  · obtain ⟨g, cap, rfl, hbg, hgl, _⟩ := Kd.R_form hR (by omega)
    have hH := holds_of_R hR
    obtain ⟨_, inner, ho, _⟩ := hR
    obtain ⟨_, ho⟩ := ho
    rcases ho with ⟨hv, _⟩ | ⟨g', cap', cur, hv, _, hh, h1, h2, h3, _⟩
    · cases hv
    · obtain ⟨rfl, rfl⟩ : g = g' ∧ cap = cap' := by injection hv with e1 e2 e3; injection e1 with e1; injection e1 with e1; exact ⟨e1, e3⟩
      have hcn : bT ≠ g := fun e => hne (by rw [e]; rfl)
      have hcmp : CmpLays Try.prog 51 #[.pointer (some ⟨bT, 0, none⟩)] dutyL 9 turnC g 0 xs.toArray.size W := by
        intro m os dk hs x y
        refine sw_cmp x y bT _ (Nat.lt_of_lt_of_le hlt (size_sortWorldK_c dutyL 9 W g 0 m dk os)) ?_
        unfold sortWorldK putRowK
        have hgr := grownBy_row (w := W) (g := g) (n := m) (os := os) (flatK dutyL 9 dk)
        have := hgr.block bT hlt (fun e => hcn (by injection e))
        rw [World.cell?, this]
        exact hc
      have eg : ∀ args w, (callFunc 51 args).run Try.prog w = .ok (.enter 51 args) w := enters_of Try.func51 (by kernel_rfl) rfl
      have hcon := srt_stable sortB dutyL turnC 51 #[.pointer (some ⟨bT, 0, none⟩)] g 0 cap xs.toArray xs.toArray W W eg hcmp ⟨dutyL_len, dutyL_one, hH, hgl⟩ rfl (SWK.start hH) (by simp; omega)
      simp only [List.size_toArray] at hcon
      have HC := Aside0.mk hcon
      clear hcon hcmp hH eg
      go_enter Try.func50, Try.ntmps50
      go_wp2_with (fail)
      refine HC.out.mono ?_
      rintro e w' ⟨rfl, d', hs', hp', n, os, rfl⟩
      go_wp2
      go_end0
      have hsz : d'.toList.length = xs.length := by simpa using hs'
      refine ⟨rfl, d'.toList, by simpa using hp', ⟨fun _ _ => trivial, (flatK dutyL 9 d').toList, ?_, ?_⟩, grownBy_row _⟩
      · refine ⟨by simp; rfl, .inr ⟨g, cap, putCells id 0 (flatK dutyL 9 d') cur, by rw [hsz], hbg, heap_row _ hh, by omega, h2, ?_, ?_⟩⟩
        · simp only [putCells, Array.size_mapIdx]
          exact h3
        · have h4 : (flatK dutyL 9 d').size = xs.length * 9 := by rw [size_flatK]; simp at hs'; rw [hs']
          have h5 := take_row cur (flatK dutyL 9 d') (by rw [h4, h3]; exact Nat.mul_le_mul_right _ h1)
          rw [h4] at h5
          rw [hsz]
          exact h5
      · refine ⟨by simp; rfl, fun j p hj => ?_⟩
        have hjl : j < d'.size := by
          have := (List.getElem?_eq_some_iff.1 hj).1
          simpa using this
        have : d'[j]! = p := by
          rw [getElem!_pos _ j hjl]
          have := (List.getElem?_eq_some_iff.1 hj).2
          simpa using this
        show kDuty.M _ _ _ p (((flatK dutyL 9 d').toList.drop (j * 9)).take 9)
        rw [flat_seg d' j hjl, this]
        exact kDuty_mkM _ _ _ _
end Go.Proofs.Ytjgkalppjfmkoaa
