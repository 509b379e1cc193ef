/- The kinds of the program's struct types: how a value's cells read, and are made. Written by a program of the session out of the kit's kinds.py. -/
import Derived.Test.YtjgkalppjfmkoaaProg
import Derived.Test.YtjgkalppjfmkoaaWWords
import Derived.WalkKit
import Derived.KernelRfl
namespace Go.Proofs.Ytjgkalppjfmkoaa
open Go.RowKit Go.Proofs.YtjgkalppjfmkoaaW.PrintWords
set_option linter.unusedVariables false
/-! #### struct type 51 -/
structure SEvent where
  f0 : Int
  f1 : Int
  f2 : Int
def zEvent : SEvent := ⟨(0 : Int), (0 : Int), (0 : Int)⟩
def kEvent : Kd SEvent := Kd.iso (Kd.pair (Kd.int .u8) (Kd.pair (Kd.int .u8) (Kd.int .u8))) (fun x : SEvent => (x.f0, x.f1, x.f2))
theorem kEvent_open {w : World} {x : SEvent} {cs : List Value} (h : kEvent.K w x cs) : cs = [.int .u8 x.f0, .int .u8 x.f1, .int .u8 x.f2] := by
  obtain ⟨_, _, rfl, rfl, ⟨_, _, rfl, rfl, rfl⟩⟩ := h
  exact rfl
theorem kEvent_openM {w : World} {base : Nat} {ok : Nat → Prop} {x : SEvent} {cs : List Value} (h : kEvent.M w base ok x cs) : cs = [.int .u8 x.f0, .int .u8 x.f1, .int .u8 x.f2] := by
  obtain ⟨_, _, rfl, rfl, ⟨_, _, rfl, rfl, rfl⟩⟩ := h
  exact rfl
theorem kEvent_mk (w : World) (x : SEvent)  : kEvent.K w x [.int .u8 x.f0, .int .u8 x.f1, .int .u8 x.f2] := ⟨[.int .u8 x.f0], [.int .u8 x.f1, .int .u8 x.f2], rfl, rfl, ⟨[.int .u8 x.f1], [.int .u8 x.f2], rfl, rfl, rfl⟩⟩
theorem kEvent_mkM (w : World) (base : Nat) (ok : Nat → Prop) (x : SEvent)  : kEvent.M w base ok x [.int .u8 x.f0, .int .u8 x.f1, .int .u8 x.f2] := ⟨[.int .u8 x.f0], [.int .u8 x.f1, .int .u8 x.f2], rfl, rfl, ⟨[.int .u8 x.f1], [.int .u8 x.f2], rfl, rfl, rfl⟩⟩
def rd_TEvent (xs : List SEvent) (i : Int) : SEvent := xs.getD i.toNat zEvent
theorem at_TEvent {w : World} {A : Option Addr} {n : Nat} {xs : List SEvent} (h : Kd.C kEvent w A n xs) (i : Int) (h0 : 0 ≤ i) (h1 : i < n) : ∃ ad , A = some ad ∧ w.cell? (ad.add (i.toNat * 3)) = some (.int .u8 (rd_TEvent xs i).f0) ∧ w.cell? ⟨(ad.add (i.toNat * 3)).block, (ad.add (i.toNat * 3)).off + 1, none⟩ = some (.int .u8 (rd_TEvent xs i).f1) ∧ w.cell? ⟨(ad.add (i.toNat * 3)).block, (ad.add (i.toNat * 3)).off + 2, none⟩ = some (.int .u8 (rd_TEvent xs i).f2) := by
  obtain ⟨ad, c, e, _, hK, hc0⟩ := Kd.C_get h zEvent i h0 h1
  have hc : ∀ j u, c[j]? = some u → w.cell? (ad.add (i.toNat * 3 + j)) = some u := hc0
  obtain rfl := kEvent_open hK
  exact ⟨ad, e, hc 0 _ rfl, by rw [← add_field _ _ 1 (by omega)]; exact hc 1 _ rfl, by rw [← add_field _ _ 2 (by omega)]; exact hc 2 _ rfl⟩

def rd_LEvent (xs : List (List SEvent)) (i : Int) : (List SEvent) := xs.getD i.toNat ([] : List SEvent)
theorem at_LEvent {w : World} {A : Option Addr} {n : Nat} {xs : List (List SEvent)} (h : Kd.C (Kd.slice 51 kEvent) w A n xs) (i : Int) (h0 : 0 ≤ i) (h1 : i < n) : ∃ ad A0 c0, A = some ad ∧ w.cell? (ad.add i.toNat) = some (.slice A0 (rd_LEvent xs i).length c0) ∧ (rd_LEvent xs i).length ≤ c0 ∧ kEvent.C w A0 (rd_LEvent xs i).length (rd_LEvent xs i) := by
  obtain ⟨ad, c, e, _, hK, hc0⟩ := Kd.C_get h ([] : List SEvent) i h0 h1
  have hc : ∀ j u, c[j]? = some u → w.cell? (ad.add (i.toNat * 1 + j)) = some u := hc0
  obtain ⟨A0, c0, rfl, l0, g0⟩ := hK
  exact ⟨ad, A0, c0, e, by have hq := hc 0 _ rfl; rwa [Nat.mul_one, Nat.add_zero] at hq, l0, g0⟩

theorem info_Event : (Try.prog.info? 51).map (fun i => (i.zero, i.size, i.bytes)) = some (some (.agg #[(.int .u8 0), (.int .u8 0), (.int .u8 0)]), 3, 3) := by kernel_rfl
end Go.Proofs.Ytjgkalppjfmkoaa
