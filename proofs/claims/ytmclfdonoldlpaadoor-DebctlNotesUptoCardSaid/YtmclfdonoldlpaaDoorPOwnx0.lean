-- The kit's print of functions of this seat (print.py), for this claim: Lean checks it.
import Derived.Test.YtmclfdonoldlpaaDoorProg
import Derived.Below
import Derived.Deep.Draws
import Derived.Deep.AppendLies
import Derived.Maps.AppendAt
import Derived.OwnWalk
import Derived.Laws.BytesArg
import Derived.Laws.MakeOwn
import Derived.Laws.OwnMore
import Derived.Deep.OwnRows
import Derived.Tactics
import Derived.Lib.ConvBytes
import Derived.Laws.Slices
import Derived.WalkKit
import Derived.KernelRfl
import Derived.RowKit3
import Derived.Deep.LoopGhost
import Derived.Deep.QuietTactic
import Derived.BigQuiet
import Derived.WideLaws
import Derived.Deep.DeepCutAuto
import Derived.Deep.CutBlock
import Derived.Deep.RegionHeld3
import Derived.Laws.Rows
import Derived.Lib.AppendStr
import Derived.ArgAppend
import Derived.Laws.IdiomCopy
import Derived.OrdersHeld
import Derived.Laws.BitsLemmas
import Derived.RowKit
import Derived.Test.YtmclfdonoldlpaaDoorWWords
import Derived.Test.YtmclfdonoldlpaaDoorWLast
import Derived.Test.YtmclfdonoldlpaaDoorWTab
import Derived.Test.YtmclfdonoldlpaaDoorWFour
import Derived.Test.YtmclfdonoldlpaaDoorWQPut
import Derived.Test.YtmclfdonoldlpaaDoorWApart
import Derived.Test.YtmclfdonoldlpaaDoorWArr
import Derived.Test.YtmclfdonoldlpaaDoorWZeros
import Derived.Test.YtmclfdonoldlpaaDoorWFoot
import Derived.Test.YtmclfdonoldlpaaDoorWKept
import Derived.Test.YtmclfdonoldlpaaDoorWShare
import Derived.Test.YtmclfdonoldlpaaDoorWN
import Derived.Test.YtmclfdonoldlpaaDoorWFootNe
import Derived.Test.YtmclfdonoldlpaaDoorWAt
import Derived.Test.YtmclfdonoldlpaaDoorWEqStruct
import Derived.Test.YtmclfdonoldlpaaDoorWRepsOne
import Derived.Test.YtmclfdonoldlpaaDoorWInv
import Derived.Test.YtmclfdonoldlpaaDoorWInvWords
import Derived.Test.YtmclfdonoldlpaaDoorWGuard
import Derived.Test.YtmclfdonoldlpaaDoorWNEv
import Derived.Test.YtmclfdonoldlpaaDoorWMore
namespace Go.Proofs.YtmclfdonoldlpaaDoor.POwn
open Go.RowKit Go.Proofs.YtmclfdonoldlpaaDoorW.PrintWords Go.Proofs.YtmclfdonoldlpaaDoorW.PrintLast Go.Proofs.YtmclfdonoldlpaaDoorW.PrintMore
attribute [local go_sem] max2_int min2_int max_two min_two max_three min_three max_four min_four   -- for this text's walks alone
set_option linter.unusedVariables false
set_option linter.unusedSimpArgs false

def errW : Option Int → Value
  | none => .nilIface
  | some c => .iface 0 (.int .i64 c)
theorem errW_none : errW none = .nilIface := rfl
theorem errW_some (c : Int) : errW (some c) = .iface 0 (.int .i64 c) := rfl

theorem info9 : (Tryd.prog.info? 9).map (fun i => (i.zero, i.size, i.bytes)) = some (some (.string ⟨#[]⟩), 1, 16) := by kernel_rfl
-- the values' own types
structure S36 where
  f0 : Int
  f1 : ByteArray
  f2 : Int
  f3 : ByteArray
  f4 : (List S36)
def z36 : S36 := ⟨(0 : Int), (⟨#[]⟩ : ByteArray), (0 : Int), (⟨#[]⟩ : ByteArray), ([] : List S36)⟩
def F36 (d : Kd S36) : Kd S36 := Kd.iso (Kd.pair (Kd.int .i64) (Kd.pair Kd.string (Kd.pair (Kd.int .i64) (Kd.pair Kd.string (Kd.slice 36 d))))) (fun x : S36 => (x.f0, x.f1, x.f2, x.f3, x.f4))
theorem mono36 : Kd.Mono F36 := Kd.mono_iso _ (Kd.mono_pair (Kd.mono_const _) (Kd.mono_pair (Kd.mono_const _) (Kd.mono_pair (Kd.mono_const _) (Kd.mono_pair (Kd.mono_const _) (Kd.mono_slice 36 Kd.mono_id)))))
theorem sub36 : Kd.Sub F36 [36] := Kd.sub_iso _ (Kd.sub_pair (Kd.sub_const _ (by decide)) (Kd.sub_pair (Kd.sub_const _ (by decide)) (Kd.sub_pair (Kd.sub_const _ (by decide)) (Kd.sub_pair (Kd.sub_const _ (by decide)) (Kd.sub_slice 36 (by decide) Kd.sub_id)))))
theorem sz36 : ∀ n, (Kd.upto F36 5 [36] n).sz = 5 := Kd.upto_sz (fun _ => rfl)
def k36 : Kd S36 := Kd.fix F36 5 [36] sz36 (Kd.upto_E sub36)
theorem k36_heap : Kd.Heap k36 := Kd.heap_fix (fun _ h_ => Kd.heap_iso _ (Kd.heap_pair (Kd.heap_int .i64) (Kd.heap_pair Kd.heap_string (Kd.heap_pair (Kd.heap_int .i64) (Kd.heap_pair Kd.heap_string (Kd.heap_slice 36 h_))))))
theorem k36_open {w : World} {x : S36} {cs : List Value} (h : k36.K w x cs) : ∃ A4 c4, cs = [.int .i64 x.f0, .string x.f1, .int .i64 x.f2, .string x.f3, .slice A4 x.f4.length c4] ∧ x.f4.length ≤ c4 ∧ k36.C w A4 x.f4.length x.f4 := by
  obtain ⟨n, h⟩ := h
  cases n with
  | zero => exact h.elim
  | succ n =>
    obtain ⟨_, _, rfl, rfl, ⟨_, _, rfl, rfl, ⟨_, _, rfl, rfl, ⟨_, _, rfl, rfl, ⟨A4, c4, rfl, l4, g4⟩⟩⟩⟩⟩ := h
    exact ⟨A4, c4, rfl, l4, Kd.fix_C g4⟩
theorem k36_openM {w : World} {base : Nat} {ok : Nat → Prop} {x : S36} {cs : List Value} (h : k36.M w base ok x cs) : ∃ v4, cs = [.int .i64 x.f0, .string x.f1, .int .i64 x.f2, .string x.f3, v4] ∧ k36.R 36 w base ok v4 x.f4 := by
  obtain ⟨n, h⟩ := h
  cases n with
  | zero => exact h.elim
  | succ n =>
    obtain ⟨_, _, rfl, rfl, ⟨_, _, rfl, rfl, ⟨_, _, rfl, rfl, ⟨_, _, rfl, rfl, ⟨v4, rfl, g4⟩⟩⟩⟩⟩ := h
    exact ⟨v4, rfl, Kd.fix_R g4⟩
theorem k36_mkM (w : World) (base : Nat) (ok : Nat → Prop) (x : S36) {v4 : Value} (g4 : k36.R 36 w base ok v4 x.f4) : k36.M w base ok x [.int .i64 x.f0, .string x.f1, .int .i64 x.f2, .string x.f3, v4] := by
  obtain ⟨n4, q4⟩ := Kd.fix_R_back mono36 g4
  have r4 := Kd.upto_R_le mono36 sz36 (show n4 ≤ n4 by omega) q4
  exact ⟨n4 + 1, ⟨[.int .i64 x.f0], [.string x.f1, .int .i64 x.f2, .string x.f3, v4], rfl, rfl, ⟨[.string x.f1], [.int .i64 x.f2, .string x.f3, v4], rfl, rfl, ⟨[.int .i64 x.f2], [.string x.f3, v4], rfl, rfl, ⟨[.string x.f3], [v4], rfl, rfl, ⟨v4, rfl, r4⟩⟩⟩⟩⟩⟩
def rd_T36 (xs : List S36) (i : Int) : S36 := xs.getD i.toNat z36
theorem at_T36 {w : World} {A : Option Addr} {n : Nat} {xs : List S36} (h : Kd.C k36 w A n xs) (i : Int) (h0 : 0 ≤ i) (h1 : i < n) : ∃ ad A4 c4, A = some ad ∧ w.cell? (ad.add (i.toNat * 5)) = some (.int .i64 (rd_T36 xs i).f0) ∧ w.cell? ⟨(ad.add (i.toNat * 5)).block, (ad.add (i.toNat * 5)).off + 1, none⟩ = some (.string (rd_T36 xs i).f1) ∧ w.cell? ⟨(ad.add (i.toNat * 5)).block, (ad.add (i.toNat * 5)).off + 2, none⟩ = some (.int .i64 (rd_T36 xs i).f2) ∧ w.cell? ⟨(ad.add (i.toNat * 5)).block, (ad.add (i.toNat * 5)).off + 3, none⟩ = some (.string (rd_T36 xs i).f3) ∧ w.cell? ⟨(ad.add (i.toNat * 5)).block, (ad.add (i.toNat * 5)).off + 4, none⟩ = some (.slice A4 (rd_T36 xs i).f4.length c4) ∧ (rd_T36 xs i).f4.length ≤ c4 ∧ k36.C w A4 (rd_T36 xs i).f4.length (rd_T36 xs i).f4 := by
  obtain ⟨ad, c, e, _, hK, hc0⟩ := Kd.C_get h z36 i h0 h1
  have hc : ∀ j u, c[j]? = some u → w.cell? (ad.add (i.toNat * 5 + j)) = some u := hc0
  obtain ⟨A4, c4, rfl, l4, g4⟩ := k36_open hK
  exact ⟨ad, A4, c4, e, hc 0 _ rfl, by rw [← add_field _ _ 1 (by omega)]; exact hc 1 _ rfl, by rw [← add_field _ _ 2 (by omega)]; exact hc 2 _ rfl, by rw [← add_field _ _ 3 (by omega)]; exact hc 3 _ rfl, by rw [← add_field _ _ 4 (by omega)]; exact hc 4 _ rfl, l4, g4⟩

def rd_L3 (xs : List (List S36)) (i : Int) : (List S36) := xs.getD i.toNat ([] : List S36)
theorem at_L3 {w : World} {A : Option Addr} {n : Nat} {xs : List (List S36)} (h : Kd.C (Kd.slice 36 k36) w A n xs) (i : Int) (h0 : 0 ≤ i) (h1 : i < n) : ∃ ad A0 c0, A = some ad ∧ w.cell? (ad.add i.toNat) = some (.slice A0 (rd_L3 xs i).length c0) ∧ (rd_L3 xs i).length ≤ c0 ∧ k36.C w A0 (rd_L3 xs i).length (rd_L3 xs i) := by
  obtain ⟨ad, c, e, _, hK, hc0⟩ := Kd.C_get h ([] : List S36) i h0 h1
  have hc : ∀ j u, c[j]? = some u → w.cell? (ad.add (i.toNat * 1 + j)) = some u := hc0
  obtain ⟨A0, c0, rfl, l0, g0⟩ := hK
  exact ⟨ad, A0, c0, e, by have hq := hc 0 _ rfl; rwa [Nat.mul_one, Nat.add_zero] at hq, l0, g0⟩

structure S34 where
  f0 : ByteArray
  f1 : ByteArray
  f2 : ByteArray
  f3 : ByteArray
  f4 : (List S36)
  f5 : (List S36)
  f6 : (List S36)
  f7 : (List S36)
  f8 : (List S36)
  f9 : (List S36)
  f10 : (List S36)
  f11 : (List ByteArray)
def z34 : S34 := ⟨(⟨#[]⟩ : ByteArray), (⟨#[]⟩ : ByteArray), (⟨#[]⟩ : ByteArray), (⟨#[]⟩ : ByteArray), ([] : List S36), ([] : List S36), ([] : List S36), ([] : List S36), ([] : List S36), ([] : List S36), ([] : List S36), ([] : List ByteArray)⟩
def k34 : Kd S34 := Kd.iso (Kd.pair Kd.string (Kd.pair Kd.string (Kd.pair Kd.string (Kd.pair Kd.string (Kd.pair (Kd.slice 36 k36) (Kd.pair (Kd.slice 36 k36) (Kd.pair (Kd.slice 36 k36) (Kd.pair (Kd.slice 36 k36) (Kd.pair (Kd.slice 36 k36) (Kd.pair (Kd.slice 36 k36) (Kd.pair (Kd.slice 36 k36) (Kd.slice 9 Kd.string)))))))))))) (fun x : S34 => (x.f0, x.f1, x.f2, x.f3, x.f4, x.f5, x.f6, x.f7, x.f8, x.f9, x.f10, x.f11))
theorem k34_open {w : World} {x : S34} {cs : List Value} (h : k34.K w x cs) : ∃ A4 c4 A5 c5 A6 c6 A7 c7 A8 c8 A9 c9 A10 c10 A11 c11, cs = [.string x.f0, .string x.f1, .string x.f2, .string x.f3, .slice A4 x.f4.length c4, .slice A5 x.f5.length c5, .slice A6 x.f6.length c6, .slice A7 x.f7.length c7, .slice A8 x.f8.length c8, .slice A9 x.f9.length c9, .slice A10 x.f10.length c10, .slice A11 x.f11.length c11] ∧ x.f4.length ≤ c4 ∧ k36.C w A4 x.f4.length x.f4 ∧ x.f5.length ≤ c5 ∧ k36.C w A5 x.f5.length x.f5 ∧ x.f6.length ≤ c6 ∧ k36.C w A6 x.f6.length x.f6 ∧ x.f7.length ≤ c7 ∧ k36.C w A7 x.f7.length x.f7 ∧ x.f8.length ≤ c8 ∧ k36.C w A8 x.f8.length x.f8 ∧ x.f9.length ≤ c9 ∧ k36.C w A9 x.f9.length x.f9 ∧ x.f10.length ≤ c10 ∧ k36.C w A10 x.f10.length x.f10 ∧ x.f11.length ≤ c11 ∧ Kd.string.C w A11 x.f11.length x.f11 := by
  obtain ⟨_, _, rfl, rfl, ⟨_, _, rfl, rfl, ⟨_, _, rfl, rfl, ⟨_, _, rfl, rfl, ⟨_, _, rfl, ⟨A4, c4, rfl, l4, g4⟩, ⟨_, _, rfl, ⟨A5, c5, rfl, l5, g5⟩, ⟨_, _, rfl, ⟨A6, c6, rfl, l6, g6⟩, ⟨_, _, rfl, ⟨A7, c7, rfl, l7, g7⟩, ⟨_, _, rfl, ⟨A8, c8, rfl, l8, g8⟩, ⟨_, _, rfl, ⟨A9, c9, rfl, l9, g9⟩, ⟨_, _, rfl, ⟨A10, c10, rfl, l10, g10⟩, ⟨A11, c11, rfl, l11, g11⟩⟩⟩⟩⟩⟩⟩⟩⟩⟩⟩⟩ := h
  exact ⟨A4, c4, A5, c5, A6, c6, A7, c7, A8, c8, A9, c9, A10, c10, A11, c11, rfl, l4, g4, l5, g5, l6, g6, l7, g7, l8, g8, l9, g9, l10, g10, l11, g11⟩
theorem k34_openM {w : World} {base : Nat} {ok : Nat → Prop} {x : S34} {cs : List Value} (h : k34.M w base ok x cs) : ∃ v4 v5 v6 v7 v8 v9 v10 v11, cs = [.string x.f0, .string x.f1, .string x.f2, .string x.f3, v4, v5, v6, v7, v8, v9, v10, v11] ∧ k36.R 36 w base ok v4 x.f4 ∧ k36.R 36 w base ok v5 x.f5 ∧ k36.R 36 w base ok v6 x.f6 ∧ k36.R 36 w base ok v7 x.f7 ∧ k36.R 36 w base ok v8 x.f8 ∧ k36.R 36 w base ok v9 x.f9 ∧ k36.R 36 w base ok v10 x.f10 ∧ Kd.string.R 9 w base ok v11 x.f11 := by
  obtain ⟨_, _, rfl, rfl, ⟨_, _, rfl, rfl, ⟨_, _, rfl, rfl, ⟨_, _, rfl, rfl, ⟨_, _, rfl, ⟨v4, rfl, g4⟩, ⟨_, _, rfl, ⟨v5, rfl, g5⟩, ⟨_, _, rfl, ⟨v6, rfl, g6⟩, ⟨_, _, rfl, ⟨v7, rfl, g7⟩, ⟨_, _, rfl, ⟨v8, rfl, g8⟩, ⟨_, _, rfl, ⟨v9, rfl, g9⟩, ⟨_, _, rfl, ⟨v10, rfl, g10⟩, ⟨v11, rfl, g11⟩⟩⟩⟩⟩⟩⟩⟩⟩⟩⟩⟩ := h
  exact ⟨v4, v5, v6, v7, v8, v9, v10, v11, rfl, g4, g5, g6, g7, g8, g9, g10, g11⟩
theorem k34_mkM (w : World) (base : Nat) (ok : Nat → Prop) (x : S34) {v4 : Value} (g4 : k36.R 36 w base ok v4 x.f4) {v5 : Value} (g5 : k36.R 36 w base ok v5 x.f5) {v6 : Value} (g6 : k36.R 36 w base ok v6 x.f6) {v7 : Value} (g7 : k36.R 36 w base ok v7 x.f7) {v8 : Value} (g8 : k36.R 36 w base ok v8 x.f8) {v9 : Value} (g9 : k36.R 36 w base ok v9 x.f9) {v10 : Value} (g10 : k36.R 36 w base ok v10 x.f10) {v11 : Value} (g11 : Kd.string.R 9 w base ok v11 x.f11) : k34.M w base ok x [.string x.f0, .string x.f1, .string x.f2, .string x.f3, v4, v5, v6, v7, v8, v9, v10, v11] := ⟨[.string x.f0], [.string x.f1, .string x.f2, .string x.f3, v4, v5, v6, v7, v8, v9, v10, v11], rfl, rfl, ⟨[.string x.f1], [.string x.f2, .string x.f3, v4, v5, v6, v7, v8, v9, v10, v11], rfl, rfl, ⟨[.string x.f2], [.string x.f3, v4, v5, v6, v7, v8, v9, v10, v11], rfl, rfl, ⟨[.string x.f3], [v4, v5, v6, v7, v8, v9, v10, v11], rfl, rfl, ⟨[v4], [v5, v6, v7, v8, v9, v10, v11], rfl, ⟨v4, rfl, g4⟩, ⟨[v5], [v6, v7, v8, v9, v10, v11], rfl, ⟨v5, rfl, g5⟩, ⟨[v6], [v7, v8, v9, v10, v11], rfl, ⟨v6, rfl, g6⟩, ⟨[v7], [v8, v9, v10, v11], rfl, ⟨v7, rfl, g7⟩, ⟨[v8], [v9, v10, v11], rfl, ⟨v8, rfl, g8⟩, ⟨[v9], [v10, v11], rfl, ⟨v9, rfl, g9⟩, ⟨[v10], [v11], rfl, ⟨v10, rfl, g10⟩, ⟨v11, rfl, g11⟩⟩⟩⟩⟩⟩⟩⟩⟩⟩⟩⟩
def rd_T34 (xs : List S34) (i : Int) : S34 := xs.getD i.toNat z34
theorem at_T34 {w : World} {A : Option Addr} {n : Nat} {xs : List S34} (h : Kd.C k34 w A n xs) (i : Int) (h0 : 0 ≤ i) (h1 : i < n) : ∃ ad A4 c4 A5 c5 A6 c6 A7 c7 A8 c8 A9 c9 A10 c10 A11 c11, A = some ad ∧ w.cell? (ad.add (i.toNat * 12)) = some (.string (rd_T34 xs i).f0) ∧ w.cell? ⟨(ad.add (i.toNat * 12)).block, (ad.add (i.toNat * 12)).off + 1, none⟩ = some (.string (rd_T34 xs i).f1) ∧ w.cell? ⟨(ad.add (i.toNat * 12)).block, (ad.add (i.toNat * 12)).off + 2, none⟩ = some (.string (rd_T34 xs i).f2) ∧ w.cell? ⟨(ad.add (i.toNat * 12)).block, (ad.add (i.toNat * 12)).off + 3, none⟩ = some (.string (rd_T34 xs i).f3) ∧ w.cell? ⟨(ad.add (i.toNat * 12)).block, (ad.add (i.toNat * 12)).off + 4, none⟩ = some (.slice A4 (rd_T34 xs i).f4.length c4) ∧ w.cell? ⟨(ad.add (i.toNat * 12)).block, (ad.add (i.toNat * 12)).off + 5, none⟩ = some (.slice A5 (rd_T34 xs i).f5.length c5) ∧ w.cell? ⟨(ad.add (i.toNat * 12)).block, (ad.add (i.toNat * 12)).off + 6, none⟩ = some (.slice A6 (rd_T34 xs i).f6.length c6) ∧ w.cell? ⟨(ad.add (i.toNat * 12)).block, (ad.add (i.toNat * 12)).off + 7, none⟩ = some (.slice A7 (rd_T34 xs i).f7.length c7) ∧ w.cell? ⟨(ad.add (i.toNat * 12)).block, (ad.add (i.toNat * 12)).off + 8, none⟩ = some (.slice A8 (rd_T34 xs i).f8.length c8) ∧ w.cell? ⟨(ad.add (i.toNat * 12)).block, (ad.add (i.toNat * 12)).off + 9, none⟩ = some (.slice A9 (rd_T34 xs i).f9.length c9) ∧ w.cell? ⟨(ad.add (i.toNat * 12)).block, (ad.add (i.toNat * 12)).off + 10, none⟩ = some (.slice A10 (rd_T34 xs i).f10.length c10) ∧ w.cell? ⟨(ad.add (i.toNat * 12)).block, (ad.add (i.toNat * 12)).off + 11, none⟩ = some (.slice A11 (rd_T34 xs i).f11.length c11) ∧ (rd_T34 xs i).f4.length ≤ c4 ∧ k36.C w A4 (rd_T34 xs i).f4.length (rd_T34 xs i).f4 ∧ (rd_T34 xs i).f5.length ≤ c5 ∧ k36.C w A5 (rd_T34 xs i).f5.length (rd_T34 xs i).f5 ∧ (rd_T34 xs i).f6.length ≤ c6 ∧ k36.C w A6 (rd_T34 xs i).f6.length (rd_T34 xs i).f6 ∧ (rd_T34 xs i).f7.length ≤ c7 ∧ k36.C w A7 (rd_T34 xs i).f7.length (rd_T34 xs i).f7 ∧ (rd_T34 xs i).f8.length ≤ c8 ∧ k36.C w A8 (rd_T34 xs i).f8.length (rd_T34 xs i).f8 ∧ (rd_T34 xs i).f9.length ≤ c9 ∧ k36.C w A9 (rd_T34 xs i).f9.length (rd_T34 xs i).f9 ∧ (rd_T34 xs i).f10.length ≤ c10 ∧ k36.C w A10 (rd_T34 xs i).f10.length (rd_T34 xs i).f10 ∧ (rd_T34 xs i).f11.length ≤ c11 ∧ Kd.string.C w A11 (rd_T34 xs i).f11.length (rd_T34 xs i).f11 := by
  obtain ⟨ad, c, e, _, hK, hc0⟩ := Kd.C_get h z34 i h0 h1
  have hc : ∀ j u, c[j]? = some u → w.cell? (ad.add (i.toNat * 12 + j)) = some u := hc0
  obtain ⟨A4, c4, A5, c5, A6, c6, A7, c7, A8, c8, A9, c9, A10, c10, A11, c11, rfl, l4, g4, l5, g5, l6, g6, l7, g7, l8, g8, l9, g9, l10, g10, l11, g11⟩ := k34_open hK
  exact ⟨ad, A4, c4, A5, c5, A6, c6, A7, c7, A8, c8, A9, c9, A10, c10, A11, c11, e, hc 0 _ rfl, by rw [← add_field _ _ 1 (by omega)]; exact hc 1 _ rfl, by rw [← add_field _ _ 2 (by omega)]; exact hc 2 _ rfl, by rw [← add_field _ _ 3 (by omega)]; exact hc 3 _ rfl, by rw [← add_field _ _ 4 (by omega)]; exact hc 4 _ rfl, by rw [← add_field _ _ 5 (by omega)]; exact hc 5 _ rfl, by rw [← add_field _ _ 6 (by omega)]; exact hc 6 _ rfl, by rw [← add_field _ _ 7 (by omega)]; exact hc 7 _ rfl, by rw [← add_field _ _ 8 (by omega)]; exact hc 8 _ rfl, by rw [← add_field _ _ 9 (by omega)]; exact hc 9 _ rfl, by rw [← add_field _ _ 10 (by omega)]; exact hc 10 _ rfl, by rw [← add_field _ _ 11 (by omega)]; exact hc 11 _ rfl, l4, g4, l5, g5, l6, g6, l7, g7, l8, g8, l9, g9, l10, g10, l11, g11⟩

structure S97 where
  f0 : ByteArray
  f1 : Int
def z97 : S97 := ⟨(⟨#[]⟩ : ByteArray), (0 : Int)⟩
def k97 : Kd S97 := Kd.iso (Kd.pair Kd.string (Kd.int .i64)) (fun x : S97 => (x.f0, x.f1))
theorem k97_open {w : World} {x : S97} {cs : List Value} (h : k97.K w x cs) : cs = [.string x.f0, .int .i64 x.f1] := by
  obtain ⟨_, _, rfl, rfl, rfl⟩ := h
  exact rfl
theorem k97_mkM (w : World) (base : Nat) (ok : Nat → Prop) (x : S97)  : k97.M w base ok x [.string x.f0, .int .i64 x.f1] := ⟨[.string x.f0], [.int .i64 x.f1], rfl, rfl, rfl⟩
def rd_T97 (xs : List S97) (i : Int) : S97 := xs.getD i.toNat z97
theorem at_T97 {w : World} {A : Option Addr} {n : Nat} {xs : List S97} (h : Kd.C k97 w A n xs) (i : Int) (h0 : 0 ≤ i) (h1 : i < n) : ∃ ad , A = some ad ∧ w.cell? (ad.add (i.toNat * 2)) = some (.string (rd_T97 xs i).f0) ∧ w.cell? ⟨(ad.add (i.toNat * 2)).block, (ad.add (i.toNat * 2)).off + 1, none⟩ = some (.int .i64 (rd_T97 xs i).f1) := by
  obtain ⟨ad, c, e, _, hK, hc0⟩ := Kd.C_get h z97 i h0 h1
  have hc : ∀ j u, c[j]? = some u → w.cell? (ad.add (i.toNat * 2 + j)) = some u := hc0
  obtain rfl := k97_open hK
  exact ⟨ad, e, hc 0 _ rfl, by rw [← add_field _ _ 1 (by omega)]; exact hc 1 _ rfl⟩

end Go.Proofs.YtmclfdonoldlpaaDoor.POwn
