/- The walk of pool.Check. -/
import Derived.Test.YtmclfdonoldlpaaDoorG4
import Derived.Test.YtmclfdonoldlpaaDoorG2
namespace Go.Proofs.YtmclfdonoldlpaaDoor.Own
open Go.RowKit Go.Proofs.YtmclfdonoldlpaaDoorW.PrintWords Go.Proofs.YtmclfdonoldlpaaDoorW.PrintLast Go.Proofs.YtmclfdonoldlpaaDoorW.PrintMore Go.Proofs.YtmclfdonoldlpaaDoor.POwn
set_option linter.unusedVariables false
set_option linter.unusedSimpArgs false

def pick7 {α : Type} (a0 a1 a2 a3 a4 a5 a6 : α) : Nat → α
  | 0 => a0
  | 1 => a1
  | 2 => a2
  | 3 => a3
  | 4 => a4
  | 5 => a5
  | _ => a6
/-- A package's lists, by their places. -/
def listsOf (p : S34) : Nat → List S36 := pick7 p.f4 p.f5 p.f6 p.f7 p.f8 p.f9 p.f10
/-- What pool.Check answers. -/
def chkErr (p : S34) : Int :=
  if nameB p.f0 = false then 60 else if evrErr p.f1 ≠ 0 then 61 else if p.f2.toList.isEmpty || !allR smallR p.f2 20 then 62 else if !allR shownR p.f3 60 then 63
  else if !depsB (listsOf p) then 64 else if decide (16 < p.f11.length) || p.f11.any badFile then 65 else 0
def wfP (p : S34) : Prop := ∀ j, j < 7 → wfL (listsOf p j)
/-- A package as a value: its lists are read in a world. -/
def PkgV (W : World) (p : S34) (v : Value) : Prop := ∃ A0 A1 A2 A3 A4 A5 A6 A7 c0 c1 c2 c3 c4 c5 c6 c7, v = .agg #[.string p.f0, .string p.f1, .string p.f2, .string p.f3, .slice A0 p.f4.length c0, .slice A1 p.f5.length c1, .slice A2 p.f6.length c2, .slice A3 p.f7.length c3, .slice A4 p.f8.length c4, .slice A5 p.f9.length c5, .slice A6 p.f10.length c6, .slice A7 p.f11.length c7] ∧
  (p.f4.length ≤ c0 ∧ k36.C W A0 p.f4.length p.f4) ∧ (p.f5.length ≤ c1 ∧ k36.C W A1 p.f5.length p.f5) ∧ (p.f6.length ≤ c2 ∧ k36.C W A2 p.f6.length p.f6) ∧ (p.f7.length ≤ c3 ∧ k36.C W A3 p.f7.length p.f7) ∧ (p.f8.length ≤ c4 ∧ k36.C W A4 p.f8.length p.f8) ∧ (p.f9.length ≤ c5 ∧ k36.C W A5 p.f9.length p.f9) ∧ (p.f10.length ≤ c6 ∧ k36.C W A6 p.f10.length p.f10) ∧ (p.f11.length ≤ c7 ∧ Kd.string.C W A7 p.f11.length p.f11)

theorem small_calls (s : ByteArray) (b : Bool) (h : allR smallR s 20 = b) (w : World) : Calls Tryd.prog 50 #[.string s, .int .i64 20, .func (.func 48) #[] #[]] w fun e w' => e = .returned (.bool b) ∧ Below w.heap.size w w' :=
  all_calls 48 smallR (fun _ _ => by kernel_rfl) small_at s 20 b h w
theorem shown_calls (s : ByteArray) (b : Bool) (h : allR shownR s 60 = b) (w : World) : Calls Tryd.prog 50 #[.string s, .int .i64 60, .func (.func 49) #[] #[]] w fun e w' => e = .returned (.bool b) ∧ Below w.heap.size w w' :=
  all_calls 49 shownR (fun _ _ => by kernel_rfl) shown_at s 60 b h w
theorem files_calls (xs : List ByteArray) (A : Option Addr) (c : Nat) (w : World) (hr : Kd.string.C w A xs.length xs) (hc : xs.length ≤ c) (b : Bool) (hb : xs.any badFile = b) :
    Calls Tryd.prog 56 #[.slice A xs.length c, .func (.func 57) #[] #[]] w fun e w' => e = .returned (.bool b) ∧ Below w.heap.size w w' :=
  hasStr_calls 57 (fun _ _ => by kernel_rfl) badFile xs A c w hr hc badFile_calls b hb

set_option maxRecDepth 100000 in
theorem pkg_box (s0 s1 s2 s3 : ByteArray) (A0 A1 A2 A3 A4 A5 A6 A7 : Option Addr) (c0 c1 c2 c3 c4 c5 c6 c7 : Nat) (l0 l1 l2 l3 l4 l5 l6 : List S36) (l7 : List ByteArray) (w W : World) (hb : Below (w.alloc (.cells #[.string s0, .string s1, .string s2, .string s3, .slice A0 l0.length c0, .slice A1 l1.length c1, .slice A2 l2.length c2, .slice A3 l3.length c3, .slice A4 l4.length c4, .slice A5 l5.length c5, .slice A6 l6.length c6, .slice A7 l7.length c7] 34)).heap.size (w.alloc (.cells #[.string s0, .string s1, .string s2, .string s3, .slice A0 l0.length c0, .slice A1 l1.length c1, .slice A2 l2.length c2, .slice A3 l3.length c3, .slice A4 l4.length c4, .slice A5 l5.length c5, .slice A6 l6.length c6, .slice A7 l7.length c7] 34)) W) :
    W.cell? ⟨w.heap.size, 0, none⟩ = some (.string s0) ∧ W.cell? ⟨w.heap.size, 1, none⟩ = some (.string s1) ∧ W.cell? ⟨w.heap.size, 2, none⟩ = some (.string s2) ∧ W.cell? ⟨w.heap.size, 3, none⟩ = some (.string s3) ∧ W.cell? ⟨w.heap.size, 4, none⟩ = some (.slice A0 l0.length c0) ∧ W.cell? ⟨w.heap.size, 5, none⟩ = some (.slice A1 l1.length c1) ∧ W.cell? ⟨w.heap.size, 6, none⟩ = some (.slice A2 l2.length c2) ∧ W.cell? ⟨w.heap.size, 7, none⟩ = some (.slice A3 l3.length c3) ∧ W.cell? ⟨w.heap.size, 8, none⟩ = some (.slice A4 l4.length c4) ∧ W.cell? ⟨w.heap.size, 9, none⟩ = some (.slice A5 l5.length c5) ∧ W.cell? ⟨w.heap.size, 10, none⟩ = some (.slice A6 l6.length c6) ∧ W.cell? ⟨w.heap.size, 11, none⟩ = some (.slice A7 l7.length c7) := by
  have z0 := cell_after (a := ⟨w.heap.size, 0, none⟩) (v := .string s0) hb (by simp [go_sem])
  have z1 := cell_after (a := ⟨w.heap.size, 1, none⟩) (v := .string s1) hb (by simp [go_sem])
  have z2 := cell_after (a := ⟨w.heap.size, 2, none⟩) (v := .string s2) hb (by simp [go_sem])
  have z3 := cell_after (a := ⟨w.heap.size, 3, none⟩) (v := .string s3) hb (by simp [go_sem])
  have z4 := cell_after (a := ⟨w.heap.size, 4, none⟩) (v := .slice A0 l0.length c0) hb (by simp [go_sem])
  have z5 := cell_after (a := ⟨w.heap.size, 5, none⟩) (v := .slice A1 l1.length c1) hb (by simp [go_sem])
  have z6 := cell_after (a := ⟨w.heap.size, 6, none⟩) (v := .slice A2 l2.length c2) hb (by simp [go_sem])
  have z7 := cell_after (a := ⟨w.heap.size, 7, none⟩) (v := .slice A3 l3.length c3) hb (by simp [go_sem])
  have z8 := cell_after (a := ⟨w.heap.size, 8, none⟩) (v := .slice A4 l4.length c4) hb (by simp [go_sem])
  have z9 := cell_after (a := ⟨w.heap.size, 9, none⟩) (v := .slice A5 l5.length c5) hb (by simp [go_sem])
  have z10 := cell_after (a := ⟨w.heap.size, 10, none⟩) (v := .slice A6 l6.length c6) hb (by simp [go_sem])
  have z11 := cell_after (a := ⟨w.heap.size, 11, none⟩) (v := .slice A7 l7.length c7) hb (by simp [go_sem])
  exact ⟨z0, z1, z2, z3, z4, z5, z6, z7, z8, z9, z10, z11⟩
set_option maxRecDepth 100000 in
theorem deps_any (s0 s1 s2 s3 : ByteArray) (A0 A1 A2 A3 A4 A5 A6 A7 : Option Addr) (c0 c1 c2 c3 c4 c5 c6 c7 : Nat) (l0 l1 l2 l3 l4 l5 l6 : List S36) (l7 : List ByteArray) (w : World) (hr : ∀ j, j < 7 → k36.C w ((pick7 A0 A1 A2 A3 A4 A5 A6) j) ((pick7 l0 l1 l2 l3 l4 l5 l6 : Nat → List S36) j).length ((pick7 l0 l1 l2 l3 l4 l5 l6 : Nat → List S36) j) ∧ ((pick7 l0 l1 l2 l3 l4 l5 l6 : Nat → List S36) j).length ≤ pick7 c0 c1 c2 c3 c4 c5 c6 j ∧ wfL ((pick7 l0 l1 l2 l3 l4 l5 l6 : Nat → List S36) j)) (b : Bool) (hb : depsB (pick7 l0 l1 l2 l3 l4 l5 l6) = b) :
    Calls Tryd.prog 55 #[.agg #[.string s0, .string s1, .string s2, .string s3, .slice A0 l0.length c0, .slice A1 l1.length c1, .slice A2 l2.length c2, .slice A3 l3.length c3, .slice A4 l4.length c4, .slice A5 l5.length c5, .slice A6 l6.length c6, .slice A7 l7.length c7]] w fun e w' => e = .returned (.bool b) ∧ Below w.heap.size w w' := by
  subst hb
  exact deps_calls s0 s1 s2 s3 (pick7 A0 A1 A2 A3 A4 A5 A6) (pick7 c0 c1 c2 c3 c4 c5 c6) (pick7 l0 l1 l2 l3 l4 l5 l6) (.slice A7 l7.length c7) rfl w hr

set_option maxRecDepth 100000 in
set_option maxHeartbeats 4000000 in
theorem chk_n (s0 s1 s2 s3 : ByteArray) (A0 A1 A2 A3 A4 A5 A6 A7 : Option Addr) (c0 c1 c2 c3 c4 c5 c6 c7 : Nat) (l0 l1 l2 l3 l4 l5 l6 : List S36) (l7 : List ByteArray) (w : World) (k : Int) (he : evrErr s1 = k) (hn : nameB s0 = false) : Calls Tryd.prog 27 #[.agg #[.string s0, .string s1, .string s2, .string s3, .slice A0 l0.length c0, .slice A1 l1.length c1, .slice A2 l2.length c2, .slice A3 l3.length c3, .slice A4 l4.length c4, .slice A5 l5.length c5, .slice A6 l6.length c6, .slice A7 l7.length c7]] w fun e w' => e = .returned (.int .i64 60) ∧ Below w.heap.size w w' := by
  have HE_ := Lib.hid he
  clear he
  have HN_ := Lib.hid hn
  clear hn
  go_enter Tryd.func27, Tryd.ntmps27
  go_wp2_with (first
    | (go_at_call 53; (with_reducible refine (evr_calls' s1 _ HE_.out _).mono ?_); rintro e w1 ⟨⟨pa, pb, pc, rfl⟩, hb⟩; have HB := Lib.hid hb; clear hb; obtain ⟨z0, z1, z2, z3, z4, z5, z6, z7, z8, z9, z10, z11⟩ := pkg_box s0 s1 s2 s3 A0 A1 A2 A3 A4 A5 A6 A7 c0 c1 c2 c3 c4 c5 c6 c7 l0 l1 l2 l3 l4 l5 l6 l7 w _ HB.out; have hs1 : w.heap.size < w1.heap.size := (by have := HB.out.size; simp at this; omega))
    | (go_at_call 54; (with_reducible refine (name_calls s0 _ HN_.out _).mono ?_); rintro e w2 ⟨rfl, hb⟩; have HB2 := Lib.hid (below_then (below_alloc HB.out _) (by have := HB.out.size; simp at this ⊢; omega) hb); clear hb HB; have HB := HB2; clear HB2; clear z0 z1 z2 z3 z4 z5 z6 z7 z8 z9 z10 z11; obtain ⟨z0, z1, z2, z3, z4, z5, z6, z7, z8, z9, z10, z11⟩ := pkg_box s0 s1 s2 s3 A0 A1 A2 A3 A4 A5 A6 A7 c0 c1 c2 c3 c4 c5 c6 c7 l0 l1 l2 l3 l4 l5 l6 l7 w _ HB.out))
  go_ret
  exact ⟨by first | rfl | (simp; done), (below_alloc (Below.refl _ _) _).trans (HB.out.mono (by simp))⟩

set_option maxRecDepth 100000 in
set_option maxHeartbeats 4000000 in
theorem chk_e (s0 s1 s2 s3 : ByteArray) (A0 A1 A2 A3 A4 A5 A6 A7 : Option Addr) (c0 c1 c2 c3 c4 c5 c6 c7 : Nat) (l0 l1 l2 l3 l4 l5 l6 : List S36) (l7 : List ByteArray) (w : World) (k : Int) (he : evrErr s1 = k) (hk : (k != 0) = true) (hn : nameB s0 = true) : Calls Tryd.prog 27 #[.agg #[.string s0, .string s1, .string s2, .string s3, .slice A0 l0.length c0, .slice A1 l1.length c1, .slice A2 l2.length c2, .slice A3 l3.length c3, .slice A4 l4.length c4, .slice A5 l5.length c5, .slice A6 l6.length c6, .slice A7 l7.length c7]] w fun e w' => e = .returned (.int .i64 61) ∧ Below w.heap.size w w' := by
  have HE_ := Lib.hid he
  clear he
  have HN_ := Lib.hid hn
  clear hn
  go_enter Tryd.func27, Tryd.ntmps27
  go_wp2_with (first
    | (go_at_call 53; (with_reducible refine (evr_calls' s1 _ HE_.out _).mono ?_); rintro e w1 ⟨⟨pa, pb, pc, rfl⟩, hb⟩; have HB := Lib.hid hb; clear hb; obtain ⟨z0, z1, z2, z3, z4, z5, z6, z7, z8, z9, z10, z11⟩ := pkg_box s0 s1 s2 s3 A0 A1 A2 A3 A4 A5 A6 A7 c0 c1 c2 c3 c4 c5 c6 c7 l0 l1 l2 l3 l4 l5 l6 l7 w _ HB.out; have hs1 : w.heap.size < w1.heap.size := (by have := HB.out.size; simp at this; omega))
    | (go_at_call 54; (with_reducible refine (name_calls s0 _ HN_.out _).mono ?_); rintro e w2 ⟨rfl, hb⟩; have HB2 := Lib.hid (below_then (below_alloc HB.out _) (by have := HB.out.size; simp at this ⊢; omega) hb); clear hb HB; have HB := HB2; clear HB2; clear z0 z1 z2 z3 z4 z5 z6 z7 z8 z9 z10 z11; obtain ⟨z0, z1, z2, z3, z4, z5, z6, z7, z8, z9, z10, z11⟩ := pkg_box s0 s1 s2 s3 A0 A1 A2 A3 A4 A5 A6 A7 c0 c1 c2 c3 c4 c5 c6 c7 l0 l1 l2 l3 l4 l5 l6 l7 w _ HB.out))
  go_ret
  exact ⟨by first | rfl | (simp; done), (below_alloc (Below.refl _ _) _).trans (HB.out.mono (by simp))⟩

set_option maxRecDepth 100000 in
set_option maxHeartbeats 4000000 in
theorem chk_a0 (s0 s1 s2 s3 : ByteArray) (A0 A1 A2 A3 A4 A5 A6 A7 : Option Addr) (c0 c1 c2 c3 c4 c5 c6 c7 : Nat) (l0 l1 l2 l3 l4 l5 l6 : List S36) (l7 : List ByteArray) (w : World) (he : evrErr s1 = 0) (hn : nameB s0 = true) (h2 : s2.toList.isEmpty = true) : Calls Tryd.prog 27 #[.agg #[.string s0, .string s1, .string s2, .string s3, .slice A0 l0.length c0, .slice A1 l1.length c1, .slice A2 l2.length c2, .slice A3 l3.length c3, .slice A4 l4.length c4, .slice A5 l5.length c5, .slice A6 l6.length c6, .slice A7 l7.length c7]] w fun e w' => e = .returned (.int .i64 62) ∧ Below w.heap.size w w' := by
  have HE_ := Lib.hid he
  clear he
  have HN_ := Lib.hid hn
  clear hn
  go_enter Tryd.func27, Tryd.ntmps27
  go_wp2_with (first
    | (go_at_call 53; (with_reducible refine (evr_calls' s1 _ HE_.out _).mono ?_); rintro e w1 ⟨⟨pa, pb, pc, rfl⟩, hb⟩; have HB := Lib.hid hb; clear hb; obtain ⟨z0, z1, z2, z3, z4, z5, z6, z7, z8, z9, z10, z11⟩ := pkg_box s0 s1 s2 s3 A0 A1 A2 A3 A4 A5 A6 A7 c0 c1 c2 c3 c4 c5 c6 c7 l0 l1 l2 l3 l4 l5 l6 l7 w _ HB.out; have hs1 : w.heap.size < w1.heap.size := (by have := HB.out.size; simp at this; omega))
    | (go_at_call 54; (with_reducible refine (name_calls s0 _ HN_.out _).mono ?_); rintro e w2 ⟨rfl, hb⟩; have HB2 := Lib.hid (below_then (below_alloc HB.out _) (by have := HB.out.size; simp at this ⊢; omega) hb); clear hb HB; have HB := HB2; clear HB2; clear z0 z1 z2 z3 z4 z5 z6 z7 z8 z9 z10 z11; obtain ⟨z0, z1, z2, z3, z4, z5, z6, z7, z8, z9, z10, z11⟩ := pkg_box s0 s1 s2 s3 A0 A1 A2 A3 A4 A5 A6 A7 c0 c1 c2 c3 c4 c5 c6 c7 l0 l1 l2 l3 l4 l5 l6 l7 w _ HB.out))
  go_ret
  exact ⟨by first | rfl | (simp; done), (below_alloc (Below.refl _ _) _).trans (HB.out.mono (by simp))⟩

set_option maxRecDepth 100000 in
set_option maxHeartbeats 4000000 in
theorem chk_a1 (s0 s1 s2 s3 : ByteArray) (A0 A1 A2 A3 A4 A5 A6 A7 : Option Addr) (c0 c1 c2 c3 c4 c5 c6 c7 : Nat) (l0 l1 l2 l3 l4 l5 l6 : List S36) (l7 : List ByteArray) (w : World) (he : evrErr s1 = 0) (hn : nameB s0 = true) (h2 : s2.toList.isEmpty = false) (hs : allR smallR s2 20 = false) : Calls Tryd.prog 27 #[.agg #[.string s0, .string s1, .string s2, .string s3, .slice A0 l0.length c0, .slice A1 l1.length c1, .slice A2 l2.length c2, .slice A3 l3.length c3, .slice A4 l4.length c4, .slice A5 l5.length c5, .slice A6 l6.length c6, .slice A7 l7.length c7]] w fun e w' => e = .returned (.int .i64 62) ∧ Below w.heap.size w w' := by
  have HE_ := Lib.hid he
  clear he
  have HN_ := Lib.hid hn
  clear hn
  have HS_ := Lib.hid hs
  clear hs
  go_enter Tryd.func27, Tryd.ntmps27
  go_wp2_with (first
    | (go_at_call 53; (with_reducible refine (evr_calls' s1 _ HE_.out _).mono ?_); rintro e w1 ⟨⟨pa, pb, pc, rfl⟩, hb⟩; have HB := Lib.hid hb; clear hb; obtain ⟨z0, z1, z2, z3, z4, z5, z6, z7, z8, z9, z10, z11⟩ := pkg_box s0 s1 s2 s3 A0 A1 A2 A3 A4 A5 A6 A7 c0 c1 c2 c3 c4 c5 c6 c7 l0 l1 l2 l3 l4 l5 l6 l7 w _ HB.out; have hs1 : w.heap.size < w1.heap.size := (by have := HB.out.size; simp at this; omega))
    | (go_at_call 54; (with_reducible refine (name_calls s0 _ HN_.out _).mono ?_); rintro e w2 ⟨rfl, hb⟩; have HB2 := Lib.hid (below_then (below_alloc HB.out _) (by have := HB.out.size; simp at this ⊢; omega) hb); clear hb HB; have HB := HB2; clear HB2; clear z0 z1 z2 z3 z4 z5 z6 z7 z8 z9 z10 z11; obtain ⟨z0, z1, z2, z3, z4, z5, z6, z7, z8, z9, z10, z11⟩ := pkg_box s0 s1 s2 s3 A0 A1 A2 A3 A4 A5 A6 A7 c0 c1 c2 c3 c4 c5 c6 c7 l0 l1 l2 l3 l4 l5 l6 l7 w _ HB.out)
    | (go_at_call 50; (with_reducible refine (small_calls s2 _ HS_.out _).mono ?_); rintro e w3 ⟨rfl, hb⟩; have HB2 := Lib.hid (below_then HB.out HB.out.size hb); clear hb HB; have HB := HB2; clear HB2; clear z0 z1 z2 z3 z4 z5 z6 z7 z8 z9 z10 z11; obtain ⟨z0, z1, z2, z3, z4, z5, z6, z7, z8, z9, z10, z11⟩ := pkg_box s0 s1 s2 s3 A0 A1 A2 A3 A4 A5 A6 A7 c0 c1 c2 c3 c4 c5 c6 c7 l0 l1 l2 l3 l4 l5 l6 l7 w _ HB.out))
  go_ret
  exact ⟨by first | rfl | (simp; done), (below_alloc (Below.refl _ _) _).trans (HB.out.mono (by simp))⟩

set_option maxRecDepth 100000 in
set_option maxHeartbeats 4000000 in
theorem chk_v (s0 s1 s2 s3 : ByteArray) (A0 A1 A2 A3 A4 A5 A6 A7 : Option Addr) (c0 c1 c2 c3 c4 c5 c6 c7 : Nat) (l0 l1 l2 l3 l4 l5 l6 : List S36) (l7 : List ByteArray) (w : World) (he : evrErr s1 = 0) (hn : nameB s0 = true) (h2 : s2.toList.isEmpty = false) (hs : allR smallR s2 20 = true) (hv : allR shownR s3 60 = false) : Calls Tryd.prog 27 #[.agg #[.string s0, .string s1, .string s2, .string s3, .slice A0 l0.length c0, .slice A1 l1.length c1, .slice A2 l2.length c2, .slice A3 l3.length c3, .slice A4 l4.length c4, .slice A5 l5.length c5, .slice A6 l6.length c6, .slice A7 l7.length c7]] w fun e w' => e = .returned (.int .i64 63) ∧ Below w.heap.size w w' := by
  have HE_ := Lib.hid he
  clear he
  have HN_ := Lib.hid hn
  clear hn
  have HS_ := Lib.hid hs
  clear hs
  have HV_ := Lib.hid hv
  clear hv
  go_enter Tryd.func27, Tryd.ntmps27
  go_wp2_with (first
    | (go_at_call 53; (with_reducible refine (evr_calls' s1 _ HE_.out _).mono ?_); rintro e w1 ⟨⟨pa, pb, pc, rfl⟩, hb⟩; have HB := Lib.hid hb; clear hb; obtain ⟨z0, z1, z2, z3, z4, z5, z6, z7, z8, z9, z10, z11⟩ := pkg_box s0 s1 s2 s3 A0 A1 A2 A3 A4 A5 A6 A7 c0 c1 c2 c3 c4 c5 c6 c7 l0 l1 l2 l3 l4 l5 l6 l7 w _ HB.out; have hs1 : w.heap.size < w1.heap.size := (by have := HB.out.size; simp at this; omega))
    | (go_at_call 54; (with_reducible refine (name_calls s0 _ HN_.out _).mono ?_); rintro e w2 ⟨rfl, hb⟩; have HB2 := Lib.hid (below_then (below_alloc HB.out _) (by have := HB.out.size; simp at this ⊢; omega) hb); clear hb HB; have HB := HB2; clear HB2; clear z0 z1 z2 z3 z4 z5 z6 z7 z8 z9 z10 z11; obtain ⟨z0, z1, z2, z3, z4, z5, z6, z7, z8, z9, z10, z11⟩ := pkg_box s0 s1 s2 s3 A0 A1 A2 A3 A4 A5 A6 A7 c0 c1 c2 c3 c4 c5 c6 c7 l0 l1 l2 l3 l4 l5 l6 l7 w _ HB.out)
    | (go_at_call 50; (with_reducible refine (small_calls s2 _ HS_.out _).mono ?_); rintro e w3 ⟨rfl, hb⟩; have HB2 := Lib.hid (below_then HB.out HB.out.size hb); clear hb HB; have HB := HB2; clear HB2; clear z0 z1 z2 z3 z4 z5 z6 z7 z8 z9 z10 z11; obtain ⟨z0, z1, z2, z3, z4, z5, z6, z7, z8, z9, z10, z11⟩ := pkg_box s0 s1 s2 s3 A0 A1 A2 A3 A4 A5 A6 A7 c0 c1 c2 c3 c4 c5 c6 c7 l0 l1 l2 l3 l4 l5 l6 l7 w _ HB.out)
    | (go_at_call 50; (with_reducible refine (shown_calls s3 _ HV_.out _).mono ?_); rintro e w4 ⟨rfl, hb⟩; have HB2 := Lib.hid (below_then HB.out HB.out.size hb); clear hb HB; have HB := HB2; clear HB2; clear z0 z1 z2 z3 z4 z5 z6 z7 z8 z9 z10 z11; obtain ⟨z0, z1, z2, z3, z4, z5, z6, z7, z8, z9, z10, z11⟩ := pkg_box s0 s1 s2 s3 A0 A1 A2 A3 A4 A5 A6 A7 c0 c1 c2 c3 c4 c5 c6 c7 l0 l1 l2 l3 l4 l5 l6 l7 w _ HB.out))
  go_ret
  exact ⟨by first | rfl | (simp; done), (below_alloc (Below.refl _ _) _).trans (HB.out.mono (by simp))⟩

set_option maxRecDepth 100000 in
set_option maxHeartbeats 4000000 in
theorem chk_d (s0 s1 s2 s3 : ByteArray) (A0 A1 A2 A3 A4 A5 A6 A7 : Option Addr) (c0 c1 c2 c3 c4 c5 c6 c7 : Nat) (l0 l1 l2 l3 l4 l5 l6 : List S36) (l7 : List ByteArray) (w : World) (he : evrErr s1 = 0) (hn : nameB s0 = true) (h2 : s2.toList.isEmpty = false) (hs : allR smallR s2 20 = true) (hv : allR shownR s3 60 = true) (hd : ∀ W : World, Below (w.alloc (.cells #[.string s0, .string s1, .string s2, .string s3, .slice A0 l0.length c0, .slice A1 l1.length c1, .slice A2 l2.length c2, .slice A3 l3.length c3, .slice A4 l4.length c4, .slice A5 l5.length c5, .slice A6 l6.length c6, .slice A7 l7.length c7] 34)).heap.size (w.alloc (.cells #[.string s0, .string s1, .string s2, .string s3, .slice A0 l0.length c0, .slice A1 l1.length c1, .slice A2 l2.length c2, .slice A3 l3.length c3, .slice A4 l4.length c4, .slice A5 l5.length c5, .slice A6 l6.length c6, .slice A7 l7.length c7] 34)) W → Calls Tryd.prog 55 #[.agg #[.string s0, .string s1, .string s2, .string s3, .slice A0 l0.length c0, .slice A1 l1.length c1, .slice A2 l2.length c2, .slice A3 l3.length c3, .slice A4 l4.length c4, .slice A5 l5.length c5, .slice A6 l6.length c6, .slice A7 l7.length c7]] W fun e w' => e = .returned (.bool false) ∧ Below W.heap.size W w') : Calls Tryd.prog 27 #[.agg #[.string s0, .string s1, .string s2, .string s3, .slice A0 l0.length c0, .slice A1 l1.length c1, .slice A2 l2.length c2, .slice A3 l3.length c3, .slice A4 l4.length c4, .slice A5 l5.length c5, .slice A6 l6.length c6, .slice A7 l7.length c7]] w fun e w' => e = .returned (.int .i64 64) ∧ Below w.heap.size w w' := by
  have HE_ := Lib.hid he
  clear he
  have HN_ := Lib.hid hn
  clear hn
  have HS_ := Lib.hid hs
  clear hs
  have HV_ := Lib.hid hv
  clear hv
  have HD_ := Lib.hid hd
  clear hd
  go_enter Tryd.func27, Tryd.ntmps27
  go_wp2_with (first
    | (go_at_call 53; (with_reducible refine (evr_calls' s1 _ HE_.out _).mono ?_); rintro e w1 ⟨⟨pa, pb, pc, rfl⟩, hb⟩; have HB := Lib.hid hb; clear hb; obtain ⟨z0, z1, z2, z3, z4, z5, z6, z7, z8, z9, z10, z11⟩ := pkg_box s0 s1 s2 s3 A0 A1 A2 A3 A4 A5 A6 A7 c0 c1 c2 c3 c4 c5 c6 c7 l0 l1 l2 l3 l4 l5 l6 l7 w _ HB.out; have hs1 : w.heap.size < w1.heap.size := (by have := HB.out.size; simp at this; omega))
    | (go_at_call 54; (with_reducible refine (name_calls s0 _ HN_.out _).mono ?_); rintro e w2 ⟨rfl, hb⟩; have HB2 := Lib.hid (below_then (below_alloc HB.out _) (by have := HB.out.size; simp at this ⊢; omega) hb); clear hb HB; have HB := HB2; clear HB2; clear z0 z1 z2 z3 z4 z5 z6 z7 z8 z9 z10 z11; obtain ⟨z0, z1, z2, z3, z4, z5, z6, z7, z8, z9, z10, z11⟩ := pkg_box s0 s1 s2 s3 A0 A1 A2 A3 A4 A5 A6 A7 c0 c1 c2 c3 c4 c5 c6 c7 l0 l1 l2 l3 l4 l5 l6 l7 w _ HB.out)
    | (go_at_call 50; (with_reducible refine (small_calls s2 _ HS_.out _).mono ?_); rintro e w3 ⟨rfl, hb⟩; have HB2 := Lib.hid (below_then HB.out HB.out.size hb); clear hb HB; have HB := HB2; clear HB2; clear z0 z1 z2 z3 z4 z5 z6 z7 z8 z9 z10 z11; obtain ⟨z0, z1, z2, z3, z4, z5, z6, z7, z8, z9, z10, z11⟩ := pkg_box s0 s1 s2 s3 A0 A1 A2 A3 A4 A5 A6 A7 c0 c1 c2 c3 c4 c5 c6 c7 l0 l1 l2 l3 l4 l5 l6 l7 w _ HB.out)
    | (go_at_call 50; (with_reducible refine (shown_calls s3 _ HV_.out _).mono ?_); rintro e w4 ⟨rfl, hb⟩; have HB2 := Lib.hid (below_then HB.out HB.out.size hb); clear hb HB; have HB := HB2; clear HB2; clear z0 z1 z2 z3 z4 z5 z6 z7 z8 z9 z10 z11; obtain ⟨z0, z1, z2, z3, z4, z5, z6, z7, z8, z9, z10, z11⟩ := pkg_box s0 s1 s2 s3 A0 A1 A2 A3 A4 A5 A6 A7 c0 c1 c2 c3 c4 c5 c6 c7 l0 l1 l2 l3 l4 l5 l6 l7 w _ HB.out)
    | (go_at_call 55; refine (HD_.out _ HB.out).mono ?_; rintro e w5 ⟨rfl, hb⟩; have HB2 := Lib.hid (below_then HB.out HB.out.size hb); clear hb HB; have HB := HB2; clear HB2; clear z0 z1 z2 z3 z4 z5 z6 z7 z8 z9 z10 z11; obtain ⟨z0, z1, z2, z3, z4, z5, z6, z7, z8, z9, z10, z11⟩ := pkg_box s0 s1 s2 s3 A0 A1 A2 A3 A4 A5 A6 A7 c0 c1 c2 c3 c4 c5 c6 c7 l0 l1 l2 l3 l4 l5 l6 l7 w _ HB.out))
  go_ret
  exact ⟨by first | rfl | (simp; done), (below_alloc (Below.refl _ _) _).trans (HB.out.mono (by simp))⟩

set_option maxRecDepth 100000 in
set_option maxHeartbeats 4000000 in
theorem chk_f0 (s0 s1 s2 s3 : ByteArray) (A0 A1 A2 A3 A4 A5 A6 A7 : Option Addr) (c0 c1 c2 c3 c4 c5 c6 c7 : Nat) (l0 l1 l2 l3 l4 l5 l6 : List S36) (l7 : List ByteArray) (w : World) (he : evrErr s1 = 0) (hn : nameB s0 = true) (h2 : s2.toList.isEmpty = false) (hs : allR smallR s2 20 = true) (hv : allR shownR s3 60 = true) (hd : ∀ W : World, Below (w.alloc (.cells #[.string s0, .string s1, .string s2, .string s3, .slice A0 l0.length c0, .slice A1 l1.length c1, .slice A2 l2.length c2, .slice A3 l3.length c3, .slice A4 l4.length c4, .slice A5 l5.length c5, .slice A6 l6.length c6, .slice A7 l7.length c7] 34)).heap.size (w.alloc (.cells #[.string s0, .string s1, .string s2, .string s3, .slice A0 l0.length c0, .slice A1 l1.length c1, .slice A2 l2.length c2, .slice A3 l3.length c3, .slice A4 l4.length c4, .slice A5 l5.length c5, .slice A6 l6.length c6, .slice A7 l7.length c7] 34)) W → Calls Tryd.prog 55 #[.agg #[.string s0, .string s1, .string s2, .string s3, .slice A0 l0.length c0, .slice A1 l1.length c1, .slice A2 l2.length c2, .slice A3 l3.length c3, .slice A4 l4.length c4, .slice A5 l5.length c5, .slice A6 l6.length c6, .slice A7 l7.length c7]] W fun e w' => e = .returned (.bool true) ∧ Below W.heap.size W w') (hl7 : l7.length ≤ 9223372036854775807) (h16 : 16 < l7.length) : Calls Tryd.prog 27 #[.agg #[.string s0, .string s1, .string s2, .string s3, .slice A0 l0.length c0, .slice A1 l1.length c1, .slice A2 l2.length c2, .slice A3 l3.length c3, .slice A4 l4.length c4, .slice A5 l5.length c5, .slice A6 l6.length c6, .slice A7 l7.length c7]] w fun e w' => e = .returned (.int .i64 65) ∧ Below w.heap.size w w' := by
  have HE_ := Lib.hid he
  clear he
  have HN_ := Lib.hid hn
  clear hn
  have HS_ := Lib.hid hs
  clear hs
  have HV_ := Lib.hid hv
  clear hv
  have HD_ := Lib.hid hd
  clear hd
  go_enter Tryd.func27, Tryd.ntmps27
  go_wp2_with (first
    | (go_at_call 53; (with_reducible refine (evr_calls' s1 _ HE_.out _).mono ?_); rintro e w1 ⟨⟨pa, pb, pc, rfl⟩, hb⟩; have HB := Lib.hid hb; clear hb; obtain ⟨z0, z1, z2, z3, z4, z5, z6, z7, z8, z9, z10, z11⟩ := pkg_box s0 s1 s2 s3 A0 A1 A2 A3 A4 A5 A6 A7 c0 c1 c2 c3 c4 c5 c6 c7 l0 l1 l2 l3 l4 l5 l6 l7 w _ HB.out; have hs1 : w.heap.size < w1.heap.size := (by have := HB.out.size; simp at this; omega))
    | (go_at_call 54; (with_reducible refine (name_calls s0 _ HN_.out _).mono ?_); rintro e w2 ⟨rfl, hb⟩; have HB2 := Lib.hid (below_then (below_alloc HB.out _) (by have := HB.out.size; simp at this ⊢; omega) hb); clear hb HB; have HB := HB2; clear HB2; clear z0 z1 z2 z3 z4 z5 z6 z7 z8 z9 z10 z11; obtain ⟨z0, z1, z2, z3, z4, z5, z6, z7, z8, z9, z10, z11⟩ := pkg_box s0 s1 s2 s3 A0 A1 A2 A3 A4 A5 A6 A7 c0 c1 c2 c3 c4 c5 c6 c7 l0 l1 l2 l3 l4 l5 l6 l7 w _ HB.out)
    | (go_at_call 50; (with_reducible refine (small_calls s2 _ HS_.out _).mono ?_); rintro e w3 ⟨rfl, hb⟩; have HB2 := Lib.hid (below_then HB.out HB.out.size hb); clear hb HB; have HB := HB2; clear HB2; clear z0 z1 z2 z3 z4 z5 z6 z7 z8 z9 z10 z11; obtain ⟨z0, z1, z2, z3, z4, z5, z6, z7, z8, z9, z10, z11⟩ := pkg_box s0 s1 s2 s3 A0 A1 A2 A3 A4 A5 A6 A7 c0 c1 c2 c3 c4 c5 c6 c7 l0 l1 l2 l3 l4 l5 l6 l7 w _ HB.out)
    | (go_at_call 50; (with_reducible refine (shown_calls s3 _ HV_.out _).mono ?_); rintro e w4 ⟨rfl, hb⟩; have HB2 := Lib.hid (below_then HB.out HB.out.size hb); clear hb HB; have HB := HB2; clear HB2; clear z0 z1 z2 z3 z4 z5 z6 z7 z8 z9 z10 z11; obtain ⟨z0, z1, z2, z3, z4, z5, z6, z7, z8, z9, z10, z11⟩ := pkg_box s0 s1 s2 s3 A0 A1 A2 A3 A4 A5 A6 A7 c0 c1 c2 c3 c4 c5 c6 c7 l0 l1 l2 l3 l4 l5 l6 l7 w _ HB.out)
    | (go_at_call 55; refine (HD_.out _ HB.out).mono ?_; rintro e w5 ⟨rfl, hb⟩; have HB2 := Lib.hid (below_then HB.out HB.out.size hb); clear hb HB; have HB := HB2; clear HB2; clear z0 z1 z2 z3 z4 z5 z6 z7 z8 z9 z10 z11; obtain ⟨z0, z1, z2, z3, z4, z5, z6, z7, z8, z9, z10, z11⟩ := pkg_box s0 s1 s2 s3 A0 A1 A2 A3 A4 A5 A6 A7 c0 c1 c2 c3 c4 c5 c6 c7 l0 l1 l2 l3 l4 l5 l6 l7 w _ HB.out))
  go_ret
  exact ⟨by first | rfl | (simp; done), (below_alloc (Below.refl _ _) _).trans (HB.out.mono (by simp))⟩

set_option maxRecDepth 100000 in
set_option maxHeartbeats 4000000 in
theorem chk_f1 (s0 s1 s2 s3 : ByteArray) (A0 A1 A2 A3 A4 A5 A6 A7 : Option Addr) (c0 c1 c2 c3 c4 c5 c6 c7 : Nat) (l0 l1 l2 l3 l4 l5 l6 : List S36) (l7 : List ByteArray) (w : World) (he : evrErr s1 = 0) (hn : nameB s0 = true) (h2 : s2.toList.isEmpty = false) (hs : allR smallR s2 20 = true) (hv : allR shownR s3 60 = true) (hd : ∀ W : World, Below (w.alloc (.cells #[.string s0, .string s1, .string s2, .string s3, .slice A0 l0.length c0, .slice A1 l1.length c1, .slice A2 l2.length c2, .slice A3 l3.length c3, .slice A4 l4.length c4, .slice A5 l5.length c5, .slice A6 l6.length c6, .slice A7 l7.length c7] 34)).heap.size (w.alloc (.cells #[.string s0, .string s1, .string s2, .string s3, .slice A0 l0.length c0, .slice A1 l1.length c1, .slice A2 l2.length c2, .slice A3 l3.length c3, .slice A4 l4.length c4, .slice A5 l5.length c5, .slice A6 l6.length c6, .slice A7 l7.length c7] 34)) W → Calls Tryd.prog 55 #[.agg #[.string s0, .string s1, .string s2, .string s3, .slice A0 l0.length c0, .slice A1 l1.length c1, .slice A2 l2.length c2, .slice A3 l3.length c3, .slice A4 l4.length c4, .slice A5 l5.length c5, .slice A6 l6.length c6, .slice A7 l7.length c7]] W fun e w' => e = .returned (.bool true) ∧ Below W.heap.size W w') (hl7 : l7.length ≤ 9223372036854775807) (h16 : l7.length ≤ 16) (hf : ∀ W : World, Below (w.alloc (.cells #[.string s0, .string s1, .string s2, .string s3, .slice A0 l0.length c0, .slice A1 l1.length c1, .slice A2 l2.length c2, .slice A3 l3.length c3, .slice A4 l4.length c4, .slice A5 l5.length c5, .slice A6 l6.length c6, .slice A7 l7.length c7] 34)).heap.size (w.alloc (.cells #[.string s0, .string s1, .string s2, .string s3, .slice A0 l0.length c0, .slice A1 l1.length c1, .slice A2 l2.length c2, .slice A3 l3.length c3, .slice A4 l4.length c4, .slice A5 l5.length c5, .slice A6 l6.length c6, .slice A7 l7.length c7] 34)) W → Calls Tryd.prog 56 #[.slice A7 l7.length c7, .func (.func 57) #[] #[]] W fun e w' => e = .returned (.bool true) ∧ Below W.heap.size W w') : Calls Tryd.prog 27 #[.agg #[.string s0, .string s1, .string s2, .string s3, .slice A0 l0.length c0, .slice A1 l1.length c1, .slice A2 l2.length c2, .slice A3 l3.length c3, .slice A4 l4.length c4, .slice A5 l5.length c5, .slice A6 l6.length c6, .slice A7 l7.length c7]] w fun e w' => e = .returned (.int .i64 65) ∧ Below w.heap.size w w' := by
  have HE_ := Lib.hid he
  clear he
  have HN_ := Lib.hid hn
  clear hn
  have HS_ := Lib.hid hs
  clear hs
  have HV_ := Lib.hid hv
  clear hv
  have HD_ := Lib.hid hd
  clear hd
  have HF_ := Lib.hid hf
  clear hf
  go_enter Tryd.func27, Tryd.ntmps27
  go_wp2_with (first
    | (go_at_call 53; (with_reducible refine (evr_calls' s1 _ HE_.out _).mono ?_); rintro e w1 ⟨⟨pa, pb, pc, rfl⟩, hb⟩; have HB := Lib.hid hb; clear hb; obtain ⟨z0, z1, z2, z3, z4, z5, z6, z7, z8, z9, z10, z11⟩ := pkg_box s0 s1 s2 s3 A0 A1 A2 A3 A4 A5 A6 A7 c0 c1 c2 c3 c4 c5 c6 c7 l0 l1 l2 l3 l4 l5 l6 l7 w _ HB.out; have hs1 : w.heap.size < w1.heap.size := (by have := HB.out.size; simp at this; omega))
    | (go_at_call 54; (with_reducible refine (name_calls s0 _ HN_.out _).mono ?_); rintro e w2 ⟨rfl, hb⟩; have HB2 := Lib.hid (below_then (below_alloc HB.out _) (by have := HB.out.size; simp at this ⊢; omega) hb); clear hb HB; have HB := HB2; clear HB2; clear z0 z1 z2 z3 z4 z5 z6 z7 z8 z9 z10 z11; obtain ⟨z0, z1, z2, z3, z4, z5, z6, z7, z8, z9, z10, z11⟩ := pkg_box s0 s1 s2 s3 A0 A1 A2 A3 A4 A5 A6 A7 c0 c1 c2 c3 c4 c5 c6 c7 l0 l1 l2 l3 l4 l5 l6 l7 w _ HB.out)
    | (go_at_call 50; (with_reducible refine (small_calls s2 _ HS_.out _).mono ?_); rintro e w3 ⟨rfl, hb⟩; have HB2 := Lib.hid (below_then HB.out HB.out.size hb); clear hb HB; have HB := HB2; clear HB2; clear z0 z1 z2 z3 z4 z5 z6 z7 z8 z9 z10 z11; obtain ⟨z0, z1, z2, z3, z4, z5, z6, z7, z8, z9, z10, z11⟩ := pkg_box s0 s1 s2 s3 A0 A1 A2 A3 A4 A5 A6 A7 c0 c1 c2 c3 c4 c5 c6 c7 l0 l1 l2 l3 l4 l5 l6 l7 w _ HB.out)
    | (go_at_call 50; (with_reducible refine (shown_calls s3 _ HV_.out _).mono ?_); rintro e w4 ⟨rfl, hb⟩; have HB2 := Lib.hid (below_then HB.out HB.out.size hb); clear hb HB; have HB := HB2; clear HB2; clear z0 z1 z2 z3 z4 z5 z6 z7 z8 z9 z10 z11; obtain ⟨z0, z1, z2, z3, z4, z5, z6, z7, z8, z9, z10, z11⟩ := pkg_box s0 s1 s2 s3 A0 A1 A2 A3 A4 A5 A6 A7 c0 c1 c2 c3 c4 c5 c6 c7 l0 l1 l2 l3 l4 l5 l6 l7 w _ HB.out)
    | (go_at_call 55; refine (HD_.out _ HB.out).mono ?_; rintro e w5 ⟨rfl, hb⟩; have HB2 := Lib.hid (below_then HB.out HB.out.size hb); clear hb HB; have HB := HB2; clear HB2; clear z0 z1 z2 z3 z4 z5 z6 z7 z8 z9 z10 z11; obtain ⟨z0, z1, z2, z3, z4, z5, z6, z7, z8, z9, z10, z11⟩ := pkg_box s0 s1 s2 s3 A0 A1 A2 A3 A4 A5 A6 A7 c0 c1 c2 c3 c4 c5 c6 c7 l0 l1 l2 l3 l4 l5 l6 l7 w _ HB.out)
    | (go_at_call 56; refine (HF_.out _ HB.out).mono ?_; rintro e w6 ⟨rfl, hb⟩; have HB2 := Lib.hid (below_then HB.out HB.out.size hb); clear hb HB; have HB := HB2; clear HB2; clear z0 z1 z2 z3 z4 z5 z6 z7 z8 z9 z10 z11; obtain ⟨z0, z1, z2, z3, z4, z5, z6, z7, z8, z9, z10, z11⟩ := pkg_box s0 s1 s2 s3 A0 A1 A2 A3 A4 A5 A6 A7 c0 c1 c2 c3 c4 c5 c6 c7 l0 l1 l2 l3 l4 l5 l6 l7 w _ HB.out))
  go_ret
  exact ⟨by first | rfl | (simp; done), (below_alloc (Below.refl _ _) _).trans (HB.out.mono (by simp))⟩

set_option maxRecDepth 100000 in
set_option maxHeartbeats 4000000 in
theorem chk_ok (s0 s1 s2 s3 : ByteArray) (A0 A1 A2 A3 A4 A5 A6 A7 : Option Addr) (c0 c1 c2 c3 c4 c5 c6 c7 : Nat) (l0 l1 l2 l3 l4 l5 l6 : List S36) (l7 : List ByteArray) (w : World) (he : evrErr s1 = 0) (hn : nameB s0 = true) (h2 : s2.toList.isEmpty = false) (hs : allR smallR s2 20 = true) (hv : allR shownR s3 60 = true) (hd : ∀ W : World, Below (w.alloc (.cells #[.string s0, .string s1, .string s2, .string s3, .slice A0 l0.length c0, .slice A1 l1.length c1, .slice A2 l2.length c2, .slice A3 l3.length c3, .slice A4 l4.length c4, .slice A5 l5.length c5, .slice A6 l6.length c6, .slice A7 l7.length c7] 34)).heap.size (w.alloc (.cells #[.string s0, .string s1, .string s2, .string s3, .slice A0 l0.length c0, .slice A1 l1.length c1, .slice A2 l2.length c2, .slice A3 l3.length c3, .slice A4 l4.length c4, .slice A5 l5.length c5, .slice A6 l6.length c6, .slice A7 l7.length c7] 34)) W → Calls Tryd.prog 55 #[.agg #[.string s0, .string s1, .string s2, .string s3, .slice A0 l0.length c0, .slice A1 l1.length c1, .slice A2 l2.length c2, .slice A3 l3.length c3, .slice A4 l4.length c4, .slice A5 l5.length c5, .slice A6 l6.length c6, .slice A7 l7.length c7]] W fun e w' => e = .returned (.bool true) ∧ Below W.heap.size W w') (hl7 : l7.length ≤ 9223372036854775807) (h16 : l7.length ≤ 16) (hf : ∀ W : World, Below (w.alloc (.cells #[.string s0, .string s1, .string s2, .string s3, .slice A0 l0.length c0, .slice A1 l1.length c1, .slice A2 l2.length c2, .slice A3 l3.length c3, .slice A4 l4.length c4, .slice A5 l5.length c5, .slice A6 l6.length c6, .slice A7 l7.length c7] 34)).heap.size (w.alloc (.cells #[.string s0, .string s1, .string s2, .string s3, .slice A0 l0.length c0, .slice A1 l1.length c1, .slice A2 l2.length c2, .slice A3 l3.length c3, .slice A4 l4.length c4, .slice A5 l5.length c5, .slice A6 l6.length c6, .slice A7 l7.length c7] 34)) W → Calls Tryd.prog 56 #[.slice A7 l7.length c7, .func (.func 57) #[] #[]] W fun e w' => e = .returned (.bool false) ∧ Below W.heap.size W w') : Calls Tryd.prog 27 #[.agg #[.string s0, .string s1, .string s2, .string s3, .slice A0 l0.length c0, .slice A1 l1.length c1, .slice A2 l2.length c2, .slice A3 l3.length c3, .slice A4 l4.length c4, .slice A5 l5.length c5, .slice A6 l6.length c6, .slice A7 l7.length c7]] w fun e w' => e = .returned (.int .i64 0) ∧ Below w.heap.size w w' := by
  have HE_ := Lib.hid he
  clear he
  have HN_ := Lib.hid hn
  clear hn
  have HS_ := Lib.hid hs
  clear hs
  have HV_ := Lib.hid hv
  clear hv
  have HD_ := Lib.hid hd
  clear hd
  have HF_ := Lib.hid hf
  clear hf
  go_enter Tryd.func27, Tryd.ntmps27
  go_wp2_with (first
    | (go_at_call 53; (with_reducible refine (evr_calls' s1 _ HE_.out _).mono ?_); rintro e w1 ⟨⟨pa, pb, pc, rfl⟩, hb⟩; have HB := Lib.hid hb; clear hb; obtain ⟨z0, z1, z2, z3, z4, z5, z6, z7, z8, z9, z10, z11⟩ := pkg_box s0 s1 s2 s3 A0 A1 A2 A3 A4 A5 A6 A7 c0 c1 c2 c3 c4 c5 c6 c7 l0 l1 l2 l3 l4 l5 l6 l7 w _ HB.out; have hs1 : w.heap.size < w1.heap.size := (by have := HB.out.size; simp at this; omega))
    | (go_at_call 54; (with_reducible refine (name_calls s0 _ HN_.out _).mono ?_); rintro e w2 ⟨rfl, hb⟩; have HB2 := Lib.hid (below_then (below_alloc HB.out _) (by have := HB.out.size; simp at this ⊢; omega) hb); clear hb HB; have HB := HB2; clear HB2; clear z0 z1 z2 z3 z4 z5 z6 z7 z8 z9 z10 z11; obtain ⟨z0, z1, z2, z3, z4, z5, z6, z7, z8, z9, z10, z11⟩ := pkg_box s0 s1 s2 s3 A0 A1 A2 A3 A4 A5 A6 A7 c0 c1 c2 c3 c4 c5 c6 c7 l0 l1 l2 l3 l4 l5 l6 l7 w _ HB.out)
    | (go_at_call 50; (with_reducible refine (small_calls s2 _ HS_.out _).mono ?_); rintro e w3 ⟨rfl, hb⟩; have HB2 := Lib.hid (below_then HB.out HB.out.size hb); clear hb HB; have HB := HB2; clear HB2; clear z0 z1 z2 z3 z4 z5 z6 z7 z8 z9 z10 z11; obtain ⟨z0, z1, z2, z3, z4, z5, z6, z7, z8, z9, z10, z11⟩ := pkg_box s0 s1 s2 s3 A0 A1 A2 A3 A4 A5 A6 A7 c0 c1 c2 c3 c4 c5 c6 c7 l0 l1 l2 l3 l4 l5 l6 l7 w _ HB.out)
    | (go_at_call 50; (with_reducible refine (shown_calls s3 _ HV_.out _).mono ?_); rintro e w4 ⟨rfl, hb⟩; have HB2 := Lib.hid (below_then HB.out HB.out.size hb); clear hb HB; have HB := HB2; clear HB2; clear z0 z1 z2 z3 z4 z5 z6 z7 z8 z9 z10 z11; obtain ⟨z0, z1, z2, z3, z4, z5, z6, z7, z8, z9, z10, z11⟩ := pkg_box s0 s1 s2 s3 A0 A1 A2 A3 A4 A5 A6 A7 c0 c1 c2 c3 c4 c5 c6 c7 l0 l1 l2 l3 l4 l5 l6 l7 w _ HB.out)
    | (go_at_call 55; refine (HD_.out _ HB.out).mono ?_; rintro e w5 ⟨rfl, hb⟩; have HB2 := Lib.hid (below_then HB.out HB.out.size hb); clear hb HB; have HB := HB2; clear HB2; clear z0 z1 z2 z3 z4 z5 z6 z7 z8 z9 z10 z11; obtain ⟨z0, z1, z2, z3, z4, z5, z6, z7, z8, z9, z10, z11⟩ := pkg_box s0 s1 s2 s3 A0 A1 A2 A3 A4 A5 A6 A7 c0 c1 c2 c3 c4 c5 c6 c7 l0 l1 l2 l3 l4 l5 l6 l7 w _ HB.out)
    | (go_at_call 56; refine (HF_.out _ HB.out).mono ?_; rintro e w6 ⟨rfl, hb⟩; have HB2 := Lib.hid (below_then HB.out HB.out.size hb); clear hb HB; have HB := HB2; clear HB2; clear z0 z1 z2 z3 z4 z5 z6 z7 z8 z9 z10 z11; obtain ⟨z0, z1, z2, z3, z4, z5, z6, z7, z8, z9, z10, z11⟩ := pkg_box s0 s1 s2 s3 A0 A1 A2 A3 A4 A5 A6 A7 c0 c1 c2 c3 c4 c5 c6 c7 l0 l1 l2 l3 l4 l5 l6 l7 w _ HB.out))
  go_ret
  exact ⟨by first | rfl | (simp; done), (below_alloc (Below.refl _ _) _).trans (HB.out.mono (by simp))⟩

theorem pool_check (p : S34) (hw : wfP p) (v : Value) (w : World) (hv : PkgV w p v) : Calls Tryd.prog 27 #[v] w fun e w' => e = .returned (.int .i64 (chkErr p)) ∧ Below w.heap.size w w' := by
  obtain ⟨A0, A1, A2, A3, A4, A5, A6, A7, c0, c1, c2, c3, c4, c5, c6, c7, rfl, h0, h1, h2, h3, h4, h5, h6, h7⟩ := hv
  obtain ⟨s0, s1, s2, s3, l0, l1, l2, l3, l4, l5, l6, l7⟩ := p
  dsimp only at *
  have hl7 : l7.length ≤ 9223372036854775807 := h7.2.2.1
  have hB : Below w.heap.size w (w.alloc (.cells #[.string s0, .string s1, .string s2, .string s3, .slice A0 l0.length c0, .slice A1 l1.length c1, .slice A2 l2.length c2, .slice A3 l3.length c3, .slice A4 l4.length c4, .slice A5 l5.length c5, .slice A6 l6.length c6, .slice A7 l7.length c7] 34)) := below_alloc (Below.refl _ _) _
  have hdep : ∀ b, depsB (listsOf ⟨s0, s1, s2, s3, l0, l1, l2, l3, l4, l5, l6, l7⟩) = b → ∀ W : World, Below (w.alloc (.cells #[.string s0, .string s1, .string s2, .string s3, .slice A0 l0.length c0, .slice A1 l1.length c1, .slice A2 l2.length c2, .slice A3 l3.length c3, .slice A4 l4.length c4, .slice A5 l5.length c5, .slice A6 l6.length c6, .slice A7 l7.length c7] 34)).heap.size (w.alloc (.cells #[.string s0, .string s1, .string s2, .string s3, .slice A0 l0.length c0, .slice A1 l1.length c1, .slice A2 l2.length c2, .slice A3 l3.length c3, .slice A4 l4.length c4, .slice A5 l5.length c5, .slice A6 l6.length c6, .slice A7 l7.length c7] 34)) W → Calls Tryd.prog 55 #[.agg #[.string s0, .string s1, .string s2, .string s3, .slice A0 l0.length c0, .slice A1 l1.length c1, .slice A2 l2.length c2, .slice A3 l3.length c3, .slice A4 l4.length c4, .slice A5 l5.length c5, .slice A6 l6.length c6, .slice A7 l7.length c7]] W fun e w' => e = .returned (.bool b) ∧ Below W.heap.size W w' := by
    intro b hb W hW
    have hb' : Below w.heap.size w W := hB.trans (hW.mono (by simp))
    refine deps_any s0 s1 s2 s3 A0 A1 A2 A3 A4 A5 A6 A7 c0 c1 c2 c3 c4 c5 c6 c7 l0 l1 l2 l3 l4 l5 l6 l7 W (fun j hj => ?_) b hb
    have hwj := hw j hj
    rcases j with _ | _ | _ | _ | _ | _ | _ | j
    · exact ⟨Kd.C_below h0.2 hb', h0.1, hwj⟩
    · exact ⟨Kd.C_below h1.2 hb', h1.1, hwj⟩
    · exact ⟨Kd.C_below h2.2 hb', h2.1, hwj⟩
    · exact ⟨Kd.C_below h3.2 hb', h3.1, hwj⟩
    · exact ⟨Kd.C_below h4.2 hb', h4.1, hwj⟩
    · exact ⟨Kd.C_below h5.2 hb', h5.1, hwj⟩
    · exact ⟨Kd.C_below h6.2 hb', h6.1, hwj⟩
    · omega
  have hfil : ∀ b, l7.any badFile = b → ∀ W : World, Below (w.alloc (.cells #[.string s0, .string s1, .string s2, .string s3, .slice A0 l0.length c0, .slice A1 l1.length c1, .slice A2 l2.length c2, .slice A3 l3.length c3, .slice A4 l4.length c4, .slice A5 l5.length c5, .slice A6 l6.length c6, .slice A7 l7.length c7] 34)).heap.size (w.alloc (.cells #[.string s0, .string s1, .string s2, .string s3, .slice A0 l0.length c0, .slice A1 l1.length c1, .slice A2 l2.length c2, .slice A3 l3.length c3, .slice A4 l4.length c4, .slice A5 l5.length c5, .slice A6 l6.length c6, .slice A7 l7.length c7] 34)) W → Calls Tryd.prog 56 #[.slice A7 l7.length c7, .func (.func 57) #[] #[]] W fun e w' => e = .returned (.bool b) ∧ Below W.heap.size W w' := by
    intro b hb W hW
    exact files_calls l7 A7 c7 W (Kd.C_below h7.2 (hB.trans (hW.mono (by simp)))) h7.1 b hb
  unfold chkErr
  dsimp only
  rcases hn : nameB s0 with _ | _
  · rw [if_pos rfl]; exact chk_n s0 s1 s2 s3 A0 A1 A2 A3 A4 A5 A6 A7 c0 c1 c2 c3 c4 c5 c6 c7 l0 l1 l2 l3 l4 l5 l6 l7 w _ rfl hn
  rw [if_neg (by simp)]
  by_cases he : evrErr s1 = 0
  case neg => rw [if_pos he]; exact chk_e s0 s1 s2 s3 A0 A1 A2 A3 A4 A5 A6 A7 c0 c1 c2 c3 c4 c5 c6 c7 l0 l1 l2 l3 l4 l5 l6 l7 w _ rfl (by simpa using he) hn
  rw [if_neg (by simpa using he)]
  rcases h2' : s2.toList.isEmpty with _ | _
  case true => rw [if_pos (by simp)]; exact chk_a0 s0 s1 s2 s3 A0 A1 A2 A3 A4 A5 A6 A7 c0 c1 c2 c3 c4 c5 c6 c7 l0 l1 l2 l3 l4 l5 l6 l7 w he hn h2'
  rcases hs : allR smallR s2 20 with _ | _
  · rw [if_pos (by simp)]; exact chk_a1 s0 s1 s2 s3 A0 A1 A2 A3 A4 A5 A6 A7 c0 c1 c2 c3 c4 c5 c6 c7 l0 l1 l2 l3 l4 l5 l6 l7 w he hn h2' hs
  rw [if_neg (by simp)]
  rcases hvv : allR shownR s3 60 with _ | _
  · rw [if_pos (by simp)]; exact chk_v s0 s1 s2 s3 A0 A1 A2 A3 A4 A5 A6 A7 c0 c1 c2 c3 c4 c5 c6 c7 l0 l1 l2 l3 l4 l5 l6 l7 w he hn h2' hs hvv
  rw [if_neg (by simp)]
  rcases hd : depsB (listsOf ⟨s0, s1, s2, s3, l0, l1, l2, l3, l4, l5, l6, l7⟩) with _ | _
  · rw [if_pos (by simp)]; exact chk_d s0 s1 s2 s3 A0 A1 A2 A3 A4 A5 A6 A7 c0 c1 c2 c3 c4 c5 c6 c7 l0 l1 l2 l3 l4 l5 l6 l7 w he hn h2' hs hvv (hdep _ hd)
  rw [if_neg (by simp)]
  by_cases h16 : 16 < l7.length
  · rw [if_pos (by simp [h16])]; exact chk_f0 s0 s1 s2 s3 A0 A1 A2 A3 A4 A5 A6 A7 c0 c1 c2 c3 c4 c5 c6 c7 l0 l1 l2 l3 l4 l5 l6 l7 w he hn h2' hs hvv (hdep _ hd) hl7 h16
  rcases hf : l7.any badFile with _ | _
  · rw [if_neg (by simp [h16])]; exact chk_ok s0 s1 s2 s3 A0 A1 A2 A3 A4 A5 A6 A7 c0 c1 c2 c3 c4 c5 c6 c7 l0 l1 l2 l3 l4 l5 l6 l7 w he hn h2' hs hvv (hdep _ hd) hl7 (by omega) (hfil _ hf)
  · rw [if_pos (by simp)]; exact chk_f1 s0 s1 s2 s3 A0 A1 A2 A3 A4 A5 A6 A7 c0 c1 c2 c3 c4 c5 c6 c7 l0 l1 l2 l3 l4 l5 l6 l7 w he hn h2' hs hvv (hdep _ hd) hl7 (by omega) (hfil _ hf)
end Go.Proofs.YtmclfdonoldlpaaDoor.Own
