-- The kit's print of functions of this seat (print.py), for this claim: Lean checks it.
import Derived.Test.YtmclfdonoldlpaaDoorPOwnx0
import Derived.Test.YtmclfdonoldlpaaDoorPOwnx1
import Derived.Test.YtmclfdonoldlpaaDoorPOwnx3
namespace Go.Proofs.YtmclfdonoldlpaaDoor.POwn
open Go.RowKit Go.Proofs.YtmclfdonoldlpaaDoorW.PrintWords Go.Proofs.YtmclfdonoldlpaaDoorW.PrintLast Go.Proofs.YtmclfdonoldlpaaDoorW.PrintMore
attribute [local go_sem] max2_int min2_int max_two min_two max_three min_three max_four min_four   -- for this text's walks alone
set_option linter.unusedVariables false
set_option linter.unusedSimpArgs false

def chandlerref06_SamePackage.l0 : Nat → List (List (S36)) → List (List (S36)) → Int → ByteArray → ByteArray → ByteArray → ByteArray → List (S36) → List (S36) → List (S36) → List (S36) → List (S36) → List (S36) → List (S36) → List ByteArray → ByteArray → ByteArray → ByteArray → ByteArray → List (S36) → List (S36) → List (S36) → List (S36) → List (S36) → List (S36) → List (S36) → List ByteArray → Option (Bool)
  | 0, _, _, _, _, _, _, _, _, _, _, _, _, _, _, _, _, _, _, _, _, _, _, _, _, _, _, _ => none
  | k + 1, x5, x6, x7, x114000, x114001, x114002, x114003, x114004, x114005, x114006, x114007, x114008, x114009, x114010, x114011, x115000, x115001, x115002, x115003, x115004, x115005, x115006, x115007, x115008, x115009, x115010, x115011 => if x7 < (x5.length : Int) then (if 0 ≤ x7 then (if x7 < (x6.length : Int) then ((chandlerref05_SameList.f k (rd_L3 x5 x7) (rd_L3 x6 x7)).bind fun t123 => (if t123 = true then (chandlerref06_SamePackage.l0 k x5 x6 (wrap64 (x7 + 1)) x114000 x114001 x114002 x114003 x114004 x114005 x114006 x114007 x114008 x114009 x114010 x114011 x115000 x115001 x115002 x115003 x115004 x115005 x115006 x115007 x115008 x115009 x115010 x115011) else (some false))) else (none)) else (none)) else ((chandlerref05_SameTexts.f k x114011 x115011).bind fun t124 => (if t124 = true then (if x114000.toList = x115000.toList then (if x114001.toList = x115001.toList then (if x114002.toList = x115002.toList then (some (x114003.toList == x115003.toList)) else (some false)) else (some false)) else (some false)) else (some false)))
def chandlerref06_SamePackage.f (k : Nat) (a0_0 : ByteArray) (a0_1 : ByteArray) (a0_2 : ByteArray) (a0_3 : ByteArray) (l0_4 : List (S36)) (l0_5 : List (S36)) (l0_6 : List (S36)) (l0_7 : List (S36)) (l0_8 : List (S36)) (l0_9 : List (S36)) (l0_10 : List (S36)) (l0_11 : List ByteArray) (a1_0 : ByteArray) (a1_1 : ByteArray) (a1_2 : ByteArray) (a1_3 : ByteArray) (l1_4 : List (S36)) (l1_5 : List (S36)) (l1_6 : List (S36)) (l1_7 : List (S36)) (l1_8 : List (S36)) (l1_9 : List (S36)) (l1_10 : List (S36)) (l1_11 : List ByteArray) : Option (Bool) := (chandlerref06_Lists.f a0_0 a0_1 a0_2 a0_3 l0_4 l0_5 l0_6 l0_7 l0_8 l0_9 l0_10 l0_11).bind fun t115 => ((chandlerref06_Lists.f a1_0 a1_1 a1_2 a1_3 l1_4 l1_5 l1_6 l1_7 l1_8 l1_9 l1_10 l1_11).bind fun t118 => (chandlerref06_SamePackage.l0 k t115 t118 0 a0_0 a0_1 a0_2 a0_3 l0_4 l0_5 l0_6 l0_7 l0_8 l0_9 l0_10 l0_11 a1_0 a1_1 a1_2 a1_3 l1_4 l1_5 l1_6 l1_7 l1_8 l1_9 l1_10 l1_11))
def chandlerref06_SamePackage.T6 : Bool × List (List Nat × List Nat) := (true, [([], []), ([], []), ([0, 1], [0, 1]), ([2], [2]), ([], []), ([], []), ([4, 5], [4, 5]), ([6], [6]), ([3, 7], [3, 7]), ([8, 8, 0, 1, 2, 3, 4, 5, 6, 7, 8], [8])])
def chandlerref06_SamePackage.B6 : List Nat := [0, 0, 3, 7, 0, 0, 48, 112, 255, 511]
theorem chandlerref06_SamePackage.tab6 : rtab .any (opsOf Tryd.f16 6) = chandlerref06_SamePackage.T6 := by kernel_rfl
theorem chandlerref06_SamePackage.bits6 : waitsOk chandlerref06_SamePackage.T6.2 chandlerref06_SamePackage.B6 = true := by kernel_rfl
set_option maxHeartbeats 8000000 in
set_option maxRecDepth 100000 in
theorem chandlerref06_SamePackage.calls (k : Nat) (a0_0 : ByteArray) (a0_1 : ByteArray) (a0_2 : ByteArray) (a0_3 : ByteArray) (A0_4 : Option Addr) (c0_4 : Nat) (l0_4 : List (S36)) (A0_5 : Option Addr) (c0_5 : Nat) (l0_5 : List (S36)) (A0_6 : Option Addr) (c0_6 : Nat) (l0_6 : List (S36)) (A0_7 : Option Addr) (c0_7 : Nat) (l0_7 : List (S36)) (A0_8 : Option Addr) (c0_8 : Nat) (l0_8 : List (S36)) (A0_9 : Option Addr) (c0_9 : Nat) (l0_9 : List (S36)) (A0_10 : Option Addr) (c0_10 : Nat) (l0_10 : List (S36)) (A0_11 : Option Addr) (c0_11 : Nat) (l0_11 : List ByteArray) (a1_0 : ByteArray) (a1_1 : ByteArray) (a1_2 : ByteArray) (a1_3 : ByteArray) (A1_4 : Option Addr) (c1_4 : Nat) (l1_4 : List (S36)) (A1_5 : Option Addr) (c1_5 : Nat) (l1_5 : List (S36)) (A1_6 : Option Addr) (c1_6 : Nat) (l1_6 : List (S36)) (A1_7 : Option Addr) (c1_7 : Nat) (l1_7 : List (S36)) (A1_8 : Option Addr) (c1_8 : Nat) (l1_8 : List (S36)) (A1_9 : Option Addr) (c1_9 : Nat) (l1_9 : List (S36)) (A1_10 : Option Addr) (c1_10 : Nat) (l1_10 : List (S36)) (A1_11 : Option Addr) (c1_11 : Nat) (l1_11 : List ByteArray) (r : Bool) (w : World) (hr0_4 : Kd.C k36 w A0_4 l0_4.length l0_4) (hc0_4 : l0_4.length ≤ c0_4) (hr0_5 : Kd.C k36 w A0_5 l0_5.length l0_5) (hc0_5 : l0_5.length ≤ c0_5) (hr0_6 : Kd.C k36 w A0_6 l0_6.length l0_6) (hc0_6 : l0_6.length ≤ c0_6) (hr0_7 : Kd.C k36 w A0_7 l0_7.length l0_7) (hc0_7 : l0_7.length ≤ c0_7) (hr0_8 : Kd.C k36 w A0_8 l0_8.length l0_8) (hc0_8 : l0_8.length ≤ c0_8) (hr0_9 : Kd.C k36 w A0_9 l0_9.length l0_9) (hc0_9 : l0_9.length ≤ c0_9) (hr0_10 : Kd.C k36 w A0_10 l0_10.length l0_10) (hc0_10 : l0_10.length ≤ c0_10) (hr0_11 : Kd.C Kd.string w A0_11 l0_11.length l0_11) (hc0_11 : l0_11.length ≤ c0_11) (hr1_4 : Kd.C k36 w A1_4 l1_4.length l1_4) (hc1_4 : l1_4.length ≤ c1_4) (hr1_5 : Kd.C k36 w A1_5 l1_5.length l1_5) (hc1_5 : l1_5.length ≤ c1_5) (hr1_6 : Kd.C k36 w A1_6 l1_6.length l1_6) (hc1_6 : l1_6.length ≤ c1_6) (hr1_7 : Kd.C k36 w A1_7 l1_7.length l1_7) (hc1_7 : l1_7.length ≤ c1_7) (hr1_8 : Kd.C k36 w A1_8 l1_8.length l1_8) (hc1_8 : l1_8.length ≤ c1_8) (hr1_9 : Kd.C k36 w A1_9 l1_9.length l1_9) (hc1_9 : l1_9.length ≤ c1_9) (hr1_10 : Kd.C k36 w A1_10 l1_10.length l1_10) (hc1_10 : l1_10.length ≤ c1_10) (hr1_11 : Kd.C Kd.string w A1_11 l1_11.length l1_11) (hc1_11 : l1_11.length ≤ c1_11) (h : chandlerref06_SamePackage.f k a0_0 a0_1 a0_2 a0_3 l0_4 l0_5 l0_6 l0_7 l0_8 l0_9 l0_10 l0_11 a1_0 a1_1 a1_2 a1_3 l1_4 l1_5 l1_6 l1_7 l1_8 l1_9 l1_10 l1_11 = some r) :
    Calls Tryd.prog 16 #[.agg #[.string a0_0, .string a0_1, .string a0_2, .string a0_3, .slice A0_4 l0_4.length c0_4, .slice A0_5 l0_5.length c0_5, .slice A0_6 l0_6.length c0_6, .slice A0_7 l0_7.length c0_7, .slice A0_8 l0_8.length c0_8, .slice A0_9 l0_9.length c0_9, .slice A0_10 l0_10.length c0_10, .slice A0_11 l0_11.length c0_11], .agg #[.string a1_0, .string a1_1, .string a1_2, .string a1_3, .slice A1_4 l1_4.length c1_4, .slice A1_5 l1_5.length c1_5, .slice A1_6 l1_6.length c1_6, .slice A1_7 l1_7.length c1_7, .slice A1_8 l1_8.length c1_8, .slice A1_9 l1_9.length c1_9, .slice A1_10 l1_10.length c1_10, .slice A1_11 l1_11.length c1_11]] w fun e w' => e = .returned (.bool r) ∧ Below w.heap.size w w' := by
  have hu34 := Tryd.underlying34
  have HR0_4 := Aside0.mk hr0_4
  have HC0_4 := Aside0.mk hc0_4
  clear hr0_4 hc0_4
  have HR0_5 := Aside0.mk hr0_5
  have HC0_5 := Aside0.mk hc0_5
  clear hr0_5 hc0_5
  have HR0_6 := Aside0.mk hr0_6
  have HC0_6 := Aside0.mk hc0_6
  clear hr0_6 hc0_6
  have HR0_7 := Aside0.mk hr0_7
  have HC0_7 := Aside0.mk hc0_7
  clear hr0_7 hc0_7
  have HR0_8 := Aside0.mk hr0_8
  have HC0_8 := Aside0.mk hc0_8
  clear hr0_8 hc0_8
  have HR0_9 := Aside0.mk hr0_9
  have HC0_9 := Aside0.mk hc0_9
  clear hr0_9 hc0_9
  have HR0_10 := Aside0.mk hr0_10
  have HC0_10 := Aside0.mk hc0_10
  clear hr0_10 hc0_10
  have HR0_11 := Aside0.mk hr0_11
  have HC0_11 := Aside0.mk hc0_11
  clear hr0_11 hc0_11
  have HR1_4 := Aside0.mk hr1_4
  have HC1_4 := Aside0.mk hc1_4
  clear hr1_4 hc1_4
  have HR1_5 := Aside0.mk hr1_5
  have HC1_5 := Aside0.mk hc1_5
  clear hr1_5 hc1_5
  have HR1_6 := Aside0.mk hr1_6
  have HC1_6 := Aside0.mk hc1_6
  clear hr1_6 hc1_6
  have HR1_7 := Aside0.mk hr1_7
  have HC1_7 := Aside0.mk hc1_7
  clear hr1_7 hc1_7
  have HR1_8 := Aside0.mk hr1_8
  have HC1_8 := Aside0.mk hc1_8
  clear hr1_8 hc1_8
  have HR1_9 := Aside0.mk hr1_9
  have HC1_9 := Aside0.mk hc1_9
  clear hr1_9 hc1_9
  have HR1_10 := Aside0.mk hr1_10
  have HC1_10 := Aside0.mk hc1_10
  clear hr1_10 hc1_10
  have HR1_11 := Aside0.mk hr1_11
  have HC1_11 := Aside0.mk hc1_11
  clear hr1_11 hc1_11
  have HB := Aside0.mk (Below.refl w.heap.size w)
  have H : ((chandlerref06_Lists.f a0_0 a0_1 a0_2 a0_3 l0_4 l0_5 l0_6 l0_7 l0_8 l0_9 l0_10 l0_11).bind fun t115 => ((chandlerref06_Lists.f a1_0 a1_1 a1_2 a1_3 l1_4 l1_5 l1_6 l1_7 l1_8 l1_9 l1_10 l1_11).bind fun t118 => (chandlerref06_SamePackage.l0 k t115 t118 0 a0_0 a0_1 a0_2 a0_3 l0_4 l0_5 l0_6 l0_7 l0_8 l0_9 l0_10 l0_11 a1_0 a1_1 a1_2 a1_3 l1_4 l1_5 l1_6 l1_7 l1_8 l1_9 l1_10 l1_11))) = some r := h
  clear h
  replace H := Option.bind_eq_some_iff.mp H
  obtain ⟨t115, A30, H⟩ := H
  replace H : ((chandlerref06_Lists.f a1_0 a1_1 a1_2 a1_3 l1_4 l1_5 l1_6 l1_7 l1_8 l1_9 l1_10 l1_11).bind fun t118 => (chandlerref06_SamePackage.l0 k t115 t118 0 a0_0 a0_1 a0_2 a0_3 l0_4 l0_5 l0_6 l0_7 l0_8 l0_9 l0_10 l0_11 a1_0 a1_1 a1_2 a1_3 l1_4 l1_5 l1_6 l1_7 l1_8 l1_9 l1_10 l1_11)) = some r := H
  have A3 := Aside0.mk A30
  clear A30
  replace H := Option.bind_eq_some_iff.mp H
  obtain ⟨t118, A40, H⟩ := H
  replace H : (chandlerref06_SamePackage.l0 k t115 t118 0 a0_0 a0_1 a0_2 a0_3 l0_4 l0_5 l0_6 l0_7 l0_8 l0_9 l0_10 l0_11 a1_0 a1_1 a1_2 a1_3 l1_4 l1_5 l1_6 l1_7 l1_8 l1_9 l1_10 l1_11) = some r := H
  have A4 := Aside0.mk A40
  clear A40
  have H' := Aside0.mk H
  clear H
  go_enter Tryd.func16, Tryd.ntmps16
  go_wp2_with (first | ((with_reducible refine gate_dst (N := 2) rfl ?_); refine box_event ?hg (N := 2) ?hd (cs := #[.string a0_0, .string a0_1, .string a0_2, .string a0_3, .slice A0_4 l0_4.length c0_4, .slice A0_5 l0_5.length c0_5, .slice A0_6 l0_6.length c0_6, .slice A0_7 l0_7.length c0_7, .slice A0_8 l0_8.length c0_8, .slice A0_9 l0_9.length c0_9, .slice A0_10 l0_10.length c0_10, .slice A0_11 l0_11.length c0_11]) (t := 34) ?hr ?_; (case hd => rfl); (case hg => rfl); (case hr => first | (go_simp; done) | (go_simp; rfl)); intro gb113 hg w5 hbox hb; have n0_ := Aside0.mk (below_step (by repeat (first | (with_reducible first | exact HB.out | apply below_alloc | apply pw_below_drewN | apply below_drew1) | exact HB.out)) hb); have n1_ := Aside0.mk (hbox); have n2_ := Aside0.mk ((by rw [hg]; exact (below_size (by repeat (first | (with_reducible first | exact HB.out | apply below_alloc | apply pw_below_drewN | apply below_drew1) | exact HB.out))) : w.heap.size ≤ gb113)); have n3_ := Aside0.mk ((by rw [hg]; exact (below_size (by repeat (first | (with_reducible first | exact HB.out | apply below_alloc | apply pw_below_drewN | apply below_drew1) | exact HB.out))) : w.heap.size ≤ gb113)); clear HB; have HB := n0_; have BK113 := n1_; have GW113 := n2_; have GE113 := n3_; clear n0_ n1_ n2_ n3_; clear hb hbox hg) | ((with_reducible refine gate_dst (N := 3) rfl ?_); refine box_event ?hg (N := 3) ?hd (cs := #[.string a1_0, .string a1_1, .string a1_2, .string a1_3, .slice A1_4 l1_4.length c1_4, .slice A1_5 l1_5.length c1_5, .slice A1_6 l1_6.length c1_6, .slice A1_7 l1_7.length c1_7, .slice A1_8 l1_8.length c1_8, .slice A1_9 l1_9.length c1_9, .slice A1_10 l1_10.length c1_10, .slice A1_11 l1_11.length c1_11]) (t := 34) ?hr ?_; (case hd => rfl); (case hg => rfl); (case hr => first | (go_simp; done) | (go_simp; rfl)); intro gb114 hg w6 hbox hb; have n0_ := Aside0.mk (blk_below (g := gb113) (o := .cells #[.string a0_0, .string a0_1, .string a0_2, .string a0_3, .slice A0_4 l0_4.length c0_4, .slice A0_5 l0_5.length c0_5, .slice A0_6 l0_6.length c0_6, .slice A0_7 l0_7.length c0_7, .slice A0_8 l0_8.length c0_8, .slice A0_9 l0_9.length c0_9, .slice A0_10 l0_10.length c0_10, .slice A0_11 l0_11.length c0_11] 34 (0, 0)) (by (with_reducible repeat (first | refine blk_drewN ?_ _ | refine blk_drew ?_ | refine blk_alloc ?_ _)); exact BK113.out) hb); have n1_ := Aside0.mk (below_step (by repeat (first | (with_reducible first | exact HB.out | apply below_alloc | apply pw_below_drewN | apply below_drew1 | refine below_set ?_ GE113.out) | exact HB.out)) hb); have n2_ := Aside0.mk (hbox); have n3_ := Aside0.mk ((by rw [hg]; exact (below_size (by repeat (first | (with_reducible first | exact HB.out | apply below_alloc | apply pw_below_drewN | apply below_drew1 | refine below_set ?_ GE113.out) | exact HB.out))) : w.heap.size ≤ gb114)); have n4_ := Aside0.mk ((by rw [hg]; exact (below_size (by repeat (first | (with_reducible first | exact HB.out | apply below_alloc | apply pw_below_drewN | apply below_drew1 | refine below_set ?_ GE113.out) | exact HB.out))) : w.heap.size ≤ gb114)); have n5_ := Aside0.mk ((by rw [hg]; exact Nat.ne_of_lt (blk_lt (g := gb113) (o := .cells #[.string a0_0, .string a0_1, .string a0_2, .string a0_3, .slice A0_4 l0_4.length c0_4, .slice A0_5 l0_5.length c0_5, .slice A0_6 l0_6.length c0_6, .slice A0_7 l0_7.length c0_7, .slice A0_8 l0_8.length c0_8, .slice A0_9 l0_9.length c0_9, .slice A0_10 l0_10.length c0_10, .slice A0_11 l0_11.length c0_11] 34 (0, 0)) (by (with_reducible repeat (first | refine blk_drewN ?_ _ | refine blk_drew ?_ | refine blk_alloc ?_ _)); exact BK113.out)) : gb113 ≠ gb114)); have n6_ := Aside0.mk ((by rw [hg]; exact Nat.ne_of_gt (blk_lt (g := gb113) (o := .cells #[.string a0_0, .string a0_1, .string a0_2, .string a0_3, .slice A0_4 l0_4.length c0_4, .slice A0_5 l0_5.length c0_5, .slice A0_6 l0_6.length c0_6, .slice A0_7 l0_7.length c0_7, .slice A0_8 l0_8.length c0_8, .slice A0_9 l0_9.length c0_9, .slice A0_10 l0_10.length c0_10, .slice A0_11 l0_11.length c0_11] 34 (0, 0)) (by (with_reducible repeat (first | refine blk_drewN ?_ _ | refine blk_drew ?_ | refine blk_alloc ?_ _)); exact BK113.out)) : gb114 ≠ gb113)); clear BK113; clear HB; have BK113 := n0_; have HB := n1_; have BK114 := n2_; have GW114 := n3_; have GE114 := n4_; have NB113_114 := n5_; have NB114_113 := n6_; clear n0_ n1_ n2_ n3_ n4_ n5_ n6_; clear hb hbox hg; have hnb7 := NB113_114.out; have hnc7 := NB114_113.out; have hcz8_0 : w6.cell? ⟨gb113, 0, none⟩ = some (.string a0_0) := (blk_cell BK113.out 0).trans rfl; have hcz8_1 : w6.cell? ⟨gb113, 1, none⟩ = some (.string a0_1) := (blk_cell BK113.out 1).trans rfl; have hcz8_2 : w6.cell? ⟨gb113, 2, none⟩ = some (.string a0_2) := (blk_cell BK113.out 2).trans rfl; have hcz8_3 : w6.cell? ⟨gb113, 3, none⟩ = some (.string a0_3) := (blk_cell BK113.out 3).trans rfl; have hcz8_4 : w6.cell? ⟨gb113, 4, none⟩ = some (.slice A0_4 l0_4.length c0_4) := (blk_cell BK113.out 4).trans rfl; have hcz8_5 : w6.cell? ⟨gb113, 5, none⟩ = some (.slice A0_5 l0_5.length c0_5) := (blk_cell BK113.out 5).trans rfl; have hcz8_6 : w6.cell? ⟨gb113, 6, none⟩ = some (.slice A0_6 l0_6.length c0_6) := (blk_cell BK113.out 6).trans rfl; have hcz8_7 : w6.cell? ⟨gb113, 7, none⟩ = some (.slice A0_7 l0_7.length c0_7) := (blk_cell BK113.out 7).trans rfl; have hcz8_8 : w6.cell? ⟨gb113, 8, none⟩ = some (.slice A0_8 l0_8.length c0_8) := (blk_cell BK113.out 8).trans rfl; have hcz8_9 : w6.cell? ⟨gb113, 9, none⟩ = some (.slice A0_9 l0_9.length c0_9) := (blk_cell BK113.out 9).trans rfl; have hcz8_10 : w6.cell? ⟨gb113, 10, none⟩ = some (.slice A0_10 l0_10.length c0_10) := (blk_cell BK113.out 10).trans rfl; have hcz8_11 : w6.cell? ⟨gb113, 11, none⟩ = some (.slice A0_11 l0_11.length c0_11) := (blk_cell BK113.out 11).trans rfl; have hfz8_0 := blk_frozen BK113.out 0; have hfz8_1 := blk_frozen BK113.out 1; have hfz8_2 := blk_frozen BK113.out 2; have hfz8_3 := blk_frozen BK113.out 3; have hfz8_4 := blk_frozen BK113.out 4; have hfz8_5 := blk_frozen BK113.out 5; have hfz8_6 := blk_frozen BK113.out 6; have hfz8_7 := blk_frozen BK113.out 7; have hfz8_8 := blk_frozen BK113.out 8; have hfz8_9 := blk_frozen BK113.out 9; have hfz8_10 := blk_frozen BK113.out 10; have hfz8_11 := blk_frozen BK113.out 11) | ((with_reducible refine gate_callee (f := 31) rfl ?_); refine goesL_ (some 11) rfl rfl Tryd.func31 (by kernel_rfl) rfl #[.agg #[.string a0_0, .string a0_1, .string a0_2, .string a0_3, .slice A0_4 l0_4.length c0_4, .slice A0_5 l0_5.length c0_5, .slice A0_6 l0_6.length c0_6, .slice A0_7 l0_7.length c0_7, .slice A0_8 l0_8.length c0_8, .slice A0_9 l0_9.length c0_9, .slice A0_10 l0_10.length c0_10, .slice A0_11 l0_11.length c0_11]] rfl (by (try simp only [List.map_toArray, List.map_cons, List.map_nil]); first | done | rfl | (simp only [List.length_drop, List.length_take]; rfl)) ?_; (with_reducible refine (chandlerref06_Lists.calls a0_0 a0_1 a0_2 a0_3 (fun k_ => k_ < w.heap.size) _ _ l0_4 (fun k_ => k_ < w.heap.size) _ _ l0_5 (fun k_ => k_ < w.heap.size) _ _ l0_6 (fun k_ => k_ < w.heap.size) _ _ l0_7 (fun k_ => k_ < w.heap.size) _ _ l0_8 (fun k_ => k_ < w.heap.size) _ _ l0_9 (fun k_ => k_ < w.heap.size) _ _ l0_10 _ _ l0_11 t115 _ ?side1 ?side2 ?side3 ?side4 ?side5 ?side6 ?side7 ?side8 ?side9 A3.out).mono ?_); (case side1 => exact Kd.V_mk HC0_4.out (Kd.F_below (Kd.C_F k36_heap HR0_4.out) (by repeat (first | (with_reducible first | exact HB.out | apply below_alloc | apply pw_below_drewN | apply below_drew1 | refine below_set ?_ GE113.out | refine below_set ?_ GE114.out) | exact HB.out)))); (case side2 => exact Kd.V_mk HC0_5.out (Kd.F_below (Kd.C_F k36_heap HR0_5.out) (by repeat (first | (with_reducible first | exact HB.out | apply below_alloc | apply pw_below_drewN | apply below_drew1 | refine below_set ?_ GE113.out | refine below_set ?_ GE114.out) | exact HB.out)))); (case side3 => exact Kd.V_mk HC0_6.out (Kd.F_below (Kd.C_F k36_heap HR0_6.out) (by repeat (first | (with_reducible first | exact HB.out | apply below_alloc | apply pw_below_drewN | apply below_drew1 | refine below_set ?_ GE113.out | refine below_set ?_ GE114.out) | exact HB.out)))); (case side4 => exact Kd.V_mk HC0_7.out (Kd.F_below (Kd.C_F k36_heap HR0_7.out) (by repeat (first | (with_reducible first | exact HB.out | apply below_alloc | apply pw_below_drewN | apply below_drew1 | refine below_set ?_ GE113.out | refine below_set ?_ GE114.out) | exact HB.out)))); (case side5 => exact Kd.V_mk HC0_8.out (Kd.F_below (Kd.C_F k36_heap HR0_8.out) (by repeat (first | (with_reducible first | exact HB.out | apply below_alloc | apply pw_below_drewN | apply below_drew1 | refine below_set ?_ GE113.out | refine below_set ?_ GE114.out) | exact HB.out)))); (case side6 => exact Kd.V_mk HC0_9.out (Kd.F_below (Kd.C_F k36_heap HR0_9.out) (by repeat (first | (with_reducible first | exact HB.out | apply below_alloc | apply pw_below_drewN | apply below_drew1 | refine below_set ?_ GE113.out | refine below_set ?_ GE114.out) | exact HB.out)))); (case side7 => exact Kd.V_mk HC0_10.out (Kd.F_below (Kd.C_F k36_heap HR0_10.out) (by repeat (first | (with_reducible first | exact HB.out | apply below_alloc | apply pw_below_drewN | apply below_drew1 | refine below_set ?_ GE113.out | refine below_set ?_ GE114.out) | exact HB.out)))); (case side8 => repeat (first | exact (Kd.C_below HR0_11.out HB.out) | (with_reducible refine Kd.C_alloc ?_ _) | (with_reducible refine Kd.C_drewN ?_ _) | (with_reducible refine Kd.C_drew ?_))); (case side9 => exact HC0_11.out); rintro e w9 ⟨v116, rfl, ho0, hb⟩; refine ⟨_, rfl, ?_⟩; have n0_ := Aside0.mk (Kd.N_lower (Kd.N_mono (ok' := fun k_ => k_ ≠ gb113 ∧ k_ ≠ gb114) ho0 (fun k_ hk_ => ⟨Or.elim hk_ (fun hs_ => Or.elim hs_ (fun hs_ => fun e_ => Nat.not_le.2 hs_ (by rw [e_]; exact GW113.out)) (fun hs_ => Or.elim hs_ (fun hs_ => fun e_ => Nat.not_le.2 hs_ (by rw [e_]; exact GW113.out)) (fun hs_ => Or.elim hs_ (fun hs_ => fun e_ => Nat.not_le.2 hs_ (by rw [e_]; exact GW113.out)) (fun hs_ => Or.elim hs_ (fun hs_ => fun e_ => Nat.not_le.2 hs_ (by rw [e_]; exact GW113.out)) (fun hs_ => Or.elim hs_ (fun hs_ => fun e_ => Nat.not_le.2 hs_ (by rw [e_]; exact GW113.out)) (fun hs_ => Or.elim hs_ (fun hs_ => fun e_ => Nat.not_le.2 hs_ (by rw [e_]; exact GW113.out)) (fun hs_ => fun e_ => Nat.not_le.2 hs_ (by rw [e_]; exact GW113.out)))))))) (fun hn_ => (Kd.freshB (g := gb113) (o := .cells #[.string a0_0, .string a0_1, .string a0_2, .string a0_3, .slice A0_4 l0_4.length c0_4, .slice A0_5 l0_5.length c0_5, .slice A0_6 l0_6.length c0_6, .slice A0_7 l0_7.length c0_7, .slice A0_8 l0_8.length c0_8, .slice A0_9 l0_9.length c0_9, .slice A0_10 l0_10.length c0_10, .slice A0_11 l0_11.length c0_11] 34 (0, 0)) (by (with_reducible repeat (first | refine blk_drewN ?_ _ | refine blk_drew ?_ | refine blk_alloc ?_ _)); exact BK113.out) k_ hn_)), Or.elim hk_ (fun hs_ => Or.elim hs_ (fun hs_ => fun e_ => Nat.not_le.2 hs_ (by rw [e_]; exact GW114.out)) (fun hs_ => Or.elim hs_ (fun hs_ => fun e_ => Nat.not_le.2 hs_ (by rw [e_]; exact GW114.out)) (fun hs_ => Or.elim hs_ (fun hs_ => fun e_ => Nat.not_le.2 hs_ (by rw [e_]; exact GW114.out)) (fun hs_ => Or.elim hs_ (fun hs_ => fun e_ => Nat.not_le.2 hs_ (by rw [e_]; exact GW114.out)) (fun hs_ => Or.elim hs_ (fun hs_ => fun e_ => Nat.not_le.2 hs_ (by rw [e_]; exact GW114.out)) (fun hs_ => Or.elim hs_ (fun hs_ => fun e_ => Nat.not_le.2 hs_ (by rw [e_]; exact GW114.out)) (fun hs_ => fun e_ => Nat.not_le.2 hs_ (by rw [e_]; exact GW114.out)))))))) (fun hn_ => (Kd.freshB (g := gb114) (o := .cells #[.string a1_0, .string a1_1, .string a1_2, .string a1_3, .slice A1_4 l1_4.length c1_4, .slice A1_5 l1_5.length c1_5, .slice A1_6 l1_6.length c1_6, .slice A1_7 l1_7.length c1_7, .slice A1_8 l1_8.length c1_8, .slice A1_9 l1_9.length c1_9, .slice A1_10 l1_10.length c1_10, .slice A1_11 l1_11.length c1_11] 34 (0, 0)) (by (with_reducible repeat (first | refine blk_drewN ?_ _ | refine blk_drew ?_ | refine blk_alloc ?_ _)); exact BK114.out) k_ hn_))⟩)) (below_size (by repeat (first | (with_reducible first | exact HB.out | apply below_alloc | apply pw_below_drewN | apply below_drew1 | refine below_set ?_ GE113.out | refine below_set ?_ GE114.out) | exact HB.out)))); have n1_ := Aside0.mk (blk_below (g := gb113) (o := .cells #[.string a0_0, .string a0_1, .string a0_2, .string a0_3, .slice A0_4 l0_4.length c0_4, .slice A0_5 l0_5.length c0_5, .slice A0_6 l0_6.length c0_6, .slice A0_7 l0_7.length c0_7, .slice A0_8 l0_8.length c0_8, .slice A0_9 l0_9.length c0_9, .slice A0_10 l0_10.length c0_10, .slice A0_11 l0_11.length c0_11] 34 (0, 0)) (by (with_reducible repeat (first | refine blk_drewN ?_ _ | refine blk_drew ?_ | refine blk_alloc ?_ _)); exact BK113.out) hb); have n2_ := Aside0.mk (blk_below (g := gb114) (o := .cells #[.string a1_0, .string a1_1, .string a1_2, .string a1_3, .slice A1_4 l1_4.length c1_4, .slice A1_5 l1_5.length c1_5, .slice A1_6 l1_6.length c1_6, .slice A1_7 l1_7.length c1_7, .slice A1_8 l1_8.length c1_8, .slice A1_9 l1_9.length c1_9, .slice A1_10 l1_10.length c1_10, .slice A1_11 l1_11.length c1_11] 34 (0, 0)) (by (with_reducible repeat (first | refine blk_drewN ?_ _ | refine blk_drew ?_ | refine blk_alloc ?_ _)); exact BK114.out) hb); have n3_ := Aside0.mk (below_step (by repeat (first | (with_reducible first | exact HB.out | apply below_alloc | apply pw_below_drewN | apply below_drew1 | refine below_set ?_ GE113.out | refine below_set ?_ GE114.out) | exact HB.out)) hb); clear BK113; clear BK114; clear HB; have HO117 := n0_; have BK113 := n1_; have BK114 := n2_; have HB := n3_; clear n0_ n1_ n2_ n3_; (try clear hb); (try clear hb2); (try clear hk); (try clear hi); (try clear ho0); have hcz10_0 : w9.cell? ⟨gb114, 0, none⟩ = some (.string a1_0) := (blk_cell BK114.out 0).trans rfl; have hcz10_1 : w9.cell? ⟨gb114, 1, none⟩ = some (.string a1_1) := (blk_cell BK114.out 1).trans rfl; have hcz10_2 : w9.cell? ⟨gb114, 2, none⟩ = some (.string a1_2) := (blk_cell BK114.out 2).trans rfl; have hcz10_3 : w9.cell? ⟨gb114, 3, none⟩ = some (.string a1_3) := (blk_cell BK114.out 3).trans rfl; have hcz10_4 : w9.cell? ⟨gb114, 4, none⟩ = some (.slice A1_4 l1_4.length c1_4) := (blk_cell BK114.out 4).trans rfl; have hcz10_5 : w9.cell? ⟨gb114, 5, none⟩ = some (.slice A1_5 l1_5.length c1_5) := (blk_cell BK114.out 5).trans rfl; have hcz10_6 : w9.cell? ⟨gb114, 6, none⟩ = some (.slice A1_6 l1_6.length c1_6) := (blk_cell BK114.out 6).trans rfl; have hcz10_7 : w9.cell? ⟨gb114, 7, none⟩ = some (.slice A1_7 l1_7.length c1_7) := (blk_cell BK114.out 7).trans rfl; have hcz10_8 : w9.cell? ⟨gb114, 8, none⟩ = some (.slice A1_8 l1_8.length c1_8) := (blk_cell BK114.out 8).trans rfl; have hcz10_9 : w9.cell? ⟨gb114, 9, none⟩ = some (.slice A1_9 l1_9.length c1_9) := (blk_cell BK114.out 9).trans rfl; have hcz10_10 : w9.cell? ⟨gb114, 10, none⟩ = some (.slice A1_10 l1_10.length c1_10) := (blk_cell BK114.out 10).trans rfl; have hcz10_11 : w9.cell? ⟨gb114, 11, none⟩ = some (.slice A1_11 l1_11.length c1_11) := (blk_cell BK114.out 11).trans rfl; have hfz10_0 := blk_frozen BK114.out 0; have hfz10_1 := blk_frozen BK114.out 1; have hfz10_2 := blk_frozen BK114.out 2; have hfz10_3 := blk_frozen BK114.out 3; have hfz10_4 := blk_frozen BK114.out 4; have hfz10_5 := blk_frozen BK114.out 5; have hfz10_6 := blk_frozen BK114.out 6; have hfz10_7 := blk_frozen BK114.out 7; have hfz10_8 := blk_frozen BK114.out 8; have hfz10_9 := blk_frozen BK114.out 9; have hfz10_10 := blk_frozen BK114.out 10; have hfz10_11 := blk_frozen BK114.out 11) | ((with_reducible refine gate_callee (f := 31) rfl ?_); refine goesL_ (some 13) rfl rfl Tryd.func31 (by kernel_rfl) rfl #[.agg #[.string a1_0, .string a1_1, .string a1_2, .string a1_3, .slice A1_4 l1_4.length c1_4, .slice A1_5 l1_5.length c1_5, .slice A1_6 l1_6.length c1_6, .slice A1_7 l1_7.length c1_7, .slice A1_8 l1_8.length c1_8, .slice A1_9 l1_9.length c1_9, .slice A1_10 l1_10.length c1_10, .slice A1_11 l1_11.length c1_11]] rfl (by (try simp only [List.map_toArray, List.map_cons, List.map_nil]); first | done | rfl | (simp only [List.length_drop, List.length_take]; rfl)) ?_; (with_reducible refine (chandlerref06_Lists.calls a1_0 a1_1 a1_2 a1_3 (fun k_ => k_ < w.heap.size) _ _ l1_4 (fun k_ => k_ < w.heap.size) _ _ l1_5 (fun k_ => k_ < w.heap.size) _ _ l1_6 (fun k_ => k_ < w.heap.size) _ _ l1_7 (fun k_ => k_ < w.heap.size) _ _ l1_8 (fun k_ => k_ < w.heap.size) _ _ l1_9 (fun k_ => k_ < w.heap.size) _ _ l1_10 _ _ l1_11 t118 _ ?side1 ?side2 ?side3 ?side4 ?side5 ?side6 ?side7 ?side8 ?side9 A4.out).mono ?_); (case side1 => exact Kd.V_mk HC1_4.out (Kd.F_below (Kd.C_F k36_heap HR1_4.out) (by repeat (first | (with_reducible first | exact HB.out | apply below_alloc | apply pw_below_drewN | apply below_drew1 | refine below_set ?_ GE113.out | refine below_set ?_ GE114.out) | exact HB.out)))); (case side2 => exact Kd.V_mk HC1_5.out (Kd.F_below (Kd.C_F k36_heap HR1_5.out) (by repeat (first | (with_reducible first | exact HB.out | apply below_alloc | apply pw_below_drewN | apply below_drew1 | refine below_set ?_ GE113.out | refine below_set ?_ GE114.out) | exact HB.out)))); (case side3 => exact Kd.V_mk HC1_6.out (Kd.F_below (Kd.C_F k36_heap HR1_6.out) (by repeat (first | (with_reducible first | exact HB.out | apply below_alloc | apply pw_below_drewN | apply below_drew1 | refine below_set ?_ GE113.out | refine below_set ?_ GE114.out) | exact HB.out)))); (case side4 => exact Kd.V_mk HC1_7.out (Kd.F_below (Kd.C_F k36_heap HR1_7.out) (by repeat (first | (with_reducible first | exact HB.out | apply below_alloc | apply pw_below_drewN | apply below_drew1 | refine below_set ?_ GE113.out | refine below_set ?_ GE114.out) | exact HB.out)))); (case side5 => exact Kd.V_mk HC1_8.out (Kd.F_below (Kd.C_F k36_heap HR1_8.out) (by repeat (first | (with_reducible first | exact HB.out | apply below_alloc | apply pw_below_drewN | apply below_drew1 | refine below_set ?_ GE113.out | refine below_set ?_ GE114.out) | exact HB.out)))); (case side6 => exact Kd.V_mk HC1_9.out (Kd.F_below (Kd.C_F k36_heap HR1_9.out) (by repeat (first | (with_reducible first | exact HB.out | apply below_alloc | apply pw_below_drewN | apply below_drew1 | refine below_set ?_ GE113.out | refine below_set ?_ GE114.out) | exact HB.out)))); (case side7 => exact Kd.V_mk HC1_10.out (Kd.F_below (Kd.C_F k36_heap HR1_10.out) (by repeat (first | (with_reducible first | exact HB.out | apply below_alloc | apply pw_below_drewN | apply below_drew1 | refine below_set ?_ GE113.out | refine below_set ?_ GE114.out) | exact HB.out)))); (case side8 => repeat (first | exact (Kd.C_below HR1_11.out HB.out) | (with_reducible refine Kd.C_alloc ?_ _) | (with_reducible refine Kd.C_drewN ?_ _) | (with_reducible refine Kd.C_drew ?_))); (case side9 => exact HC1_11.out); rintro e w11 ⟨v119, rfl, ho0, hb⟩; refine ⟨_, rfl, ?_⟩; have n0_ := Aside0.mk (Kd.N_elder' (by (with_reducible repeat (first | apply Kd.N_alloc | apply Kd.N_drewN | apply Kd.N_drew)); exact HO117.out) (Kd.N_base ho0) hb); have n1_ := Aside0.mk (Kd.N_lower (Kd.N_mono (ok' := fun k_ => some k_ ≠ (v116 : Value).ownBlock ∧ k_ ≠ gb113 ∧ k_ ≠ gb114) ho0 (fun k_ hk_ => ⟨Or.elim hk_ (fun hs_ => Or.elim hs_ (fun hs_ => fun e_ => Nat.not_le.2 hs_ (Kd.N_base HO117.out k_ e_.symm)) (fun hs_ => Or.elim hs_ (fun hs_ => fun e_ => Nat.not_le.2 hs_ (Kd.N_base HO117.out k_ e_.symm)) (fun hs_ => Or.elim hs_ (fun hs_ => fun e_ => Nat.not_le.2 hs_ (Kd.N_base HO117.out k_ e_.symm)) (fun hs_ => Or.elim hs_ (fun hs_ => fun e_ => Nat.not_le.2 hs_ (Kd.N_base HO117.out k_ e_.symm)) (fun hs_ => Or.elim hs_ (fun hs_ => fun e_ => Nat.not_le.2 hs_ (Kd.N_base HO117.out k_ e_.symm)) (fun hs_ => Or.elim hs_ (fun hs_ => fun e_ => Nat.not_le.2 hs_ (Kd.N_base HO117.out k_ e_.symm)) (fun hs_ => fun e_ => Nat.not_le.2 hs_ (Kd.N_base HO117.out k_ e_.symm)))))))) (fun hn_ => (Kd.fresh' (Kd.N_lt (by (with_reducible repeat (first | apply Kd.N_alloc | apply Kd.N_drewN | apply Kd.N_drew)); exact HO117.out)) k_ hn_)), Or.elim hk_ (fun hs_ => Or.elim hs_ (fun hs_ => fun e_ => Nat.not_le.2 hs_ (by rw [e_]; exact GW113.out)) (fun hs_ => Or.elim hs_ (fun hs_ => fun e_ => Nat.not_le.2 hs_ (by rw [e_]; exact GW113.out)) (fun hs_ => Or.elim hs_ (fun hs_ => fun e_ => Nat.not_le.2 hs_ (by rw [e_]; exact GW113.out)) (fun hs_ => Or.elim hs_ (fun hs_ => fun e_ => Nat.not_le.2 hs_ (by rw [e_]; exact GW113.out)) (fun hs_ => Or.elim hs_ (fun hs_ => fun e_ => Nat.not_le.2 hs_ (by rw [e_]; exact GW113.out)) (fun hs_ => Or.elim hs_ (fun hs_ => fun e_ => Nat.not_le.2 hs_ (by rw [e_]; exact GW113.out)) (fun hs_ => fun e_ => Nat.not_le.2 hs_ (by rw [e_]; exact GW113.out)))))))) (fun hn_ => (Kd.freshB (g := gb113) (o := .cells #[.string a0_0, .string a0_1, .string a0_2, .string a0_3, .slice A0_4 l0_4.length c0_4, .slice A0_5 l0_5.length c0_5, .slice A0_6 l0_6.length c0_6, .slice A0_7 l0_7.length c0_7, .slice A0_8 l0_8.length c0_8, .slice A0_9 l0_9.length c0_9, .slice A0_10 l0_10.length c0_10, .slice A0_11 l0_11.length c0_11] 34 (0, 0)) (by (with_reducible repeat (first | refine blk_drewN ?_ _ | refine blk_drew ?_ | refine blk_alloc ?_ _)); exact BK113.out) k_ hn_)), Or.elim hk_ (fun hs_ => Or.elim hs_ (fun hs_ => fun e_ => Nat.not_le.2 hs_ (by rw [e_]; exact GW114.out)) (fun hs_ => Or.elim hs_ (fun hs_ => fun e_ => Nat.not_le.2 hs_ (by rw [e_]; exact GW114.out)) (fun hs_ => Or.elim hs_ (fun hs_ => fun e_ => Nat.not_le.2 hs_ (by rw [e_]; exact GW114.out)) (fun hs_ => Or.elim hs_ (fun hs_ => fun e_ => Nat.not_le.2 hs_ (by rw [e_]; exact GW114.out)) (fun hs_ => Or.elim hs_ (fun hs_ => fun e_ => Nat.not_le.2 hs_ (by rw [e_]; exact GW114.out)) (fun hs_ => Or.elim hs_ (fun hs_ => fun e_ => Nat.not_le.2 hs_ (by rw [e_]; exact GW114.out)) (fun hs_ => fun e_ => Nat.not_le.2 hs_ (by rw [e_]; exact GW114.out)))))))) (fun hn_ => (Kd.freshB (g := gb114) (o := .cells #[.string a1_0, .string a1_1, .string a1_2, .string a1_3, .slice A1_4 l1_4.length c1_4, .slice A1_5 l1_5.length c1_5, .slice A1_6 l1_6.length c1_6, .slice A1_7 l1_7.length c1_7, .slice A1_8 l1_8.length c1_8, .slice A1_9 l1_9.length c1_9, .slice A1_10 l1_10.length c1_10, .slice A1_11 l1_11.length c1_11] 34 (0, 0)) (by (with_reducible repeat (first | refine blk_drewN ?_ _ | refine blk_drew ?_ | refine blk_alloc ?_ _)); exact BK114.out) k_ hn_))⟩)) (below_size (by repeat (first | (with_reducible first | exact HB.out | apply below_alloc | apply pw_below_drewN | apply below_drew1 | refine below_set ?_ GE113.out | refine below_set ?_ GE114.out) | exact HB.out)))); have n2_ := Aside0.mk (blk_below (g := gb113) (o := .cells #[.string a0_0, .string a0_1, .string a0_2, .string a0_3, .slice A0_4 l0_4.length c0_4, .slice A0_5 l0_5.length c0_5, .slice A0_6 l0_6.length c0_6, .slice A0_7 l0_7.length c0_7, .slice A0_8 l0_8.length c0_8, .slice A0_9 l0_9.length c0_9, .slice A0_10 l0_10.length c0_10, .slice A0_11 l0_11.length c0_11] 34 (0, 0)) (by (with_reducible repeat (first | refine blk_drewN ?_ _ | refine blk_drew ?_ | refine blk_alloc ?_ _)); exact BK113.out) hb); have n3_ := Aside0.mk (blk_below (g := gb114) (o := .cells #[.string a1_0, .string a1_1, .string a1_2, .string a1_3, .slice A1_4 l1_4.length c1_4, .slice A1_5 l1_5.length c1_5, .slice A1_6 l1_6.length c1_6, .slice A1_7 l1_7.length c1_7, .slice A1_8 l1_8.length c1_8, .slice A1_9 l1_9.length c1_9, .slice A1_10 l1_10.length c1_10, .slice A1_11 l1_11.length c1_11] 34 (0, 0)) (by (with_reducible repeat (first | refine blk_drewN ?_ _ | refine blk_drew ?_ | refine blk_alloc ?_ _)); exact BK114.out) hb); have n4_ := Aside0.mk (below_step (by repeat (first | (with_reducible first | exact HB.out | apply below_alloc | apply pw_below_drewN | apply below_drew1 | refine below_set ?_ GE113.out | refine below_set ?_ GE114.out) | exact HB.out)) hb); clear HO117; clear BK113; clear BK114; clear HB; have HO117 := n0_; have HO120 := n1_; have BK113 := n2_; have BK114 := n3_; have HB := n4_; clear n0_ n1_ n2_ n3_ n4_; (try clear hb); (try clear hb2); (try clear hk); (try clear hi); (try clear ho0)))
  go_loopg [7] k (fun kq v7 w' => ∃ (x7_1 : Int), v7 = .int .i64 x7_1 ∧ Aside0 (chandlerref06_SamePackage.l0 kq t115 t118 x7_1 a0_0 a0_1 a0_2 a0_3 l0_4 l0_5 l0_6 l0_7 l0_8 l0_9 l0_10 l0_11 a1_0 a1_1 a1_2 a1_3 l1_4 l1_5 l1_6 l1_7 l1_8 l1_9 l1_10 l1_11 = some r) ∧ Aside0 (kq ≤ k) ∧ Aside0 (Kd.N (Kd.slice 36 k36) 32 w' w.heap.size (fun k_ => some k_ ≠ (v119 : Value).ownBlock ∧ k_ ≠ gb113 ∧ k_ ≠ gb114) v116 t115) ∧ Aside0 (Kd.N (Kd.slice 36 k36) 32 w' w.heap.size (fun k_ => some k_ ≠ (v116 : Value).ownBlock ∧ k_ ≠ gb113 ∧ k_ ≠ gb114) v119 t118) ∧ Aside0 (w'.heap[gb113]? = some (.cells #[.string a0_0, .string a0_1, .string a0_2, .string a0_3, (.slice A0_4 l0_4.length c0_4), (.slice A0_5 l0_5.length c0_5), (.slice A0_6 l0_6.length c0_6), (.slice A0_7 l0_7.length c0_7), (.slice A0_8 l0_8.length c0_8), (.slice A0_9 l0_9.length c0_9), (.slice A0_10 l0_10.length c0_10), (.slice A0_11 l0_11.length c0_11)] 34 (0, 0))) ∧ Aside0 (w'.heap[gb114]? = some (.cells #[.string a1_0, .string a1_1, .string a1_2, .string a1_3, (.slice A1_4 l1_4.length c1_4), (.slice A1_5 l1_5.length c1_5), (.slice A1_6 l1_6.length c1_6), (.slice A1_7 l1_7.length c1_7), (.slice A1_8 l1_8.length c1_8), (.slice A1_9 l1_9.length c1_9), (.slice A1_10 l1_10.length c1_10), (.slice A1_11 l1_11.length c1_11)] 34 (0, 0))) ∧ Aside0 (Below w.heap.size w w'))
  case atStart => exact ⟨(0), (by first | rfl | (simp; done) | (simp [*]; done)), H', ⟨Nat.le_refl _⟩, ⟨by (with_reducible repeat (first | apply Kd.N_alloc | apply Kd.N_drewN | apply Kd.N_drew)); exact Kd.N_mono HO117.out (fun _ hk => ⟨hk.2, ⟨hk.1.1, hk.1.2⟩⟩)⟩, ⟨by (with_reducible repeat (first | apply Kd.N_alloc | apply Kd.N_drewN | apply Kd.N_drew)); exact HO120.out⟩, ⟨by (with_reducible repeat (first | refine blk_drewN ?_ _ | refine blk_drew ?_ | refine blk_alloc ?_ _)); exact BK113.out⟩, ⟨by (with_reducible repeat (first | refine blk_drewN ?_ _ | refine blk_drew ?_ | refine blk_alloc ?_ _)); exact BK114.out⟩, ⟨by repeat (first | (with_reducible first | exact HB.out | apply below_alloc | apply pw_below_drewN | apply below_drew1 | refine below_set ?_ GE113.out | refine below_set ?_ GE114.out) | exact HB.out)⟩⟩
  case round =>
    clear H'
    try clear c1
    try clear p2
    try clear c3
    try clear c7
    try clear hcz10_0
    try clear hcz10_1
    try clear hcz10_10
    try clear hcz10_11
    try clear hcz10_2
    try clear hcz10_3
    try clear hcz10_4
    try clear hcz10_5
    try clear hcz10_6
    try clear hcz10_7
    try clear hcz10_8
    try clear hcz10_9
    try clear hcz8_0
    try clear hcz8_1
    try clear hcz8_10
    try clear hcz8_11
    try clear hcz8_2
    try clear hcz8_3
    try clear hcz8_4
    try clear hcz8_5
    try clear hcz8_6
    try clear hcz8_7
    try clear hcz8_8
    try clear hcz8_9
    try clear hfz10_0
    try clear hfz10_1
    try clear hfz10_10
    try clear hfz10_11
    try clear hfz10_2
    try clear hfz10_3
    try clear hfz10_4
    try clear hfz10_5
    try clear hfz10_6
    try clear hfz10_7
    try clear hfz10_8
    try clear hfz10_9
    try clear hfz8_0
    try clear hfz8_1
    try clear hfz8_10
    try clear hfz8_11
    try clear hfz8_2
    try clear hfz8_3
    try clear hfz8_4
    try clear hfz8_5
    try clear hfz8_6
    try clear hfz8_7
    try clear hfz8_8
    try clear hfz8_9
    obtain ⟨x7_1, rfl, HA, HK1, HO_5, HO_6, BK113, BK114, HB⟩ := hrel
    cases gk with
    | zero => exact absurd HA.out (by simp [chandlerref06_SamePackage.l0])
    | succ k1 =>
      have H := HA.out
      clear HA
      simp only [chandlerref06_SamePackage.l0] at H
      by_cases c12 : x7_1 < (t115.length : Int)
      · rw [if_pos c12] at H
        have c12b0 : decide (x7_1 < (t115.length : Int)) = true := decide_eq_true c12
        clear c12
        by_cases c13 : 0 ≤ x7_1
        · rw [if_pos c13] at H
          have c13b0 : decide (0 ≤ x7_1) = true := decide_eq_true c13
          clear c13
          by_cases c14 : x7_1 < (t118.length : Int)
          · rw [if_pos c14] at H
            have c14b0 : decide (x7_1 < (t118.length : Int)) = true := decide_eq_true c14
            clear c14
            replace H := Option.bind_eq_some_iff.mp H
            obtain ⟨t123, A150, H⟩ := H
            replace H : (if t123 = true then (chandlerref06_SamePackage.l0 k1 t115 t118 (wrap64 (x7_1 + 1)) a0_0 a0_1 a0_2 a0_3 l0_4 l0_5 l0_6 l0_7 l0_8 l0_9 l0_10 l0_11 a1_0 a1_1 a1_2 a1_3 l1_4 l1_5 l1_6 l1_7 l1_8 l1_9 l1_10 l1_11) else (some false)) = some r := H
            have A15 := Aside0.mk A150
            clear A150
            by_cases c16 : t123 = true
            · subst c16
              have H1 : (chandlerref06_SamePackage.l0 k1 t115 t118 (wrap64 (x7_1 + 1)) a0_0 a0_1 a0_2 a0_3 l0_4 l0_5 l0_6 l0_7 l0_8 l0_9 l0_10 l0_11 a1_0 a1_1 a1_2 a1_3 l1_4 l1_5 l1_6 l1_7 l1_8 l1_9 l1_10 l1_11) = some r := by rw [if_pos rfl] at H; exact H
              clear H
              have H := H1
              clear H1
              have H' := Aside0.mk H
              clear H
              obtain ⟨Ao17, co17, eo17⟩ := Kd.N_slice HO_5.out
              subst eo17
              try go_wp2
              have n0_ := Aside0.mk (Kd.N_drew HO_5.out)
              have n1_ := Aside0.mk (Kd.N_drew HO_6.out)
              have n2_ := Aside0.mk (blk_drew BK113.out)
              have n3_ := Aside0.mk (blk_drew BK114.out)
              have n4_ := Aside0.mk (below_drew1 HB.out)
              clear HO_5
              clear HO_6
              clear BK113
              clear BK114
              clear HB
              have HO_5 := n0_
              have HO_6 := n1_
              have BK113 := n2_
              have BK114 := n3_
              have HB := n4_
              clear n0_ n1_ n2_ n3_ n4_
              have p121 : 0 ≤ (x7_1 : Int) := of_decide_eq_true (by first | (with_reducible assumption) | assumption)
              have q121 : x7_1 < (t115.length : Int) := of_decide_eq_true (by first | (with_reducible assumption) | assumption)
              obtain ⟨ad121, A121_0, c121_0, e121, hx121_0, hl121_0, hi121_0⟩ := at_L3 (Kd.N_reads' HO_5.out).2.2 x7_1 p121 q121
              cases e121
              obtain ⟨ce121, hce121, hMe121, hcc121⟩ := Kd.N_get HO_5.out [] x7_1 p121 (by first | exact q121 | exact of_decide_eq_true (by first | (with_reducible assumption) | assumption) | (have e_ := (Kd.N_reads' HO_5.out).1; omega))
              obtain ⟨ua121_0, uc121_0, rfl, ul121_0, ge121_0⟩ := Kd.FK_slice_open hMe121
              have hv121_0 := hcc121 0 _ rfl
              rw [Nat.add_zero, show ((Kd.slice 36 k36)).sz = 1 from rfl, Nat.mul_one] at hv121_0
              replace hv121_0 := Option.some.inj (hv121_0.symm.trans hx121_0)
              injection hv121_0 with hva_ hvn_ hvc_
              rw [hva_] at ge121_0
              rw [hvc_] at ul121_0
              have HL121_0 := Aside0.mk (show Kd.V k36 36 _ w.heap.size _ _ (rd_L3 t115 x7_1) from Kd.V_mk ul121_0 ge121_0)
              clear hva_ hvn_ hvc_ ge121_0 ul121_0
              clear hcc121 hce121
              have HR121_0 := Aside0.mk hi121_0
              have HC121_0 := Aside0.mk hl121_0
              clear hi121_0 hl121_0
              replace p121 := eq_true p121
              replace q121 := eq_true q121
              obtain ⟨Ao19, co19, eo19⟩ := Kd.N_slice HO_6.out
              (first | subst eo19 | (injection eo19 with f1_ f2_ f3_; have f4_ := f1_.symm; have f5_ := f3_.symm; clear f1_ f2_ f3_; subst f4_; subst f5_))
              have p122 : 0 ≤ (x7_1 : Int) := of_decide_eq_true (by first | (with_reducible assumption) | assumption)
              have q122 : x7_1 < (t118.length : Int) := of_decide_eq_true (by first | (with_reducible assumption) | assumption)
              obtain ⟨ad122, A122_0, c122_0, e122, hx122_0, hl122_0, hi122_0⟩ := at_L3 (Kd.N_reads' HO_6.out).2.2 x7_1 p122 q122
              cases e122
              obtain ⟨ce122, hce122, hMe122, hcc122⟩ := Kd.N_get HO_6.out [] x7_1 p122 (by first | exact q122 | exact of_decide_eq_true (by first | (with_reducible assumption) | assumption) | (have e_ := (Kd.N_reads' HO_6.out).1; omega))
              obtain ⟨ua122_0, uc122_0, rfl, ul122_0, ge122_0⟩ := Kd.FK_slice_open hMe122
              have hv122_0 := hcc122 0 _ rfl
              rw [Nat.add_zero, show ((Kd.slice 36 k36)).sz = 1 from rfl, Nat.mul_one] at hv122_0
              replace hv122_0 := Option.some.inj (hv122_0.symm.trans hx122_0)
              injection hv122_0 with hva_ hvn_ hvc_
              rw [hva_] at ge122_0
              rw [hvc_] at ul122_0
              have HL122_0 := Aside0.mk (show Kd.V k36 36 _ w.heap.size _ _ (rd_L3 t118 x7_1) from Kd.V_mk ul122_0 ge122_0)
              clear hva_ hvn_ hvc_ ge122_0 ul122_0
              clear hcc122 hce122
              have HR122_0 := Aside0.mk hi122_0
              have HC122_0 := Aside0.mk hl122_0
              clear hi122_0 hl122_0
              replace p122 := eq_true p122
              replace q122 := eq_true q122
              refine start_ (n := 10) (S := fun w' => w'.cell? (ad121.add (x7_1).toNat) = some (.slice A121_0 (rd_L3 t115 x7_1).length c121_0) ∧ w'.cell? (ad122.add (x7_1).toNat) = some (.slice A122_0 (rd_L3 t118 x7_1).length c122_0)) (ds := []) #[false, false, false, false, false, false, false, false, false, false] (by kernel_rfl) rfl rfl ⟨hx121_0, hx122_0⟩ (fun hHeld => ?_); refine with_tabW chandlerref06_SamePackage.tab6 chandlerref06_SamePackage.bits6 (fun HT_ HW_ => ?_)
              generalize wr.drew = w18 at HO_5 HO_6 BK113 BK114 HB HL121_0 HL122_0 HR121_0 HR122_0 hx121_0 hx122_0 hHeld ⊢
              refine pure_ (i := 0) (N := some 20) (v := ?_) (a' := ?_) #[true, false, false, false, false, false, false, false, false, false] rfl rfl (any_of HT_.out (by kernel_rfl)) (fun _ _ _ h => h) (Or.inl ⟨by rfl, ?_⟩) ?_ ?_
              rotate_left
              · intro w'
                go_simp
                with_reducible rfl
              rotate_left
              · simp only [Act.put, List.setIfInBounds_toArray, List.set_cons_zero, List.set_cons_succ, i64_w, i32_w]
                rfl
              refine pure_ (i := 1) (N := some 21) (v := ?_) (a' := ?_) #[true, true, false, false, false, false, false, false, false, false] rfl rfl (any_of HT_.out (by kernel_rfl)) (fun _ _ _ h => h) (Or.inl ⟨by rfl, ?_⟩) ?_ ?_
              rotate_left
              · intro w'
                go_simp
                with_reducible rfl
              rotate_left
              · simp only [Act.put, List.setIfInBounds_toArray, List.set_cons_zero, List.set_cons_succ, i64_w, i32_w]
                rfl
              refine pure_ (i := 2) (N := some 22) (v := ?_) (a' := ?_) #[true, true, true, false, false, false, false, false, false, false] rfl rfl (any_of HT_.out (by kernel_rfl)) (fun _ _ _ h => h) (Or.inl ⟨by rfl, ?_⟩) ?_ ?_
              rotate_left
              · intro w'
                go_simp
                with_reducible rfl
              rotate_left
              · simp only [Act.put, List.setIfInBounds_toArray, List.set_cons_zero, List.set_cons_succ, i64_w, i32_w]
                rfl
              refine pure_ (i := 4) (N := some 24) (v := ?_) (a' := ?_) #[true, true, true, false, true, false, false, false, false, false] rfl rfl (any_of HT_.out (by kernel_rfl)) (fun _ _ _ h => h) (Or.inl ⟨by rfl, ?_⟩) ?_ ?_
              rotate_left
              · intro w'
                go_simp
                with_reducible rfl
              rotate_left
              · simp only [Act.put, List.setIfInBounds_toArray, List.set_cons_zero, List.set_cons_succ, i64_w, i32_w]
                rfl
              refine pure_ (i := 5) (N := some 25) (v := ?_) (a' := ?_) #[true, true, true, false, true, true, false, false, false, false] rfl rfl (any_of HT_.out (by kernel_rfl)) (fun _ _ _ h => h) (Or.inl ⟨by rfl, ?_⟩) ?_ ?_
              rotate_left
              · intro w'
                go_simp
                with_reducible rfl
              rotate_left
              · simp only [Act.put, List.setIfInBounds_toArray, List.set_cons_zero, List.set_cons_succ, i64_w, i32_w]
                rfl
              refine pure_ (i := 6) (N := some 26) (v := ?_) (a' := ?_) #[true, true, true, false, true, true, true, false, false, false] rfl rfl (any_of HT_.out (by kernel_rfl)) (fun _ _ _ h => h) (Or.inl ⟨by rfl, ?_⟩) ?_ ?_
              rotate_left
              · intro w'
                go_simp
                with_reducible rfl
              rotate_left
              · simp only [Act.put, List.setIfInBounds_toArray, List.set_cons_zero, List.set_cons_succ, i64_w, i32_w]
                rfl
              refine take_ (i := 3) (N := some 23) (v := ?_) (a' := ?_) #[true, true, true, true, true, true, true, false, false, false] rfl rfl (take_ofW HT_.out HW_.out (by kernel_rfl)) (fun _ _ _ h => h) (Or.inl ⟨by rfl, ?_⟩) hHeld ?_ ?_
              rotate_left
              · rintro w' ⟨s0, s1⟩
                go_simp
                with_reducible rfl
              rotate_left
              · simp only [Act.put, List.setIfInBounds_toArray, List.set_cons_zero, List.set_cons_succ, i64_w, i32_w]
                rfl
              refine take_ (i := 7) (N := some 27) (v := ?_) (a' := ?_) #[true, true, true, true, true, true, true, true, false, false] rfl rfl (take_ofW HT_.out HW_.out (by kernel_rfl)) (fun _ _ _ h => h) (Or.inl ⟨by rfl, ?_⟩) hHeld ?_ ?_
              rotate_left
              · rintro w' ⟨s0, s1⟩
                go_simp
                with_reducible rfl
              rotate_left
              · simp only [Act.put, List.setIfInBounds_toArray, List.set_cons_zero, List.set_cons_succ, i64_w, i32_w]
                rfl
              refine one_ (i := 8) (N := some 28) #[true, true, true, true, true, true, true, true, true, false] rfl rfl (one_of HT_.out (by kernel_rfl)) (by decide) (fun K hK => ?_)
              refine goes_ Tryd.func32 (by kernel_rfl) rfl #[.slice A121_0 (rd_L3 t115 x7_1).length c121_0, .slice A122_0 (rd_L3 t118 x7_1).length c122_0] (by rfl) rfl rfl (by (try simp only [List.map_toArray, List.map_cons, List.map_nil]); first | done | rfl | (simp only [List.length_drop, List.length_take]; rfl)) ?_
              with_reducible refine (chandlerref05_SameList.calls k1 _ _ (rd_L3 t115 x7_1) _ _ (rd_L3 t118 x7_1) true _ ?side1 ?side2 ?side3 ?side4 A15.out).mono ?_
              (case side1 => repeat (first | exact (by repeat (first | (with_reducible exact HR121_0.out) | (with_reducible refine Kd.C_alloc ?_ _) | (with_reducible refine Kd.C_drewN ?_ _) | (with_reducible refine Kd.C_drew ?_) | exact HR121_0.out)) | (with_reducible refine Kd.C_alloc ?_ _) | (with_reducible refine Kd.C_drewN ?_ _) | (with_reducible refine Kd.C_drew ?_)))
              (case side2 => exact HC121_0.out)
              (case side3 => repeat (first | exact (by repeat (first | (with_reducible exact HR122_0.out) | (with_reducible refine Kd.C_alloc ?_ _) | (with_reducible refine Kd.C_drewN ?_ _) | (with_reducible refine Kd.C_drew ?_) | exact HR122_0.out)) | (with_reducible refine Kd.C_alloc ?_ _) | (with_reducible refine Kd.C_drewN ?_ _) | (with_reducible refine Kd.C_drew ?_)))
              (case side4 => exact HC122_0.out)
              rintro e w20 ⟨rfl, hb⟩
              have HS0_ := (hb.cell (World.block_lt_of_cell? _ _ (hHeld.1))).trans (hHeld.1)
              have HS1_ := (hb.cell (World.block_lt_of_cell? _ _ (hHeld.2))).trans (hHeld.2)
              refine ⟨_, rfl, ?_⟩
              have n0_ := Aside0.mk (Kd.N_below (by (with_reducible repeat (first | apply Kd.N_alloc | apply Kd.N_drewN | apply Kd.N_drew)); exact HO_5.out) hb)
              have n1_ := Aside0.mk (Kd.N_below (by (with_reducible repeat (first | apply Kd.N_alloc | apply Kd.N_drewN | apply Kd.N_drew)); exact HO_6.out) hb)
              have n2_ := Aside0.mk (Kd.V_below (by (with_reducible repeat (first | apply Kd.V_alloc | apply Kd.V_drewN | apply Kd.V_drew)); exact HL121_0.out) hb)
              have n3_ := Aside0.mk (Kd.V_below (by (with_reducible repeat (first | apply Kd.V_alloc | apply Kd.V_drewN | apply Kd.V_drew)); exact HL122_0.out) hb)
              have n4_ := Aside0.mk (blk_below (g := gb113) (o := .cells #[.string a0_0, .string a0_1, .string a0_2, .string a0_3, .slice A0_4 l0_4.length c0_4, .slice A0_5 l0_5.length c0_5, .slice A0_6 l0_6.length c0_6, .slice A0_7 l0_7.length c0_7, .slice A0_8 l0_8.length c0_8, .slice A0_9 l0_9.length c0_9, .slice A0_10 l0_10.length c0_10, .slice A0_11 l0_11.length c0_11] 34 (0, 0)) (by (with_reducible repeat (first | refine blk_drewN ?_ _ | refine blk_drew ?_ | refine blk_alloc ?_ _)); exact BK113.out) hb)
              have n5_ := Aside0.mk (blk_below (g := gb114) (o := .cells #[.string a1_0, .string a1_1, .string a1_2, .string a1_3, .slice A1_4 l1_4.length c1_4, .slice A1_5 l1_5.length c1_5, .slice A1_6 l1_6.length c1_6, .slice A1_7 l1_7.length c1_7, .slice A1_8 l1_8.length c1_8, .slice A1_9 l1_9.length c1_9, .slice A1_10 l1_10.length c1_10, .slice A1_11 l1_11.length c1_11] 34 (0, 0)) (by (with_reducible repeat (first | refine blk_drewN ?_ _ | refine blk_drew ?_ | refine blk_alloc ?_ _)); exact BK114.out) hb)
              have n6_ := Aside0.mk (Kd.C_below (by repeat (first | (with_reducible exact HR121_0.out) | (with_reducible refine Kd.C_alloc ?_ _) | (with_reducible refine Kd.C_drewN ?_ _) | (with_reducible refine Kd.C_drew ?_) | exact HR121_0.out)) hb)
              have n7_ := Aside0.mk (Kd.C_below (by repeat (first | (with_reducible exact HR122_0.out) | (with_reducible refine Kd.C_alloc ?_ _) | (with_reducible refine Kd.C_drewN ?_ _) | (with_reducible refine Kd.C_drew ?_) | exact HR122_0.out)) hb)
              have n8_ := Aside0.mk (below_step (by repeat (first | (with_reducible first | exact HB.out | apply below_alloc | apply pw_below_drewN | apply below_drew1 | refine below_set ?_ GE113.out | refine below_set ?_ GE114.out) | exact HB.out)) hb)
              clear HO_5
              clear HO_6
              clear HL121_0
              clear HL122_0
              clear BK113
              clear BK114
              clear HR121_0
              clear HR122_0
              clear HB
              have HO_5 := n0_
              have HO_6 := n1_
              have HL121_0 := n2_
              have HL122_0 := n3_
              have BK113 := n4_
              have BK114 := n5_
              have HR121_0 := n6_
              have HR122_0 := n7_
              have HB := n8_
              clear n0_ n1_ n2_ n3_ n4_ n5_ n6_ n7_ n8_
              (try clear hb)
              (try clear hb2)
              (try clear hk)
              (try clear hi)
              refine hK.out _ _ ⟨HS0_, HS1_⟩ (fun hHeld => ?_)
              clear hK K
              refine norm_ (a' := ?_) ?_ ?_
              rotate_left
              · show Act.put _ (some 28) _ = _
                simp only [Act.put, List.setIfInBounds_toArray, List.set_cons_zero, List.set_cons_succ, i64_w, i32_w]
                rfl
              refine pure_ (i := 9) (N := some 8) (v := ?_) (a' := ?_) #[true, true, true, true, true, true, true, true, true, true] rfl rfl (any_of HT_.out (by kernel_rfl)) (fun _ _ _ h => h) (Or.inl ⟨by rfl, ?_⟩) ?_ ?_
              rotate_left
              · intro w'
                go_simp
                with_reducible rfl
              rotate_left
              · simp only [Act.put, List.setIfInBounds_toArray, List.set_cons_zero, List.set_cons_succ, i64_w, i32_w]
                rfl
              refine done_ (done_of HT_.out (by kernel_rfl)) ?_
              try go_wp2
              go_roundg k1
              case measure => have := HK1.out; omega
              case rel => exact ⟨(wrap64 (x7_1 + 1)), (by first | rfl | (simp; done) | (simp [*]; done)), H', ⟨by have := HK1.out; omega⟩, ⟨by (with_reducible repeat (first | apply Kd.N_alloc | apply Kd.N_drewN | apply Kd.N_drew)); exact HO_5.out⟩, ⟨by (with_reducible repeat (first | apply Kd.N_alloc | apply Kd.N_drewN | apply Kd.N_drew)); exact HO_6.out⟩, ⟨by (with_reducible repeat (first | refine blk_drewN ?_ _ | refine blk_drew ?_ | refine blk_alloc ?_ _)); exact BK113.out⟩, ⟨by (with_reducible repeat (first | refine blk_drewN ?_ _ | refine blk_drew ?_ | refine blk_alloc ?_ _)); exact BK114.out⟩, ⟨by repeat (first | (with_reducible first | exact HB.out | apply below_alloc | apply pw_below_drewN | apply below_drew1 | refine below_set ?_ GE113.out | refine below_set ?_ GE114.out) | exact HB.out)⟩⟩
            · replace c16 := Bool.eq_false_iff.mpr c16
              subst c16
              have H1 : (some false) = some r := by rw [if_neg (show ¬ (false = true) by decide)] at H; exact H
              clear H
              have H := H1
              clear H1
              obtain rfl := Option.some.inj H
              obtain ⟨Ao21, co21, eo21⟩ := Kd.N_slice HO_5.out
              subst eo21
              try go_wp2
              have n0_ := Aside0.mk (Kd.N_drew HO_5.out)
              have n1_ := Aside0.mk (Kd.N_drew HO_6.out)
              have n2_ := Aside0.mk (blk_drew BK113.out)
              have n3_ := Aside0.mk (blk_drew BK114.out)
              have n4_ := Aside0.mk (below_drew1 HB.out)
              clear HO_5
              clear HO_6
              clear BK113
              clear BK114
              clear HB
              have HO_5 := n0_
              have HO_6 := n1_
              have BK113 := n2_
              have BK114 := n3_
              have HB := n4_
              clear n0_ n1_ n2_ n3_ n4_
              have p121 : 0 ≤ (x7_1 : Int) := of_decide_eq_true (by first | (with_reducible assumption) | assumption)
              have q121 : x7_1 < (t115.length : Int) := of_decide_eq_true (by first | (with_reducible assumption) | assumption)
              obtain ⟨ad121, A121_0, c121_0, e121, hx121_0, hl121_0, hi121_0⟩ := at_L3 (Kd.N_reads' HO_5.out).2.2 x7_1 p121 q121
              cases e121
              obtain ⟨ce121, hce121, hMe121, hcc121⟩ := Kd.N_get HO_5.out [] x7_1 p121 (by first | exact q121 | exact of_decide_eq_true (by first | (with_reducible assumption) | assumption) | (have e_ := (Kd.N_reads' HO_5.out).1; omega))
              obtain ⟨ua121_0, uc121_0, rfl, ul121_0, ge121_0⟩ := Kd.FK_slice_open hMe121
              have hv121_0 := hcc121 0 _ rfl
              rw [Nat.add_zero, show ((Kd.slice 36 k36)).sz = 1 from rfl, Nat.mul_one] at hv121_0
              replace hv121_0 := Option.some.inj (hv121_0.symm.trans hx121_0)
              injection hv121_0 with hva_ hvn_ hvc_
              rw [hva_] at ge121_0
              rw [hvc_] at ul121_0
              have HL121_0 := Aside0.mk (show Kd.V k36 36 _ w.heap.size _ _ (rd_L3 t115 x7_1) from Kd.V_mk ul121_0 ge121_0)
              clear hva_ hvn_ hvc_ ge121_0 ul121_0
              clear hcc121 hce121
              have HR121_0 := Aside0.mk hi121_0
              have HC121_0 := Aside0.mk hl121_0
              clear hi121_0 hl121_0
              replace p121 := eq_true p121
              replace q121 := eq_true q121
              obtain ⟨Ao23, co23, eo23⟩ := Kd.N_slice HO_6.out
              (first | subst eo23 | (injection eo23 with f1_ f2_ f3_; have f4_ := f1_.symm; have f5_ := f3_.symm; clear f1_ f2_ f3_; subst f4_; subst f5_))
              have p122 : 0 ≤ (x7_1 : Int) := of_decide_eq_true (by first | (with_reducible assumption) | assumption)
              have q122 : x7_1 < (t118.length : Int) := of_decide_eq_true (by first | (with_reducible assumption) | assumption)
              obtain ⟨ad122, A122_0, c122_0, e122, hx122_0, hl122_0, hi122_0⟩ := at_L3 (Kd.N_reads' HO_6.out).2.2 x7_1 p122 q122
              cases e122
              obtain ⟨ce122, hce122, hMe122, hcc122⟩ := Kd.N_get HO_6.out [] x7_1 p122 (by first | exact q122 | exact of_decide_eq_true (by first | (with_reducible assumption) | assumption) | (have e_ := (Kd.N_reads' HO_6.out).1; omega))
              obtain ⟨ua122_0, uc122_0, rfl, ul122_0, ge122_0⟩ := Kd.FK_slice_open hMe122
              have hv122_0 := hcc122 0 _ rfl
              rw [Nat.add_zero, show ((Kd.slice 36 k36)).sz = 1 from rfl, Nat.mul_one] at hv122_0
              replace hv122_0 := Option.some.inj (hv122_0.symm.trans hx122_0)
              injection hv122_0 with hva_ hvn_ hvc_
              rw [hva_] at ge122_0
              rw [hvc_] at ul122_0
              have HL122_0 := Aside0.mk (show Kd.V k36 36 _ w.heap.size _ _ (rd_L3 t118 x7_1) from Kd.V_mk ul122_0 ge122_0)
              clear hva_ hvn_ hvc_ ge122_0 ul122_0
              clear hcc122 hce122
              have HR122_0 := Aside0.mk hi122_0
              have HC122_0 := Aside0.mk hl122_0
              clear hi122_0 hl122_0
              replace p122 := eq_true p122
              replace q122 := eq_true q122
              refine start_ (n := 10) (S := fun w' => w'.cell? (ad121.add (x7_1).toNat) = some (.slice A121_0 (rd_L3 t115 x7_1).length c121_0) ∧ w'.cell? (ad122.add (x7_1).toNat) = some (.slice A122_0 (rd_L3 t118 x7_1).length c122_0)) (ds := []) #[false, false, false, false, false, false, false, false, false, false] (by kernel_rfl) rfl rfl ⟨hx121_0, hx122_0⟩ (fun hHeld => ?_); refine with_tabW chandlerref06_SamePackage.tab6 chandlerref06_SamePackage.bits6 (fun HT_ HW_ => ?_)
              generalize wr.drew = w22 at HO_5 HO_6 BK113 BK114 HB HL121_0 HL122_0 HR121_0 HR122_0 hx121_0 hx122_0 hHeld ⊢
              refine pure_ (i := 0) (N := some 20) (v := ?_) (a' := ?_) #[true, false, false, false, false, false, false, false, false, false] rfl rfl (any_of HT_.out (by kernel_rfl)) (fun _ _ _ h => h) (Or.inl ⟨by rfl, ?_⟩) ?_ ?_
              rotate_left
              · intro w'
                go_simp
                with_reducible rfl
              rotate_left
              · simp only [Act.put, List.setIfInBounds_toArray, List.set_cons_zero, List.set_cons_succ, i64_w, i32_w]
                rfl
              refine pure_ (i := 1) (N := some 21) (v := ?_) (a' := ?_) #[true, true, false, false, false, false, false, false, false, false] rfl rfl (any_of HT_.out (by kernel_rfl)) (fun _ _ _ h => h) (Or.inl ⟨by rfl, ?_⟩) ?_ ?_
              rotate_left
              · intro w'
                go_simp
                with_reducible rfl
              rotate_left
              · simp only [Act.put, List.setIfInBounds_toArray, List.set_cons_zero, List.set_cons_succ, i64_w, i32_w]
                rfl
              refine pure_ (i := 2) (N := some 22) (v := ?_) (a' := ?_) #[true, true, true, false, false, false, false, false, false, false] rfl rfl (any_of HT_.out (by kernel_rfl)) (fun _ _ _ h => h) (Or.inl ⟨by rfl, ?_⟩) ?_ ?_
              rotate_left
              · intro w'
                go_simp
                with_reducible rfl
              rotate_left
              · simp only [Act.put, List.setIfInBounds_toArray, List.set_cons_zero, List.set_cons_succ, i64_w, i32_w]
                rfl
              refine pure_ (i := 4) (N := some 24) (v := ?_) (a' := ?_) #[true, true, true, false, true, false, false, false, false, false] rfl rfl (any_of HT_.out (by kernel_rfl)) (fun _ _ _ h => h) (Or.inl ⟨by rfl, ?_⟩) ?_ ?_
              rotate_left
              · intro w'
                go_simp
                with_reducible rfl
              rotate_left
              · simp only [Act.put, List.setIfInBounds_toArray, List.set_cons_zero, List.set_cons_succ, i64_w, i32_w]
                rfl
              refine pure_ (i := 5) (N := some 25) (v := ?_) (a' := ?_) #[true, true, true, false, true, true, false, false, false, false] rfl rfl (any_of HT_.out (by kernel_rfl)) (fun _ _ _ h => h) (Or.inl ⟨by rfl, ?_⟩) ?_ ?_
              rotate_left
              · intro w'
                go_simp
                with_reducible rfl
              rotate_left
              · simp only [Act.put, List.setIfInBounds_toArray, List.set_cons_zero, List.set_cons_succ, i64_w, i32_w]
                rfl
              refine pure_ (i := 6) (N := some 26) (v := ?_) (a' := ?_) #[true, true, true, false, true, true, true, false, false, false] rfl rfl (any_of HT_.out (by kernel_rfl)) (fun _ _ _ h => h) (Or.inl ⟨by rfl, ?_⟩) ?_ ?_
              rotate_left
              · intro w'
                go_simp
                with_reducible rfl
              rotate_left
              · simp only [Act.put, List.setIfInBounds_toArray, List.set_cons_zero, List.set_cons_succ, i64_w, i32_w]
                rfl
              refine take_ (i := 3) (N := some 23) (v := ?_) (a' := ?_) #[true, true, true, true, true, true, true, false, false, false] rfl rfl (take_ofW HT_.out HW_.out (by kernel_rfl)) (fun _ _ _ h => h) (Or.inl ⟨by rfl, ?_⟩) hHeld ?_ ?_
              rotate_left
              · rintro w' ⟨s0, s1⟩
                go_simp
                with_reducible rfl
              rotate_left
              · simp only [Act.put, List.setIfInBounds_toArray, List.set_cons_zero, List.set_cons_succ, i64_w, i32_w]
                rfl
              refine take_ (i := 7) (N := some 27) (v := ?_) (a' := ?_) #[true, true, true, true, true, true, true, true, false, false] rfl rfl (take_ofW HT_.out HW_.out (by kernel_rfl)) (fun _ _ _ h => h) (Or.inl ⟨by rfl, ?_⟩) hHeld ?_ ?_
              rotate_left
              · rintro w' ⟨s0, s1⟩
                go_simp
                with_reducible rfl
              rotate_left
              · simp only [Act.put, List.setIfInBounds_toArray, List.set_cons_zero, List.set_cons_succ, i64_w, i32_w]
                rfl
              refine one_ (i := 8) (N := some 28) #[true, true, true, true, true, true, true, true, true, false] rfl rfl (one_of HT_.out (by kernel_rfl)) (by decide) (fun K hK => ?_)
              refine goes_ Tryd.func32 (by kernel_rfl) rfl #[.slice A121_0 (rd_L3 t115 x7_1).length c121_0, .slice A122_0 (rd_L3 t118 x7_1).length c122_0] (by rfl) rfl rfl (by (try simp only [List.map_toArray, List.map_cons, List.map_nil]); first | done | rfl | (simp only [List.length_drop, List.length_take]; rfl)) ?_
              with_reducible refine (chandlerref05_SameList.calls k1 _ _ (rd_L3 t115 x7_1) _ _ (rd_L3 t118 x7_1) false _ ?side1 ?side2 ?side3 ?side4 A15.out).mono ?_
              (case side1 => repeat (first | exact (by repeat (first | (with_reducible exact HR121_0.out) | (with_reducible refine Kd.C_alloc ?_ _) | (with_reducible refine Kd.C_drewN ?_ _) | (with_reducible refine Kd.C_drew ?_) | exact HR121_0.out)) | (with_reducible refine Kd.C_alloc ?_ _) | (with_reducible refine Kd.C_drewN ?_ _) | (with_reducible refine Kd.C_drew ?_)))
              (case side2 => exact HC121_0.out)
              (case side3 => repeat (first | exact (by repeat (first | (with_reducible exact HR122_0.out) | (with_reducible refine Kd.C_alloc ?_ _) | (with_reducible refine Kd.C_drewN ?_ _) | (with_reducible refine Kd.C_drew ?_) | exact HR122_0.out)) | (with_reducible refine Kd.C_alloc ?_ _) | (with_reducible refine Kd.C_drewN ?_ _) | (with_reducible refine Kd.C_drew ?_)))
              (case side4 => exact HC122_0.out)
              rintro e w24 ⟨rfl, hb⟩
              have HS0_ := (hb.cell (World.block_lt_of_cell? _ _ (hHeld.1))).trans (hHeld.1)
              have HS1_ := (hb.cell (World.block_lt_of_cell? _ _ (hHeld.2))).trans (hHeld.2)
              refine ⟨_, rfl, ?_⟩
              have n0_ := Aside0.mk (Kd.N_below (by (with_reducible repeat (first | apply Kd.N_alloc | apply Kd.N_drewN | apply Kd.N_drew)); exact HO_5.out) hb)
              have n1_ := Aside0.mk (Kd.N_below (by (with_reducible repeat (first | apply Kd.N_alloc | apply Kd.N_drewN | apply Kd.N_drew)); exact HO_6.out) hb)
              have n2_ := Aside0.mk (Kd.V_below (by (with_reducible repeat (first | apply Kd.V_alloc | apply Kd.V_drewN | apply Kd.V_drew)); exact HL121_0.out) hb)
              have n3_ := Aside0.mk (Kd.V_below (by (with_reducible repeat (first | apply Kd.V_alloc | apply Kd.V_drewN | apply Kd.V_drew)); exact HL122_0.out) hb)
              have n4_ := Aside0.mk (blk_below (g := gb113) (o := .cells #[.string a0_0, .string a0_1, .string a0_2, .string a0_3, .slice A0_4 l0_4.length c0_4, .slice A0_5 l0_5.length c0_5, .slice A0_6 l0_6.length c0_6, .slice A0_7 l0_7.length c0_7, .slice A0_8 l0_8.length c0_8, .slice A0_9 l0_9.length c0_9, .slice A0_10 l0_10.length c0_10, .slice A0_11 l0_11.length c0_11] 34 (0, 0)) (by (with_reducible repeat (first | refine blk_drewN ?_ _ | refine blk_drew ?_ | refine blk_alloc ?_ _)); exact BK113.out) hb)
              have n5_ := Aside0.mk (blk_below (g := gb114) (o := .cells #[.string a1_0, .string a1_1, .string a1_2, .string a1_3, .slice A1_4 l1_4.length c1_4, .slice A1_5 l1_5.length c1_5, .slice A1_6 l1_6.length c1_6, .slice A1_7 l1_7.length c1_7, .slice A1_8 l1_8.length c1_8, .slice A1_9 l1_9.length c1_9, .slice A1_10 l1_10.length c1_10, .slice A1_11 l1_11.length c1_11] 34 (0, 0)) (by (with_reducible repeat (first | refine blk_drewN ?_ _ | refine blk_drew ?_ | refine blk_alloc ?_ _)); exact BK114.out) hb)
              have n6_ := Aside0.mk (Kd.C_below (by repeat (first | (with_reducible exact HR121_0.out) | (with_reducible refine Kd.C_alloc ?_ _) | (with_reducible refine Kd.C_drewN ?_ _) | (with_reducible refine Kd.C_drew ?_) | exact HR121_0.out)) hb)
              have n7_ := Aside0.mk (Kd.C_below (by repeat (first | (with_reducible exact HR122_0.out) | (with_reducible refine Kd.C_alloc ?_ _) | (with_reducible refine Kd.C_drewN ?_ _) | (with_reducible refine Kd.C_drew ?_) | exact HR122_0.out)) hb)
              have n8_ := Aside0.mk (below_step (by repeat (first | (with_reducible first | exact HB.out | apply below_alloc | apply pw_below_drewN | apply below_drew1 | refine below_set ?_ GE113.out | refine below_set ?_ GE114.out) | exact HB.out)) hb)
              clear HO_5
              clear HO_6
              clear HL121_0
              clear HL122_0
              clear BK113
              clear BK114
              clear HR121_0
              clear HR122_0
              clear HB
              have HO_5 := n0_
              have HO_6 := n1_
              have HL121_0 := n2_
              have HL122_0 := n3_
              have BK113 := n4_
              have BK114 := n5_
              have HR121_0 := n6_
              have HR122_0 := n7_
              have HB := n8_
              clear n0_ n1_ n2_ n3_ n4_ n5_ n6_ n7_ n8_
              (try clear hb)
              (try clear hb2)
              (try clear hk)
              (try clear hi)
              refine hK.out _ _ ⟨HS0_, HS1_⟩ (fun hHeld => ?_)
              clear hK K
              refine norm_ (a' := ?_) ?_ ?_
              rotate_left
              · show Act.put _ (some 28) _ = _
                simp only [Act.put, List.setIfInBounds_toArray, List.set_cons_zero, List.set_cons_succ, i64_w, i32_w]
                rfl
              refine pure_ (i := 9) (N := some 8) (v := ?_) (a' := ?_) #[true, true, true, true, true, true, true, true, true, true] rfl rfl (any_of HT_.out (by kernel_rfl)) (fun _ _ _ h => h) (Or.inl ⟨by rfl, ?_⟩) ?_ ?_
              rotate_left
              · intro w'
                go_simp
                with_reducible rfl
              rotate_left
              · simp only [Act.put, List.setIfInBounds_toArray, List.set_cons_zero, List.set_cons_succ, i64_w, i32_w]
                rfl
              refine done_ (done_of HT_.out (by kernel_rfl)) ?_
              try go_wp2
              go_ret
              exact ⟨by first | rfl | (simp [errW_none, errW_some] <;> rfl) | (simp [*, errW_none, errW_some] <;> rfl), by repeat (first | (with_reducible first | exact HB.out | apply below_alloc | apply pw_below_drewN | apply below_drew1 | refine below_set ?_ GE113.out | refine below_set ?_ GE114.out) | exact HB.out)⟩
          · rw [if_neg c14] at H
            exact absurd H (by simp)
        · rw [if_neg c13] at H
          exact absurd H (by simp)
      · rw [if_neg c12] at H
        have c12b0 : decide (x7_1 < (t115.length : Int)) = false := decide_eq_false c12
        clear c12
        replace H := Option.bind_eq_some_iff.mp H
        obtain ⟨t124, A250, H⟩ := H
        replace H : (if t124 = true then (if a0_0.toList = a1_0.toList then (if a0_1.toList = a1_1.toList then (if a0_2.toList = a1_2.toList then (some (a0_3.toList == a1_3.toList)) else (some false)) else (some false)) else (some false)) else (some false)) = some r := H
        have A25 := Aside0.mk A250
        clear A250
        by_cases c26 : t124 = true
        · subst c26
          have H1 : (if a0_0.toList = a1_0.toList then (if a0_1.toList = a1_1.toList then (if a0_2.toList = a1_2.toList then (some (a0_3.toList == a1_3.toList)) else (some false)) else (some false)) else (some false)) = some r := by rw [if_pos rfl] at H; exact H
          clear H
          have H := H1
          clear H1
          by_cases c27 : a0_0.toList = a1_0.toList
          · rw [if_pos c27] at H
            have c27b0 : (a0_0.toList == a1_0.toList) = true := beq_iff_eq.mpr c27
            have c27b1 : (a0_0.toList != a1_0.toList) = false := bne_eq_false_iff_eq.mpr c27
            clear c27
            by_cases c28 : a0_1.toList = a1_1.toList
            · rw [if_pos c28] at H
              have c28b0 : (a0_1.toList == a1_1.toList) = true := beq_iff_eq.mpr c28
              have c28b1 : (a0_1.toList != a1_1.toList) = false := bne_eq_false_iff_eq.mpr c28
              clear c28
              by_cases c29 : a0_2.toList = a1_2.toList
              · rw [if_pos c29] at H
                have c29b0 : (a0_2.toList == a1_2.toList) = true := beq_iff_eq.mpr c29
                have c29b1 : (a0_2.toList != a1_2.toList) = false := bne_eq_false_iff_eq.mpr c29
                clear c29
                obtain rfl := Option.some.inj H
                obtain ⟨Ao30, co30, eo30⟩ := Kd.N_slice HO_5.out
                subst eo30
                have hnb31 := NB113_114.out
                have hnc31 := NB114_113.out
                have hcz32_0 : wr.cell? ⟨gb113, 0, none⟩ = some (.string a0_0) := (blk_cell BK113.out 0).trans rfl
                have hcz32_1 : wr.cell? ⟨gb113, 1, none⟩ = some (.string a0_1) := (blk_cell BK113.out 1).trans rfl
                have hcz32_2 : wr.cell? ⟨gb113, 2, none⟩ = some (.string a0_2) := (blk_cell BK113.out 2).trans rfl
                have hcz32_3 : wr.cell? ⟨gb113, 3, none⟩ = some (.string a0_3) := (blk_cell BK113.out 3).trans rfl
                have hcz32_4 : wr.cell? ⟨gb113, 4, none⟩ = some (.slice A0_4 l0_4.length c0_4) := (blk_cell BK113.out 4).trans rfl
                have hcz32_5 : wr.cell? ⟨gb113, 5, none⟩ = some (.slice A0_5 l0_5.length c0_5) := (blk_cell BK113.out 5).trans rfl
                have hcz32_6 : wr.cell? ⟨gb113, 6, none⟩ = some (.slice A0_6 l0_6.length c0_6) := (blk_cell BK113.out 6).trans rfl
                have hcz32_7 : wr.cell? ⟨gb113, 7, none⟩ = some (.slice A0_7 l0_7.length c0_7) := (blk_cell BK113.out 7).trans rfl
                have hcz32_8 : wr.cell? ⟨gb113, 8, none⟩ = some (.slice A0_8 l0_8.length c0_8) := (blk_cell BK113.out 8).trans rfl
                have hcz32_9 : wr.cell? ⟨gb113, 9, none⟩ = some (.slice A0_9 l0_9.length c0_9) := (blk_cell BK113.out 9).trans rfl
                have hcz32_10 : wr.cell? ⟨gb113, 10, none⟩ = some (.slice A0_10 l0_10.length c0_10) := (blk_cell BK113.out 10).trans rfl
                have hcz32_11 : wr.cell? ⟨gb113, 11, none⟩ = some (.slice A0_11 l0_11.length c0_11) := (blk_cell BK113.out 11).trans rfl
                have hfz32_0 := blk_frozen BK113.out 0
                have hfz32_1 := blk_frozen BK113.out 1
                have hfz32_2 := blk_frozen BK113.out 2
                have hfz32_3 := blk_frozen BK113.out 3
                have hfz32_4 := blk_frozen BK113.out 4
                have hfz32_5 := blk_frozen BK113.out 5
                have hfz32_6 := blk_frozen BK113.out 6
                have hfz32_7 := blk_frozen BK113.out 7
                have hfz32_8 := blk_frozen BK113.out 8
                have hfz32_9 := blk_frozen BK113.out 9
                have hfz32_10 := blk_frozen BK113.out 10
                have hfz32_11 := blk_frozen BK113.out 11
                have hcz33_0 : wr.cell? ⟨gb114, 0, none⟩ = some (.string a1_0) := (blk_cell BK114.out 0).trans rfl
                have hcz33_1 : wr.cell? ⟨gb114, 1, none⟩ = some (.string a1_1) := (blk_cell BK114.out 1).trans rfl
                have hcz33_2 : wr.cell? ⟨gb114, 2, none⟩ = some (.string a1_2) := (blk_cell BK114.out 2).trans rfl
                have hcz33_3 : wr.cell? ⟨gb114, 3, none⟩ = some (.string a1_3) := (blk_cell BK114.out 3).trans rfl
                have hcz33_4 : wr.cell? ⟨gb114, 4, none⟩ = some (.slice A1_4 l1_4.length c1_4) := (blk_cell BK114.out 4).trans rfl
                have hcz33_5 : wr.cell? ⟨gb114, 5, none⟩ = some (.slice A1_5 l1_5.length c1_5) := (blk_cell BK114.out 5).trans rfl
                have hcz33_6 : wr.cell? ⟨gb114, 6, none⟩ = some (.slice A1_6 l1_6.length c1_6) := (blk_cell BK114.out 6).trans rfl
                have hcz33_7 : wr.cell? ⟨gb114, 7, none⟩ = some (.slice A1_7 l1_7.length c1_7) := (blk_cell BK114.out 7).trans rfl
                have hcz33_8 : wr.cell? ⟨gb114, 8, none⟩ = some (.slice A1_8 l1_8.length c1_8) := (blk_cell BK114.out 8).trans rfl
                have hcz33_9 : wr.cell? ⟨gb114, 9, none⟩ = some (.slice A1_9 l1_9.length c1_9) := (blk_cell BK114.out 9).trans rfl
                have hcz33_10 : wr.cell? ⟨gb114, 10, none⟩ = some (.slice A1_10 l1_10.length c1_10) := (blk_cell BK114.out 10).trans rfl
                have hcz33_11 : wr.cell? ⟨gb114, 11, none⟩ = some (.slice A1_11 l1_11.length c1_11) := (blk_cell BK114.out 11).trans rfl
                have hfz33_0 := blk_frozen BK114.out 0
                have hfz33_1 := blk_frozen BK114.out 1
                have hfz33_2 := blk_frozen BK114.out 2
                have hfz33_3 := blk_frozen BK114.out 3
                have hfz33_4 := blk_frozen BK114.out 4
                have hfz33_5 := blk_frozen BK114.out 5
                have hfz33_6 := blk_frozen BK114.out 6
                have hfz33_7 := blk_frozen BK114.out 7
                have hfz33_8 := blk_frozen BK114.out 8
                have hfz33_9 := blk_frozen BK114.out 9
                have hfz33_10 := blk_frozen BK114.out 10
                have hfz33_11 := blk_frozen BK114.out 11
                go_wp2_with (first | ((with_reducible refine gate_callee (f := 33) rfl ?_); refine goesL_ (some 35) rfl rfl Tryd.func33 (by kernel_rfl) rfl #[.slice A0_11 l0_11.length c0_11, .slice A1_11 l1_11.length c1_11] rfl (by (try simp only [List.map_toArray, List.map_cons, List.map_nil]); first | done | rfl | (simp only [List.length_drop, List.length_take]; rfl)) ?_; (with_reducible refine (chandlerref05_SameTexts.calls k1 _ _ l0_11 _ _ l1_11 true _ ?side1 ?side2 ?side3 ?side4 A25.out).mono ?_); (case side1 => repeat (first | exact (Kd.C_below HR0_11.out HB.out) | (with_reducible refine Kd.C_alloc ?_ _) | (with_reducible refine Kd.C_drewN ?_ _) | (with_reducible refine Kd.C_drew ?_))); (case side2 => exact HC0_11.out); (case side3 => repeat (first | exact (Kd.C_below HR1_11.out HB.out) | (with_reducible refine Kd.C_alloc ?_ _) | (with_reducible refine Kd.C_drewN ?_ _) | (with_reducible refine Kd.C_drew ?_))); (case side4 => exact HC1_11.out); rintro e w' ⟨rfl, ⟨nd, rfl⟩⟩; refine ⟨_, rfl, ?_⟩))
                go_ret
                exact ⟨by first | rfl | (simp [errW_none, errW_some] <;> rfl) | (simp [*, errW_none, errW_some] <;> rfl), by repeat (first | (with_reducible first | exact HB.out | apply below_alloc | apply pw_below_drewN | apply below_drew1 | refine below_set ?_ GE113.out | refine below_set ?_ GE114.out) | exact HB.out)⟩
              · rw [if_neg c29] at H
                have c29b0 : (a0_2.toList == a1_2.toList) = false := beq_eq_false_iff_ne.mpr c29
                have c29b1 : (a0_2.toList != a1_2.toList) = true := bne_iff_ne.mpr c29
                obtain rfl := Option.some.inj H
                obtain ⟨Ao34, co34, eo34⟩ := Kd.N_slice HO_5.out
                subst eo34
                have hnb35 := NB113_114.out
                have hnc35 := NB114_113.out
                have hcz36_0 : wr.cell? ⟨gb113, 0, none⟩ = some (.string a0_0) := (blk_cell BK113.out 0).trans rfl
                have hcz36_1 : wr.cell? ⟨gb113, 1, none⟩ = some (.string a0_1) := (blk_cell BK113.out 1).trans rfl
                have hcz36_2 : wr.cell? ⟨gb113, 2, none⟩ = some (.string a0_2) := (blk_cell BK113.out 2).trans rfl
                have hcz36_3 : wr.cell? ⟨gb113, 3, none⟩ = some (.string a0_3) := (blk_cell BK113.out 3).trans rfl
                have hcz36_4 : wr.cell? ⟨gb113, 4, none⟩ = some (.slice A0_4 l0_4.length c0_4) := (blk_cell BK113.out 4).trans rfl
                have hcz36_5 : wr.cell? ⟨gb113, 5, none⟩ = some (.slice A0_5 l0_5.length c0_5) := (blk_cell BK113.out 5).trans rfl
                have hcz36_6 : wr.cell? ⟨gb113, 6, none⟩ = some (.slice A0_6 l0_6.length c0_6) := (blk_cell BK113.out 6).trans rfl
                have hcz36_7 : wr.cell? ⟨gb113, 7, none⟩ = some (.slice A0_7 l0_7.length c0_7) := (blk_cell BK113.out 7).trans rfl
                have hcz36_8 : wr.cell? ⟨gb113, 8, none⟩ = some (.slice A0_8 l0_8.length c0_8) := (blk_cell BK113.out 8).trans rfl
                have hcz36_9 : wr.cell? ⟨gb113, 9, none⟩ = some (.slice A0_9 l0_9.length c0_9) := (blk_cell BK113.out 9).trans rfl
                have hcz36_10 : wr.cell? ⟨gb113, 10, none⟩ = some (.slice A0_10 l0_10.length c0_10) := (blk_cell BK113.out 10).trans rfl
                have hcz36_11 : wr.cell? ⟨gb113, 11, none⟩ = some (.slice A0_11 l0_11.length c0_11) := (blk_cell BK113.out 11).trans rfl
                have hfz36_0 := blk_frozen BK113.out 0
                have hfz36_1 := blk_frozen BK113.out 1
                have hfz36_2 := blk_frozen BK113.out 2
                have hfz36_3 := blk_frozen BK113.out 3
                have hfz36_4 := blk_frozen BK113.out 4
                have hfz36_5 := blk_frozen BK113.out 5
                have hfz36_6 := blk_frozen BK113.out 6
                have hfz36_7 := blk_frozen BK113.out 7
                have hfz36_8 := blk_frozen BK113.out 8
                have hfz36_9 := blk_frozen BK113.out 9
                have hfz36_10 := blk_frozen BK113.out 10
                have hfz36_11 := blk_frozen BK113.out 11
                have hcz37_0 : wr.cell? ⟨gb114, 0, none⟩ = some (.string a1_0) := (blk_cell BK114.out 0).trans rfl
                have hcz37_1 : wr.cell? ⟨gb114, 1, none⟩ = some (.string a1_1) := (blk_cell BK114.out 1).trans rfl
                have hcz37_2 : wr.cell? ⟨gb114, 2, none⟩ = some (.string a1_2) := (blk_cell BK114.out 2).trans rfl
                have hcz37_3 : wr.cell? ⟨gb114, 3, none⟩ = some (.string a1_3) := (blk_cell BK114.out 3).trans rfl
                have hcz37_4 : wr.cell? ⟨gb114, 4, none⟩ = some (.slice A1_4 l1_4.length c1_4) := (blk_cell BK114.out 4).trans rfl
                have hcz37_5 : wr.cell? ⟨gb114, 5, none⟩ = some (.slice A1_5 l1_5.length c1_5) := (blk_cell BK114.out 5).trans rfl
                have hcz37_6 : wr.cell? ⟨gb114, 6, none⟩ = some (.slice A1_6 l1_6.length c1_6) := (blk_cell BK114.out 6).trans rfl
                have hcz37_7 : wr.cell? ⟨gb114, 7, none⟩ = some (.slice A1_7 l1_7.length c1_7) := (blk_cell BK114.out 7).trans rfl
                have hcz37_8 : wr.cell? ⟨gb114, 8, none⟩ = some (.slice A1_8 l1_8.length c1_8) := (blk_cell BK114.out 8).trans rfl
                have hcz37_9 : wr.cell? ⟨gb114, 9, none⟩ = some (.slice A1_9 l1_9.length c1_9) := (blk_cell BK114.out 9).trans rfl
                have hcz37_10 : wr.cell? ⟨gb114, 10, none⟩ = some (.slice A1_10 l1_10.length c1_10) := (blk_cell BK114.out 10).trans rfl
                have hcz37_11 : wr.cell? ⟨gb114, 11, none⟩ = some (.slice A1_11 l1_11.length c1_11) := (blk_cell BK114.out 11).trans rfl
                have hfz37_0 := blk_frozen BK114.out 0
                have hfz37_1 := blk_frozen BK114.out 1
                have hfz37_2 := blk_frozen BK114.out 2
                have hfz37_3 := blk_frozen BK114.out 3
                have hfz37_4 := blk_frozen BK114.out 4
                have hfz37_5 := blk_frozen BK114.out 5
                have hfz37_6 := blk_frozen BK114.out 6
                have hfz37_7 := blk_frozen BK114.out 7
                have hfz37_8 := blk_frozen BK114.out 8
                have hfz37_9 := blk_frozen BK114.out 9
                have hfz37_10 := blk_frozen BK114.out 10
                have hfz37_11 := blk_frozen BK114.out 11
                go_wp2_with (first | ((with_reducible refine gate_callee (f := 33) rfl ?_); refine goesL_ (some 35) rfl rfl Tryd.func33 (by kernel_rfl) rfl #[.slice A0_11 l0_11.length c0_11, .slice A1_11 l1_11.length c1_11] rfl (by (try simp only [List.map_toArray, List.map_cons, List.map_nil]); first | done | rfl | (simp only [List.length_drop, List.length_take]; rfl)) ?_; (with_reducible refine (chandlerref05_SameTexts.calls k1 _ _ l0_11 _ _ l1_11 true _ ?side1 ?side2 ?side3 ?side4 A25.out).mono ?_); (case side1 => repeat (first | exact (Kd.C_below HR0_11.out HB.out) | (with_reducible refine Kd.C_alloc ?_ _) | (with_reducible refine Kd.C_drewN ?_ _) | (with_reducible refine Kd.C_drew ?_))); (case side2 => exact HC0_11.out); (case side3 => repeat (first | exact (Kd.C_below HR1_11.out HB.out) | (with_reducible refine Kd.C_alloc ?_ _) | (with_reducible refine Kd.C_drewN ?_ _) | (with_reducible refine Kd.C_drew ?_))); (case side4 => exact HC1_11.out); rintro e w' ⟨rfl, ⟨nd, rfl⟩⟩; refine ⟨_, rfl, ?_⟩))
                go_ret
                exact ⟨by first | rfl | (simp [errW_none, errW_some] <;> rfl) | (simp [*, errW_none, errW_some] <;> rfl), by repeat (first | (with_reducible first | exact HB.out | apply below_alloc | apply pw_below_drewN | apply below_drew1 | refine below_set ?_ GE113.out | refine below_set ?_ GE114.out) | exact HB.out)⟩
            · rw [if_neg c28] at H
              have c28b0 : (a0_1.toList == a1_1.toList) = false := beq_eq_false_iff_ne.mpr c28
              have c28b1 : (a0_1.toList != a1_1.toList) = true := bne_iff_ne.mpr c28
              obtain rfl := Option.some.inj H
              obtain ⟨Ao38, co38, eo38⟩ := Kd.N_slice HO_5.out
              subst eo38
              have hnb39 := NB113_114.out
              have hnc39 := NB114_113.out
              have hcz40_0 : wr.cell? ⟨gb113, 0, none⟩ = some (.string a0_0) := (blk_cell BK113.out 0).trans rfl
              have hcz40_1 : wr.cell? ⟨gb113, 1, none⟩ = some (.string a0_1) := (blk_cell BK113.out 1).trans rfl
              have hcz40_2 : wr.cell? ⟨gb113, 2, none⟩ = some (.string a0_2) := (blk_cell BK113.out 2).trans rfl
              have hcz40_3 : wr.cell? ⟨gb113, 3, none⟩ = some (.string a0_3) := (blk_cell BK113.out 3).trans rfl
              have hcz40_4 : wr.cell? ⟨gb113, 4, none⟩ = some (.slice A0_4 l0_4.length c0_4) := (blk_cell BK113.out 4).trans rfl
              have hcz40_5 : wr.cell? ⟨gb113, 5, none⟩ = some (.slice A0_5 l0_5.length c0_5) := (blk_cell BK113.out 5).trans rfl
              have hcz40_6 : wr.cell? ⟨gb113, 6, none⟩ = some (.slice A0_6 l0_6.length c0_6) := (blk_cell BK113.out 6).trans rfl
              have hcz40_7 : wr.cell? ⟨gb113, 7, none⟩ = some (.slice A0_7 l0_7.length c0_7) := (blk_cell BK113.out 7).trans rfl
              have hcz40_8 : wr.cell? ⟨gb113, 8, none⟩ = some (.slice A0_8 l0_8.length c0_8) := (blk_cell BK113.out 8).trans rfl
              have hcz40_9 : wr.cell? ⟨gb113, 9, none⟩ = some (.slice A0_9 l0_9.length c0_9) := (blk_cell BK113.out 9).trans rfl
              have hcz40_10 : wr.cell? ⟨gb113, 10, none⟩ = some (.slice A0_10 l0_10.length c0_10) := (blk_cell BK113.out 10).trans rfl
              have hcz40_11 : wr.cell? ⟨gb113, 11, none⟩ = some (.slice A0_11 l0_11.length c0_11) := (blk_cell BK113.out 11).trans rfl
              have hfz40_0 := blk_frozen BK113.out 0
              have hfz40_1 := blk_frozen BK113.out 1
              have hfz40_2 := blk_frozen BK113.out 2
              have hfz40_3 := blk_frozen BK113.out 3
              have hfz40_4 := blk_frozen BK113.out 4
              have hfz40_5 := blk_frozen BK113.out 5
              have hfz40_6 := blk_frozen BK113.out 6
              have hfz40_7 := blk_frozen BK113.out 7
              have hfz40_8 := blk_frozen BK113.out 8
              have hfz40_9 := blk_frozen BK113.out 9
              have hfz40_10 := blk_frozen BK113.out 10
              have hfz40_11 := blk_frozen BK113.out 11
              have hcz41_0 : wr.cell? ⟨gb114, 0, none⟩ = some (.string a1_0) := (blk_cell BK114.out 0).trans rfl
              have hcz41_1 : wr.cell? ⟨gb114, 1, none⟩ = some (.string a1_1) := (blk_cell BK114.out 1).trans rfl
              have hcz41_2 : wr.cell? ⟨gb114, 2, none⟩ = some (.string a1_2) := (blk_cell BK114.out 2).trans rfl
              have hcz41_3 : wr.cell? ⟨gb114, 3, none⟩ = some (.string a1_3) := (blk_cell BK114.out 3).trans rfl
              have hcz41_4 : wr.cell? ⟨gb114, 4, none⟩ = some (.slice A1_4 l1_4.length c1_4) := (blk_cell BK114.out 4).trans rfl
              have hcz41_5 : wr.cell? ⟨gb114, 5, none⟩ = some (.slice A1_5 l1_5.length c1_5) := (blk_cell BK114.out 5).trans rfl
              have hcz41_6 : wr.cell? ⟨gb114, 6, none⟩ = some (.slice A1_6 l1_6.length c1_6) := (blk_cell BK114.out 6).trans rfl
              have hcz41_7 : wr.cell? ⟨gb114, 7, none⟩ = some (.slice A1_7 l1_7.length c1_7) := (blk_cell BK114.out 7).trans rfl
              have hcz41_8 : wr.cell? ⟨gb114, 8, none⟩ = some (.slice A1_8 l1_8.length c1_8) := (blk_cell BK114.out 8).trans rfl
              have hcz41_9 : wr.cell? ⟨gb114, 9, none⟩ = some (.slice A1_9 l1_9.length c1_9) := (blk_cell BK114.out 9).trans rfl
              have hcz41_10 : wr.cell? ⟨gb114, 10, none⟩ = some (.slice A1_10 l1_10.length c1_10) := (blk_cell BK114.out 10).trans rfl
              have hcz41_11 : wr.cell? ⟨gb114, 11, none⟩ = some (.slice A1_11 l1_11.length c1_11) := (blk_cell BK114.out 11).trans rfl
              have hfz41_0 := blk_frozen BK114.out 0
              have hfz41_1 := blk_frozen BK114.out 1
              have hfz41_2 := blk_frozen BK114.out 2
              have hfz41_3 := blk_frozen BK114.out 3
              have hfz41_4 := blk_frozen BK114.out 4
              have hfz41_5 := blk_frozen BK114.out 5
              have hfz41_6 := blk_frozen BK114.out 6
              have hfz41_7 := blk_frozen BK114.out 7
              have hfz41_8 := blk_frozen BK114.out 8
              have hfz41_9 := blk_frozen BK114.out 9
              have hfz41_10 := blk_frozen BK114.out 10
              have hfz41_11 := blk_frozen BK114.out 11
              go_wp2_with (first | ((with_reducible refine gate_callee (f := 33) rfl ?_); refine goesL_ (some 35) rfl rfl Tryd.func33 (by kernel_rfl) rfl #[.slice A0_11 l0_11.length c0_11, .slice A1_11 l1_11.length c1_11] rfl (by (try simp only [List.map_toArray, List.map_cons, List.map_nil]); first | done | rfl | (simp only [List.length_drop, List.length_take]; rfl)) ?_; (with_reducible refine (chandlerref05_SameTexts.calls k1 _ _ l0_11 _ _ l1_11 true _ ?side1 ?side2 ?side3 ?side4 A25.out).mono ?_); (case side1 => repeat (first | exact (Kd.C_below HR0_11.out HB.out) | (with_reducible refine Kd.C_alloc ?_ _) | (with_reducible refine Kd.C_drewN ?_ _) | (with_reducible refine Kd.C_drew ?_))); (case side2 => exact HC0_11.out); (case side3 => repeat (first | exact (Kd.C_below HR1_11.out HB.out) | (with_reducible refine Kd.C_alloc ?_ _) | (with_reducible refine Kd.C_drewN ?_ _) | (with_reducible refine Kd.C_drew ?_))); (case side4 => exact HC1_11.out); rintro e w' ⟨rfl, ⟨nd, rfl⟩⟩; refine ⟨_, rfl, ?_⟩))
              go_ret
              exact ⟨by first | rfl | (simp [errW_none, errW_some] <;> rfl) | (simp [*, errW_none, errW_some] <;> rfl), by repeat (first | (with_reducible first | exact HB.out | apply below_alloc | apply pw_below_drewN | apply below_drew1 | refine below_set ?_ GE113.out | refine below_set ?_ GE114.out) | exact HB.out)⟩
          · rw [if_neg c27] at H
            have c27b0 : (a0_0.toList == a1_0.toList) = false := beq_eq_false_iff_ne.mpr c27
            have c27b1 : (a0_0.toList != a1_0.toList) = true := bne_iff_ne.mpr c27
            obtain rfl := Option.some.inj H
            obtain ⟨Ao42, co42, eo42⟩ := Kd.N_slice HO_5.out
            subst eo42
            have hnb43 := NB113_114.out
            have hnc43 := NB114_113.out
            have hcz44_0 : wr.cell? ⟨gb113, 0, none⟩ = some (.string a0_0) := (blk_cell BK113.out 0).trans rfl
            have hcz44_1 : wr.cell? ⟨gb113, 1, none⟩ = some (.string a0_1) := (blk_cell BK113.out 1).trans rfl
            have hcz44_2 : wr.cell? ⟨gb113, 2, none⟩ = some (.string a0_2) := (blk_cell BK113.out 2).trans rfl
            have hcz44_3 : wr.cell? ⟨gb113, 3, none⟩ = some (.string a0_3) := (blk_cell BK113.out 3).trans rfl
            have hcz44_4 : wr.cell? ⟨gb113, 4, none⟩ = some (.slice A0_4 l0_4.length c0_4) := (blk_cell BK113.out 4).trans rfl
            have hcz44_5 : wr.cell? ⟨gb113, 5, none⟩ = some (.slice A0_5 l0_5.length c0_5) := (blk_cell BK113.out 5).trans rfl
            have hcz44_6 : wr.cell? ⟨gb113, 6, none⟩ = some (.slice A0_6 l0_6.length c0_6) := (blk_cell BK113.out 6).trans rfl
            have hcz44_7 : wr.cell? ⟨gb113, 7, none⟩ = some (.slice A0_7 l0_7.length c0_7) := (blk_cell BK113.out 7).trans rfl
            have hcz44_8 : wr.cell? ⟨gb113, 8, none⟩ = some (.slice A0_8 l0_8.length c0_8) := (blk_cell BK113.out 8).trans rfl
            have hcz44_9 : wr.cell? ⟨gb113, 9, none⟩ = some (.slice A0_9 l0_9.length c0_9) := (blk_cell BK113.out 9).trans rfl
            have hcz44_10 : wr.cell? ⟨gb113, 10, none⟩ = some (.slice A0_10 l0_10.length c0_10) := (blk_cell BK113.out 10).trans rfl
            have hcz44_11 : wr.cell? ⟨gb113, 11, none⟩ = some (.slice A0_11 l0_11.length c0_11) := (blk_cell BK113.out 11).trans rfl
            have hfz44_0 := blk_frozen BK113.out 0
            have hfz44_1 := blk_frozen BK113.out 1
            have hfz44_2 := blk_frozen BK113.out 2
            have hfz44_3 := blk_frozen BK113.out 3
            have hfz44_4 := blk_frozen BK113.out 4
            have hfz44_5 := blk_frozen BK113.out 5
            have hfz44_6 := blk_frozen BK113.out 6
            have hfz44_7 := blk_frozen BK113.out 7
            have hfz44_8 := blk_frozen BK113.out 8
            have hfz44_9 := blk_frozen BK113.out 9
            have hfz44_10 := blk_frozen BK113.out 10
            have hfz44_11 := blk_frozen BK113.out 11
            have hcz45_0 : wr.cell? ⟨gb114, 0, none⟩ = some (.string a1_0) := (blk_cell BK114.out 0).trans rfl
            have hcz45_1 : wr.cell? ⟨gb114, 1, none⟩ = some (.string a1_1) := (blk_cell BK114.out 1).trans rfl
            have hcz45_2 : wr.cell? ⟨gb114, 2, none⟩ = some (.string a1_2) := (blk_cell BK114.out 2).trans rfl
            have hcz45_3 : wr.cell? ⟨gb114, 3, none⟩ = some (.string a1_3) := (blk_cell BK114.out 3).trans rfl
            have hcz45_4 : wr.cell? ⟨gb114, 4, none⟩ = some (.slice A1_4 l1_4.length c1_4) := (blk_cell BK114.out 4).trans rfl
            have hcz45_5 : wr.cell? ⟨gb114, 5, none⟩ = some (.slice A1_5 l1_5.length c1_5) := (blk_cell BK114.out 5).trans rfl
            have hcz45_6 : wr.cell? ⟨gb114, 6, none⟩ = some (.slice A1_6 l1_6.length c1_6) := (blk_cell BK114.out 6).trans rfl
            have hcz45_7 : wr.cell? ⟨gb114, 7, none⟩ = some (.slice A1_7 l1_7.length c1_7) := (blk_cell BK114.out 7).trans rfl
            have hcz45_8 : wr.cell? ⟨gb114, 8, none⟩ = some (.slice A1_8 l1_8.length c1_8) := (blk_cell BK114.out 8).trans rfl
            have hcz45_9 : wr.cell? ⟨gb114, 9, none⟩ = some (.slice A1_9 l1_9.length c1_9) := (blk_cell BK114.out 9).trans rfl
            have hcz45_10 : wr.cell? ⟨gb114, 10, none⟩ = some (.slice A1_10 l1_10.length c1_10) := (blk_cell BK114.out 10).trans rfl
            have hcz45_11 : wr.cell? ⟨gb114, 11, none⟩ = some (.slice A1_11 l1_11.length c1_11) := (blk_cell BK114.out 11).trans rfl
            have hfz45_0 := blk_frozen BK114.out 0
            have hfz45_1 := blk_frozen BK114.out 1
            have hfz45_2 := blk_frozen BK114.out 2
            have hfz45_3 := blk_frozen BK114.out 3
            have hfz45_4 := blk_frozen BK114.out 4
            have hfz45_5 := blk_frozen BK114.out 5
            have hfz45_6 := blk_frozen BK114.out 6
            have hfz45_7 := blk_frozen BK114.out 7
            have hfz45_8 := blk_frozen BK114.out 8
            have hfz45_9 := blk_frozen BK114.out 9
            have hfz45_10 := blk_frozen BK114.out 10
            have hfz45_11 := blk_frozen BK114.out 11
            go_wp2_with (first | ((with_reducible refine gate_callee (f := 33) rfl ?_); refine goesL_ (some 35) rfl rfl Tryd.func33 (by kernel_rfl) rfl #[.slice A0_11 l0_11.length c0_11, .slice A1_11 l1_11.length c1_11] rfl (by (try simp only [List.map_toArray, List.map_cons, List.map_nil]); first | done | rfl | (simp only [List.length_drop, List.length_take]; rfl)) ?_; (with_reducible refine (chandlerref05_SameTexts.calls k1 _ _ l0_11 _ _ l1_11 true _ ?side1 ?side2 ?side3 ?side4 A25.out).mono ?_); (case side1 => repeat (first | exact (Kd.C_below HR0_11.out HB.out) | (with_reducible refine Kd.C_alloc ?_ _) | (with_reducible refine Kd.C_drewN ?_ _) | (with_reducible refine Kd.C_drew ?_))); (case side2 => exact HC0_11.out); (case side3 => repeat (first | exact (Kd.C_below HR1_11.out HB.out) | (with_reducible refine Kd.C_alloc ?_ _) | (with_reducible refine Kd.C_drewN ?_ _) | (with_reducible refine Kd.C_drew ?_))); (case side4 => exact HC1_11.out); rintro e w' ⟨rfl, ⟨nd, rfl⟩⟩; refine ⟨_, rfl, ?_⟩))
            go_ret
            exact ⟨by first | rfl | (simp [errW_none, errW_some] <;> rfl) | (simp [*, errW_none, errW_some] <;> rfl), by repeat (first | (with_reducible first | exact HB.out | apply below_alloc | apply pw_below_drewN | apply below_drew1 | refine below_set ?_ GE113.out | refine below_set ?_ GE114.out) | exact HB.out)⟩
        · replace c26 := Bool.eq_false_iff.mpr c26
          subst c26
          have H1 : (some false) = some r := by rw [if_neg (show ¬ (false = true) by decide)] at H; exact H
          clear H
          have H := H1
          clear H1
          obtain rfl := Option.some.inj H
          obtain ⟨Ao46, co46, eo46⟩ := Kd.N_slice HO_5.out
          subst eo46
          have hnb47 := NB113_114.out
          have hnc47 := NB114_113.out
          have hcz48_0 : wr.cell? ⟨gb113, 0, none⟩ = some (.string a0_0) := (blk_cell BK113.out 0).trans rfl
          have hcz48_1 : wr.cell? ⟨gb113, 1, none⟩ = some (.string a0_1) := (blk_cell BK113.out 1).trans rfl
          have hcz48_2 : wr.cell? ⟨gb113, 2, none⟩ = some (.string a0_2) := (blk_cell BK113.out 2).trans rfl
          have hcz48_3 : wr.cell? ⟨gb113, 3, none⟩ = some (.string a0_3) := (blk_cell BK113.out 3).trans rfl
          have hcz48_4 : wr.cell? ⟨gb113, 4, none⟩ = some (.slice A0_4 l0_4.length c0_4) := (blk_cell BK113.out 4).trans rfl
          have hcz48_5 : wr.cell? ⟨gb113, 5, none⟩ = some (.slice A0_5 l0_5.length c0_5) := (blk_cell BK113.out 5).trans rfl
          have hcz48_6 : wr.cell? ⟨gb113, 6, none⟩ = some (.slice A0_6 l0_6.length c0_6) := (blk_cell BK113.out 6).trans rfl
          have hcz48_7 : wr.cell? ⟨gb113, 7, none⟩ = some (.slice A0_7 l0_7.length c0_7) := (blk_cell BK113.out 7).trans rfl
          have hcz48_8 : wr.cell? ⟨gb113, 8, none⟩ = some (.slice A0_8 l0_8.length c0_8) := (blk_cell BK113.out 8).trans rfl
          have hcz48_9 : wr.cell? ⟨gb113, 9, none⟩ = some (.slice A0_9 l0_9.length c0_9) := (blk_cell BK113.out 9).trans rfl
          have hcz48_10 : wr.cell? ⟨gb113, 10, none⟩ = some (.slice A0_10 l0_10.length c0_10) := (blk_cell BK113.out 10).trans rfl
          have hcz48_11 : wr.cell? ⟨gb113, 11, none⟩ = some (.slice A0_11 l0_11.length c0_11) := (blk_cell BK113.out 11).trans rfl
          have hfz48_0 := blk_frozen BK113.out 0
          have hfz48_1 := blk_frozen BK113.out 1
          have hfz48_2 := blk_frozen BK113.out 2
          have hfz48_3 := blk_frozen BK113.out 3
          have hfz48_4 := blk_frozen BK113.out 4
          have hfz48_5 := blk_frozen BK113.out 5
          have hfz48_6 := blk_frozen BK113.out 6
          have hfz48_7 := blk_frozen BK113.out 7
          have hfz48_8 := blk_frozen BK113.out 8
          have hfz48_9 := blk_frozen BK113.out 9
          have hfz48_10 := blk_frozen BK113.out 10
          have hfz48_11 := blk_frozen BK113.out 11
          have hcz49_0 : wr.cell? ⟨gb114, 0, none⟩ = some (.string a1_0) := (blk_cell BK114.out 0).trans rfl
          have hcz49_1 : wr.cell? ⟨gb114, 1, none⟩ = some (.string a1_1) := (blk_cell BK114.out 1).trans rfl
          have hcz49_2 : wr.cell? ⟨gb114, 2, none⟩ = some (.string a1_2) := (blk_cell BK114.out 2).trans rfl
          have hcz49_3 : wr.cell? ⟨gb114, 3, none⟩ = some (.string a1_3) := (blk_cell BK114.out 3).trans rfl
          have hcz49_4 : wr.cell? ⟨gb114, 4, none⟩ = some (.slice A1_4 l1_4.length c1_4) := (blk_cell BK114.out 4).trans rfl
          have hcz49_5 : wr.cell? ⟨gb114, 5, none⟩ = some (.slice A1_5 l1_5.length c1_5) := (blk_cell BK114.out 5).trans rfl
          have hcz49_6 : wr.cell? ⟨gb114, 6, none⟩ = some (.slice A1_6 l1_6.length c1_6) := (blk_cell BK114.out 6).trans rfl
          have hcz49_7 : wr.cell? ⟨gb114, 7, none⟩ = some (.slice A1_7 l1_7.length c1_7) := (blk_cell BK114.out 7).trans rfl
          have hcz49_8 : wr.cell? ⟨gb114, 8, none⟩ = some (.slice A1_8 l1_8.length c1_8) := (blk_cell BK114.out 8).trans rfl
          have hcz49_9 : wr.cell? ⟨gb114, 9, none⟩ = some (.slice A1_9 l1_9.length c1_9) := (blk_cell BK114.out 9).trans rfl
          have hcz49_10 : wr.cell? ⟨gb114, 10, none⟩ = some (.slice A1_10 l1_10.length c1_10) := (blk_cell BK114.out 10).trans rfl
          have hcz49_11 : wr.cell? ⟨gb114, 11, none⟩ = some (.slice A1_11 l1_11.length c1_11) := (blk_cell BK114.out 11).trans rfl
          have hfz49_0 := blk_frozen BK114.out 0
          have hfz49_1 := blk_frozen BK114.out 1
          have hfz49_2 := blk_frozen BK114.out 2
          have hfz49_3 := blk_frozen BK114.out 3
          have hfz49_4 := blk_frozen BK114.out 4
          have hfz49_5 := blk_frozen BK114.out 5
          have hfz49_6 := blk_frozen BK114.out 6
          have hfz49_7 := blk_frozen BK114.out 7
          have hfz49_8 := blk_frozen BK114.out 8
          have hfz49_9 := blk_frozen BK114.out 9
          have hfz49_10 := blk_frozen BK114.out 10
          have hfz49_11 := blk_frozen BK114.out 11
          go_wp2_with (first | ((with_reducible refine gate_callee (f := 33) rfl ?_); refine goesL_ (some 35) rfl rfl Tryd.func33 (by kernel_rfl) rfl #[.slice A0_11 l0_11.length c0_11, .slice A1_11 l1_11.length c1_11] rfl (by (try simp only [List.map_toArray, List.map_cons, List.map_nil]); first | done | rfl | (simp only [List.length_drop, List.length_take]; rfl)) ?_; (with_reducible refine (chandlerref05_SameTexts.calls k1 _ _ l0_11 _ _ l1_11 false _ ?side1 ?side2 ?side3 ?side4 A25.out).mono ?_); (case side1 => repeat (first | exact (Kd.C_below HR0_11.out HB.out) | (with_reducible refine Kd.C_alloc ?_ _) | (with_reducible refine Kd.C_drewN ?_ _) | (with_reducible refine Kd.C_drew ?_))); (case side2 => exact HC0_11.out); (case side3 => repeat (first | exact (Kd.C_below HR1_11.out HB.out) | (with_reducible refine Kd.C_alloc ?_ _) | (with_reducible refine Kd.C_drewN ?_ _) | (with_reducible refine Kd.C_drew ?_))); (case side4 => exact HC1_11.out); rintro e w' ⟨rfl, ⟨nd, rfl⟩⟩; refine ⟨_, rfl, ?_⟩))
          go_ret
          exact ⟨by first | rfl | (simp [errW_none, errW_some] <;> rfl) | (simp [*, errW_none, errW_some] <;> rfl), by repeat (first | (with_reducible first | exact HB.out | apply below_alloc | apply pw_below_drewN | apply below_drew1 | refine below_set ?_ GE113.out | refine below_set ?_ GE114.out) | exact HB.out)⟩

end Go.Proofs.YtmclfdonoldlpaaDoor.POwn
