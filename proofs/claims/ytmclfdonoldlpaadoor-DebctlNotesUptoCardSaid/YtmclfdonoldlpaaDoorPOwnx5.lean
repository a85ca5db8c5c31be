-- The kit's print of functions of this seat (print.py), for this claim: Lean checks it.
import Derived.Test.YtmclfdonoldlpaaDoorPOwnx0
import Derived.Test.YtmclfdonoldlpaaDoorPOwnx4
namespace Go.Proofs.YtmclfdonoldlpaaDoor.POwn
open Go.RowKit Go.Proofs.YtmclfdonoldlpaaDoorW.PrintWords Go.Proofs.YtmclfdonoldlpaaDoorW.PrintLast Go.Proofs.YtmclfdonoldlpaaDoorW.PrintMore
attribute [local go_sem] max2_int min2_int max_two min_two max_three min_three max_four min_four   -- for this text's walks alone
set_option linter.unusedVariables false
set_option linter.unusedSimpArgs false

def chandlerref11_Same.l0 : Nat → List (S34) → List (S34) → Int → Option (Bool)
  | 0, _, _, _ => none
  | k + 1, x0, x1, x5 => if x5 < (x0.length : Int) then (if 0 ≤ x5 then (if x5 < (x1.length : Int) then ((chandlerref06_SamePackage.f k ((rd_T34 x0 x5).f0) ((rd_T34 x0 x5).f1) ((rd_T34 x0 x5).f2) ((rd_T34 x0 x5).f3) ((rd_T34 x0 x5).f4) ((rd_T34 x0 x5).f5) ((rd_T34 x0 x5).f6) ((rd_T34 x0 x5).f7) ((rd_T34 x0 x5).f8) ((rd_T34 x0 x5).f9) ((rd_T34 x0 x5).f10) ((rd_T34 x0 x5).f11) ((rd_T34 x1 x5).f0) ((rd_T34 x1 x5).f1) ((rd_T34 x1 x5).f2) ((rd_T34 x1 x5).f3) ((rd_T34 x1 x5).f4) ((rd_T34 x1 x5).f5) ((rd_T34 x1 x5).f6) ((rd_T34 x1 x5).f7) ((rd_T34 x1 x5).f8) ((rd_T34 x1 x5).f9) ((rd_T34 x1 x5).f10) ((rd_T34 x1 x5).f11)).bind fun t127 => (if t127 = true then (chandlerref11_Same.l0 k x0 x1 (wrap64 (x5 + 1))) else (some false))) else (none)) else (none)) else (some true)
def chandlerref11_Same.f (k : Nat) (l0 : List (S34)) (l1 : List (S34)) : Option (Bool) := if (l0.length : Int) = (l1.length : Int) then (chandlerref11_Same.l0 k l0 l1 0) else (some false)
def chandlerref11_Same.T6 : Bool × List (List Nat × List Nat) := (true, [([], []), ([], []), ([0, 1], [0, 1]), ([2], [2]), ([], []), ([], []), ([4, 5], [4, 5]), ([6], [6]), ([3, 7], [3, 7]), ([8, 8, 0, 1, 2, 3, 4, 5, 6, 7, 8], [8])])
def chandlerref11_Same.B6 : List Nat := [0, 0, 3, 7, 0, 0, 48, 112, 255, 511]
theorem chandlerref11_Same.tab6 : rtab .any (opsOf Tryd.f8 6) = chandlerref11_Same.T6 := by kernel_rfl
theorem chandlerref11_Same.bits6 : waitsOk chandlerref11_Same.T6.2 chandlerref11_Same.B6 = true := by kernel_rfl
set_option maxHeartbeats 8000000 in
set_option maxRecDepth 100000 in
theorem chandlerref11_Same.calls (k : Nat) (A0 : Option Addr) (c0 : Nat) (l0 : List (S34)) (A1 : Option Addr) (c1 : Nat) (l1 : List (S34)) (r : Bool) (w : World) (hr0 : Kd.C k34 w A0 l0.length l0) (hc0 : l0.length ≤ c0) (hr1 : Kd.C k34 w A1 l1.length l1) (hc1 : l1.length ≤ c1) (h : chandlerref11_Same.f k l0 l1 = some r) :
    Calls Tryd.prog 8 #[.slice A0 l0.length c0, .slice A1 l1.length c1] w fun e w' => e = .returned (.bool r) ∧ Below w.heap.size w w' := by
  have hu34 := Tryd.underlying34
  have HR0 := Aside0.mk hr0
  have HC0 := Aside0.mk hc0
  clear hr0 hc0
  have HR1 := Aside0.mk hr1
  have HC1 := Aside0.mk hc1
  clear hr1 hc1
  have HB := Aside0.mk (Below.refl w.heap.size w)
  have H : (if (l0.length : Int) = (l1.length : Int) then (chandlerref11_Same.l0 k l0 l1 0) else (some false)) = some r := h
  clear h
  by_cases c3 : (l0.length : Int) = (l1.length : Int)
  · rw [if_pos c3] at H
    have c3b0 : ((l0.length : Int) == (l1.length : Int)) = true := beq_iff_eq.mpr c3
    have c3b1 : ((l0.length : Int) != (l1.length : Int)) = false := bne_eq_false_iff_eq.mpr c3
    have c3b2 : (l0.length == l1.length) = true := by first | simpa using c3 | (simp at c3 ⊢; omega)
    clear c3
    have H' := Aside0.mk H
    clear H
    go_enter Tryd.func8, Tryd.ntmps8
    go_wp2
    go_loopg [5] k (fun kq v5 w' => ∃ (x5_1 : Int), v5 = .int .i64 x5_1 ∧ Aside0 (chandlerref11_Same.l0 kq l0 l1 x5_1 = some r) ∧ Aside0 (kq ≤ k) ∧ Aside0 (Below w.heap.size w w'))
    case atStart => exact ⟨(0), (by first | rfl | (simp; done) | (simp [*]; done)), H', ⟨Nat.le_refl _⟩, ⟨by repeat (first | (with_reducible first | exact HB.out | apply below_alloc | apply pw_below_drewN | apply below_drew1) | exact HB.out)⟩⟩
    case round =>
      clear H'
      try clear c1
      try clear p2
      try clear c3
      try clear c3b0
      try clear c3b1
      try clear c3b2
      obtain ⟨x5_1, rfl, HA, HK1, HB⟩ := hrel
      cases gk with
      | zero => exact absurd HA.out (by simp [chandlerref11_Same.l0])
      | succ k1 =>
        have H := HA.out
        clear HA
        simp only [chandlerref11_Same.l0] at H
        by_cases c4 : x5_1 < (l0.length : Int)
        · rw [if_pos c4] at H
          have c4b0 : decide (x5_1 < (l0.length : Int)) = true := decide_eq_true c4
          clear c4
          by_cases c5 : 0 ≤ x5_1
          · rw [if_pos c5] at H
            have c5b0 : decide (0 ≤ x5_1) = true := decide_eq_true c5
            clear c5
            by_cases c6 : x5_1 < (l1.length : Int)
            · rw [if_pos c6] at H
              have c6b0 : decide (x5_1 < (l1.length : Int)) = true := decide_eq_true c6
              clear c6
              replace H := Option.bind_eq_some_iff.mp H
              obtain ⟨t127, A70, H⟩ := H
              replace H : (if t127 = true then (chandlerref11_Same.l0 k1 l0 l1 (wrap64 (x5_1 + 1))) else (some false)) = some r := H
              have A7 := Aside0.mk A70
              clear A70
              by_cases c8 : t127 = true
              · subst c8
                have H1 : (chandlerref11_Same.l0 k1 l0 l1 (wrap64 (x5_1 + 1))) = some r := by rw [if_pos rfl] at H; exact H
                clear H
                have H := H1
                clear H1
                have H' := Aside0.mk H
                clear H
                try go_wp2
                have n0_ := Aside0.mk (below_drew1 HB.out)
                clear HB
                have HB := n0_
                clear n0_
                have p125 : 0 ≤ (x5_1 : Int) := of_decide_eq_true (by first | (with_reducible assumption) | assumption)
                have q125 : x5_1 < (l0.length : Int) := of_decide_eq_true (by first | (with_reducible assumption) | assumption)
                obtain ⟨ad125, A125_4, c125_4, A125_5, c125_5, A125_6, c125_6, A125_7, c125_7, A125_8, c125_8, A125_9, c125_9, A125_10, c125_10, A125_11, c125_11, e125, hx125_0, hx125_1, hx125_2, hx125_3, hx125_4, hx125_5, hx125_6, hx125_7, hx125_8, hx125_9, hx125_10, hx125_11, hl125_4, hi125_4, hl125_5, hi125_5, hl125_6, hi125_6, hl125_7, hi125_7, hl125_8, hi125_8, hl125_9, hi125_9, hl125_10, hi125_10, hl125_11, hi125_11⟩ := at_T34 HR0.out x5_1 p125 q125
                have hw125_11 := hx125_11
                have hw125_10 := hx125_10
                have hw125_9 := hx125_9
                have hw125_8 := hx125_8
                have hw125_7 := hx125_7
                have hw125_6 := hx125_6
                have hw125_5 := hx125_5
                have hw125_4 := hx125_4
                have hw125_3 := hx125_3
                have hw125_2 := hx125_2
                have hw125_1 := hx125_1
                have hw125_0 := hx125_0
                cases e125
                replace hx125_0 := (HB.out.cell (World.block_lt_of_cell? w _ hx125_0)).trans hx125_0
                replace hx125_1 := (HB.out.cell (World.block_lt_of_cell? w _ hx125_1)).trans hx125_1
                replace hx125_2 := (HB.out.cell (World.block_lt_of_cell? w _ hx125_2)).trans hx125_2
                replace hx125_3 := (HB.out.cell (World.block_lt_of_cell? w _ hx125_3)).trans hx125_3
                replace hx125_4 := (HB.out.cell (World.block_lt_of_cell? w _ hx125_4)).trans hx125_4
                replace hx125_5 := (HB.out.cell (World.block_lt_of_cell? w _ hx125_5)).trans hx125_5
                replace hx125_6 := (HB.out.cell (World.block_lt_of_cell? w _ hx125_6)).trans hx125_6
                replace hx125_7 := (HB.out.cell (World.block_lt_of_cell? w _ hx125_7)).trans hx125_7
                replace hx125_8 := (HB.out.cell (World.block_lt_of_cell? w _ hx125_8)).trans hx125_8
                replace hx125_9 := (HB.out.cell (World.block_lt_of_cell? w _ hx125_9)).trans hx125_9
                replace hx125_10 := (HB.out.cell (World.block_lt_of_cell? w _ hx125_10)).trans hx125_10
                replace hx125_11 := (HB.out.cell (World.block_lt_of_cell? w _ hx125_11)).trans hx125_11
                have HR125_4 := Aside0.mk hi125_4
                have HC125_4 := Aside0.mk hl125_4
                clear hi125_4 hl125_4
                have HR125_5 := Aside0.mk hi125_5
                have HC125_5 := Aside0.mk hl125_5
                clear hi125_5 hl125_5
                have HR125_6 := Aside0.mk hi125_6
                have HC125_6 := Aside0.mk hl125_6
                clear hi125_6 hl125_6
                have HR125_7 := Aside0.mk hi125_7
                have HC125_7 := Aside0.mk hl125_7
                clear hi125_7 hl125_7
                have HR125_8 := Aside0.mk hi125_8
                have HC125_8 := Aside0.mk hl125_8
                clear hi125_8 hl125_8
                have HR125_9 := Aside0.mk hi125_9
                have HC125_9 := Aside0.mk hl125_9
                clear hi125_9 hl125_9
                have HR125_10 := Aside0.mk hi125_10
                have HC125_10 := Aside0.mk hl125_10
                clear hi125_10 hl125_10
                have HR125_11 := Aside0.mk hi125_11
                have HC125_11 := Aside0.mk hl125_11
                clear hi125_11 hl125_11
                replace p125 := eq_true p125
                replace q125 := eq_true q125
                have p126 : 0 ≤ (x5_1 : Int) := of_decide_eq_true (by first | (with_reducible assumption) | assumption)
                have q126 : x5_1 < (l1.length : Int) := of_decide_eq_true (by first | (with_reducible assumption) | assumption)
                obtain ⟨ad126, A126_4, c126_4, A126_5, c126_5, A126_6, c126_6, A126_7, c126_7, A126_8, c126_8, A126_9, c126_9, A126_10, c126_10, A126_11, c126_11, e126, hx126_0, hx126_1, hx126_2, hx126_3, hx126_4, hx126_5, hx126_6, hx126_7, hx126_8, hx126_9, hx126_10, hx126_11, hl126_4, hi126_4, hl126_5, hi126_5, hl126_6, hi126_6, hl126_7, hi126_7, hl126_8, hi126_8, hl126_9, hi126_9, hl126_10, hi126_10, hl126_11, hi126_11⟩ := at_T34 HR1.out x5_1 p126 q126
                have hw126_11 := hx126_11
                have hw126_10 := hx126_10
                have hw126_9 := hx126_9
                have hw126_8 := hx126_8
                have hw126_7 := hx126_7
                have hw126_6 := hx126_6
                have hw126_5 := hx126_5
                have hw126_4 := hx126_4
                have hw126_3 := hx126_3
                have hw126_2 := hx126_2
                have hw126_1 := hx126_1
                have hw126_0 := hx126_0
                cases e126
                replace hx126_0 := (HB.out.cell (World.block_lt_of_cell? w _ hx126_0)).trans hx126_0
                replace hx126_1 := (HB.out.cell (World.block_lt_of_cell? w _ hx126_1)).trans hx126_1
                replace hx126_2 := (HB.out.cell (World.block_lt_of_cell? w _ hx126_2)).trans hx126_2
                replace hx126_3 := (HB.out.cell (World.block_lt_of_cell? w _ hx126_3)).trans hx126_3
                replace hx126_4 := (HB.out.cell (World.block_lt_of_cell? w _ hx126_4)).trans hx126_4
                replace hx126_5 := (HB.out.cell (World.block_lt_of_cell? w _ hx126_5)).trans hx126_5
                replace hx126_6 := (HB.out.cell (World.block_lt_of_cell? w _ hx126_6)).trans hx126_6
                replace hx126_7 := (HB.out.cell (World.block_lt_of_cell? w _ hx126_7)).trans hx126_7
                replace hx126_8 := (HB.out.cell (World.block_lt_of_cell? w _ hx126_8)).trans hx126_8
                replace hx126_9 := (HB.out.cell (World.block_lt_of_cell? w _ hx126_9)).trans hx126_9
                replace hx126_10 := (HB.out.cell (World.block_lt_of_cell? w _ hx126_10)).trans hx126_10
                replace hx126_11 := (HB.out.cell (World.block_lt_of_cell? w _ hx126_11)).trans hx126_11
                have HR126_4 := Aside0.mk hi126_4
                have HC126_4 := Aside0.mk hl126_4
                clear hi126_4 hl126_4
                have HR126_5 := Aside0.mk hi126_5
                have HC126_5 := Aside0.mk hl126_5
                clear hi126_5 hl126_5
                have HR126_6 := Aside0.mk hi126_6
                have HC126_6 := Aside0.mk hl126_6
                clear hi126_6 hl126_6
                have HR126_7 := Aside0.mk hi126_7
                have HC126_7 := Aside0.mk hl126_7
                clear hi126_7 hl126_7
                have HR126_8 := Aside0.mk hi126_8
                have HC126_8 := Aside0.mk hl126_8
                clear hi126_8 hl126_8
                have HR126_9 := Aside0.mk hi126_9
                have HC126_9 := Aside0.mk hl126_9
                clear hi126_9 hl126_9
                have HR126_10 := Aside0.mk hi126_10
                have HC126_10 := Aside0.mk hl126_10
                clear hi126_10 hl126_10
                have HR126_11 := Aside0.mk hi126_11
                have HC126_11 := Aside0.mk hl126_11
                clear hi126_11 hl126_11
                replace p126 := eq_true p126
                replace q126 := eq_true q126
                refine start_ (n := 10) (S := fun w' => w'.cell? (ad125.add ((x5_1).toNat * 12)) = some (.string ((rd_T34 l0 x5_1).f0)) ∧ w'.cell? ⟨(ad125.add ((x5_1).toNat * 12)).block, (ad125.add ((x5_1).toNat * 12)).off + 1, none⟩ = some (.string ((rd_T34 l0 x5_1).f1)) ∧ w'.cell? ⟨(ad125.add ((x5_1).toNat * 12)).block, (ad125.add ((x5_1).toNat * 12)).off + 2, none⟩ = some (.string ((rd_T34 l0 x5_1).f2)) ∧ w'.cell? ⟨(ad125.add ((x5_1).toNat * 12)).block, (ad125.add ((x5_1).toNat * 12)).off + 3, none⟩ = some (.string ((rd_T34 l0 x5_1).f3)) ∧ w'.cell? ⟨(ad125.add ((x5_1).toNat * 12)).block, (ad125.add ((x5_1).toNat * 12)).off + 4, none⟩ = some (.slice A125_4 ((rd_T34 l0 x5_1).f4).length c125_4) ∧ w'.cell? ⟨(ad125.add ((x5_1).toNat * 12)).block, (ad125.add ((x5_1).toNat * 12)).off + 5, none⟩ = some (.slice A125_5 ((rd_T34 l0 x5_1).f5).length c125_5) ∧ w'.cell? ⟨(ad125.add ((x5_1).toNat * 12)).block, (ad125.add ((x5_1).toNat * 12)).off + 6, none⟩ = some (.slice A125_6 ((rd_T34 l0 x5_1).f6).length c125_6) ∧ w'.cell? ⟨(ad125.add ((x5_1).toNat * 12)).block, (ad125.add ((x5_1).toNat * 12)).off + 7, none⟩ = some (.slice A125_7 ((rd_T34 l0 x5_1).f7).length c125_7) ∧ w'.cell? ⟨(ad125.add ((x5_1).toNat * 12)).block, (ad125.add ((x5_1).toNat * 12)).off + 8, none⟩ = some (.slice A125_8 ((rd_T34 l0 x5_1).f8).length c125_8) ∧ w'.cell? ⟨(ad125.add ((x5_1).toNat * 12)).block, (ad125.add ((x5_1).toNat * 12)).off + 9, none⟩ = some (.slice A125_9 ((rd_T34 l0 x5_1).f9).length c125_9) ∧ w'.cell? ⟨(ad125.add ((x5_1).toNat * 12)).block, (ad125.add ((x5_1).toNat * 12)).off + 10, none⟩ = some (.slice A125_10 ((rd_T34 l0 x5_1).f10).length c125_10) ∧ w'.cell? ⟨(ad125.add ((x5_1).toNat * 12)).block, (ad125.add ((x5_1).toNat * 12)).off + 11, none⟩ = some (.slice A125_11 ((rd_T34 l0 x5_1).f11).length c125_11) ∧ w'.cell? (ad126.add ((x5_1).toNat * 12)) = some (.string ((rd_T34 l1 x5_1).f0)) ∧ w'.cell? ⟨(ad126.add ((x5_1).toNat * 12)).block, (ad126.add ((x5_1).toNat * 12)).off + 1, none⟩ = some (.string ((rd_T34 l1 x5_1).f1)) ∧ w'.cell? ⟨(ad126.add ((x5_1).toNat * 12)).block, (ad126.add ((x5_1).toNat * 12)).off + 2, none⟩ = some (.string ((rd_T34 l1 x5_1).f2)) ∧ w'.cell? ⟨(ad126.add ((x5_1).toNat * 12)).block, (ad126.add ((x5_1).toNat * 12)).off + 3, none⟩ = some (.string ((rd_T34 l1 x5_1).f3)) ∧ w'.cell? ⟨(ad126.add ((x5_1).toNat * 12)).block, (ad126.add ((x5_1).toNat * 12)).off + 4, none⟩ = some (.slice A126_4 ((rd_T34 l1 x5_1).f4).length c126_4) ∧ w'.cell? ⟨(ad126.add ((x5_1).toNat * 12)).block, (ad126.add ((x5_1).toNat * 12)).off + 5, none⟩ = some (.slice A126_5 ((rd_T34 l1 x5_1).f5).length c126_5) ∧ w'.cell? ⟨(ad126.add ((x5_1).toNat * 12)).block, (ad126.add ((x5_1).toNat * 12)).off + 6, none⟩ = some (.slice A126_6 ((rd_T34 l1 x5_1).f6).length c126_6) ∧ w'.cell? ⟨(ad126.add ((x5_1).toNat * 12)).block, (ad126.add ((x5_1).toNat * 12)).off + 7, none⟩ = some (.slice A126_7 ((rd_T34 l1 x5_1).f7).length c126_7) ∧ w'.cell? ⟨(ad126.add ((x5_1).toNat * 12)).block, (ad126.add ((x5_1).toNat * 12)).off + 8, none⟩ = some (.slice A126_8 ((rd_T34 l1 x5_1).f8).length c126_8) ∧ w'.cell? ⟨(ad126.add ((x5_1).toNat * 12)).block, (ad126.add ((x5_1).toNat * 12)).off + 9, none⟩ = some (.slice A126_9 ((rd_T34 l1 x5_1).f9).length c126_9) ∧ w'.cell? ⟨(ad126.add ((x5_1).toNat * 12)).block, (ad126.add ((x5_1).toNat * 12)).off + 10, none⟩ = some (.slice A126_10 ((rd_T34 l1 x5_1).f10).length c126_10) ∧ w'.cell? ⟨(ad126.add ((x5_1).toNat * 12)).block, (ad126.add ((x5_1).toNat * 12)).off + 11, none⟩ = some (.slice A126_11 ((rd_T34 l1 x5_1).f11).length c126_11)) (ds := []) #[false, false, false, false, false, false, false, false, false, false] (by kernel_rfl) rfl rfl ⟨((HB.out.cell (World.block_lt_of_cell? w _ hw125_0)).trans hw125_0), ((HB.out.cell (World.block_lt_of_cell? w _ hw125_1)).trans hw125_1), ((HB.out.cell (World.block_lt_of_cell? w _ hw125_2)).trans hw125_2), ((HB.out.cell (World.block_lt_of_cell? w _ hw125_3)).trans hw125_3), ((HB.out.cell (World.block_lt_of_cell? w _ hw125_4)).trans hw125_4), ((HB.out.cell (World.block_lt_of_cell? w _ hw125_5)).trans hw125_5), ((HB.out.cell (World.block_lt_of_cell? w _ hw125_6)).trans hw125_6), ((HB.out.cell (World.block_lt_of_cell? w _ hw125_7)).trans hw125_7), ((HB.out.cell (World.block_lt_of_cell? w _ hw125_8)).trans hw125_8), ((HB.out.cell (World.block_lt_of_cell? w _ hw125_9)).trans hw125_9), ((HB.out.cell (World.block_lt_of_cell? w _ hw125_10)).trans hw125_10), ((HB.out.cell (World.block_lt_of_cell? w _ hw125_11)).trans hw125_11), ((HB.out.cell (World.block_lt_of_cell? w _ hw126_0)).trans hw126_0), ((HB.out.cell (World.block_lt_of_cell? w _ hw126_1)).trans hw126_1), ((HB.out.cell (World.block_lt_of_cell? w _ hw126_2)).trans hw126_2), ((HB.out.cell (World.block_lt_of_cell? w _ hw126_3)).trans hw126_3), ((HB.out.cell (World.block_lt_of_cell? w _ hw126_4)).trans hw126_4), ((HB.out.cell (World.block_lt_of_cell? w _ hw126_5)).trans hw126_5), ((HB.out.cell (World.block_lt_of_cell? w _ hw126_6)).trans hw126_6), ((HB.out.cell (World.block_lt_of_cell? w _ hw126_7)).trans hw126_7), ((HB.out.cell (World.block_lt_of_cell? w _ hw126_8)).trans hw126_8), ((HB.out.cell (World.block_lt_of_cell? w _ hw126_9)).trans hw126_9), ((HB.out.cell (World.block_lt_of_cell? w _ hw126_10)).trans hw126_10), ((HB.out.cell (World.block_lt_of_cell? w _ hw126_11)).trans hw126_11)⟩ (fun hHeld => ?_); refine with_tabW chandlerref11_Same.tab6 chandlerref11_Same.bits6 (fun HT_ HW_ => ?_)
                generalize wr.drew = w9 at HB HR125_10 HR125_11 HR125_4 HR125_5 HR125_6 HR125_7 HR125_8 HR125_9 HR126_10 HR126_11 HR126_4 HR126_5 HR126_6 HR126_7 HR126_8 HR126_9 hx125_0 hx125_1 hx125_10 hx125_11 hx125_2 hx125_3 hx125_4 hx125_5 hx125_6 hx125_7 hx125_8 hx125_9 hx126_0 hx126_1 hx126_10 hx126_11 hx126_2 hx126_3 hx126_4 hx126_5 hx126_6 hx126_7 hx126_8 hx126_9 hHeld ⊢
                refine pure_ (i := 0) (N := some 18) (v := ?_) (a' := ?_) #[true, false, false, false, false, false, false, false, false, false] rfl rfl (any_of HT_.out (by kernel_rfl)) (fun _ _ _ h => h) (Or.inl ⟨by rfl, ?_⟩) ?_ ?_
                rotate_left
                · intro w'
                  go_simp
                  with_reducible rfl
                rotate_left
                · simp only [Act.put, List.setIfInBounds_toArray, List.set_cons_zero, List.set_cons_succ, i64_w, i32_w]
                  rfl
                refine pure_ (i := 1) (N := some 19) (v := ?_) (a' := ?_) #[true, true, false, false, false, false, false, false, false, false] rfl rfl (any_of HT_.out (by kernel_rfl)) (fun _ _ _ h => h) (Or.inl ⟨by rfl, ?_⟩) ?_ ?_
                rotate_left
                · intro w'
                  go_simp
                  with_reducible rfl
                rotate_left
                · simp only [Act.put, List.setIfInBounds_toArray, List.set_cons_zero, List.set_cons_succ, i64_w, i32_w]
                  rfl
                refine pure_ (i := 2) (N := some 20) (v := ?_) (a' := ?_) #[true, true, true, false, false, false, false, false, false, false] rfl rfl (any_of HT_.out (by kernel_rfl)) (fun _ _ _ h => h) (Or.inl ⟨by rfl, ?_⟩) ?_ ?_
                rotate_left
                · intro w'
                  go_simp
                  with_reducible rfl
                rotate_left
                · simp only [Act.put, List.setIfInBounds_toArray, List.set_cons_zero, List.set_cons_succ, i64_w, i32_w]
                  rfl
                refine pure_ (i := 4) (N := some 22) (v := ?_) (a' := ?_) #[true, true, true, false, true, false, false, false, false, false] rfl rfl (any_of HT_.out (by kernel_rfl)) (fun _ _ _ h => h) (Or.inl ⟨by rfl, ?_⟩) ?_ ?_
                rotate_left
                · intro w'
                  go_simp
                  with_reducible rfl
                rotate_left
                · simp only [Act.put, List.setIfInBounds_toArray, List.set_cons_zero, List.set_cons_succ, i64_w, i32_w]
                  rfl
                refine pure_ (i := 5) (N := some 23) (v := ?_) (a' := ?_) #[true, true, true, false, true, true, false, false, false, false] rfl rfl (any_of HT_.out (by kernel_rfl)) (fun _ _ _ h => h) (Or.inl ⟨by rfl, ?_⟩) ?_ ?_
                rotate_left
                · intro w'
                  go_simp
                  with_reducible rfl
                rotate_left
                · simp only [Act.put, List.setIfInBounds_toArray, List.set_cons_zero, List.set_cons_succ, i64_w, i32_w]
                  rfl
                refine pure_ (i := 6) (N := some 24) (v := ?_) (a' := ?_) #[true, true, true, false, true, true, true, false, false, false] rfl rfl (any_of HT_.out (by kernel_rfl)) (fun _ _ _ h => h) (Or.inl ⟨by rfl, ?_⟩) ?_ ?_
                rotate_left
                · intro w'
                  go_simp
                  with_reducible rfl
                rotate_left
                · simp only [Act.put, List.setIfInBounds_toArray, List.set_cons_zero, List.set_cons_succ, i64_w, i32_w]
                  rfl
                refine take_ (i := 3) (N := some 21) (v := ?_) (a' := ?_) #[true, true, true, true, true, true, true, false, false, false] rfl rfl (take_ofW HT_.out HW_.out (by kernel_rfl)) (fun _ _ _ h => h) (Or.inl ⟨by rfl, ?_⟩) hHeld ?_ ?_
                rotate_left
                · rintro w' ⟨s0, s1, s2, s3, s4, s5, s6, s7, s8, s9, s10, s11, s12, s13, s14, s15, s16, s17, s18, s19, s20, s21, s22, s23⟩
                  go_simp
                  with_reducible rfl
                rotate_left
                · simp only [Act.put, List.setIfInBounds_toArray, List.set_cons_zero, List.set_cons_succ, i64_w, i32_w]
                  rfl
                refine take_ (i := 7) (N := some 25) (v := ?_) (a' := ?_) #[true, true, true, true, true, true, true, true, false, false] rfl rfl (take_ofW HT_.out HW_.out (by kernel_rfl)) (fun _ _ _ h => h) (Or.inl ⟨by rfl, ?_⟩) hHeld ?_ ?_
                rotate_left
                · rintro w' ⟨s0, s1, s2, s3, s4, s5, s6, s7, s8, s9, s10, s11, s12, s13, s14, s15, s16, s17, s18, s19, s20, s21, s22, s23⟩
                  go_simp
                  with_reducible rfl
                rotate_left
                · simp only [Act.put, List.setIfInBounds_toArray, List.set_cons_zero, List.set_cons_succ, i64_w, i32_w]
                  rfl
                refine one_ (i := 8) (N := some 26) #[true, true, true, true, true, true, true, true, true, false] rfl rfl (one_of HT_.out (by kernel_rfl)) (by decide) (fun K hK => ?_)
                refine goes_ Tryd.func16 (by kernel_rfl) rfl #[.agg #[.string ((rd_T34 l0 x5_1).f0), .string ((rd_T34 l0 x5_1).f1), .string ((rd_T34 l0 x5_1).f2), .string ((rd_T34 l0 x5_1).f3), .slice A125_4 ((rd_T34 l0 x5_1).f4).length c125_4, .slice A125_5 ((rd_T34 l0 x5_1).f5).length c125_5, .slice A125_6 ((rd_T34 l0 x5_1).f6).length c125_6, .slice A125_7 ((rd_T34 l0 x5_1).f7).length c125_7, .slice A125_8 ((rd_T34 l0 x5_1).f8).length c125_8, .slice A125_9 ((rd_T34 l0 x5_1).f9).length c125_9, .slice A125_10 ((rd_T34 l0 x5_1).f10).length c125_10, .slice A125_11 ((rd_T34 l0 x5_1).f11).length c125_11], .agg #[.string ((rd_T34 l1 x5_1).f0), .string ((rd_T34 l1 x5_1).f1), .string ((rd_T34 l1 x5_1).f2), .string ((rd_T34 l1 x5_1).f3), .slice A126_4 ((rd_T34 l1 x5_1).f4).length c126_4, .slice A126_5 ((rd_T34 l1 x5_1).f5).length c126_5, .slice A126_6 ((rd_T34 l1 x5_1).f6).length c126_6, .slice A126_7 ((rd_T34 l1 x5_1).f7).length c126_7, .slice A126_8 ((rd_T34 l1 x5_1).f8).length c126_8, .slice A126_9 ((rd_T34 l1 x5_1).f9).length c126_9, .slice A126_10 ((rd_T34 l1 x5_1).f10).length c126_10, .slice A126_11 ((rd_T34 l1 x5_1).f11).length c126_11]] (by rfl) rfl rfl (by (try simp only [List.map_toArray, List.map_cons, List.map_nil]); first | done | rfl | (simp only [List.length_drop, List.length_take]; rfl)) ?_
                with_reducible refine (chandlerref06_SamePackage.calls k1 ((rd_T34 l0 x5_1).f0) ((rd_T34 l0 x5_1).f1) ((rd_T34 l0 x5_1).f2) ((rd_T34 l0 x5_1).f3) _ _ ((rd_T34 l0 x5_1).f4) _ _ ((rd_T34 l0 x5_1).f5) _ _ ((rd_T34 l0 x5_1).f6) _ _ ((rd_T34 l0 x5_1).f7) _ _ ((rd_T34 l0 x5_1).f8) _ _ ((rd_T34 l0 x5_1).f9) _ _ ((rd_T34 l0 x5_1).f10) _ _ ((rd_T34 l0 x5_1).f11) ((rd_T34 l1 x5_1).f0) ((rd_T34 l1 x5_1).f1) ((rd_T34 l1 x5_1).f2) ((rd_T34 l1 x5_1).f3) _ _ ((rd_T34 l1 x5_1).f4) _ _ ((rd_T34 l1 x5_1).f5) _ _ ((rd_T34 l1 x5_1).f6) _ _ ((rd_T34 l1 x5_1).f7) _ _ ((rd_T34 l1 x5_1).f8) _ _ ((rd_T34 l1 x5_1).f9) _ _ ((rd_T34 l1 x5_1).f10) _ _ ((rd_T34 l1 x5_1).f11) true _ ?side1 ?side2 ?side3 ?side4 ?side5 ?side6 ?side7 ?side8 ?side9 ?side10 ?side11 ?side12 ?side13 ?side14 ?side15 ?side16 ?side17 ?side18 ?side19 ?side20 ?side21 ?side22 ?side23 ?side24 ?side25 ?side26 ?side27 ?side28 ?side29 ?side30 ?side31 ?side32 A7.out).mono ?_
                (case side1 => repeat (first | exact (Kd.C_below HR125_4.out HB.out) | (with_reducible refine Kd.C_alloc ?_ _) | (with_reducible refine Kd.C_drewN ?_ _) | (with_reducible refine Kd.C_drew ?_)))
                (case side2 => exact HC125_4.out)
                (case side3 => repeat (first | exact (Kd.C_below HR125_5.out HB.out) | (with_reducible refine Kd.C_alloc ?_ _) | (with_reducible refine Kd.C_drewN ?_ _) | (with_reducible refine Kd.C_drew ?_)))
                (case side4 => exact HC125_5.out)
                (case side5 => repeat (first | exact (Kd.C_below HR125_6.out HB.out) | (with_reducible refine Kd.C_alloc ?_ _) | (with_reducible refine Kd.C_drewN ?_ _) | (with_reducible refine Kd.C_drew ?_)))
                (case side6 => exact HC125_6.out)
                (case side7 => repeat (first | exact (Kd.C_below HR125_7.out HB.out) | (with_reducible refine Kd.C_alloc ?_ _) | (with_reducible refine Kd.C_drewN ?_ _) | (with_reducible refine Kd.C_drew ?_)))
                (case side8 => exact HC125_7.out)
                (case side9 => repeat (first | exact (Kd.C_below HR125_8.out HB.out) | (with_reducible refine Kd.C_alloc ?_ _) | (with_reducible refine Kd.C_drewN ?_ _) | (with_reducible refine Kd.C_drew ?_)))
                (case side10 => exact HC125_8.out)
                (case side11 => repeat (first | exact (Kd.C_below HR125_9.out HB.out) | (with_reducible refine Kd.C_alloc ?_ _) | (with_reducible refine Kd.C_drewN ?_ _) | (with_reducible refine Kd.C_drew ?_)))
                (case side12 => exact HC125_9.out)
                (case side13 => repeat (first | exact (Kd.C_below HR125_10.out HB.out) | (with_reducible refine Kd.C_alloc ?_ _) | (with_reducible refine Kd.C_drewN ?_ _) | (with_reducible refine Kd.C_drew ?_)))
                (case side14 => exact HC125_10.out)
                (case side15 => repeat (first | exact (Kd.C_below HR125_11.out HB.out) | (with_reducible refine Kd.C_alloc ?_ _) | (with_reducible refine Kd.C_drewN ?_ _) | (with_reducible refine Kd.C_drew ?_)))
                (case side16 => exact HC125_11.out)
                (case side17 => repeat (first | exact (Kd.C_below HR126_4.out HB.out) | (with_reducible refine Kd.C_alloc ?_ _) | (with_reducible refine Kd.C_drewN ?_ _) | (with_reducible refine Kd.C_drew ?_)))
                (case side18 => exact HC126_4.out)
                (case side19 => repeat (first | exact (Kd.C_below HR126_5.out HB.out) | (with_reducible refine Kd.C_alloc ?_ _) | (with_reducible refine Kd.C_drewN ?_ _) | (with_reducible refine Kd.C_drew ?_)))
                (case side20 => exact HC126_5.out)
                (case side21 => repeat (first | exact (Kd.C_below HR126_6.out HB.out) | (with_reducible refine Kd.C_alloc ?_ _) | (with_reducible refine Kd.C_drewN ?_ _) | (with_reducible refine Kd.C_drew ?_)))
                (case side22 => exact HC126_6.out)
                (case side23 => repeat (first | exact (Kd.C_below HR126_7.out HB.out) | (with_reducible refine Kd.C_alloc ?_ _) | (with_reducible refine Kd.C_drewN ?_ _) | (with_reducible refine Kd.C_drew ?_)))
                (case side24 => exact HC126_7.out)
                (case side25 => repeat (first | exact (Kd.C_below HR126_8.out HB.out) | (with_reducible refine Kd.C_alloc ?_ _) | (with_reducible refine Kd.C_drewN ?_ _) | (with_reducible refine Kd.C_drew ?_)))
                (case side26 => exact HC126_8.out)
                (case side27 => repeat (first | exact (Kd.C_below HR126_9.out HB.out) | (with_reducible refine Kd.C_alloc ?_ _) | (with_reducible refine Kd.C_drewN ?_ _) | (with_reducible refine Kd.C_drew ?_)))
                (case side28 => exact HC126_9.out)
                (case side29 => repeat (first | exact (Kd.C_below HR126_10.out HB.out) | (with_reducible refine Kd.C_alloc ?_ _) | (with_reducible refine Kd.C_drewN ?_ _) | (with_reducible refine Kd.C_drew ?_)))
                (case side30 => exact HC126_10.out)
                (case side31 => repeat (first | exact (Kd.C_below HR126_11.out HB.out) | (with_reducible refine Kd.C_alloc ?_ _) | (with_reducible refine Kd.C_drewN ?_ _) | (with_reducible refine Kd.C_drew ?_)))
                (case side32 => exact HC126_11.out)
                rintro e w10 ⟨rfl, hb⟩
                refine ⟨_, rfl, ?_⟩
                have n0_ := Aside0.mk (below_step (by repeat (first | (with_reducible first | exact HB.out | apply below_alloc | apply pw_below_drewN | apply below_drew1) | exact HB.out)) hb)
                clear HB
                have HB := n0_
                clear n0_
                (try clear hb)
                (try clear hb2)
                (try clear hk)
                (try clear hi)
                refine hK.out _ _ ⟨((HB.out.cell (World.block_lt_of_cell? w _ hw125_0)).trans hw125_0), ((HB.out.cell (World.block_lt_of_cell? w _ hw125_1)).trans hw125_1), ((HB.out.cell (World.block_lt_of_cell? w _ hw125_2)).trans hw125_2), ((HB.out.cell (World.block_lt_of_cell? w _ hw125_3)).trans hw125_3), ((HB.out.cell (World.block_lt_of_cell? w _ hw125_4)).trans hw125_4), ((HB.out.cell (World.block_lt_of_cell? w _ hw125_5)).trans hw125_5), ((HB.out.cell (World.block_lt_of_cell? w _ hw125_6)).trans hw125_6), ((HB.out.cell (World.block_lt_of_cell? w _ hw125_7)).trans hw125_7), ((HB.out.cell (World.block_lt_of_cell? w _ hw125_8)).trans hw125_8), ((HB.out.cell (World.block_lt_of_cell? w _ hw125_9)).trans hw125_9), ((HB.out.cell (World.block_lt_of_cell? w _ hw125_10)).trans hw125_10), ((HB.out.cell (World.block_lt_of_cell? w _ hw125_11)).trans hw125_11), ((HB.out.cell (World.block_lt_of_cell? w _ hw126_0)).trans hw126_0), ((HB.out.cell (World.block_lt_of_cell? w _ hw126_1)).trans hw126_1), ((HB.out.cell (World.block_lt_of_cell? w _ hw126_2)).trans hw126_2), ((HB.out.cell (World.block_lt_of_cell? w _ hw126_3)).trans hw126_3), ((HB.out.cell (World.block_lt_of_cell? w _ hw126_4)).trans hw126_4), ((HB.out.cell (World.block_lt_of_cell? w _ hw126_5)).trans hw126_5), ((HB.out.cell (World.block_lt_of_cell? w _ hw126_6)).trans hw126_6), ((HB.out.cell (World.block_lt_of_cell? w _ hw126_7)).trans hw126_7), ((HB.out.cell (World.block_lt_of_cell? w _ hw126_8)).trans hw126_8), ((HB.out.cell (World.block_lt_of_cell? w _ hw126_9)).trans hw126_9), ((HB.out.cell (World.block_lt_of_cell? w _ hw126_10)).trans hw126_10), ((HB.out.cell (World.block_lt_of_cell? w _ hw126_11)).trans hw126_11)⟩ (fun hHeld => ?_)
                clear hK K
                refine norm_ (a' := ?_) ?_ ?_
                rotate_left
                · show Act.put _ (some 26) _ = _
                  simp only [Act.put, List.setIfInBounds_toArray, List.set_cons_zero, List.set_cons_succ, i64_w, i32_w]
                  rfl
                refine pure_ (i := 9) (N := some 6) (v := ?_) (a' := ?_) #[true, true, true, true, true, true, true, true, true, true] rfl rfl (any_of HT_.out (by kernel_rfl)) (fun _ _ _ h => h) (Or.inl ⟨by rfl, ?_⟩) ?_ ?_
                rotate_left
                · intro w'
                  go_simp
                  with_reducible rfl
                rotate_left
                · simp only [Act.put, List.setIfInBounds_toArray, List.set_cons_zero, List.set_cons_succ, i64_w, i32_w]
                  rfl
                refine done_ (done_of HT_.out (by kernel_rfl)) ?_
                try go_wp2
                go_roundg k1
                case measure => have := HK1.out; omega
                case rel => exact ⟨(wrap64 (x5_1 + 1)), (by first | rfl | (simp; done) | (simp [*]; done)), H', ⟨by have := HK1.out; omega⟩, ⟨by repeat (first | (with_reducible first | exact HB.out | apply below_alloc | apply pw_below_drewN | apply below_drew1) | exact HB.out)⟩⟩
              · replace c8 := Bool.eq_false_iff.mpr c8
                subst c8
                have H1 : (some false) = some r := by rw [if_neg (show ¬ (false = true) by decide)] at H; exact H
                clear H
                have H := H1
                clear H1
                obtain rfl := Option.some.inj H
                try go_wp2
                have n0_ := Aside0.mk (below_drew1 HB.out)
                clear HB
                have HB := n0_
                clear n0_
                have p125 : 0 ≤ (x5_1 : Int) := of_decide_eq_true (by first | (with_reducible assumption) | assumption)
                have q125 : x5_1 < (l0.length : Int) := of_decide_eq_true (by first | (with_reducible assumption) | assumption)
                obtain ⟨ad125, A125_4, c125_4, A125_5, c125_5, A125_6, c125_6, A125_7, c125_7, A125_8, c125_8, A125_9, c125_9, A125_10, c125_10, A125_11, c125_11, e125, hx125_0, hx125_1, hx125_2, hx125_3, hx125_4, hx125_5, hx125_6, hx125_7, hx125_8, hx125_9, hx125_10, hx125_11, hl125_4, hi125_4, hl125_5, hi125_5, hl125_6, hi125_6, hl125_7, hi125_7, hl125_8, hi125_8, hl125_9, hi125_9, hl125_10, hi125_10, hl125_11, hi125_11⟩ := at_T34 HR0.out x5_1 p125 q125
                have hw125_11 := hx125_11
                have hw125_10 := hx125_10
                have hw125_9 := hx125_9
                have hw125_8 := hx125_8
                have hw125_7 := hx125_7
                have hw125_6 := hx125_6
                have hw125_5 := hx125_5
                have hw125_4 := hx125_4
                have hw125_3 := hx125_3
                have hw125_2 := hx125_2
                have hw125_1 := hx125_1
                have hw125_0 := hx125_0
                cases e125
                replace hx125_0 := (HB.out.cell (World.block_lt_of_cell? w _ hx125_0)).trans hx125_0
                replace hx125_1 := (HB.out.cell (World.block_lt_of_cell? w _ hx125_1)).trans hx125_1
                replace hx125_2 := (HB.out.cell (World.block_lt_of_cell? w _ hx125_2)).trans hx125_2
                replace hx125_3 := (HB.out.cell (World.block_lt_of_cell? w _ hx125_3)).trans hx125_3
                replace hx125_4 := (HB.out.cell (World.block_lt_of_cell? w _ hx125_4)).trans hx125_4
                replace hx125_5 := (HB.out.cell (World.block_lt_of_cell? w _ hx125_5)).trans hx125_5
                replace hx125_6 := (HB.out.cell (World.block_lt_of_cell? w _ hx125_6)).trans hx125_6
                replace hx125_7 := (HB.out.cell (World.block_lt_of_cell? w _ hx125_7)).trans hx125_7
                replace hx125_8 := (HB.out.cell (World.block_lt_of_cell? w _ hx125_8)).trans hx125_8
                replace hx125_9 := (HB.out.cell (World.block_lt_of_cell? w _ hx125_9)).trans hx125_9
                replace hx125_10 := (HB.out.cell (World.block_lt_of_cell? w _ hx125_10)).trans hx125_10
                replace hx125_11 := (HB.out.cell (World.block_lt_of_cell? w _ hx125_11)).trans hx125_11
                have HR125_4 := Aside0.mk hi125_4
                have HC125_4 := Aside0.mk hl125_4
                clear hi125_4 hl125_4
                have HR125_5 := Aside0.mk hi125_5
                have HC125_5 := Aside0.mk hl125_5
                clear hi125_5 hl125_5
                have HR125_6 := Aside0.mk hi125_6
                have HC125_6 := Aside0.mk hl125_6
                clear hi125_6 hl125_6
                have HR125_7 := Aside0.mk hi125_7
                have HC125_7 := Aside0.mk hl125_7
                clear hi125_7 hl125_7
                have HR125_8 := Aside0.mk hi125_8
                have HC125_8 := Aside0.mk hl125_8
                clear hi125_8 hl125_8
                have HR125_9 := Aside0.mk hi125_9
                have HC125_9 := Aside0.mk hl125_9
                clear hi125_9 hl125_9
                have HR125_10 := Aside0.mk hi125_10
                have HC125_10 := Aside0.mk hl125_10
                clear hi125_10 hl125_10
                have HR125_11 := Aside0.mk hi125_11
                have HC125_11 := Aside0.mk hl125_11
                clear hi125_11 hl125_11
                replace p125 := eq_true p125
                replace q125 := eq_true q125
                have p126 : 0 ≤ (x5_1 : Int) := of_decide_eq_true (by first | (with_reducible assumption) | assumption)
                have q126 : x5_1 < (l1.length : Int) := of_decide_eq_true (by first | (with_reducible assumption) | assumption)
                obtain ⟨ad126, A126_4, c126_4, A126_5, c126_5, A126_6, c126_6, A126_7, c126_7, A126_8, c126_8, A126_9, c126_9, A126_10, c126_10, A126_11, c126_11, e126, hx126_0, hx126_1, hx126_2, hx126_3, hx126_4, hx126_5, hx126_6, hx126_7, hx126_8, hx126_9, hx126_10, hx126_11, hl126_4, hi126_4, hl126_5, hi126_5, hl126_6, hi126_6, hl126_7, hi126_7, hl126_8, hi126_8, hl126_9, hi126_9, hl126_10, hi126_10, hl126_11, hi126_11⟩ := at_T34 HR1.out x5_1 p126 q126
                have hw126_11 := hx126_11
                have hw126_10 := hx126_10
                have hw126_9 := hx126_9
                have hw126_8 := hx126_8
                have hw126_7 := hx126_7
                have hw126_6 := hx126_6
                have hw126_5 := hx126_5
                have hw126_4 := hx126_4
                have hw126_3 := hx126_3
                have hw126_2 := hx126_2
                have hw126_1 := hx126_1
                have hw126_0 := hx126_0
                cases e126
                replace hx126_0 := (HB.out.cell (World.block_lt_of_cell? w _ hx126_0)).trans hx126_0
                replace hx126_1 := (HB.out.cell (World.block_lt_of_cell? w _ hx126_1)).trans hx126_1
                replace hx126_2 := (HB.out.cell (World.block_lt_of_cell? w _ hx126_2)).trans hx126_2
                replace hx126_3 := (HB.out.cell (World.block_lt_of_cell? w _ hx126_3)).trans hx126_3
                replace hx126_4 := (HB.out.cell (World.block_lt_of_cell? w _ hx126_4)).trans hx126_4
                replace hx126_5 := (HB.out.cell (World.block_lt_of_cell? w _ hx126_5)).trans hx126_5
                replace hx126_6 := (HB.out.cell (World.block_lt_of_cell? w _ hx126_6)).trans hx126_6
                replace hx126_7 := (HB.out.cell (World.block_lt_of_cell? w _ hx126_7)).trans hx126_7
                replace hx126_8 := (HB.out.cell (World.block_lt_of_cell? w _ hx126_8)).trans hx126_8
                replace hx126_9 := (HB.out.cell (World.block_lt_of_cell? w _ hx126_9)).trans hx126_9
                replace hx126_10 := (HB.out.cell (World.block_lt_of_cell? w _ hx126_10)).trans hx126_10
                replace hx126_11 := (HB.out.cell (World.block_lt_of_cell? w _ hx126_11)).trans hx126_11
                have HR126_4 := Aside0.mk hi126_4
                have HC126_4 := Aside0.mk hl126_4
                clear hi126_4 hl126_4
                have HR126_5 := Aside0.mk hi126_5
                have HC126_5 := Aside0.mk hl126_5
                clear hi126_5 hl126_5
                have HR126_6 := Aside0.mk hi126_6
                have HC126_6 := Aside0.mk hl126_6
                clear hi126_6 hl126_6
                have HR126_7 := Aside0.mk hi126_7
                have HC126_7 := Aside0.mk hl126_7
                clear hi126_7 hl126_7
                have HR126_8 := Aside0.mk hi126_8
                have HC126_8 := Aside0.mk hl126_8
                clear hi126_8 hl126_8
                have HR126_9 := Aside0.mk hi126_9
                have HC126_9 := Aside0.mk hl126_9
                clear hi126_9 hl126_9
                have HR126_10 := Aside0.mk hi126_10
                have HC126_10 := Aside0.mk hl126_10
                clear hi126_10 hl126_10
                have HR126_11 := Aside0.mk hi126_11
                have HC126_11 := Aside0.mk hl126_11
                clear hi126_11 hl126_11
                replace p126 := eq_true p126
                replace q126 := eq_true q126
                refine start_ (n := 10) (S := fun w' => w'.cell? (ad125.add ((x5_1).toNat * 12)) = some (.string ((rd_T34 l0 x5_1).f0)) ∧ w'.cell? ⟨(ad125.add ((x5_1).toNat * 12)).block, (ad125.add ((x5_1).toNat * 12)).off + 1, none⟩ = some (.string ((rd_T34 l0 x5_1).f1)) ∧ w'.cell? ⟨(ad125.add ((x5_1).toNat * 12)).block, (ad125.add ((x5_1).toNat * 12)).off + 2, none⟩ = some (.string ((rd_T34 l0 x5_1).f2)) ∧ w'.cell? ⟨(ad125.add ((x5_1).toNat * 12)).block, (ad125.add ((x5_1).toNat * 12)).off + 3, none⟩ = some (.string ((rd_T34 l0 x5_1).f3)) ∧ w'.cell? ⟨(ad125.add ((x5_1).toNat * 12)).block, (ad125.add ((x5_1).toNat * 12)).off + 4, none⟩ = some (.slice A125_4 ((rd_T34 l0 x5_1).f4).length c125_4) ∧ w'.cell? ⟨(ad125.add ((x5_1).toNat * 12)).block, (ad125.add ((x5_1).toNat * 12)).off + 5, none⟩ = some (.slice A125_5 ((rd_T34 l0 x5_1).f5).length c125_5) ∧ w'.cell? ⟨(ad125.add ((x5_1).toNat * 12)).block, (ad125.add ((x5_1).toNat * 12)).off + 6, none⟩ = some (.slice A125_6 ((rd_T34 l0 x5_1).f6).length c125_6) ∧ w'.cell? ⟨(ad125.add ((x5_1).toNat * 12)).block, (ad125.add ((x5_1).toNat * 12)).off + 7, none⟩ = some (.slice A125_7 ((rd_T34 l0 x5_1).f7).length c125_7) ∧ w'.cell? ⟨(ad125.add ((x5_1).toNat * 12)).block, (ad125.add ((x5_1).toNat * 12)).off + 8, none⟩ = some (.slice A125_8 ((rd_T34 l0 x5_1).f8).length c125_8) ∧ w'.cell? ⟨(ad125.add ((x5_1).toNat * 12)).block, (ad125.add ((x5_1).toNat * 12)).off + 9, none⟩ = some (.slice A125_9 ((rd_T34 l0 x5_1).f9).length c125_9) ∧ w'.cell? ⟨(ad125.add ((x5_1).toNat * 12)).block, (ad125.add ((x5_1).toNat * 12)).off + 10, none⟩ = some (.slice A125_10 ((rd_T34 l0 x5_1).f10).length c125_10) ∧ w'.cell? ⟨(ad125.add ((x5_1).toNat * 12)).block, (ad125.add ((x5_1).toNat * 12)).off + 11, none⟩ = some (.slice A125_11 ((rd_T34 l0 x5_1).f11).length c125_11) ∧ w'.cell? (ad126.add ((x5_1).toNat * 12)) = some (.string ((rd_T34 l1 x5_1).f0)) ∧ w'.cell? ⟨(ad126.add ((x5_1).toNat * 12)).block, (ad126.add ((x5_1).toNat * 12)).off + 1, none⟩ = some (.string ((rd_T34 l1 x5_1).f1)) ∧ w'.cell? ⟨(ad126.add ((x5_1).toNat * 12)).block, (ad126.add ((x5_1).toNat * 12)).off + 2, none⟩ = some (.string ((rd_T34 l1 x5_1).f2)) ∧ w'.cell? ⟨(ad126.add ((x5_1).toNat * 12)).block, (ad126.add ((x5_1).toNat * 12)).off + 3, none⟩ = some (.string ((rd_T34 l1 x5_1).f3)) ∧ w'.cell? ⟨(ad126.add ((x5_1).toNat * 12)).block, (ad126.add ((x5_1).toNat * 12)).off + 4, none⟩ = some (.slice A126_4 ((rd_T34 l1 x5_1).f4).length c126_4) ∧ w'.cell? ⟨(ad126.add ((x5_1).toNat * 12)).block, (ad126.add ((x5_1).toNat * 12)).off + 5, none⟩ = some (.slice A126_5 ((rd_T34 l1 x5_1).f5).length c126_5) ∧ w'.cell? ⟨(ad126.add ((x5_1).toNat * 12)).block, (ad126.add ((x5_1).toNat * 12)).off + 6, none⟩ = some (.slice A126_6 ((rd_T34 l1 x5_1).f6).length c126_6) ∧ w'.cell? ⟨(ad126.add ((x5_1).toNat * 12)).block, (ad126.add ((x5_1).toNat * 12)).off + 7, none⟩ = some (.slice A126_7 ((rd_T34 l1 x5_1).f7).length c126_7) ∧ w'.cell? ⟨(ad126.add ((x5_1).toNat * 12)).block, (ad126.add ((x5_1).toNat * 12)).off + 8, none⟩ = some (.slice A126_8 ((rd_T34 l1 x5_1).f8).length c126_8) ∧ w'.cell? ⟨(ad126.add ((x5_1).toNat * 12)).block, (ad126.add ((x5_1).toNat * 12)).off + 9, none⟩ = some (.slice A126_9 ((rd_T34 l1 x5_1).f9).length c126_9) ∧ w'.cell? ⟨(ad126.add ((x5_1).toNat * 12)).block, (ad126.add ((x5_1).toNat * 12)).off + 10, none⟩ = some (.slice A126_10 ((rd_T34 l1 x5_1).f10).length c126_10) ∧ w'.cell? ⟨(ad126.add ((x5_1).toNat * 12)).block, (ad126.add ((x5_1).toNat * 12)).off + 11, none⟩ = some (.slice A126_11 ((rd_T34 l1 x5_1).f11).length c126_11)) (ds := []) #[false, false, false, false, false, false, false, false, false, false] (by kernel_rfl) rfl rfl ⟨((HB.out.cell (World.block_lt_of_cell? w _ hw125_0)).trans hw125_0), ((HB.out.cell (World.block_lt_of_cell? w _ hw125_1)).trans hw125_1), ((HB.out.cell (World.block_lt_of_cell? w _ hw125_2)).trans hw125_2), ((HB.out.cell (World.block_lt_of_cell? w _ hw125_3)).trans hw125_3), ((HB.out.cell (World.block_lt_of_cell? w _ hw125_4)).trans hw125_4), ((HB.out.cell (World.block_lt_of_cell? w _ hw125_5)).trans hw125_5), ((HB.out.cell (World.block_lt_of_cell? w _ hw125_6)).trans hw125_6), ((HB.out.cell (World.block_lt_of_cell? w _ hw125_7)).trans hw125_7), ((HB.out.cell (World.block_lt_of_cell? w _ hw125_8)).trans hw125_8), ((HB.out.cell (World.block_lt_of_cell? w _ hw125_9)).trans hw125_9), ((HB.out.cell (World.block_lt_of_cell? w _ hw125_10)).trans hw125_10), ((HB.out.cell (World.block_lt_of_cell? w _ hw125_11)).trans hw125_11), ((HB.out.cell (World.block_lt_of_cell? w _ hw126_0)).trans hw126_0), ((HB.out.cell (World.block_lt_of_cell? w _ hw126_1)).trans hw126_1), ((HB.out.cell (World.block_lt_of_cell? w _ hw126_2)).trans hw126_2), ((HB.out.cell (World.block_lt_of_cell? w _ hw126_3)).trans hw126_3), ((HB.out.cell (World.block_lt_of_cell? w _ hw126_4)).trans hw126_4), ((HB.out.cell (World.block_lt_of_cell? w _ hw126_5)).trans hw126_5), ((HB.out.cell (World.block_lt_of_cell? w _ hw126_6)).trans hw126_6), ((HB.out.cell (World.block_lt_of_cell? w _ hw126_7)).trans hw126_7), ((HB.out.cell (World.block_lt_of_cell? w _ hw126_8)).trans hw126_8), ((HB.out.cell (World.block_lt_of_cell? w _ hw126_9)).trans hw126_9), ((HB.out.cell (World.block_lt_of_cell? w _ hw126_10)).trans hw126_10), ((HB.out.cell (World.block_lt_of_cell? w _ hw126_11)).trans hw126_11)⟩ (fun hHeld => ?_); refine with_tabW chandlerref11_Same.tab6 chandlerref11_Same.bits6 (fun HT_ HW_ => ?_)
                generalize wr.drew = w11 at HB HR125_10 HR125_11 HR125_4 HR125_5 HR125_6 HR125_7 HR125_8 HR125_9 HR126_10 HR126_11 HR126_4 HR126_5 HR126_6 HR126_7 HR126_8 HR126_9 hx125_0 hx125_1 hx125_10 hx125_11 hx125_2 hx125_3 hx125_4 hx125_5 hx125_6 hx125_7 hx125_8 hx125_9 hx126_0 hx126_1 hx126_10 hx126_11 hx126_2 hx126_3 hx126_4 hx126_5 hx126_6 hx126_7 hx126_8 hx126_9 hHeld ⊢
                refine pure_ (i := 0) (N := some 18) (v := ?_) (a' := ?_) #[true, false, false, false, false, false, false, false, false, false] rfl rfl (any_of HT_.out (by kernel_rfl)) (fun _ _ _ h => h) (Or.inl ⟨by rfl, ?_⟩) ?_ ?_
                rotate_left
                · intro w'
                  go_simp
                  with_reducible rfl
                rotate_left
                · simp only [Act.put, List.setIfInBounds_toArray, List.set_cons_zero, List.set_cons_succ, i64_w, i32_w]
                  rfl
                refine pure_ (i := 1) (N := some 19) (v := ?_) (a' := ?_) #[true, true, false, false, false, false, false, false, false, false] rfl rfl (any_of HT_.out (by kernel_rfl)) (fun _ _ _ h => h) (Or.inl ⟨by rfl, ?_⟩) ?_ ?_
                rotate_left
                · intro w'
                  go_simp
                  with_reducible rfl
                rotate_left
                · simp only [Act.put, List.setIfInBounds_toArray, List.set_cons_zero, List.set_cons_succ, i64_w, i32_w]
                  rfl
                refine pure_ (i := 2) (N := some 20) (v := ?_) (a' := ?_) #[true, true, true, false, false, false, false, false, false, false] rfl rfl (any_of HT_.out (by kernel_rfl)) (fun _ _ _ h => h) (Or.inl ⟨by rfl, ?_⟩) ?_ ?_
                rotate_left
                · intro w'
                  go_simp
                  with_reducible rfl
                rotate_left
                · simp only [Act.put, List.setIfInBounds_toArray, List.set_cons_zero, List.set_cons_succ, i64_w, i32_w]
                  rfl
                refine pure_ (i := 4) (N := some 22) (v := ?_) (a' := ?_) #[true, true, true, false, true, false, false, false, false, false] rfl rfl (any_of HT_.out (by kernel_rfl)) (fun _ _ _ h => h) (Or.inl ⟨by rfl, ?_⟩) ?_ ?_
                rotate_left
                · intro w'
                  go_simp
                  with_reducible rfl
                rotate_left
                · simp only [Act.put, List.setIfInBounds_toArray, List.set_cons_zero, List.set_cons_succ, i64_w, i32_w]
                  rfl
                refine pure_ (i := 5) (N := some 23) (v := ?_) (a' := ?_) #[true, true, true, false, true, true, false, false, false, false] rfl rfl (any_of HT_.out (by kernel_rfl)) (fun _ _ _ h => h) (Or.inl ⟨by rfl, ?_⟩) ?_ ?_
                rotate_left
                · intro w'
                  go_simp
                  with_reducible rfl
                rotate_left
                · simp only [Act.put, List.setIfInBounds_toArray, List.set_cons_zero, List.set_cons_succ, i64_w, i32_w]
                  rfl
                refine pure_ (i := 6) (N := some 24) (v := ?_) (a' := ?_) #[true, true, true, false, true, true, true, false, false, false] rfl rfl (any_of HT_.out (by kernel_rfl)) (fun _ _ _ h => h) (Or.inl ⟨by rfl, ?_⟩) ?_ ?_
                rotate_left
                · intro w'
                  go_simp
                  with_reducible rfl
                rotate_left
                · simp only [Act.put, List.setIfInBounds_toArray, List.set_cons_zero, List.set_cons_succ, i64_w, i32_w]
                  rfl
                refine take_ (i := 3) (N := some 21) (v := ?_) (a' := ?_) #[true, true, true, true, true, true, true, false, false, false] rfl rfl (take_ofW HT_.out HW_.out (by kernel_rfl)) (fun _ _ _ h => h) (Or.inl ⟨by rfl, ?_⟩) hHeld ?_ ?_
                rotate_left
                · rintro w' ⟨s0, s1, s2, s3, s4, s5, s6, s7, s8, s9, s10, s11, s12, s13, s14, s15, s16, s17, s18, s19, s20, s21, s22, s23⟩
                  go_simp
                  with_reducible rfl
                rotate_left
                · simp only [Act.put, List.setIfInBounds_toArray, List.set_cons_zero, List.set_cons_succ, i64_w, i32_w]
                  rfl
                refine take_ (i := 7) (N := some 25) (v := ?_) (a' := ?_) #[true, true, true, true, true, true, true, true, false, false] rfl rfl (take_ofW HT_.out HW_.out (by kernel_rfl)) (fun _ _ _ h => h) (Or.inl ⟨by rfl, ?_⟩) hHeld ?_ ?_
                rotate_left
                · rintro w' ⟨s0, s1, s2, s3, s4, s5, s6, s7, s8, s9, s10, s11, s12, s13, s14, s15, s16, s17, s18, s19, s20, s21, s22, s23⟩
                  go_simp
                  with_reducible rfl
                rotate_left
                · simp only [Act.put, List.setIfInBounds_toArray, List.set_cons_zero, List.set_cons_succ, i64_w, i32_w]
                  rfl
                refine one_ (i := 8) (N := some 26) #[true, true, true, true, true, true, true, true, true, false] rfl rfl (one_of HT_.out (by kernel_rfl)) (by decide) (fun K hK => ?_)
                refine goes_ Tryd.func16 (by kernel_rfl) rfl #[.agg #[.string ((rd_T34 l0 x5_1).f0), .string ((rd_T34 l0 x5_1).f1), .string ((rd_T34 l0 x5_1).f2), .string ((rd_T34 l0 x5_1).f3), .slice A125_4 ((rd_T34 l0 x5_1).f4).length c125_4, .slice A125_5 ((rd_T34 l0 x5_1).f5).length c125_5, .slice A125_6 ((rd_T34 l0 x5_1).f6).length c125_6, .slice A125_7 ((rd_T34 l0 x5_1).f7).length c125_7, .slice A125_8 ((rd_T34 l0 x5_1).f8).length c125_8, .slice A125_9 ((rd_T34 l0 x5_1).f9).length c125_9, .slice A125_10 ((rd_T34 l0 x5_1).f10).length c125_10, .slice A125_11 ((rd_T34 l0 x5_1).f11).length c125_11], .agg #[.string ((rd_T34 l1 x5_1).f0), .string ((rd_T34 l1 x5_1).f1), .string ((rd_T34 l1 x5_1).f2), .string ((rd_T34 l1 x5_1).f3), .slice A126_4 ((rd_T34 l1 x5_1).f4).length c126_4, .slice A126_5 ((rd_T34 l1 x5_1).f5).length c126_5, .slice A126_6 ((rd_T34 l1 x5_1).f6).length c126_6, .slice A126_7 ((rd_T34 l1 x5_1).f7).length c126_7, .slice A126_8 ((rd_T34 l1 x5_1).f8).length c126_8, .slice A126_9 ((rd_T34 l1 x5_1).f9).length c126_9, .slice A126_10 ((rd_T34 l1 x5_1).f10).length c126_10, .slice A126_11 ((rd_T34 l1 x5_1).f11).length c126_11]] (by rfl) rfl rfl (by (try simp only [List.map_toArray, List.map_cons, List.map_nil]); first | done | rfl | (simp only [List.length_drop, List.length_take]; rfl)) ?_
                with_reducible refine (chandlerref06_SamePackage.calls k1 ((rd_T34 l0 x5_1).f0) ((rd_T34 l0 x5_1).f1) ((rd_T34 l0 x5_1).f2) ((rd_T34 l0 x5_1).f3) _ _ ((rd_T34 l0 x5_1).f4) _ _ ((rd_T34 l0 x5_1).f5) _ _ ((rd_T34 l0 x5_1).f6) _ _ ((rd_T34 l0 x5_1).f7) _ _ ((rd_T34 l0 x5_1).f8) _ _ ((rd_T34 l0 x5_1).f9) _ _ ((rd_T34 l0 x5_1).f10) _ _ ((rd_T34 l0 x5_1).f11) ((rd_T34 l1 x5_1).f0) ((rd_T34 l1 x5_1).f1) ((rd_T34 l1 x5_1).f2) ((rd_T34 l1 x5_1).f3) _ _ ((rd_T34 l1 x5_1).f4) _ _ ((rd_T34 l1 x5_1).f5) _ _ ((rd_T34 l1 x5_1).f6) _ _ ((rd_T34 l1 x5_1).f7) _ _ ((rd_T34 l1 x5_1).f8) _ _ ((rd_T34 l1 x5_1).f9) _ _ ((rd_T34 l1 x5_1).f10) _ _ ((rd_T34 l1 x5_1).f11) false _ ?side1 ?side2 ?side3 ?side4 ?side5 ?side6 ?side7 ?side8 ?side9 ?side10 ?side11 ?side12 ?side13 ?side14 ?side15 ?side16 ?side17 ?side18 ?side19 ?side20 ?side21 ?side22 ?side23 ?side24 ?side25 ?side26 ?side27 ?side28 ?side29 ?side30 ?side31 ?side32 A7.out).mono ?_
                (case side1 => repeat (first | exact (Kd.C_below HR125_4.out HB.out) | (with_reducible refine Kd.C_alloc ?_ _) | (with_reducible refine Kd.C_drewN ?_ _) | (with_reducible refine Kd.C_drew ?_)))
                (case side2 => exact HC125_4.out)
                (case side3 => repeat (first | exact (Kd.C_below HR125_5.out HB.out) | (with_reducible refine Kd.C_alloc ?_ _) | (with_reducible refine Kd.C_drewN ?_ _) | (with_reducible refine Kd.C_drew ?_)))
                (case side4 => exact HC125_5.out)
                (case side5 => repeat (first | exact (Kd.C_below HR125_6.out HB.out) | (with_reducible refine Kd.C_alloc ?_ _) | (with_reducible refine Kd.C_drewN ?_ _) | (with_reducible refine Kd.C_drew ?_)))
                (case side6 => exact HC125_6.out)
                (case side7 => repeat (first | exact (Kd.C_below HR125_7.out HB.out) | (with_reducible refine Kd.C_alloc ?_ _) | (with_reducible refine Kd.C_drewN ?_ _) | (with_reducible refine Kd.C_drew ?_)))
                (case side8 => exact HC125_7.out)
                (case side9 => repeat (first | exact (Kd.C_below HR125_8.out HB.out) | (with_reducible refine Kd.C_alloc ?_ _) | (with_reducible refine Kd.C_drewN ?_ _) | (with_reducible refine Kd.C_drew ?_)))
                (case side10 => exact HC125_8.out)
                (case side11 => repeat (first | exact (Kd.C_below HR125_9.out HB.out) | (with_reducible refine Kd.C_alloc ?_ _) | (with_reducible refine Kd.C_drewN ?_ _) | (with_reducible refine Kd.C_drew ?_)))
                (case side12 => exact HC125_9.out)
                (case side13 => repeat (first | exact (Kd.C_below HR125_10.out HB.out) | (with_reducible refine Kd.C_alloc ?_ _) | (with_reducible refine Kd.C_drewN ?_ _) | (with_reducible refine Kd.C_drew ?_)))
                (case side14 => exact HC125_10.out)
                (case side15 => repeat (first | exact (Kd.C_below HR125_11.out HB.out) | (with_reducible refine Kd.C_alloc ?_ _) | (with_reducible refine Kd.C_drewN ?_ _) | (with_reducible refine Kd.C_drew ?_)))
                (case side16 => exact HC125_11.out)
                (case side17 => repeat (first | exact (Kd.C_below HR126_4.out HB.out) | (with_reducible refine Kd.C_alloc ?_ _) | (with_reducible refine Kd.C_drewN ?_ _) | (with_reducible refine Kd.C_drew ?_)))
                (case side18 => exact HC126_4.out)
                (case side19 => repeat (first | exact (Kd.C_below HR126_5.out HB.out) | (with_reducible refine Kd.C_alloc ?_ _) | (with_reducible refine Kd.C_drewN ?_ _) | (with_reducible refine Kd.C_drew ?_)))
                (case side20 => exact HC126_5.out)
                (case side21 => repeat (first | exact (Kd.C_below HR126_6.out HB.out) | (with_reducible refine Kd.C_alloc ?_ _) | (with_reducible refine Kd.C_drewN ?_ _) | (with_reducible refine Kd.C_drew ?_)))
                (case side22 => exact HC126_6.out)
                (case side23 => repeat (first | exact (Kd.C_below HR126_7.out HB.out) | (with_reducible refine Kd.C_alloc ?_ _) | (with_reducible refine Kd.C_drewN ?_ _) | (with_reducible refine Kd.C_drew ?_)))
                (case side24 => exact HC126_7.out)
                (case side25 => repeat (first | exact (Kd.C_below HR126_8.out HB.out) | (with_reducible refine Kd.C_alloc ?_ _) | (with_reducible refine Kd.C_drewN ?_ _) | (with_reducible refine Kd.C_drew ?_)))
                (case side26 => exact HC126_8.out)
                (case side27 => repeat (first | exact (Kd.C_below HR126_9.out HB.out) | (with_reducible refine Kd.C_alloc ?_ _) | (with_reducible refine Kd.C_drewN ?_ _) | (with_reducible refine Kd.C_drew ?_)))
                (case side28 => exact HC126_9.out)
                (case side29 => repeat (first | exact (Kd.C_below HR126_10.out HB.out) | (with_reducible refine Kd.C_alloc ?_ _) | (with_reducible refine Kd.C_drewN ?_ _) | (with_reducible refine Kd.C_drew ?_)))
                (case side30 => exact HC126_10.out)
                (case side31 => repeat (first | exact (Kd.C_below HR126_11.out HB.out) | (with_reducible refine Kd.C_alloc ?_ _) | (with_reducible refine Kd.C_drewN ?_ _) | (with_reducible refine Kd.C_drew ?_)))
                (case side32 => exact HC126_11.out)
                rintro e w12 ⟨rfl, hb⟩
                refine ⟨_, rfl, ?_⟩
                have n0_ := Aside0.mk (below_step (by repeat (first | (with_reducible first | exact HB.out | apply below_alloc | apply pw_below_drewN | apply below_drew1) | exact HB.out)) hb)
                clear HB
                have HB := n0_
                clear n0_
                (try clear hb)
                (try clear hb2)
                (try clear hk)
                (try clear hi)
                refine hK.out _ _ ⟨((HB.out.cell (World.block_lt_of_cell? w _ hw125_0)).trans hw125_0), ((HB.out.cell (World.block_lt_of_cell? w _ hw125_1)).trans hw125_1), ((HB.out.cell (World.block_lt_of_cell? w _ hw125_2)).trans hw125_2), ((HB.out.cell (World.block_lt_of_cell? w _ hw125_3)).trans hw125_3), ((HB.out.cell (World.block_lt_of_cell? w _ hw125_4)).trans hw125_4), ((HB.out.cell (World.block_lt_of_cell? w _ hw125_5)).trans hw125_5), ((HB.out.cell (World.block_lt_of_cell? w _ hw125_6)).trans hw125_6), ((HB.out.cell (World.block_lt_of_cell? w _ hw125_7)).trans hw125_7), ((HB.out.cell (World.block_lt_of_cell? w _ hw125_8)).trans hw125_8), ((HB.out.cell (World.block_lt_of_cell? w _ hw125_9)).trans hw125_9), ((HB.out.cell (World.block_lt_of_cell? w _ hw125_10)).trans hw125_10), ((HB.out.cell (World.block_lt_of_cell? w _ hw125_11)).trans hw125_11), ((HB.out.cell (World.block_lt_of_cell? w _ hw126_0)).trans hw126_0), ((HB.out.cell (World.block_lt_of_cell? w _ hw126_1)).trans hw126_1), ((HB.out.cell (World.block_lt_of_cell? w _ hw126_2)).trans hw126_2), ((HB.out.cell (World.block_lt_of_cell? w _ hw126_3)).trans hw126_3), ((HB.out.cell (World.block_lt_of_cell? w _ hw126_4)).trans hw126_4), ((HB.out.cell (World.block_lt_of_cell? w _ hw126_5)).trans hw126_5), ((HB.out.cell (World.block_lt_of_cell? w _ hw126_6)).trans hw126_6), ((HB.out.cell (World.block_lt_of_cell? w _ hw126_7)).trans hw126_7), ((HB.out.cell (World.block_lt_of_cell? w _ hw126_8)).trans hw126_8), ((HB.out.cell (World.block_lt_of_cell? w _ hw126_9)).trans hw126_9), ((HB.out.cell (World.block_lt_of_cell? w _ hw126_10)).trans hw126_10), ((HB.out.cell (World.block_lt_of_cell? w _ hw126_11)).trans hw126_11)⟩ (fun hHeld => ?_)
                clear hK K
                refine norm_ (a' := ?_) ?_ ?_
                rotate_left
                · show Act.put _ (some 26) _ = _
                  simp only [Act.put, List.setIfInBounds_toArray, List.set_cons_zero, List.set_cons_succ, i64_w, i32_w]
                  rfl
                refine pure_ (i := 9) (N := some 6) (v := ?_) (a' := ?_) #[true, true, true, true, true, true, true, true, true, true] rfl rfl (any_of HT_.out (by kernel_rfl)) (fun _ _ _ h => h) (Or.inl ⟨by rfl, ?_⟩) ?_ ?_
                rotate_left
                · intro w'
                  go_simp
                  with_reducible rfl
                rotate_left
                · simp only [Act.put, List.setIfInBounds_toArray, List.set_cons_zero, List.set_cons_succ, i64_w, i32_w]
                  rfl
                refine done_ (done_of HT_.out (by kernel_rfl)) ?_
                try go_wp2
                go_ret
                exact ⟨by first | rfl | (simp [errW_none, errW_some] <;> rfl) | (simp [*, errW_none, errW_some] <;> rfl), by repeat (first | (with_reducible first | exact HB.out | apply below_alloc | apply pw_below_drewN | apply below_drew1) | exact HB.out)⟩
            · rw [if_neg c6] at H
              exact absurd H (by simp)
          · rw [if_neg c5] at H
            exact absurd H (by simp)
        · rw [if_neg c4] at H
          have c4b0 : decide (x5_1 < (l0.length : Int)) = false := decide_eq_false c4
          clear c4
          obtain rfl := Option.some.inj H
          go_wp2
          go_ret
          exact ⟨by first | rfl | (simp [errW_none, errW_some] <;> rfl) | (simp [*, errW_none, errW_some] <;> rfl), by repeat (first | (with_reducible first | exact HB.out | apply below_alloc | apply pw_below_drewN | apply below_drew1) | exact HB.out)⟩
  · rw [if_neg c3] at H
    have c3b0 : ((l0.length : Int) == (l1.length : Int)) = false := beq_eq_false_iff_ne.mpr c3
    have c3b1 : ((l0.length : Int) != (l1.length : Int)) = true := bne_iff_ne.mpr c3
    have c3b2 : (l0.length == l1.length) = false := by first | simpa using c3 | (simp at c3 ⊢; omega)
    obtain rfl := Option.some.inj H
    go_enter Tryd.func8, Tryd.ntmps8
    go_wp2
    go_ret
    exact ⟨by first | rfl | (simp [errW_none, errW_some] <;> rfl) | (simp [*, errW_none, errW_some] <;> rfl), by repeat (first | (with_reducible first | exact HB.out | apply below_alloc | apply pw_below_drewN | apply below_drew1) | exact HB.out)⟩

def slices_Index_string_string.l0 : Nat → List ByteArray → ByteArray → Int → Int → Option (Int)
  | 0, _, _, _, _ => none
  | k + 1, x0, x1, x7, x8 => if x8 < x7 then (if 0 ≤ x8 then (if x8 < (x0.length : Int) then (if x1.toList = (rdOf ByteArray.empty x0 x8).toList then (some x8) else (slices_Index_string_string.l0 k x0 x1 x7 (wrap64 (x8 + 1)))) else (none)) else (none)) else (some (-1))
def slices_Index_string_string.f (k : Nat) (l0 : List ByteArray) (a1 : ByteArray) : Option (Int) := slices_Index_string_string.l0 k l0 a1 (l0.length : Int) 0
set_option maxHeartbeats 8000000 in
set_option maxRecDepth 100000 in
theorem slices_Index_string_string.calls (k : Nat) (A0 : Option Addr) (c0 : Nat) (l0 : List ByteArray) (a1 : ByteArray) (r : Int) (w : World) (hr0 : Kd.C Kd.string w A0 l0.length l0) (hc0 : l0.length ≤ c0) (h : slices_Index_string_string.f k l0 a1 = some r) :
    Calls Tryd.prog 92 #[.slice A0 l0.length c0, .string a1] w fun e w' => e = .returned (.int .i64 r) ∧ Drawn0 w w' := by
  have HR0 := Aside0.mk hr0
  have HC0 := Aside0.mk hc0
  clear hr0 hc0
  have H : (slices_Index_string_string.l0 k l0 a1 (l0.length : Int) 0) = some r := h
  clear h
  have H' := Aside0.mk H
  clear H
  go_enter Tryd.func92, Tryd.ntmps92
  go_wp2
  go_loopg [8] k (fun kq v8 w' => ∃ (x8_1 : Int), v8 = .int .i64 x8_1 ∧ Aside0 (slices_Index_string_string.l0 kq l0 a1 (l0.length : Int) x8_1 = some r) ∧ Aside0 (kq ≤ k) ∧ Drawn0 w w')
  case atStart => exact ⟨(0), (by first | rfl | (simp; done) | (simp [*]; done)), H', ⟨Nat.le_refl _⟩, by repeat (first | exact Drawn0.refl _ | apply Drawn0.step)⟩
  case round =>
    clear H'
    try clear p2
    obtain ⟨x8_1, rfl, HA, HK1, ⟨m1, rfl⟩⟩ := hrel
    cases gk with
    | zero => exact absurd HA.out (by simp [slices_Index_string_string.l0])
    | succ k1 =>
      have H := HA.out
      clear HA
      simp only [slices_Index_string_string.l0] at H
      by_cases c3 : x8_1 < (l0.length : Int)
      · rw [if_pos c3] at H
        have c3b0 : decide (x8_1 < (l0.length : Int)) = true := decide_eq_true c3
        clear c3
        by_cases c4 : 0 ≤ x8_1
        · rw [if_pos c4] at H
          have c4b0 : decide (0 ≤ x8_1) = true := decide_eq_true c4
          clear c4
          by_cases c5 : x8_1 < (l0.length : Int)
          · rw [if_pos c5] at H
            have c5b0 : decide (x8_1 < (l0.length : Int)) = true := decide_eq_true c5
            clear c5
            by_cases c6 : a1.toList = (rdOf ByteArray.empty l0 x8_1).toList
            · rw [if_pos c6] at H
              have c6b0 : (a1.toList == (rdOf ByteArray.empty l0 x8_1).toList) = true := beq_iff_eq.mpr c6
              have c6b1 : (a1.toList != (rdOf ByteArray.empty l0 x8_1).toList) = false := bne_eq_false_iff_eq.mpr c6
              clear c6
              obtain rfl := Option.some.inj H
              have p128 : 0 ≤ (x8_1 : Int) := of_decide_eq_true (by first | (with_reducible assumption) | assumption)
              have q128 : x8_1 < (l0.length : Int) := of_decide_eq_true (by first | (with_reducible assumption) | assumption)
              obtain ⟨ad128, e128, hx128_0⟩ := Kd.at_string HR0.out x8_1 p128 q128
              cases e128
              replace p128 := eq_true p128
              replace q128 := eq_true q128
              go_wp2
              go_ret
              exact ⟨by first | rfl | (simp; done) | (simp [*]; done), by repeat (first | exact Drawn0.refl _ | apply Drawn0.step)⟩
            · rw [if_neg c6] at H
              have c6b0 : (a1.toList == (rdOf ByteArray.empty l0 x8_1).toList) = false := beq_eq_false_iff_ne.mpr c6
              have c6b1 : (a1.toList != (rdOf ByteArray.empty l0 x8_1).toList) = true := bne_iff_ne.mpr c6
              have H' := Aside0.mk H
              clear H
              have p128 : 0 ≤ (x8_1 : Int) := of_decide_eq_true (by first | (with_reducible assumption) | assumption)
              have q128 : x8_1 < (l0.length : Int) := of_decide_eq_true (by first | (with_reducible assumption) | assumption)
              obtain ⟨ad128, e128, hx128_0⟩ := Kd.at_string HR0.out x8_1 p128 q128
              cases e128
              replace p128 := eq_true p128
              replace q128 := eq_true q128
              go_wp2
              go_roundg k1
              case measure => have := HK1.out; omega
              case rel => exact ⟨(wrap64 (x8_1 + 1)), (by first | rfl | (simp; done) | (simp [*]; done)), H', ⟨by have := HK1.out; omega⟩, by repeat (first | exact Drawn0.refl _ | apply Drawn0.step)⟩
          · rw [if_neg c5] at H
            exact absurd H (by simp)
        · rw [if_neg c4] at H
          exact absurd H (by simp)
      · rw [if_neg c3] at H
        have c3b0 : decide (x8_1 < (l0.length : Int)) = false := decide_eq_false c3
        clear c3
        obtain rfl := Option.some.inj H
        go_wp2
        go_ret
        exact ⟨by first | rfl | (simp; done) | (simp [*]; done), by repeat (first | exact Drawn0.refl _ | apply Drawn0.step)⟩

def slices_Contains_string_string.f (k : Nat) (l0 : List ByteArray) (a1 : ByteArray) : Option (Bool) := (slices_Index_string_string.f k l0 a1).bind fun t129 => (some (decide (t129 ≥ 0)))
set_option maxHeartbeats 8000000 in
set_option maxRecDepth 100000 in
theorem slices_Contains_string_string.calls (k : Nat) (A0 : Option Addr) (c0 : Nat) (l0 : List ByteArray) (a1 : ByteArray) (r : Bool) (w : World) (hr0 : Kd.C Kd.string w A0 l0.length l0) (hc0 : l0.length ≤ c0) (h : slices_Contains_string_string.f k l0 a1 = some r) :
    Calls Tryd.prog 76 #[.slice A0 l0.length c0, .string a1] w fun e w' => e = .returned (.bool r) ∧ Drawn0 w w' := by
  have HR0 := Aside0.mk hr0
  have HC0 := Aside0.mk hc0
  clear hr0 hc0
  have H : ((slices_Index_string_string.f k l0 a1).bind fun t129 => (some (decide (t129 ≥ 0)))) = some r := h
  clear h
  replace H := Option.bind_eq_some_iff.mp H
  obtain ⟨t129, A30, H⟩ := H
  replace H : (some (decide (t129 ≥ 0))) = some r := H
  have A3 := Aside0.mk A30
  clear A30
  obtain rfl := Option.some.inj H
  go_enter Tryd.func76, Tryd.ntmps76
  go_wp2_with (first | ((with_reducible refine gate_callee (f := 92) rfl ?_); refine goesL_ (some 7) rfl rfl Tryd.func92 (by kernel_rfl) rfl #[.slice A0 l0.length c0, .string a1] rfl (by (try simp only [List.map_toArray, List.map_cons, List.map_nil]); first | done | rfl | (simp only [List.length_drop, List.length_take]; rfl)) ?_; (with_reducible refine (slices_Index_string_string.calls k _ _ l0 a1 t129 _ ?side1 ?side2 A3.out).mono ?_); (case side1 => repeat (first | exact HR0.out | (with_reducible refine Kd.C_alloc ?_ _) | (with_reducible refine Kd.C_drewN ?_ _) | (with_reducible refine Kd.C_drew ?_))); (case side2 => exact HC0.out); rintro e w' ⟨rfl, ⟨nd, rfl⟩⟩; refine ⟨_, rfl, ?_⟩))
  go_ret
  exact ⟨by first | rfl | (simp; done) | (simp [*]; done), by repeat (first | exact Drawn0.refl _ | apply Drawn0.step)⟩

def dep_signs.f  : Option (List ByteArray) := some (([(⟨#[]⟩ : ByteArray), (⟨#[60]⟩ : ByteArray), (⟨#[61]⟩ : ByteArray), (⟨#[60, 61]⟩ : ByteArray), (⟨#[62]⟩ : ByteArray), (⟨#[60, 62]⟩ : ByteArray), (⟨#[62, 61]⟩ : ByteArray), (⟨#[60, 61, 62]⟩ : ByteArray)] : List ByteArray))
set_option maxHeartbeats 8000000 in
set_option maxRecDepth 100000 in
theorem dep_signs.calls  (r : List ByteArray) (w : World) (h : dep_signs.f  = some r) :
    Calls Tryd.prog 77 #[] w fun e w' => ∃ v0_ : Value, e = .returned (v0_) ∧ Kd.R Kd.string 9 w' w.heap.size (fun _ => True) v0_ r ∧ Below w.heap.size w w' := by
  have HB := Aside0.mk (Below.refl w.heap.size w)
  have H : (some (([(⟨#[]⟩ : ByteArray), (⟨#[60]⟩ : ByteArray), (⟨#[61]⟩ : ByteArray), (⟨#[60, 61]⟩ : ByteArray), (⟨#[62]⟩ : ByteArray), (⟨#[60, 62]⟩ : ByteArray), (⟨#[62, 61]⟩ : ByteArray), (⟨#[60, 61, 62]⟩ : ByteArray)] : List ByteArray))) = some r := h
  clear h
  obtain ⟨y130, hy130⟩ : ∃ y_ : List ByteArray, y_ = (([(⟨#[]⟩ : ByteArray), (⟨#[60]⟩ : ByteArray), (⟨#[61]⟩ : ByteArray), (⟨#[60, 61]⟩ : ByteArray), (⟨#[62]⟩ : ByteArray), (⟨#[60, 62]⟩ : ByteArray), (⟨#[62, 61]⟩ : ByteArray), (⟨#[60, 61, 62]⟩ : ByteArray)] : List ByteArray)) := ⟨_, rfl⟩
  replace H : (some y130) = some r := by first | (rw [hy130]; with_reducible exact H) | (have H2_ := (Option.bind_some _ _).symm.trans H; rw [hy130]; with_reducible exact H2_) | (have H2_ := (Option.bind_some _ _).symm.trans H; with_reducible exact H2_) | with_reducible exact H | (rw [hy130]; exact H) | exact H
  have Ny130 := Aside0.mk hy130
  clear hy130
  obtain rfl := Option.some.inj H
  go_enter Tryd.func77, Tryd.ntmps77
  go_wp2_with (first | ((with_reducible refine gate_dst (N := 1) rfl ?_); refine Kd.R_lit Kd.string _ 9 ?hg (N := 1) ?hd (xs := ([(⟨#[]⟩ : ByteArray), (⟨#[60]⟩ : ByteArray), (⟨#[61]⟩ : ByteArray), (⟨#[60, 61]⟩ : ByteArray), (⟨#[62]⟩ : ByteArray), (⟨#[60, 62]⟩ : ByteArray), (⟨#[62, 61]⟩ : ByteArray), (⟨#[60, 61, 62]⟩ : ByteArray)] : List ByteArray)) (inner := [.string (⟨#[]⟩ : ByteArray), .string (⟨#[60]⟩ : ByteArray), .string (⟨#[61]⟩ : ByteArray), .string (⟨#[60, 61]⟩ : ByteArray), .string (⟨#[62]⟩ : ByteArray), .string (⟨#[60, 62]⟩ : ByteArray), .string (⟨#[62, 61]⟩ : ByteArray), .string (⟨#[60, 61, 62]⟩ : ByteArray)]) (ok := fun _ => True) (okp := fun _ => True) ?hr ?hp (fun _ hk => hk) trivial (Below.refl _ _) (Nat.le_refl _) (by simp) ?_; (case hd => rfl); (case hg => rfl); (case hr => first | (go_simp; done) | (go_simp; rfl)); (case hp => exact (Reps.one (show Kd.M Kd.string _ _ _ (⟨#[]⟩ : ByteArray) [.string (⟨#[]⟩ : ByteArray)] from rfl) (Reps.one (show Kd.M Kd.string _ _ _ (⟨#[60]⟩ : ByteArray) [.string (⟨#[60]⟩ : ByteArray)] from rfl) (Reps.one (show Kd.M Kd.string _ _ _ (⟨#[61]⟩ : ByteArray) [.string (⟨#[61]⟩ : ByteArray)] from rfl) (Reps.one (show Kd.M Kd.string _ _ _ (⟨#[60, 61]⟩ : ByteArray) [.string (⟨#[60, 61]⟩ : ByteArray)] from rfl) (Reps.one (show Kd.M Kd.string _ _ _ (⟨#[62]⟩ : ByteArray) [.string (⟨#[62]⟩ : ByteArray)] from rfl) (Reps.one (show Kd.M Kd.string _ _ _ (⟨#[60, 62]⟩ : ByteArray) [.string (⟨#[60, 62]⟩ : ByteArray)] from rfl) (Reps.one (show Kd.M Kd.string _ _ _ (⟨#[62, 61]⟩ : ByteArray) [.string (⟨#[62, 61]⟩ : ByteArray)] from rfl) (Reps.one (show Kd.M Kd.string _ _ _ (⟨#[60, 61, 62]⟩ : ByteArray) [.string (⟨#[60, 61, 62]⟩ : ByteArray)] from rfl) (Reps.none _ _)))))))))); intro v131 w1 ho2 hb hg_ hnew_; clear hg_ hnew_; (first | rw [← Ny130.out] at ho2 | (simp only [Int.reduceToNat] at ho2; rw [← Ny130.out] at ho2)); have n0_ := Aside0.mk (Kd.R_lower ho2 (below_size (by repeat (first | (with_reducible first | exact HB.out | apply below_alloc | apply pw_below_drewN | apply below_drew1) | exact HB.out)))); have n1_ := Aside0.mk (below_step (by repeat (first | (with_reducible first | exact HB.out | apply below_alloc | apply pw_below_drewN | apply below_drew1) | exact HB.out)) hb); clear HB; have HO132 := n0_; have HB := n1_; clear n0_ n1_; clear hb ho2))
  go_ret
  exact ⟨_, by first | rfl | (simp [errW_none, errW_some] <;> rfl) | (simp [*, errW_none, errW_some] <;> rfl), by (with_reducible repeat (first | apply Kd.R_alloc | apply Kd.R_drewN | apply Kd.R_drew)); exact HO132.out, by repeat (first | (with_reducible first | exact HB.out | apply below_alloc | apply pw_below_drewN | apply below_drew1) | exact HB.out)⟩

def dep_words.f  : Option (List ByteArray) := some (([(⟨#[]⟩ : ByteArray), (⟨#[]⟩ : ByteArray), (⟨#[97, 110, 100]⟩ : ByteArray), (⟨#[111, 114]⟩ : ByteArray), (⟨#[105, 102]⟩ : ByteArray), (⟨#[119, 105, 116, 104]⟩ : ByteArray), (⟨#[119, 105, 116, 104, 111, 117, 116]⟩ : ByteArray)] : List ByteArray))
set_option maxHeartbeats 8000000 in
set_option maxRecDepth 100000 in
theorem dep_words.calls  (r : List ByteArray) (w : World) (h : dep_words.f  = some r) :
    Calls Tryd.prog 78 #[] w fun e w' => ∃ v0_ : Value, e = .returned (v0_) ∧ Kd.R Kd.string 9 w' w.heap.size (fun _ => True) v0_ r ∧ Below w.heap.size w w' := by
  have HB := Aside0.mk (Below.refl w.heap.size w)
  have H : (some (([(⟨#[]⟩ : ByteArray), (⟨#[]⟩ : ByteArray), (⟨#[97, 110, 100]⟩ : ByteArray), (⟨#[111, 114]⟩ : ByteArray), (⟨#[105, 102]⟩ : ByteArray), (⟨#[119, 105, 116, 104]⟩ : ByteArray), (⟨#[119, 105, 116, 104, 111, 117, 116]⟩ : ByteArray)] : List ByteArray))) = some r := h
  clear h
  obtain ⟨y133, hy133⟩ : ∃ y_ : List ByteArray, y_ = (([(⟨#[]⟩ : ByteArray), (⟨#[]⟩ : ByteArray), (⟨#[97, 110, 100]⟩ : ByteArray), (⟨#[111, 114]⟩ : ByteArray), (⟨#[105, 102]⟩ : ByteArray), (⟨#[119, 105, 116, 104]⟩ : ByteArray), (⟨#[119, 105, 116, 104, 111, 117, 116]⟩ : ByteArray)] : List ByteArray)) := ⟨_, rfl⟩
  replace H : (some y133) = some r := by first | (rw [hy133]; with_reducible exact H) | (have H2_ := (Option.bind_some _ _).symm.trans H; rw [hy133]; with_reducible exact H2_) | (have H2_ := (Option.bind_some _ _).symm.trans H; with_reducible exact H2_) | with_reducible exact H | (rw [hy133]; exact H) | exact H
  have Ny133 := Aside0.mk hy133
  clear hy133
  obtain rfl := Option.some.inj H
  go_enter Tryd.func78, Tryd.ntmps78
  go_wp2_with (first | ((with_reducible refine gate_dst (N := 1) rfl ?_); refine Kd.R_lit Kd.string _ 9 ?hg (N := 1) ?hd (xs := ([(⟨#[]⟩ : ByteArray), (⟨#[]⟩ : ByteArray), (⟨#[97, 110, 100]⟩ : ByteArray), (⟨#[111, 114]⟩ : ByteArray), (⟨#[105, 102]⟩ : ByteArray), (⟨#[119, 105, 116, 104]⟩ : ByteArray), (⟨#[119, 105, 116, 104, 111, 117, 116]⟩ : ByteArray)] : List ByteArray)) (inner := [.string (⟨#[]⟩ : ByteArray), .string (⟨#[]⟩ : ByteArray), .string (⟨#[97, 110, 100]⟩ : ByteArray), .string (⟨#[111, 114]⟩ : ByteArray), .string (⟨#[105, 102]⟩ : ByteArray), .string (⟨#[119, 105, 116, 104]⟩ : ByteArray), .string (⟨#[119, 105, 116, 104, 111, 117, 116]⟩ : ByteArray)]) (ok := fun _ => True) (okp := fun _ => True) ?hr ?hp (fun _ hk => hk) trivial (Below.refl _ _) (Nat.le_refl _) (by simp) ?_; (case hd => rfl); (case hg => rfl); (case hr => first | (go_simp; done) | (go_simp; rfl)); (case hp => exact (Reps.one (show Kd.M Kd.string _ _ _ (⟨#[]⟩ : ByteArray) [.string (⟨#[]⟩ : ByteArray)] from rfl) (Reps.one (show Kd.M Kd.string _ _ _ (⟨#[]⟩ : ByteArray) [.string (⟨#[]⟩ : ByteArray)] from rfl) (Reps.one (show Kd.M Kd.string _ _ _ (⟨#[97, 110, 100]⟩ : ByteArray) [.string (⟨#[97, 110, 100]⟩ : ByteArray)] from rfl) (Reps.one (show Kd.M Kd.string _ _ _ (⟨#[111, 114]⟩ : ByteArray) [.string (⟨#[111, 114]⟩ : ByteArray)] from rfl) (Reps.one (show Kd.M Kd.string _ _ _ (⟨#[105, 102]⟩ : ByteArray) [.string (⟨#[105, 102]⟩ : ByteArray)] from rfl) (Reps.one (show Kd.M Kd.string _ _ _ (⟨#[119, 105, 116, 104]⟩ : ByteArray) [.string (⟨#[119, 105, 116, 104]⟩ : ByteArray)] from rfl) (Reps.one (show Kd.M Kd.string _ _ _ (⟨#[119, 105, 116, 104, 111, 117, 116]⟩ : ByteArray) [.string (⟨#[119, 105, 116, 104, 111, 117, 116]⟩ : ByteArray)] from rfl) (Reps.none _ _))))))))); intro v134 w1 ho2 hb hg_ hnew_; clear hg_ hnew_; (first | rw [← Ny133.out] at ho2 | (simp only [Int.reduceToNat] at ho2; rw [← Ny133.out] at ho2)); have n0_ := Aside0.mk (Kd.R_lower ho2 (below_size (by repeat (first | (with_reducible first | exact HB.out | apply below_alloc | apply pw_below_drewN | apply below_drew1) | exact HB.out)))); have n1_ := Aside0.mk (below_step (by repeat (first | (with_reducible first | exact HB.out | apply below_alloc | apply pw_below_drewN | apply below_drew1) | exact HB.out)) hb); clear HB; have HO135 := n0_; have HB := n1_; clear n0_ n1_; clear hb ho2))
  go_ret
  exact ⟨_, by first | rfl | (simp [errW_none, errW_some] <;> rfl) | (simp [*, errW_none, errW_some] <;> rfl), by (with_reducible repeat (first | apply Kd.R_alloc | apply Kd.R_drewN | apply Kd.R_drew)); exact HO135.out, by repeat (first | (with_reducible first | exact HB.out | apply below_alloc | apply pw_below_drewN | apply below_drew1) | exact HB.out)⟩

end Go.Proofs.YtmclfdonoldlpaaDoor.POwn
