/- debctl.piece where a comparison stands: the loop over the signs. -/
import Derived.Test.YtmclfdonoldlpaaDoorG6
import Derived.Test.YtmclfdonoldlpaaDoorG3
import Derived.Deep.RegionHeld3
namespace Go.Proofs.YtmclfdonoldlpaaDoor.Own
open Go.RowKit Go.Lib Go.Proofs.YtmclfdonoldlpaaDoorW.PrintWords Go.Proofs.YtmclfdonoldlpaaDoorW.PrintLast Go.Proofs.YtmclfdonoldlpaaDoorW.PrintMore Go.Proofs.YtmclfdonoldlpaaDoor.POwn
set_option linter.unusedVariables false
set_option linter.unusedSimpArgs false

theorem blk_cell {w : World} {b : Nat} {cs : Array Value} {t : TypeId} (h : w.heap[b]? = some (.cells cs t (0, 0))) (j : Nat) : w.cell? ⟨b, j, none⟩ = cs[j]? := by simp [World.cell?, h]
theorem blk_free {w : World} {b : Nat} {cs : Array Value} {t : TypeId} (h : w.heap[b]? = some (.cells cs t (0, 0))) (j : Nat) : w.frozen? ⟨b, j, none⟩ = false := by simp [World.frozen?, h]
theorem blk_put {w : World} {b : Nat} {cs : Array Value} {t : TypeId} (h : w.heap[b]? = some (.cells cs t (0, 0))) (j : Nat) (v : Value) : (w.setCell ⟨b, j, none⟩ v).heap[b]? = some (.cells (cs.setIfInBounds j v) t (0, 0)) := by
  simp [World.setCell, Array.getElem?_modify, h]
theorem blk_after {w w1 : World} {b : Nat} {o : Obj} (hb : Below w.heap.size w w1) (h : w.heap[b]? = some o) : w1.heap[b]? = some o := (hb.block b (lt_of_block h)).trans h
theorem blk_far {w : World} {b : Nat} {o : Obj} {a : Addr} (v : Value) (h : w.heap[b]? = some o) (hne : b ≠ a.block) : (w.setCell a v).heap[b]? = some o := (Below.heap_setCell w a v b hne).trans h

theorem signs_calls (w : World) : Calls Tryd.prog 68 #[] w fun e w' => (∃ A c, e = .returned (.slice A 5 c) ∧ Kd.R k97 97 w' w.heap.size (fun k => w.heap.size ≤ k) (.slice A 5 c) sgn) ∧ Below w.heap.size w w' := by
  have h : debctl_signs.f = some sgn := by unfold sgn debctl_signs.f; rfl
  refine (debctl_signs.calls sgn w h).mono ?_
  rintro e w' ⟨v, rfl, hR, hB⟩
  obtain ⟨A, c, rfl, hl, hC⟩ := Kd.R_reads hR
  exact ⟨⟨A, c, rfl, Kd.R_mono (Kd.R_bound hR) (fun k hk => hk.2.1)⟩, hB⟩
theorem sign_at {w : World} {base : Nat} {ok : Nat → Prop} {A : Option Addr} {c : Nat} (h : Kd.R k97 97 w base ok (.slice A 5 c) sgn) (k : Nat) (x : S97) (hx : sgn[k]? = some x) :
    ∃ ad, A = some ad ∧ w.cell? (ad.add (k * 2)) = some (.string x.f0) ∧ w.cell? ⟨(ad.add (k * 2)).block, (ad.add (k * 2)).off + 1, none⟩ = some (.int .i64 x.f1) := by
  obtain ⟨A', c', e, hl, hC⟩ := Kd.R_reads h
  have hA : A = A' := by injection e
  subst hA
  have hlt : k < sgn.length := (List.getElem?_eq_some_iff.1 hx).1
  obtain ⟨ad, eA, q0, q1⟩ := at_T97 hC (k : Int) (by omega) (by omega)
  have hr : rd_T97 sgn (k : Int) = x := by
    unfold rd_T97
    rw [Int.toNat_natCast, List.getD_eq_getElem?_getD, hx]; rfl
  rw [hr] at q0 q1
  exact ⟨ad, eA, by simpa using q0, by simpa using q1⟩
theorem sgn_len : sgn.length = 5 := by decide
theorem foldl_take {α β : Type} (f : β → α → β) : ∀ (l : List α) (k : Nat) (x : α) (b : β), l[k]? = some x → (l.take (k + 1)).foldl f b = f ((l.take k).foldl f b) x
  | [], k, x, b, h => by simp at h
  | a :: r, 0, x, b, h => by simp at h; subst h; rfl
  | a :: r, k + 1, x, b, h => foldl_take f r k x (f b a) (by simpa using h)

/-- What holds at each head of the loop over the signs. -/
structure PieceInv (w : World) (B5 D : Nat) (n u : ByteArray) (A : Option Addr) (c : Nat) (k : Nat) (op : Int) (r : ByteArray) (wr : World) : Prop where
  st : (sgn.take k).foldl sgStep (0, u) = (op, r)
  box : wr.heap[D]? = some (.cells #[.int .i64 1, .string n, .int .i64 op, .string ⟨#[]⟩, .slice none 0 0] 36 (0, 0))
  res : wr.heap[w.heap.size]? = some (.cells #[.int .i64 0, .string ⟨#[]⟩, .int .i64 0, .string ⟨#[]⟩, .slice none 0 0] 36 (0, 0))
  sg : Kd.R k97 97 wr B5 (fun k => B5 ≤ k) (.slice A 5 c) sgn
  below : Below w.heap.size w wr
  size : r.size ≤ 9223372036854775807

set_option maxRecDepth 100000 in
set_option maxHeartbeats 4000000 in
theorem piece_c (s t n r u u2 : ByteArray) (hs : s.size ≤ 9223372036854775807) (ht : trimB s = t) (hw : wordF 40 t = (n, r)) (hr : r.toList.isEmpty = false) (hp : hasP r parB = true) (hu : cutP r parB = u) (hu2 : trimB u = u2)
    (hus : u.size ≤ 9223372036854775807) (op : Int) (r2 : ByteArray) (hsg : sgRun u2 = (op, r2)) (ver en : ByteArray) (hv : wordF 41 r2 = (ver, en)) (b : Bool)
    (hb : (!n.toList.isEmpty && decide (0 < op) && !ver.toList.isEmpty && (en.toList == endB.toList)) = b) (w : World) (hT : Tabs w) :
    Calls Tryd.prog 47 #[.string s] w (PiecePost w n op ver b) := by
  have hts : t.size ≤ 9223372036854775807 := by have := trimB_size s; rw [ht] at this; omega
  have hu2s : u2.size ≤ 9223372036854775807 := by have := trimB_size u; rw [hu2] at this; omega
  have HT := Lib.hid hT
  have HR := Lib.hid ht
  have HW := Lib.hid hw
  have HP := Lib.hid hp
  have HQ := Lib.hid hu
  have HU := Lib.hid hu2
  have HSG := Lib.hid hsg
  have HV := Lib.hid hv
  have HBB := Lib.hid hb
  clear hT ht hw hp hu hu2 hsg hv hb
  go_enter Tryd.func47, Tryd.ntmps47
  go_wp2_with (first
    | (go_at_call 11; (with_reducible refine (trim_calls s hs t HR.out _).mono ?_); rintro e w1 ⟨rfl, hb1⟩; have HB1 := Lib.hid (below_then (below_alloc (Below.refl _ _) _) (by simp) hb1); have HK1 := Lib.hid (blk_after hb1 (heap_alloc_new w _)); clear hb1)
    | (go_at_call 66; (with_reducible refine (word_calls t 40 (by decide) hts n _ HW.out _ (HT.out.below HB1.out)).mono ?_); rintro e w2 ⟨rfl, hb2⟩; have HK2 := Lib.hid (blk_after hb2 HK1.out); have HB2 := Lib.hid (below_then HB1.out HB1.out.size hb2); clear hb2)
    | (go_at_call 67; refine (cutP_calls r ⟨#[40]⟩ _ _ HQ.out HP.out _).mono ?_; rintro e w3 ⟨rfl, ⟨n3, rfl⟩⟩)
    | (go_at_call 11; (with_reducible refine (trim_calls u hus u2 HU.out _).mono ?_); rintro e w4 ⟨rfl, hb4⟩; have HK4 := Lib.hid (blk_after hb4 (by exact heap_alloc_new w2 _)); have HL4 := Lib.hid (blk_after hb4 (by exact (Below.heap_alloc w2 _ w.heap.size (lt_of_block HK2.out)).trans HK2.out)); have HB4 := Lib.hid (below_then (pw_below_drewN (below_alloc HB2.out _) n3) (by have := HB2.out.size; simp; omega) hb4); clear hb4)
    | (go_at_call 68; refine (signs_calls _).mono ?_; rintro e w5 ⟨⟨A, c, rfl, hR⟩, hb5⟩; have HR5 := Lib.hid hR; have HK5 := Lib.hid (blk_after hb5 HK4.out); have HL5 := Lib.hid (blk_after hb5 HL4.out); have HB5 := Lib.hid (below_then HB4.out HB4.out.size hb5); clear hb5 hR))
  have hD4 : w2.heap.size < w4.heap.size := lt_of_block HK4.out
  have hwD : w.heap.size < w2.heap.size := lt_of_block HK2.out
  go_loopw [5, 39] (fun v i wr => ∃ (k : Nat) (o : Int) (x : ByteArray), k ≤ 5 ∧ v = .string x ∧ i = .int .i64 k ∧ Hid (PieceInv w w4.heap.size w2.heap.size n u2 A c k o x wr)) (fun _ i _ => 5 - (intOf i).toNat)
  case atStart => exact ⟨0, 0, u2, by omega, rfl, rfl, Lib.hid ⟨rfl, HK5.out, HL5.out, HR5.out, HB5.out, hu2s⟩⟩
  case round =>
    obtain ⟨k, o, x, hk, rfl, rfl, hI⟩ := hrel
    have hsz := hI.out.size
    by_cases hlt : k < 5
    · obtain ⟨y, hy⟩ : ∃ y, sgn[k]? = some y := ⟨_, List.getElem?_eq_getElem (by rw [sgn_len]; exact hlt)⟩
      obtain ⟨ad, rfl, q0, q1⟩ := sign_at hI.out.sg k y hy
      have hst := foldl_take sgStep sgn k y (0, u2) hy
      rw [hI.out.st] at hst
      have HST := Lib.hid hst
      have b0 := blk_cell hI.out.box
      have f0 := blk_free hI.out.box
      have hwr := lt_of_block hI.out.box
      clear hst hy
      obtain ⟨yt, yo⟩ := y
      dsimp only at *
      rcases hh : hasP x yt with _ | _
      · have HST2 := Lib.hid (show (sgn.take (k + 1)).foldl sgStep (0, u2) = (o, x) by rw [HST.out, sgStep]; simp [hh])
        have HH := Lib.hid hh
        clear hh HST
        go_wp2_with (go_at_call 67; refine (cutP_calls x yt _ _ rfl HH.out _).mono ?_; rintro e w6 ⟨rfl, ⟨n6, rfl⟩⟩)
        go_roundw
        case rel => exact ⟨k + 1, o, x, by omega, rfl, by go_num, Lib.hid ⟨HST2.out, (Below.heap_alloc _ _ _ hwr).trans hI.out.box, (Below.heap_alloc _ _ _ (lt_of_block hI.out.res)).trans hI.out.res, Kd.R_below hI.out.sg (pw_below_drewN (below_alloc (Below.refl _ _) _) n6), pw_below_drewN (below_alloc hI.out.below _) n6, hsz⟩⟩
        case measure => simp [intOf]; omega
      · by_cases h0 : o = 0
        · subst h0
          obtain ⟨z, hz⟩ : ∃ z, cutP x yt = z := ⟨_, rfl⟩
          obtain ⟨zt, hzt⟩ : ∃ zt, trimB z = zt := ⟨_, rfl⟩
          have hzs : z.size ≤ 9223372036854775807 := by have := cutP_size x yt; rw [hz] at this; omega
          have hzts : zt.size ≤ 9223372036854775807 := by have := trimB_size z; rw [hzt] at this; omega
          have HST2 := Lib.hid (show (sgn.take (k + 1)).foldl sgStep (0, u2) = (yo, zt) by rw [HST.out, sgStep]; simp [hh, hz, hzt])
          have HH := Lib.hid hh
          have HZ := Lib.hid hz
          have HZT := Lib.hid hzt
          clear hh HST hz hzt
          go_wp2_with (go_at_call 67; refine (cutP_calls x yt _ _ HZ.out HH.out _).mono ?_; rintro e w6 ⟨rfl, ⟨n6, rfl⟩⟩)
          have hwr1 : w2.heap.size < wr.heap.size + 1 := by omega
          have hne : ¬ wr.heap.size = w2.heap.size := by omega
          have hne2 : ¬ w2.heap.size = wr.heap.size := by omega
          have bxx := (Below.heap_alloc wr (.cells #[.string yt, .int .i64 yo] 97) _ hwr).trans hI.out.box
          have BX := Lib.hid bxx
          clear bxx b0 f0 q0 q1
          go_region_held3 (fun W => W.cell? ⟨wr.heap.size, 1, none⟩ = some (.int .i64 yo)) (first | assumption | (simp [go_sem]; done) | (rw [World.cell?_setCell_far _ _ _ _ (by first | exact hne | exact hne2)]; assumption)) (first | (go_at_call 11; refine (trim_calls z hzs zt HZT.out _).mono ?_; rintro e w7 ⟨rfl, hb7⟩; have d7 := Lib.hid (blk_after hb7 BX.out); have d7c : w7.cell? ⟨w2.heap.size, 2, none⟩ = some (.int .i64 0) := blk_cell d7.out 2; have d7f := blk_free d7.out 2; have s7 : w7.cell? ⟨wr.heap.size, 1, none⟩ = some (.int .i64 yo) := cell_after hb7 (by simp [go_sem]); have HB7 := Lib.hid hb7; clear hb7))
          go_wp2
          go_roundw
          case rel => exact ⟨k + 1, yo, zt, by omega, rfl, by go_num, Lib.hid ⟨HST2.out, blk_put d7.out 2 _, blk_far _ (blk_after HB7.out (by exact (Below.heap_alloc _ _ _ (lt_of_block hI.out.res)).trans hI.out.res)) (by simp; omega), Kd.R_far (Kd.R_below hI.out.sg ((pw_below_drewN (below_alloc (Below.refl _ _) _) (n6 + 1)).trans (HB7.out.mono (by simp)))) (by intro q hq; simp; omega) _, (below_then (pw_below_drewN (below_alloc hI.out.below _) (n6 + 1)) (by have := hI.out.below.size; simp; omega) HB7.out).setCell (by simp; omega) _, hzts⟩⟩
          case measure => simp [intOf]; omega
        · have HST2 := Lib.hid (show (sgn.take (k + 1)).foldl sgStep (0, u2) = (o, x) by rw [HST.out, sgStep]; simp [h0])
          have h0' : (o == 0) = false := by simpa using h0
          have HH := Lib.hid hh
          clear hh HST h0
          go_wp2_with (go_at_call 67; refine (cutP_calls x yt _ _ rfl HH.out _).mono ?_; rintro e w6 ⟨rfl, ⟨n6, rfl⟩⟩)
          go_roundw
          case rel => exact ⟨k + 1, o, x, by omega, rfl, by go_num, Lib.hid ⟨HST2.out, (Below.heap_alloc _ _ _ hwr).trans hI.out.box, (Below.heap_alloc _ _ _ (lt_of_block hI.out.res)).trans hI.out.res, Kd.R_below hI.out.sg (pw_below_drewN (below_alloc (Below.refl _ _) _) n6), pw_below_drewN (below_alloc hI.out.below _) n6, hsz⟩⟩
          case measure => simp [intOf]; omega
    · obtain rfl : k = 5 := by omega
      have hst := hI.out.st
      rw [List.take_of_length_le (by rw [sgn_len]; exact Nat.le_refl _)] at hst
      obtain ⟨rfl, rfl⟩ : op = o ∧ r2 = x := by
        have := HSG.out.symm.trans hst
        simpa using this
      have hwr := lt_of_block hI.out.box
      have hww := lt_of_block hI.out.res
      have hne : ¬ w2.heap.size = w.heap.size := by omega
      have hne2 : ¬ w.heap.size = w2.heap.size := by omega
      clear hst
      have hbf := HBB.out
      rcases hn : n.toList.isEmpty with _ | _
      case true =>
        rw [hn] at hbf
        simp only [Bool.not_true, Bool.false_and] at hbf
        subst hbf
        go_wp2_with (go_at_call 66; refine (word_calls r2 41 (by decide) hsz ver en HV.out _ (HT.out.below hI.out.below)).mono ?_; rintro e w8 ⟨rfl, hb8⟩; have d8 := Lib.hid (blk_after hb8 hI.out.box); have r8 := Lib.hid (blk_after hb8 hI.out.res); have d8c0 : w8.cell? ⟨w2.heap.size, 0, none⟩ = some (.int .i64 1) := blk_cell d8.out 0; have r8c0 : w8.cell? ⟨w.heap.size, 0, none⟩ = some (.int .i64 0) := blk_cell r8.out 0; have r8f0 := blk_free r8.out 0; have d8c1 : w8.cell? ⟨w2.heap.size, 1, none⟩ = some (.string n) := blk_cell d8.out 1; have r8c1 : w8.cell? ⟨w.heap.size, 1, none⟩ = some (.string ⟨#[]⟩) := blk_cell r8.out 1; have r8f1 := blk_free r8.out 1; have d8c2 : w8.cell? ⟨w2.heap.size, 2, none⟩ = some (.int .i64 op) := blk_cell d8.out 2; have r8c2 : w8.cell? ⟨w.heap.size, 2, none⟩ = some (.int .i64 0) := blk_cell r8.out 2; have r8f2 := blk_free r8.out 2; have d8c3 : w8.cell? ⟨w2.heap.size, 3, none⟩ = some (.string ⟨#[]⟩) := blk_cell d8.out 3; have r8c3 : w8.cell? ⟨w.heap.size, 3, none⟩ = some (.string ⟨#[]⟩) := blk_cell r8.out 3; have r8f3 := blk_free r8.out 3; have d8c4 : w8.cell? ⟨w2.heap.size, 4, none⟩ = some (.slice none 0 0) := blk_cell d8.out 4; have r8c4 : w8.cell? ⟨w.heap.size, 4, none⟩ = some (.slice none 0 0) := blk_cell r8.out 4; have r8f4 := blk_free r8.out 4; have d8f := blk_free d8.out 3; have HB8 := Lib.hid hb8; clear hb8)
        refine bodyPost_ret (v := .tuple #[.agg #[.int .i64 1, .string n, .int .i64 op, .string ver, .slice none 0 0], .bool (false)]) ?ga ?gb ?gc
        case ga =>
          simp [results, Tryd.results47, go_sem, d8c0, d8c1, d8c2, d8c3, d8c4, r8c0, r8c1, r8c2, r8c3, r8c4, hne, hne2]
        case gb => rfl
        case gc =>
          refine ⟨rfl, ?_⟩
          have HBW := Lib.hid (below_then hI.out.below hI.out.below.size HB8.out)
          repeat (first | (with_reducible exact HBW.out) | (with_reducible apply below_alloc) | (with_reducible apply pw_below_drewN) | ((with_reducible refine below_set ?_ ?_); rotate_left; first | exact Nat.le_refl _ | omega))
      by_cases ho : 0 < op
      case neg =>
        rw [decide_eq_false ho] at hbf
        simp only [Bool.and_false, Bool.false_and] at hbf
        subst hbf
        go_wp2_with (go_at_call 66; refine (word_calls r2 41 (by decide) hsz ver en HV.out _ (HT.out.below hI.out.below)).mono ?_; rintro e w8 ⟨rfl, hb8⟩; have d8 := Lib.hid (blk_after hb8 hI.out.box); have r8 := Lib.hid (blk_after hb8 hI.out.res); have d8c0 : w8.cell? ⟨w2.heap.size, 0, none⟩ = some (.int .i64 1) := blk_cell d8.out 0; have r8c0 : w8.cell? ⟨w.heap.size, 0, none⟩ = some (.int .i64 0) := blk_cell r8.out 0; have r8f0 := blk_free r8.out 0; have d8c1 : w8.cell? ⟨w2.heap.size, 1, none⟩ = some (.string n) := blk_cell d8.out 1; have r8c1 : w8.cell? ⟨w.heap.size, 1, none⟩ = some (.string ⟨#[]⟩) := blk_cell r8.out 1; have r8f1 := blk_free r8.out 1; have d8c2 : w8.cell? ⟨w2.heap.size, 2, none⟩ = some (.int .i64 op) := blk_cell d8.out 2; have r8c2 : w8.cell? ⟨w.heap.size, 2, none⟩ = some (.int .i64 0) := blk_cell r8.out 2; have r8f2 := blk_free r8.out 2; have d8c3 : w8.cell? ⟨w2.heap.size, 3, none⟩ = some (.string ⟨#[]⟩) := blk_cell d8.out 3; have r8c3 : w8.cell? ⟨w.heap.size, 3, none⟩ = some (.string ⟨#[]⟩) := blk_cell r8.out 3; have r8f3 := blk_free r8.out 3; have d8c4 : w8.cell? ⟨w2.heap.size, 4, none⟩ = some (.slice none 0 0) := blk_cell d8.out 4; have r8c4 : w8.cell? ⟨w.heap.size, 4, none⟩ = some (.slice none 0 0) := blk_cell r8.out 4; have r8f4 := blk_free r8.out 4; have d8f := blk_free d8.out 3; have HB8 := Lib.hid hb8; clear hb8)
        refine bodyPost_ret (v := .tuple #[.agg #[.int .i64 1, .string n, .int .i64 op, .string ver, .slice none 0 0], .bool (false)]) ?ga ?gb ?gc
        case ga =>
          simp [results, Tryd.results47, go_sem, d8c0, d8c1, d8c2, d8c3, d8c4, r8c0, r8c1, r8c2, r8c3, r8c4, hne, hne2]
        case gb => rfl
        case gc =>
          refine ⟨rfl, ?_⟩
          have HBW := Lib.hid (below_then hI.out.below hI.out.below.size HB8.out)
          repeat (first | (with_reducible exact HBW.out) | (with_reducible apply below_alloc) | (with_reducible apply pw_below_drewN) | ((with_reducible refine below_set ?_ ?_); rotate_left; first | exact Nat.le_refl _ | omega))
      rcases hvv : ver.toList.isEmpty with _ | _
      case true =>
        rw [hvv] at hbf
        simp only [Bool.not_true, Bool.and_false, Bool.false_and] at hbf
        subst hbf
        go_wp2_with (go_at_call 66; refine (word_calls r2 41 (by decide) hsz ver en HV.out _ (HT.out.below hI.out.below)).mono ?_; rintro e w8 ⟨rfl, hb8⟩; have d8 := Lib.hid (blk_after hb8 hI.out.box); have r8 := Lib.hid (blk_after hb8 hI.out.res); have d8c0 : w8.cell? ⟨w2.heap.size, 0, none⟩ = some (.int .i64 1) := blk_cell d8.out 0; have r8c0 : w8.cell? ⟨w.heap.size, 0, none⟩ = some (.int .i64 0) := blk_cell r8.out 0; have r8f0 := blk_free r8.out 0; have d8c1 : w8.cell? ⟨w2.heap.size, 1, none⟩ = some (.string n) := blk_cell d8.out 1; have r8c1 : w8.cell? ⟨w.heap.size, 1, none⟩ = some (.string ⟨#[]⟩) := blk_cell r8.out 1; have r8f1 := blk_free r8.out 1; have d8c2 : w8.cell? ⟨w2.heap.size, 2, none⟩ = some (.int .i64 op) := blk_cell d8.out 2; have r8c2 : w8.cell? ⟨w.heap.size, 2, none⟩ = some (.int .i64 0) := blk_cell r8.out 2; have r8f2 := blk_free r8.out 2; have d8c3 : w8.cell? ⟨w2.heap.size, 3, none⟩ = some (.string ⟨#[]⟩) := blk_cell d8.out 3; have r8c3 : w8.cell? ⟨w.heap.size, 3, none⟩ = some (.string ⟨#[]⟩) := blk_cell r8.out 3; have r8f3 := blk_free r8.out 3; have d8c4 : w8.cell? ⟨w2.heap.size, 4, none⟩ = some (.slice none 0 0) := blk_cell d8.out 4; have r8c4 : w8.cell? ⟨w.heap.size, 4, none⟩ = some (.slice none 0 0) := blk_cell r8.out 4; have r8f4 := blk_free r8.out 4; have d8f := blk_free d8.out 3; have HB8 := Lib.hid hb8; clear hb8)
        refine bodyPost_ret (v := .tuple #[.agg #[.int .i64 1, .string n, .int .i64 op, .string ver, .slice none 0 0], .bool (false)]) ?ga ?gb ?gc
        case ga =>
          simp [results, Tryd.results47, go_sem, d8c0, d8c1, d8c2, d8c3, d8c4, r8c0, r8c1, r8c2, r8c3, r8c4, hne, hne2]
        case gb => rfl
        case gc =>
          refine ⟨rfl, ?_⟩
          have HBW := Lib.hid (below_then hI.out.below hI.out.below.size HB8.out)
          repeat (first | (with_reducible exact HBW.out) | (with_reducible apply below_alloc) | (with_reducible apply pw_below_drewN) | ((with_reducible refine below_set ?_ ?_); rotate_left; first | exact Nat.le_refl _ | omega))
      case false =>
        rw [hn, decide_eq_true ho, hvv, show endB.toList = [41] by rw [ByteArray.toList_eq]; rfl] at hbf
        simp only [Bool.not_false, Bool.true_and] at hbf
        subst hbf
        go_wp2_with (go_at_call 66; refine (word_calls r2 41 (by decide) hsz ver en HV.out _ (HT.out.below hI.out.below)).mono ?_; rintro e w8 ⟨rfl, hb8⟩; have d8 := Lib.hid (blk_after hb8 hI.out.box); have r8 := Lib.hid (blk_after hb8 hI.out.res); have d8c0 : w8.cell? ⟨w2.heap.size, 0, none⟩ = some (.int .i64 1) := blk_cell d8.out 0; have r8c0 : w8.cell? ⟨w.heap.size, 0, none⟩ = some (.int .i64 0) := blk_cell r8.out 0; have r8f0 := blk_free r8.out 0; have d8c1 : w8.cell? ⟨w2.heap.size, 1, none⟩ = some (.string n) := blk_cell d8.out 1; have r8c1 : w8.cell? ⟨w.heap.size, 1, none⟩ = some (.string ⟨#[]⟩) := blk_cell r8.out 1; have r8f1 := blk_free r8.out 1; have d8c2 : w8.cell? ⟨w2.heap.size, 2, none⟩ = some (.int .i64 op) := blk_cell d8.out 2; have r8c2 : w8.cell? ⟨w.heap.size, 2, none⟩ = some (.int .i64 0) := blk_cell r8.out 2; have r8f2 := blk_free r8.out 2; have d8c3 : w8.cell? ⟨w2.heap.size, 3, none⟩ = some (.string ⟨#[]⟩) := blk_cell d8.out 3; have r8c3 : w8.cell? ⟨w.heap.size, 3, none⟩ = some (.string ⟨#[]⟩) := blk_cell r8.out 3; have r8f3 := blk_free r8.out 3; have d8c4 : w8.cell? ⟨w2.heap.size, 4, none⟩ = some (.slice none 0 0) := blk_cell d8.out 4; have r8c4 : w8.cell? ⟨w.heap.size, 4, none⟩ = some (.slice none 0 0) := blk_cell r8.out 4; have r8f4 := blk_free r8.out 4; have d8f := blk_free d8.out 3; have HB8 := Lib.hid hb8; clear hb8)
        refine bodyPost_ret (v := .tuple #[.agg #[.int .i64 1, .string n, .int .i64 op, .string ver, .slice none 0 0], .bool (en.toList == [41])]) ?ga ?gb ?gc
        case ga =>
          simp [results, Tryd.results47, go_sem, d8c0, d8c1, d8c2, d8c3, d8c4, r8c0, r8c1, r8c2, r8c3, r8c4, hne, hne2]
        case gb => rfl
        case gc =>
          refine ⟨rfl, ?_⟩
          have HBW := Lib.hid (below_then hI.out.below hI.out.below.size HB8.out)
          repeat (first | (with_reducible exact HBW.out) | (with_reducible apply below_alloc) | (with_reducible apply pw_below_drewN) | ((with_reducible refine below_set ?_ ?_); rotate_left; first | exact Nat.le_refl _ | omega))
end Go.Proofs.YtmclfdonoldlpaaDoor.Own
