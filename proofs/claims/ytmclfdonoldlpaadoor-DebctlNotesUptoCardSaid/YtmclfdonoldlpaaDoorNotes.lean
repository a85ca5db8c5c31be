/- DebctlNotes: the walk. -/
import Derived.Test.YtmclfdonoldlpaaDoorLines
import Derived.Test.YtmclfdonoldlpaaDoorJoins
import Derived.Test.YtmclfdonoldlpaaDoorG5
namespace Go.Proofs.YtmclfdonoldlpaaDoor.Own
open Go.RowKit Go.Lib Go.Proofs.YtmclfdonoldlpaaDoorW.PrintWords Go.Proofs.YtmclfdonoldlpaaDoorW.PrintLast Go.Proofs.YtmclfdonoldlpaaDoorW.PrintMore Go.Proofs.YtmclfdonoldlpaaDoor.POwn
set_option linter.unusedVariables false
set_option linter.unusedSimpArgs false

theorem linesC_calls (t : ByteArray) (ht : t.size < 8796093022208) (w : World) : Calls Tryd.prog 9 #[.string t] w fun e w' => (∃ A c, e = .returned (.slice A (linesP t).length c) ∧ Kd.string.C w' A (linesP t).length (linesP t)) ∧ Below w.heap.size w w' := by
  obtain ⟨k, hk⟩ := lines_ok t ht
  refine (chandlerref12_Lines.calls k t _ w hk).mono ?_
  rintro e w' ⟨v, rfl, hR, hb⟩
  obtain ⟨A, c, rfl⟩ := Kd.R_slice hR
  obtain ⟨_, _, hC⟩ := Kd.R_reads' hR
  exact ⟨⟨A, c, rfl, hC⟩, hb⟩
theorem ev_neg (e : Int) (h0 : -9223372036854775808 ≤ e) (h : e < 0) : 1 ≤ wrap64 (1 + -(e + 1).tmod 4) ∧ wrap64 (1 + -(e + 1).tmod 4) ≤ 4 := by
  obtain ⟨m, hm⟩ : ∃ m : Nat, e + 1 = -(m : Int) := ⟨(-(e + 1)).toNat, by omega⟩
  have h1 : (e + 1).tmod 4 = -((m : Int) % 4) := by
    rw [hm, Int.neg_tmod, Int.tmod_eq_emod_of_nonneg (by omega)]
  have h2 : wrap64 (1 + -(e + 1).tmod 4) = 1 + -(e + 1).tmod 4 := by
    unfold wrap64
    rw [h1]
    first
      | (rw [Go.IntWalk.i64_in _ (by omega)]; done)
      | (simp; omega)
      | omega
  rw [h2, h1]
  omega
set_option maxRecDepth 100000 in
set_option maxHeartbeats 2000000 in
theorem notes_calls (t n : ByteArray) (ev0 : Int) (ht : t.size ≤ 1048576) (hn : n.size ≤ 1048576) (he0 : -9223372036854775808 ≤ ev0) (he1 : ev0 ≤ 9223372036854775807) (w : World) (hT : Tabs w) :
    Calls Tryd.prog 5 #[.string t, .string n, .int .i64 ev0] w fun e w' => e = .returned (.bool true) ∧ Below w.heap.size w w' := by
  have HT := Lib.hid hT
  clear hT
  go_enter Tryd.func5, Tryd.ntmps5
  go_wp2_with (go_at_call 6; refine (awake_calls w HT.out).mono ?_; rintro e w1 ⟨rfl, hb1⟩)
  go_loopw [8] (fun i wr => ∃ k : Nat, k ≤ n.size ∧ i = .int .i64 k ∧ wr = w1 ∧ Hid ((10 : UInt8) ∉ n.data.toList.take k)) (fun i _ => n.size - (intOf i).toNat)
  case atStart => exact ⟨0, Nat.zero_le _, rfl, rfl, Lib.hid (by simp)⟩
  case round =>
    obtain ⟨k, hk, rfl, rfl, hno⟩ := hrel
    by_cases hlt : k < n.size
    · by_cases h10 : n[k] = 10
      · have hq : ((n[k].toNat : Int) == 10) = true := by rw [h10]; rfl
        clear h10
        go_wp2
        go_ret
        exact ⟨rfl, hb1⟩
      · have hq : ((n[k].toNat : Int) == 10) = false := by
          simp only [beq_eq_false_iff_ne]
          intro e
          exact h10 (UInt8.toNat_inj.1 (show n[k].toNat = (10 : UInt8).toNat by have : ((10 : UInt8).toNat : Int) = 10 := rfl; omega))
        have hno2 := Lib.hid (show (10 : UInt8) ∉ n.data.toList.take (k + 1) by
          rw [List.take_add_one, List.getElem?_eq_getElem (by simpa using hlt)]
          intro hm
          rcases List.mem_append.1 hm with hm | hm
          · exact hno.out hm
          · simp at hm
            exact h10 (by rw [getEq]; simpa using hm.symm))
        clear h10
        go_wp2
        go_roundw
        case rel => exact ⟨k + 1, by omega, by go_num, trivial, hno2⟩
        case measure => simp [intOf]; omega
    · have hnn := Lib.hid (show (10 : UInt8) ∉ n.data.toList by
        have h := hno.out
        rwa [List.take_of_length_le (by simp; omega)] at h)
      clear hno
      have hb0 := hb1
      rcases Int.lt_or_le ev0 0 with hneg | hneg
      case' inl =>
        go_wp2_with (go_at_call 9; refine (linesC_calls t (by omega) _).mono ?_; rintro e w3 ⟨⟨A3, c3, rfl, hC3⟩, hb3⟩)
        have hev := ev_neg ev0 he0 hneg
        generalize wrap64 (1 + -(ev0 + 1).tmod 4) = ev at *
      case' inr =>
        go_wp2_with (go_at_call 9; refine (linesC_calls t (by omega) _).mono ?_; rintro e w3 ⟨⟨A3, c3, rfl, hC3⟩, hb3⟩)
        have hev : 1 ≤ 1 + ev0 % 4 ∧ 1 + ev0 % 4 ≤ 4 := by omega
        generalize 1 + ev0 % 4 = ev at *
      all_goals
        obtain ⟨hev1, hev4⟩ := hev
        have hev0 : ¬ ev = 0 := by omega
        have hb13 := below_then hb0 hb0.size hb3
        have hlen : (linesP t).length ≤ 1048577 := by
          have h1 := lnG_len t.data.toList []
          have h2 : t.data.toList.length = t.size := by simp
          unfold linesP
          omega
        have HC := Lib.hid hC3
        clear hC3
        go_loopw [10, 11] (fun s i wr => ∃ k : Nat, k ≤ (linesP t).length ∧ s = .string (wideT n ev (linesP t) k) ∧ i = .int .i64 k ∧ wr = w3) (fun _ i _ => (linesP t).length - (intOf i).toNat)
        case atStart => exact ⟨0, Nat.zero_le _, rfl, rfl, rfl⟩
        case round =>
          obtain ⟨k2, hk2, rfl, rfl, rfl⟩ := hrel
          have hwz := wideT_size n ev t k2 ht hn
          by_cases hlt2 : k2 < (linesP t).length
          · obtain ⟨x, hx⟩ : ∃ x, (linesP t)[k2]? = some x := ⟨_, List.getElem?_eq_getElem hlt2⟩
            obtain ⟨ad, rfl, q0⟩ := str_at HC.out k2 x hx
            have hnx := wideT_next n ev (linesP t) k2 x hx
            have hwz2 := wideT_size n ev t (k2 + 1) ht hn
            have hxz : x.size ≤ 4000000000000 := by
              rw [hnx] at hwz2
              simp only [ByteArray.size_append] at hwz2
              omega
            have HNX := Lib.hid hnx
            clear hnx hwz2 hx
            by_cases hm : (k2 : Int).tmod ev = 0
            · have hm2 : ((k2 : Int) % ev == 0) = true := by
                rw [← Int.tmod_eq_emod_of_nonneg (Int.natCast_nonneg k2)]
                simpa using hm
              go_wp2
              go_roundw
              case rel => exact ⟨k2 + 1, by omega, by rw [HNX.out, if_pos hm], by go_num, trivial⟩
              case measure => simp [intOf]; omega
            · have hm2 : ((k2 : Int) % ev == 0) = false := by
                rw [← Int.tmod_eq_emod_of_nonneg (Int.natCast_nonneg k2)]
                simpa using hm
              go_wp2
              go_roundw
              case rel => exact ⟨k2 + 1, by omega, by rw [HNX.out, if_neg hm], by go_num, trivial⟩
              case measure => simp [intOf]; omega
          · obtain rfl : k2 = (linesP t).length := by omega
            have hpn := parse_noted t n ev hnn.out
            have hwd : wideT n ev (linesP t) (linesP t).length = laidT (noted n ev 0 (linesP t)) := by
              unfold wideT
              rw [List.take_length]
            rw [← hwd] at hpn
            clear hwd
            generalize wideT n ev (linesP t) (linesP t).length = wd at *
            by_cases hbig : 40000 < wd.size
            · have hbig' : (40000 : Int) < (wd.size : Int) := by omega
              clear hpn
              go_wp2
              go_ret
              exact ⟨rfl, hb13⟩
            · have hbig' : (wd.size : Int) ≤ 40000 := by omega
              have hpw := hpn (by omega)
              clear hpn
              rcases hpt : parseF t with er | s
              · rw [hpt] at hpw
                have HPT := Lib.hid hpt
                have HPW := Lib.hid hpw
                clear hpt hpw
                go_wp2_with (first
                  | (go_at_call 7; (with_reducible refine (parse_fail t er HPT.out _ (HT.out.below hb13)).mono ?_); rintro e w4 ⟨rfl, hb4⟩; have hb14 := below_then hb13 hb13.size hb4)
                  | (go_at_call 7; (with_reducible refine (parse_fail wd er HPW.out _ (HT.out.below hb14)).mono ?_); rintro e w5 ⟨rfl, hb5⟩; have hb15 := below_then hb14 hb14.size hb5)
                  | (go_at_call 8; refine (same_ok (l := ([] : List S34)) (A := none) (A' := none) (c := 0) (c' := 0) (n := 0) (n' := 0) (ok := fun _ => True) (ok' := fun _ => True) (Kd.R_nil _ _ _ _ _) (Kd.R_nil _ _ _ _ _)).mono ?_; rintro e w6 ⟨rfl, hb6⟩; have hb16 := below_then hb15 hb15.size hb6))
                go_ret
                refine ⟨?_, hb16⟩
                first
                  | rfl
                  | (show Ending.returned (.bool (er == er)) = _; simp)
              · rw [hpt] at hpw
                have HPT := Lib.hid hpt
                have HPW := Lib.hid hpw
                clear hpt hpw
                go_wp2_with (first
                  | (go_at_call 7; (with_reducible refine (parse_good t s HPT.out _ (HT.out.below hb13)).mono ?_); rintro e w4 ⟨⟨A4, c4, rfl, hR4⟩, hb4⟩; have hb14 := below_then hb13 hb13.size hb4)
                  | (go_at_call 7; (with_reducible refine (parse_good wd s HPW.out _ (HT.out.below hb14)).mono ?_); rintro e w5 ⟨⟨A5, c5, rfl, hR5⟩, hb5⟩; have hb15 := below_then hb14 hb14.size hb5)
                  | (go_at_call 8; refine (same_ok (Kd.R_below hR4 hb5) hR5).mono ?_; rintro e w6 ⟨rfl, hb6⟩; have hb16 := below_then hb15 hb15.size hb6))
                go_ret
                exact ⟨rfl, hb16⟩
end Go.Proofs.YtmclfdonoldlpaaDoor.Own
