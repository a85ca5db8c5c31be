/- The walk of pool.deps. slices.ContainsFunc over strings; the predicate on a package's files. -/
import Derived.Test.YtmclfdonoldlpaaDoorG3
import Derived.Test.YtmclfdonoldlpaaDoorG2
namespace Go.Proofs.YtmclfdonoldlpaaDoor.Own
open Go.RowKit Go.Proofs.YtmclfdonoldlpaaDoorW.PrintWords Go.Proofs.YtmclfdonoldlpaaDoorW.PrintLast Go.Proofs.YtmclfdonoldlpaaDoorW.PrintMore Go.Proofs.YtmclfdonoldlpaaDoor.POwn
set_option linter.unusedVariables false
set_option linter.unusedSimpArgs false

/-- May a dependency be in list k? -/
def okDep (k : Nat) (f0 f2 e : Int) : Bool := ((k != 0 && k != 4) || f0 == 1) && e == 0 && !(k == 0 && f2 != 0 && f2 != 2)
def okList (k : Nat) (l : List S36) : Bool := decide (l.length ≤ 16) && l.all fun x => okDep k x.f0 x.f2 (depErr x)
theorem ok_cases (k : Nat) (f0 f2 e : Int) :
    (((k : Int) != 0) = false ∧ ((k : Int) == 0) = true ∧ (f0 == 1) = false ∧ okDep k f0 f2 e = false) ∨
    (((k : Int) != 0) = false ∧ ((k : Int) == 0) = true ∧ f0 = 1 ∧ (e != 0) = true ∧ okDep k f0 f2 e = false) ∨
    (((k : Int) != 0) = false ∧ ((k : Int) == 0) = true ∧ f0 = 1 ∧ e = 0 ∧ f2 = 0 ∧ okDep k f0 f2 e = true) ∨
    (((k : Int) != 0) = false ∧ ((k : Int) == 0) = true ∧ f0 = 1 ∧ e = 0 ∧ f2 = 2 ∧ okDep k f0 f2 e = true) ∨
    (((k : Int) != 0) = false ∧ ((k : Int) == 0) = true ∧ f0 = 1 ∧ e = 0 ∧ (f2 != 0) = true ∧ (f2 != 2) = true ∧ okDep k f0 f2 e = false) ∨
    (((k : Int) != 0) = true ∧ ((k : Int) != 4) = false ∧ ((k : Int) == 0) = false ∧ (f0 == 1) = false ∧ okDep k f0 f2 e = false) ∨
    (((k : Int) != 0) = true ∧ ((k : Int) != 4) = false ∧ ((k : Int) == 0) = false ∧ f0 = 1 ∧ (e != 0) = true ∧ okDep k f0 f2 e = false) ∨
    (((k : Int) != 0) = true ∧ ((k : Int) != 4) = false ∧ ((k : Int) == 0) = false ∧ f0 = 1 ∧ e = 0 ∧ okDep k f0 f2 e = true) ∨
    (((k : Int) != 0) = true ∧ ((k : Int) != 4) = true ∧ ((k : Int) == 0) = false ∧ (e != 0) = true ∧ okDep k f0 f2 e = false) ∨
    (((k : Int) != 0) = true ∧ ((k : Int) != 4) = true ∧ ((k : Int) == 0) = false ∧ e = 0 ∧ okDep k f0 f2 e = true) := by
  have h1 : f0 = 1 ∨ (f0 == 1) = false := by rcases h : f0 == 1 with _ | _; exact .inr rfl; exact .inl (by simpa using h)
  have h2 : e = 0 ∨ (e != 0) = true := by rcases h : e != 0 with _ | _; exact .inl (by simpa using h); exact .inr rfl
  have h3 : f2 = 0 ∨ f2 = 2 ∨ ((f2 != 0) = true ∧ (f2 != 2) = true) := by
    by_cases a : f2 = 0
    · exact .inl a
    · by_cases b : f2 = 2
      · exact .inr (.inl b)
      · exact .inr (.inr ⟨by simpa using a, by simpa using b⟩)
  have h4 : k = 0 ∨ k = 4 ∨ (((k : Int) != 0) = true ∧ ((k : Int) != 4) = true ∧ ((k : Int) == 0) = false) := by
    by_cases a : k = 0
    · exact .inl a
    · by_cases b : k = 4
      · exact .inr (.inl b)
      · exact .inr (.inr ⟨by simp; omega, by simp; omega, by simp; omega⟩)
  rcases h4 with rfl | rfl | ⟨a, b, c⟩
  · rcases h1 with rfl | h1
    · rcases h2 with rfl | h2
      · rcases h3 with rfl | rfl | ⟨h3, h3'⟩ <;> simp_all [okDep]
      · simp_all [okDep]
    · simp_all [okDep]
  · rcases h1 with rfl | h1
    · rcases h2 with rfl | h2 <;> simp_all [okDep]
    · simp_all [okDep]
  · rcases h2 with rfl | h2
    · have a' : (k != 0) = true := by simp at a ⊢; omega
      have b' : (k != 4) = true := by simp at b ⊢; omega
      have c' : (k == 0) = false := by simp at c ⊢; omega
      simp_all [okDep]
    · simp_all [okDep]

theorem all_take {α : Type} (p : α → Bool) : ∀ (l : List α) (m : Nat) (x : α), l[m]? = some x → (l.take (m + 1)).all p = ((l.take m).all p && p x)
  | [], m, x, h => by simp at h
  | a :: r, 0, x, h => by simp at h; subst h; simp
  | a :: r, m + 1, x, h => by
    have := all_take p r m x (by simpa using h)
    simp only [List.take_succ_cons, List.all_cons, this, Bool.and_assoc]
theorem all_false {α : Type} (p : α → Bool) (l : List α) (m : Nat) (x : α) (h : l[m]? = some x) (hp : p x = false) : l.all p = false := by
  rw [List.all_eq_false]
  exact ⟨x, List.mem_of_getElem? h, by simp [hp]⟩

/-- A package's lists, by their places. -/
def depsB (L : Nat → List S36) : Bool := (List.range 7).all fun j => okList j (L j)
theorem deps_false (L : Nat → List S36) (k : Nat) (hk : k < 7) (h : okList k (L k) = false) : depsB L = false := by
  unfold depsB
  rw [List.all_eq_false]
  exact ⟨k, List.mem_range.2 hk, by simp [h]⟩
theorem deps_true (L : Nat → List S36) (h : ∀ k, k < 7 → okList k (L k) = true) : depsB L = true := by
  unfold depsB
  rw [List.all_eq_true]
  exact fun k hk => h k (List.mem_range.1 hk)

set_option maxRecDepth 100000 in
set_option maxHeartbeats 16000000 in
theorem deps_calls (s0 s1 s2 s3 : ByteArray) (A : Nat → Option Addr) (C : Nat → Nat) (L : Nat → List S36) (fs : Value) (hfs : fs.oneCell' = true) (w : World)
    (hL : ∀ j, j < 7 → k36.C w (A j) (L j).length (L j) ∧ (L j).length ≤ C j ∧ wfL (L j)) :
    Calls Tryd.prog 55 #[.agg #[.string s0, .string s1, .string s2, .string s3, .slice (A 0) (L 0).length (C 0), .slice (A 1) (L 1).length (C 1), .slice (A 2) (L 2).length (C 2), .slice (A 3) (L 3).length (C 3), .slice (A 4) (L 4).length (C 4), .slice (A 5) (L 5).length (C 5), .slice (A 6) (L 6).length (C 6), fs]] w fun e w' => e = .returned (.bool (depsB L)) ∧ Below w.heap.size w w' := by
  have hlists := lists_calls w.heap.size
  have hbox : ∀ j, j < 7 → (w.alloc (.cells #[.string s0, .string s1, .string s2, .string s3, .slice (A 0) (L 0).length (C 0), .slice (A 1) (L 1).length (C 1), .slice (A 2) (L 2).length (C 2), .slice (A 3) (L 3).length (C 3), .slice (A 4) (L 4).length (C 4), .slice (A 5) (L 5).length (C 5), .slice (A 6) (L 6).length (C 6), fs] 34)).cell? ⟨w.heap.size, 4 + j, none⟩ = some (.slice (A j) (L j).length (C j)) := by
    intro j hj
    unfold World.cell?
    rw [heap_alloc_new]
    rcases j with _ | _ | _ | _ | _ | _ | _ | j
    all_goals first | rfl | omega
  have HL := Lib.hid hL
  have HX := Lib.hid hbox
  have HLI := Lib.hid hlists
  clear hL hbox hlists
  go_enter Tryd.func55, Tryd.ntmps55
  go_wp2_with (go_at_call 79; refine (HLI.out _).mono ?_; rintro e W1 ⟨rfl, hcells, hb⟩; have HC := Lib.hid hcells; have HX1 := Lib.hid (fun j hj => cell_after hb (HX.out j hj)); have HB := Lib.hid (below_then (below_alloc (Below.refl _ _) _) (by simp) hb); clear hcells hb)
  simp only [World.size_alloc] at HC
  go_loopw [10] (fun i wr => ∃ k : Nat, k ≤ 7 ∧ i = .int .i64 k ∧ Hid (∀ j, j < k → okList j (L j) = true) ∧ Hid (Below W1.heap.size W1 wr)) (fun i _ => 7 - (intOf i).toNat)
  case atStart => exact ⟨0, by omega, rfl, Lib.hid (fun j hj => by omega), Lib.hid (Below.refl _ _)⟩
  case round =>
    obtain ⟨k, hk, rfl, hok, hd⟩ := hrel
    by_cases hlt : k < 7
    · have c1 := cell_after hd.out (HC.out k hlt)
      have c2 := cell_after hd.out (HX1.out k hlt)
      have hk7 : decide ((k : Int) < 7) = true := decide_eq_true (by omega)
      have HLk := Lib.hid (HL.out k hlt)
      have hlen : (L k).length ≤ 9223372036854775807 := (HL.out k hlt).1.2.1
      by_cases h16 : 16 < (L k).length
      · have HF := Lib.hid (deps_false L k hlt (by unfold okList; rw [decide_eq_false (by omega)]; rfl))
        go_wp2
        go_ret
        exact ⟨by rw [HF.out]; rfl, below_then HB.out HB.out.size hd.out⟩
      · have h16' : (L k).length ≤ 16 := by omega
        go_wp2
        obtain ⟨wo, rfl⟩ : ∃ wo : World, wo = wr := ⟨_, rfl⟩
        go_loopw [24] (fun i wr => ∃ m : Nat, m ≤ (L k).length ∧ i = .int .i64 m ∧ Hid (((L k).take m).all (fun x => okDep k x.f0 x.f2 (depErr x)) = true) ∧ Hid (Below W1.heap.size W1 wr)) (fun i _ => (L k).length - (intOf i).toNat)
        case atStart => exact ⟨0, by omega, rfl, Lib.hid rfl, hd⟩
        case round =>
          obtain ⟨m, hm, rfl, hal, hd2⟩ := hrel
          by_cases hml : m < (L k).length
          · obtain ⟨x, hx⟩ : ∃ x, (L k)[m]? = some x := ⟨_, List.getElem?_eq_getElem hml⟩
            obtain ⟨ad, A4, c4, eA, q0, q1, q2, q3, q4, l4, g4⟩ := dep_at HLk.out.1 m x hx
            have hwd := wfL_mem HLk.out.2.2 x (List.mem_of_getElem? hx)
            have hall := all_take (fun x => okDep k x.f0 x.f2 (depErr x)) (L k) m x hx
            rw [hal.out] at hall
            have hbad : okDep k x.f0 x.f2 (depErr x) = false → depsB L = false := fun hf => deps_false L k hlt (by unfold okList; rw [all_false _ (L k) m x hx hf]; simp)
            have hbw : Below w.heap.size w wr := below_then HB.out HB.out.size hd2.out
            have hchk := fun (W : World) (h : Below w.heap.size w W) b hb => check_calls x hwd (.agg #[.int .i64 x.f0, .string x.f1, .int .i64 x.f2, .string x.f3, .slice A4 x.f4.length c4]) W ⟨A4, c4, rfl, l4, Kd.C_below g4 h⟩ b hb
            replace q0 := cell_after hbw q0
            replace q1 := cell_after hbw q1
            replace q2 := cell_after hbw q2
            replace q3 := cell_after hbw q3
            replace q4 := cell_after hbw q4
            have HB2 := Lib.hid hbw
            have HCK := Lib.hid hchk
            have HBAD := Lib.hid hbad
            have HALL := Lib.hid hall
            have HA := Lib.hid eA
            clear hx hwd hbw hchk hbad hall g4 l4 hal
            rw [eA]
            clear eA
            revert HCK HBAD HALL q0 q1 q2 q3 q4
            obtain ⟨f0, f1, f2, f3, f4⟩ := x
            dsimp only
            generalize depErr ⟨f0, f1, f2, f3, f4⟩ = e
            intro q0 q1 q2 q3 q4 HCK HBAD HALL
            rcases ok_cases k f0 f2 e with ⟨h0, h1, h2, hres⟩ | ⟨h0, h1, rfl, h3, hres⟩ | ⟨h0, h1, rfl, rfl, rfl, hres⟩ | ⟨h0, h1, rfl, rfl, rfl, hres⟩ | ⟨h0, h1, rfl, rfl, h4, h5, hres⟩ | ⟨h0, h1, h2, h3, hres⟩ | ⟨h0, h1, h2, rfl, h4, hres⟩ | ⟨h0, h1, h2, rfl, rfl, hres⟩ | ⟨h0, h1, h2, h3, hres⟩ | ⟨h0, h1, h2, rfl, hres⟩
            · have HF := Lib.hid (HBAD.out hres)
              clear HBAD HALL hres
              go_wp2_with (go_at_call 80; refine (HCK.out _ (below_alloc HB2.out _) _ rfl).mono ?_; rintro e2 w3 ⟨rfl, hb3⟩; have z2 := cell_after (a := ⟨wr.heap.size, 2, none⟩) (v := .int .i64 f2) hb3 (by simp [go_sem]))
              go_ret
              exact ⟨by rw [HF.out]; rfl, below_alloc HB2.out _⟩
            · have HF := Lib.hid (HBAD.out hres)
              clear HBAD HALL hres
              go_wp2_with (go_at_call 80; refine (HCK.out _ (below_alloc HB2.out _) _ rfl).mono ?_; rintro e2 w3 ⟨rfl, hb3⟩; have z2 := cell_after (a := ⟨wr.heap.size, 2, none⟩) (v := .int .i64 f2) hb3 (by simp [go_sem]))
              go_ret
              exact ⟨by rw [HF.out]; rfl, below_then (below_alloc HB2.out _) (by simp; have := HB2.out.size; omega) hb3⟩
            · have HALL2 := Lib.hid (show (((L k).take (m + 1)).all (fun x => okDep k x.f0 x.f2 (depErr x))) = true by rw [HALL.out, hres]; rfl)
              clear HBAD HALL hres
              go_wp2_with (go_at_call 80; refine (HCK.out _ (below_alloc HB2.out _) _ rfl).mono ?_; rintro e2 w3 ⟨rfl, hb3⟩; have z2 := cell_after (a := ⟨wr.heap.size, 2, none⟩) (v := .int .i64 0) hb3 (by simp [go_sem]))
              go_roundw
              case rel => exact ⟨m + 1, by omega, by go_num, HALL2, Lib.hid (below_then (hd2.out.trans ((below_alloc (Below.refl _ _) _).mono hd2.out.size)) (by simp; have := hd2.out.size; omega) hb3)⟩
              case measure => simp [intOf]; omega
            · have HALL2 := Lib.hid (show (((L k).take (m + 1)).all (fun x => okDep k x.f0 x.f2 (depErr x))) = true by rw [HALL.out, hres]; rfl)
              clear HBAD HALL hres
              go_wp2_with (go_at_call 80; refine (HCK.out _ (below_alloc HB2.out _) _ rfl).mono ?_; rintro e2 w3 ⟨rfl, hb3⟩; have z2 := cell_after (a := ⟨wr.heap.size, 2, none⟩) (v := .int .i64 2) hb3 (by simp [go_sem]))
              go_roundw
              case rel => exact ⟨m + 1, by omega, by go_num, HALL2, Lib.hid (below_then (hd2.out.trans ((below_alloc (Below.refl _ _) _).mono hd2.out.size)) (by simp; have := hd2.out.size; omega) hb3)⟩
              case measure => simp [intOf]; omega
            · have HF := Lib.hid (HBAD.out hres)
              clear HBAD HALL hres
              go_wp2_with (go_at_call 80; refine (HCK.out _ (below_alloc HB2.out _) _ rfl).mono ?_; rintro e2 w3 ⟨rfl, hb3⟩; have z2 := cell_after (a := ⟨wr.heap.size, 2, none⟩) (v := .int .i64 f2) hb3 (by simp [go_sem]))
              go_ret
              exact ⟨by rw [HF.out]; rfl, below_then (below_alloc HB2.out _) (by simp; have := HB2.out.size; omega) hb3⟩
            · have HF := Lib.hid (HBAD.out hres)
              clear HBAD HALL hres
              go_wp2_with (go_at_call 80; refine (HCK.out _ (below_alloc HB2.out _) _ rfl).mono ?_; rintro e2 w3 ⟨rfl, hb3⟩; have z2 := cell_after (a := ⟨wr.heap.size, 2, none⟩) (v := .int .i64 f2) hb3 (by simp [go_sem]))
              go_ret
              exact ⟨by rw [HF.out]; rfl, below_alloc HB2.out _⟩
            · have HF := Lib.hid (HBAD.out hres)
              clear HBAD HALL hres
              go_wp2_with (go_at_call 80; refine (HCK.out _ (below_alloc HB2.out _) _ rfl).mono ?_; rintro e2 w3 ⟨rfl, hb3⟩; have z2 := cell_after (a := ⟨wr.heap.size, 2, none⟩) (v := .int .i64 f2) hb3 (by simp [go_sem]))
              go_ret
              exact ⟨by rw [HF.out]; rfl, below_then (below_alloc HB2.out _) (by simp; have := HB2.out.size; omega) hb3⟩
            · have HALL2 := Lib.hid (show (((L k).take (m + 1)).all (fun x => okDep k x.f0 x.f2 (depErr x))) = true by rw [HALL.out, hres]; rfl)
              clear HBAD HALL hres
              go_wp2_with (go_at_call 80; refine (HCK.out _ (below_alloc HB2.out _) _ rfl).mono ?_; rintro e2 w3 ⟨rfl, hb3⟩; have z2 := cell_after (a := ⟨wr.heap.size, 2, none⟩) (v := .int .i64 f2) hb3 (by simp [go_sem]))
              go_roundw
              case rel => exact ⟨m + 1, by omega, by go_num, HALL2, Lib.hid (below_then (hd2.out.trans ((below_alloc (Below.refl _ _) _).mono hd2.out.size)) (by simp; have := hd2.out.size; omega) hb3)⟩
              case measure => simp [intOf]; omega
            · have HF := Lib.hid (HBAD.out hres)
              clear HBAD HALL hres
              go_wp2_with (go_at_call 80; refine (HCK.out _ (below_alloc HB2.out _) _ rfl).mono ?_; rintro e2 w3 ⟨rfl, hb3⟩; have z2 := cell_after (a := ⟨wr.heap.size, 2, none⟩) (v := .int .i64 f2) hb3 (by simp [go_sem]))
              go_ret
              exact ⟨by rw [HF.out]; rfl, below_then (below_alloc HB2.out _) (by simp; have := HB2.out.size; omega) hb3⟩
            · have HALL2 := Lib.hid (show (((L k).take (m + 1)).all (fun x => okDep k x.f0 x.f2 (depErr x))) = true by rw [HALL.out, hres]; rfl)
              clear HBAD HALL hres
              go_wp2_with (go_at_call 80; refine (HCK.out _ (below_alloc HB2.out _) _ rfl).mono ?_; rintro e2 w3 ⟨rfl, hb3⟩; have z2 := cell_after (a := ⟨wr.heap.size, 2, none⟩) (v := .int .i64 f2) hb3 (by simp [go_sem]))
              go_roundw
              case rel => exact ⟨m + 1, by omega, by go_num, HALL2, Lib.hid (below_then (hd2.out.trans ((below_alloc (Below.refl _ _) _).mono hd2.out.size)) (by simp; have := hd2.out.size; omega) hb3)⟩
              case measure => simp [intOf]; omega
          · obtain rfl : m = (L k).length := by omega
            rw [List.take_length] at hal
            have HOK := Lib.hid (show ∀ j, j < k + 1 → okList j (L j) = true from fun j hj => by
              rcases Nat.lt_or_ge j k with h | h
              · exact hok.out j h
              · obtain rfl : j = k := by omega
                unfold okList
                rw [hal.out, decide_eq_true h16']; rfl)
            clear hok hal
            go_wp2
            go_roundw
            case rel => first | exact ⟨k + 1, by omega, by go_num, HOK, hd2⟩ | ((repeat apply Exists.intro); exact ⟨⟨k + 1, by omega, by go_num, HOK, hd2⟩, rfl⟩)
            case measure => simp [intOf]; omega
    · obtain rfl : k = 7 := by omega
      have HF := Lib.hid (deps_true L hok.out)
      go_wp2
      go_ret
      exact ⟨by rw [HF.out]; rfl, below_then HB.out HB.out.size hd.out⟩
end Go.Proofs.YtmclfdonoldlpaaDoor.Own

namespace Go.Proofs.YtmclfdonoldlpaaDoor.Own
open Go.RowKit Go.Proofs.YtmclfdonoldlpaaDoorW.PrintWords Go.Proofs.YtmclfdonoldlpaaDoorW.PrintLast Go.Proofs.YtmclfdonoldlpaaDoorW.PrintMore Go.Proofs.YtmclfdonoldlpaaDoor.POwn
set_option linter.unusedVariables false
set_option linter.unusedSimpArgs false

theorem str_at {w : World} {A : Option Addr} {xs : List ByteArray} (h : Kd.string.C w A xs.length xs) (i : Nat) (x : ByteArray) (hi : xs[i]? = some x) : ∃ ad, A = some ad ∧ w.cell? (ad.add i) = some (.string x) := by
  have hlt : i < xs.length := (List.getElem?_eq_some_iff.1 hi).1
  obtain ⟨ad, c, e, hl, hK, hc⟩ := Kd.C_get h ByteArray.empty (i : Int) (by omega) (by omega)
  refine ⟨ad, e, ?_⟩
  have hx : xs.getD (i : Int).toNat ByteArray.empty = x := by rw [Int.toNat_natCast, List.getD_eq_getElem?_getD, hi]; rfl
  rw [hx] at hK
  have hc0 : c = [.string x] := hK
  have := hc 0 (.string x) (by rw [hc0]; rfl)
  simpa [Kd.string, Kd.scalar] using this

set_option maxHeartbeats 1000000 in
theorem idxStr_calls (g : Nat) (eg : ∀ args w, (callFunc g args).run Tryd.prog w = .ok (.enter g args) w) (p : ByteArray → Bool) (xs : List ByteArray) (A : Option Addr) (c : Nat) (w : World)
    (hr : Kd.string.C w A xs.length xs) (hc : xs.length ≤ c)
    (hp : ∀ (x : ByteArray) (W : World), Calls Tryd.prog g #[.string x] W fun e w' => e = .returned (.bool (p x)) ∧ Below W.heap.size W w') :
    Calls Tryd.prog 81 #[.slice A xs.length c, .func (.func g) #[] #[]] w fun e w' => e = .returned (.int .i64 (firstI p xs 0)) ∧ Below w.heap.size w w' := by
  have hlen : xs.length ≤ 9223372036854775807 := hr.2.1
  have HR := Lib.hid hr
  have HP := Lib.hid hp
  clear hr hp
  go_enter Tryd.func81, Tryd.ntmps81
  go_wp2
  go_loopw [8] (fun i wr => ∃ k : Nat, k ≤ xs.length ∧ i = .int .i64 k ∧ Hid (firstI p xs 0 = firstI p (xs.drop k) k) ∧ Below w.heap.size w wr) (fun i _ => xs.length - (intOf i).toNat)
  case atStart => exact ⟨0, Nat.zero_le _, rfl, Lib.hid rfl, Below.refl _ _⟩
  case round =>
    obtain ⟨k, hk, rfl, hf, hd⟩ := hrel
    by_cases hlt : k < xs.length
    · obtain ⟨x, hx⟩ : ∃ x, xs[k]? = some x := ⟨_, List.getElem?_eq_getElem hlt⟩
      obtain ⟨ad, rfl, q0⟩ := str_at HR.out k x hx
      have hcall := HP.out x wr
      have HF := Lib.hid (hf.out.trans (firstI_drop p xs k x hx))
      replace q0 := (hd.cell (World.block_lt_of_cell? w _ q0)).trans q0
      have HD := Lib.hid hd
      clear hx hf hd
      rcases hpx : p x with _ | _
      · rw [hpx] at hcall
        have HF' := Lib.hid (show firstI p xs 0 = firstI p (xs.drop (k + 1)) (k + 1) by rw [HF.out, hpx]; rfl)
        clear hpx HF
        go_wp2_with (go_at_fn g; refine hcall.mono ?_; rintro e w' ⟨rfl, hb⟩)
        go_roundw
        case rel => exact ⟨k + 1, by omega, by go_num, HF', below_then HD.out HD.out.size hb⟩
        case measure => simp [intOf]; omega
      · rw [hpx] at hcall
        have HF' := Lib.hid (show firstI p xs 0 = k by rw [HF.out, hpx]; rfl)
        clear hpx HF
        go_wp2_with (go_at_fn g; refine hcall.mono ?_; rintro e w' ⟨rfl, hb⟩)
        go_ret
        exact ⟨by rw [HF'.out]; rfl, below_then HD.out HD.out.size hb⟩
    · have HF' := Lib.hid (show firstI p xs 0 = -1 by rw [hf.out, List.drop_eq_nil_of_le (by omega)]; rfl)
      go_wp2
      go_ret
      exact ⟨by rw [HF'.out]; rfl, hd⟩

theorem hasStr_calls (g : Nat) (eg : ∀ args w, (callFunc g args).run Tryd.prog w = .ok (.enter g args) w) (p : ByteArray → Bool) (xs : List ByteArray) (A : Option Addr) (c : Nat) (w : World)
    (hr : Kd.string.C w A xs.length xs) (hc : xs.length ≤ c)
    (hp : ∀ (x : ByteArray) (W : World), Calls Tryd.prog g #[.string x] W fun e w' => e = .returned (.bool (p x)) ∧ Below W.heap.size W w') (b : Bool) (hb : xs.any p = b) :
    Calls Tryd.prog 56 #[.slice A xs.length c, .func (.func g) #[] #[]] w fun e w' => e = .returned (.bool b) ∧ Below w.heap.size w w' := by
  subst hb
  have h := idxStr_calls g eg p xs A c w hr hc hp
  rw [← firstI_any p xs 0]
  generalize firstI p xs 0 = i at *
  have H := Lib.hid h
  clear h hp hr
  go_enter Tryd.func56, Tryd.ntmps56
  go_wp2_with (go_at_call 81; refine H.out.mono ?_; rintro e w' ⟨rfl, hb⟩)
  go_ret
  exact ⟨rfl, hb⟩

/-- May a file not be? -/
def badFile (f : ByteArray) : Bool := !Lib.hasPrefix f.data.toList [47] || !nameB f
theorem badFile_calls (f : ByteArray) (w : World) : Calls Tryd.prog 57 #[.string f] w fun e w' => e = .returned (.bool (badFile f)) ∧ Below w.heap.size w w' := by
  have hpre := Tryd.strings_HasPrefix f ⟨#[47]⟩
  unfold badFile
  change ∀ w, Calls Tryd.prog 58 #[.string f, .string ⟨#[47]⟩] w fun e w' => e = .returned (.bool (Lib.hasPrefix f.data.toList [47])) ∧ w' = w at hpre
  rcases h : Lib.hasPrefix f.data.toList [47] with _ | _
  · rw [h] at hpre
    have HP := Lib.hid hpre
    clear hpre h
    go_enter Tryd.func57, Tryd.ntmps57
    go_wp2_with (go_at_call 58; refine (HP.out _).mono ?_; rintro e w' ⟨rfl, rfl⟩)
    go_ret
    exact ⟨by simp, Below.refl _ _⟩
  · rw [h] at hpre
    have HP := Lib.hid hpre
    clear hpre h
    generalize hn : nameB f = b
    have HN := Lib.hid hn
    clear hn
    go_enter Tryd.func57, Tryd.ntmps57
    go_wp2_with (first | (go_at_call 58; refine (HP.out _).mono ?_; rintro e w' ⟨rfl, rfl⟩) | (go_at_call 54; refine (name_calls f b HN.out _).mono ?_; rintro e w2 ⟨rfl, hb2⟩))
    go_ret
    exact ⟨by first | rfl | (simp; done), hb2⟩
end Go.Proofs.YtmclfdonoldlpaaDoor.Own
