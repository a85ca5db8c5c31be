/- chandlerlaw12.awake answers true; the numbers of errors. -/
import Derived.Test.YtmclfdonoldlpaaDoorG13
namespace Go.Proofs.YtmclfdonoldlpaaDoor.Own
open Go.RowKit Go.Lib Go.Proofs.YtmclfdonoldlpaaDoorW.PrintWords Go.Proofs.YtmclfdonoldlpaaDoorW.PrintLast Go.Proofs.YtmclfdonoldlpaaDoorW.PrintMore Go.Proofs.YtmclfdonoldlpaaDoor.POwn
set_option linter.unusedVariables false
set_option linter.unusedSimpArgs false

/-- A row of one package, whose second list holds two: where the cells lie. -/
theorem pkg_one {X : World} {n : Nat} {ok : Nat → Prop} {A : Option Addr} {cc : Nat} {p : S34} {a b : S36} (hR : k34.R 34 X n ok (.slice A 1 cc) [p]) (hp : p.f5 = [a, b]) :
    ∃ g g5 c5, A = some ⟨g, 0, none⟩ ∧ X.cell? ⟨g, 2, none⟩ = some (.string p.f2) ∧ X.cell? ⟨g, 5, none⟩ = some (.slice (some ⟨g5, 0, none⟩) 2 c5) ∧ X.cell? ⟨g5, 2, none⟩ = some (.int .i64 a.f2) ∧ X.cell? ⟨g5, 5, none⟩ = some (.int .i64 b.f0) := by
  obtain ⟨_, inner, hown, hrep⟩ := hR
  have hM := hrep.2 0 p rfl
  have hl : inner.length = 12 := hown.1
  rw [Nat.zero_mul, List.drop_zero, List.take_of_length_le (by rw [hl]; exact Nat.le_refl _)] at hM
  obtain ⟨v4, v5, v6, v7, v8, v9, v10, v11, rfl, _, h5, _⟩ := k34_openM hM
  rw [hp] at h5
  obtain ⟨A5, c5, rfl⟩ := Kd.R_slice h5
  obtain ⟨_, inner5, hown5, hrep5⟩ := h5
  have hl5 : inner5.length = 10 := hown5.1
  have ha := hrep5.2 0 a rfl
  have hb := hrep5.2 1 b rfl
  obtain ⟨ua, ha, _⟩ := k36_openM ha
  obtain ⟨ub, hb, _⟩ := k36_openM hb
  have i2 : inner5[2]? = some (.int .i64 a.f2) := by
    have := congrArg (fun l => l[2]?) ha
    simpa [k36, Kd.fix, List.getElem?_take] using this
  have i5 : inner5[5]? = some (.int .i64 b.f0) := by
    have := congrArg (fun l => l[0]?) hb
    simpa [k36, Kd.fix, List.getElem?_take] using this
  rcases hown.2 with ⟨h1, _⟩ | ⟨g, cap, cur, h1, hb1, hg, _⟩
  · cases h1
  injection h1 with h1 _ h2
  subst h1
  subst h2
  rcases hown5.2 with ⟨h1, _⟩ | ⟨g5, cap5, cur5, h1, hb5, hg5, _⟩
  · cases h1
  injection h1 with h1 _ h2
  subst h1
  subst h2
  have e2 := hown5.cells (g := g5) rfl 2 _ i2
  have e5 := hown5.cells (g := g5) rfl 5 _ i5
  rw [add_plain] at e2 e5
  exact ⟨g, g5, _, rfl, World.ownsRow.cellAt hown 2 (by decide), World.ownsRow.cellAt hown 5 (by decide), e2, e5⟩
/-- What is read of the first text. -/
theorem awake_ok : ∃ s p a b, parseF awakeT = .ok s ∧ s.out = [p] ∧ p.f5 = [a, b] ∧ p.f2 = noarchB ∧ a.f2 = 6 ∧ b.f0 = 3 := by
  have h := awake_eval
  unfold awakeB at h
  split at h
  · rename_i s hs
    split at h
    · rename_i p hp
      simp only [Bool.and_eq_true] at h
      obtain ⟨h1, h2⟩ := h
      split at h2
      · rename_i a b hab
        simp only [Bool.and_eq_true] at h2
        exact ⟨s, p, a, b, hs, hp, hab, of_decide_eq_true h1, of_decide_eq_true h2.1, of_decide_eq_true h2.2⟩
      · cases h2
    · cases h
  · cases h
theorem bad_ok : parseF ⟨#[120, 10]⟩ = .error 120 := by
  have h := bad_eval
  split at h
  · cases h
  · rename_i e he
    rw [he, h]
theorem awakeParse (w : World) (hT : Tabs w) : Calls Tryd.prog 7 #[.string awakeT] w fun e w' => (∃ g c g5 c5, e = .returned (.tuple #[.slice (some ⟨g, 0, none⟩) 1 c, .int .i64 0]) ∧
    w'.cell? ⟨g, 2, none⟩ = some (.string noarchB) ∧ w'.cell? ⟨g, 5, none⟩ = some (.slice (some ⟨g5, 0, none⟩) 2 c5) ∧ w'.cell? ⟨g5, 2, none⟩ = some (.int .i64 6) ∧ w'.cell? ⟨g5, 5, none⟩ = some (.int .i64 3)) ∧ Below w.heap.size w w' := by
  obtain ⟨s, p, a, b, hs, hp, hab, h1, h2, h3⟩ := awake_ok
  refine (parse_calls awakeT w hT).mono ?_
  rintro e w' ⟨hb, ⟨s', v, hs', rfl, hR⟩ | ⟨er, he, _⟩⟩
  · rw [hs] at hs'
    injection hs' with hs'
    subst hs'
    rw [hp] at hR
    obtain ⟨A, c, rfl⟩ := Kd.R_slice hR
    obtain ⟨g, g5, c5, rfl, q1, q2, q3, q4⟩ := pkg_one hR hab
    rw [h1] at q1
    rw [h2] at q3
    rw [h3] at q4
    exact ⟨⟨g, c, g5, c5, rfl, q1, q2, q3, q4⟩, hb⟩
  · rw [hs] at he; cases he
theorem badParse (w : World) (hT : Tabs w) : Calls Tryd.prog 7 #[.string ⟨#[120, 10]⟩] w fun e w' => e = .returned (.tuple #[.slice none 0 0, .int .i64 120]) ∧ Below w.heap.size w w' := by
  refine (parse_calls ⟨#[120, 10]⟩ w hT).mono ?_
  rintro e w' ⟨hb, ⟨s', v, hs', rfl, hR⟩ | ⟨er, he, rfl⟩⟩
  · rw [bad_ok] at hs'; cases hs'
  · rw [bad_ok] at he
    injection he with he
    subst he
    exact ⟨rfl, hb⟩
set_option maxRecDepth 100000 in
set_option maxHeartbeats 1000000 in
theorem awake_calls (w : World) (hT : Tabs w) : Calls Tryd.prog 6 #[] w fun e w' => e = .returned (.bool true) ∧ Below w.heap.size w w' := by
  have HT := Lib.hid hT
  clear hT
  go_enter Tryd.func6, Tryd.ntmps6
  go_wp2_with (first
    | (go_at_call 7; (with_reducible refine (awakeParse w HT.out).mono ?_); rintro e w1 ⟨⟨g, c, g5, c5, rfl, q1, q2, q3, q4⟩, hb1⟩)
    | (go_at_call 7; (with_reducible refine (badParse w1 (HT.out.below hb1)).mono ?_); rintro e w2 ⟨rfl, hb2⟩; have z1 := cell_after hb2 q1; have z2 := cell_after hb2 q2; have z3 := cell_after hb2 q3; have z4 := cell_after hb2 q4; clear q1 q2 q3 q4))
  go_ret
  exact ⟨rfl, below_then hb1 hb1.size hb2⟩
end Go.Proofs.YtmclfdonoldlpaaDoor.Own
