/- DebctlJoins: the walk. -/
import Derived.Test.YtmclfdonoldlpaaDoorSame
import Derived.Test.YtmclfdonoldlpaaDoorG10
namespace Go.Proofs.YtmclfdonoldlpaaDoor.Own
open Go.RowKit Go.Lib Go.Proofs.YtmclfdonoldlpaaDoorW.PrintWords Go.Proofs.YtmclfdonoldlpaaDoorW.PrintLast Go.Proofs.YtmclfdonoldlpaaDoorW.PrintMore Go.Proofs.YtmclfdonoldlpaaDoor.POwn
set_option linter.unusedVariables false
set_option linter.unusedSimpArgs false

theorem parse_any (t : ByteArray) (w : World) (hT : Tabs w) : Calls Tryd.prog 7 #[.string t] w fun e w' => (∃ A n c er, e = .returned (.tuple #[.slice A n c, .int .i64 er])) ∧ Below w.heap.size w w' := by
  refine (parse_calls t w hT).mono ?_
  rintro e w' ⟨hb, ⟨s, v, hs, rfl, hR⟩ | ⟨er, he, rfl⟩⟩
  · obtain ⟨A, c, rfl⟩ := Kd.R_slice hR
    exact ⟨⟨_, _, _, _, rfl⟩, hb⟩
  · exact ⟨⟨_, _, _, _, rfl⟩, hb⟩
theorem parse_good (t : ByteArray) (s : St) (h : parseF t = .ok s) (w : World) (hT : Tabs w) : Calls Tryd.prog 7 #[.string t] w fun e w' =>
    (∃ A c, e = .returned (.tuple #[.slice A s.out.length c, .int .i64 0]) ∧ k34.R 34 w' w.heap.size (fun k => w.heap.size ≤ k) (.slice A s.out.length c) s.out) ∧ Below w.heap.size w w' := by
  refine (parse_calls t w hT).mono ?_
  rintro e w' ⟨hb, ⟨s', v, hs, rfl, hR⟩ | ⟨er, he, rfl⟩⟩
  · rw [h] at hs
    injection hs with hs
    subst hs
    obtain ⟨A, c, rfl⟩ := Kd.R_slice hR
    exact ⟨⟨A, c, rfl, hR⟩, hb⟩
  · rw [h] at he; cases he
theorem parse_fail (t : ByteArray) (er : Int) (h : parseF t = .error er) (w : World) (hT : Tabs w) : Calls Tryd.prog 7 #[.string t] w fun e w' =>
    e = .returned (.tuple #[.slice none 0 0, .int .i64 er]) ∧ Below w.heap.size w w' := by
  refine (parse_calls t w hT).mono ?_
  rintro e w' ⟨hb, ⟨s', v, hs, rfl, hR⟩ | ⟨er', he, rfl⟩⟩
  · rw [h] at hs; cases hs
  · rw [h] at he
    injection he with he
    subst he
    exact ⟨rfl, hb⟩
set_option maxRecDepth 100000 in
set_option maxHeartbeats 1000000 in
theorem joins_long (a b : ByteArray) (hza : a.size < 140737488355328) (hzb : b.size < 140737488355328) (hl : (40000 : Int) < (a.size : Int) + 2 + b.size) (w : World) (hT : Tabs w) : Calls Tryd.prog 4 #[.string a, .string b] w fun e w' => e = .returned (.bool true) ∧ Below w.heap.size w w' := by
  have HT := Lib.hid hT
  clear hT
  have hz : (a ++ ⟨#[10, 10]⟩ ++ b).size = a.size + 2 + b.size := by simp [ByteArray.size_append]; rfl
  have HC := Lib.hid (parse_long (t := a ++ ⟨#[10, 10]⟩ ++ b) (by omega))
  clear hz
  go_enter Tryd.func4, Tryd.ntmps4
  go_wp2_with (first
    | (go_at_call 6; refine (awake_calls w HT.out).mono ?_; rintro e w1 ⟨rfl, hb1⟩)
    | (go_at_call 7; (with_reducible refine (parse_any a w1 (HT.out.below hb1)).mono ?_); rintro e w2 ⟨⟨A2, n2, c2, e2, rfl⟩, hb2⟩; have hb12 := below_then hb1 hb1.size hb2)
    | (go_at_call 7; (with_reducible refine (parse_any b w2 (HT.out.below hb12)).mono ?_); rintro e w3 ⟨⟨A3, n3, c3, e3, rfl⟩, hb3⟩; have hb13 := below_then hb12 hb12.size hb3)
    | (go_at_call 7; (with_reducible refine (parse_fail _ _ HC.out w3 (HT.out.below hb13)).mono ?_); rintro e w4 ⟨rfl, hb4⟩; have hb14 := below_then hb13 hb13.size hb4))
  go_ret
  exact ⟨rfl, hb14⟩
set_option maxRecDepth 100000 in
set_option maxHeartbeats 1000000 in
theorem joins_bad (a b : ByteArray) (hza : a.size < 140737488355328) (hzb : b.size < 140737488355328) (hl : (a.size : Int) + 2 + b.size ≤ 40000) (e1 : Int) (he : e1 ≠ 0) (hA : parseF a = .error e1) (hC : parseF (a ++ ⟨#[10, 10]⟩ ++ b) = .error e1) (w : World) (hT : Tabs w) : Calls Tryd.prog 4 #[.string a, .string b] w fun e w' => e = .returned (.bool true) ∧ Below w.heap.size w w' := by
  have HT := Lib.hid hT
  clear hT
  have HA := Lib.hid hA
  have HC := Lib.hid hC
  clear hA hC
  go_enter Tryd.func4, Tryd.ntmps4
  go_wp2_with (first
    | (go_at_call 6; refine (awake_calls w HT.out).mono ?_; rintro e w1 ⟨rfl, hb1⟩)
    | (go_at_call 7; (with_reducible refine (parse_fail a e1 HA.out w1 (HT.out.below hb1)).mono ?_); rintro e w2 ⟨rfl, hb2⟩; have hb12 := below_then hb1 hb1.size hb2)
    | (go_at_call 7; (with_reducible refine (parse_any b w2 (HT.out.below hb12)).mono ?_); rintro e w3 ⟨⟨A3, n3, c3, e3, rfl⟩, hb3⟩; have hb13 := below_then hb12 hb12.size hb3)
    | (go_at_call 7; (with_reducible refine (parse_fail _ _ HC.out w3 (HT.out.below hb13)).mono ?_); rintro e w4 ⟨rfl, hb4⟩; have hb14 := below_then hb13 hb13.size hb4))
  go_ret
  exact ⟨rfl, hb14⟩
set_option maxRecDepth 100000 in
set_option maxHeartbeats 1000000 in
theorem joins_many (a b : ByteArray) (hza : a.size < 140737488355328) (hzb : b.size < 140737488355328) (hl : (a.size : Int) + 2 + b.size ≤ 40000) (s1 s2 : St) (g : Int) (hg : g ≠ 0) (hA : parseF a = .ok s1) (hB : parseF b = .ok s2) (hC : parseF (a ++ ⟨#[10, 10]⟩ ++ b) = .error g) (hn : (200 : Int) < (s1.out.length : Int) + s2.out.length) (hn1 : s1.out.length ≤ 200) (hn2 : s2.out.length ≤ 200) (w : World) (hT : Tabs w) : Calls Tryd.prog 4 #[.string a, .string b] w fun e w' => e = .returned (.bool true) ∧ Below w.heap.size w w' := by
  have HT := Lib.hid hT
  clear hT
  have HA := Lib.hid hA
  have HB := Lib.hid hB
  have HC := Lib.hid hC
  clear hA hB hC
  go_enter Tryd.func4, Tryd.ntmps4
  go_wp2_with (first
    | (go_at_call 6; refine (awake_calls w HT.out).mono ?_; rintro e w1 ⟨rfl, hb1⟩)
    | (go_at_call 7; (with_reducible refine (parse_good a s1 HA.out w1 (HT.out.below hb1)).mono ?_); rintro e w2 ⟨⟨A2, c2, rfl, hR2⟩, hb2⟩; have hb12 := below_then hb1 hb1.size hb2)
    | (go_at_call 7; (with_reducible refine (parse_good b s2 HB.out w2 (HT.out.below hb12)).mono ?_); rintro e w3 ⟨⟨A3, c3, rfl, hR3⟩, hb3⟩; have hb13 := below_then hb12 hb12.size hb3)
    | (go_at_call 7; (with_reducible refine (parse_fail _ _ HC.out w3 (HT.out.below hb13)).mono ?_); rintro e w4 ⟨rfl, hb4⟩; have hb14 := below_then hb13 hb13.size hb4))
  go_ret
  have hq : (g != 0) = true := by simp [hg]
  refine ⟨?_, hb14⟩
  show Ending.returned (.bool (g != 0)) = _
  rw [hq]
set_option maxRecDepth 100000 in
set_option maxHeartbeats 1000000 in
theorem joins_two (a b : ByteArray) (hza : a.size < 140737488355328) (hzb : b.size < 140737488355328) (hl : (a.size : Int) + 2 + b.size ≤ 40000) (s1 : St) (e2 g : Int) (he : e2 ≠ 0) (hg : g = e2 ∨ (g = 121 ∧ ¬ g = e2)) (hA : parseF a = .ok s1) (hB : parseF b = .error e2) (hC : parseF (a ++ ⟨#[10, 10]⟩ ++ b) = .error g) (hn1 : (s1.out.length : Int) ≤ 200) (w : World) (hT : Tabs w) : Calls Tryd.prog 4 #[.string a, .string b] w fun e w' => e = .returned (.bool true) ∧ Below w.heap.size w w' := by
  have HT := Lib.hid hT
  clear hT
  have HA := Lib.hid hA
  have HB := Lib.hid hB
  have HC := Lib.hid hC
  clear hA hB hC
  rcases hg with hg | ⟨hg, hg'⟩
  all_goals
    subst g
    go_enter Tryd.func4, Tryd.ntmps4
    go_wp2_with (first
      | (go_at_call 6; refine (awake_calls w HT.out).mono ?_; rintro e w1 ⟨rfl, hb1⟩)
      | (go_at_call 7; (with_reducible refine (parse_good a s1 HA.out w1 (HT.out.below hb1)).mono ?_); rintro e w2 ⟨⟨A2, c2, rfl, hR2⟩, hb2⟩; have hb12 := below_then hb1 hb1.size hb2)
      | (go_at_call 7; (with_reducible refine (parse_fail b e2 HB.out w2 (HT.out.below hb12)).mono ?_); rintro e w3 ⟨rfl, hb3⟩; have hb13 := below_then hb12 hb12.size hb3)
      | (go_at_call 7; (with_reducible refine (parse_fail _ _ HC.out w3 (HT.out.below hb13)).mono ?_); rintro e w4 ⟨rfl, hb4⟩; have hb14 := below_then hb13 hb13.size hb4))
    go_ret
    exact ⟨rfl, hb14⟩
theorem same_ok {w : World} {n n' : Nat} {ok ok' : Nat → Prop} {A A' : Option Addr} {c c' : Nat} {l : List S34} (h : k34.R 34 w n ok (.slice A l.length c) l) (h' : k34.R 34 w n' ok' (.slice A' l.length c') l) :
    Calls Tryd.prog 8 #[.slice A l.length c, .slice A' l.length c'] w fun e w' => e = .returned (.bool true) ∧ Below w.heap.size w w' := by
  obtain ⟨_, h1, h2⟩ := Kd.R_reads' h
  obtain ⟨_, h3, h4⟩ := Kd.R_reads' h'
  obtain ⟨k, hk⟩ := same_self l (lenP_of_C h2)
  exact chandlerref11_Same.calls k A c l A' c' l true w h2 h1 h4 h3 hk
theorem R_rows {W : World} {base n c : Nat} {ok : Nat → Prop} {A : Option Addr} {xs : List S34} (h : k34.R 34 W base ok (.slice A n c) xs) : ReadsRow (k34.M W base ok) k34.sz W A xs.length xs := by
  obtain ⟨A', c', he, _, hr⟩ := OwnRow.reads h.2
  injection he with h1 h2 h3
  subst h1
  exact hr.imp_ (Below.refl _ _) (fun p cs hp => k34.M_mono (fun k hk => hk.1) hp)
theorem R_made {W : World} {base : Nat} (hb : base ≤ W.heap.size) : k34.R 34 (W.alloc (.cells #[] 34)) base (fun k => base ≤ k) (.slice (some ⟨W.heap.size, 0, none⟩) 0 0) [] :=
  ⟨fun k hk => by
    have : W.heap.size = k := by simpa [Value.ownBlock] using hk
    omega, OwnRow.lit W base (inner := []) (Reps.none _ _) hb (by decide)⟩
set_option maxRecDepth 100000 in
set_option maxHeartbeats 2000000 in
theorem joins_all (a b : ByteArray) (hza : a.size < 140737488355328) (hzb : b.size < 140737488355328) (hl : (a.size : Int) + 2 + b.size ≤ 40000) (s1 s2 s3 : St) (hA : parseF a = .ok s1) (hB : parseF b = .ok s2) (hC : parseF (a ++ ⟨#[10, 10]⟩ ++ b) = .ok s3) (hO : s3.out = s1.out ++ s2.out) (hn : (s1.out.length : Int) + s2.out.length ≤ 200)
    (w : World) (hT : Tabs w) : Calls Tryd.prog 4 #[.string a, .string b] w fun e w' => e = .returned (.bool true) ∧ Below w.heap.size w w' := by
  have HT := Lib.hid hT
  have HA := Lib.hid hA
  have HB := Lib.hid hB
  have HC := Lib.hid hC
  have HO := Lib.hid hO
  clear hT hA hB hC hO
  go_enter Tryd.func4, Tryd.ntmps4
  go_wp2_with (first
    | (go_at_call 6; refine (awake_calls w HT.out).mono ?_; rintro e w1 ⟨rfl, hb1⟩)
    | (go_at_call 7; (with_reducible refine (parse_good a s1 HA.out w1 (HT.out.below hb1)).mono ?_); rintro e w2 ⟨⟨A2, c2, rfl, hR2⟩, hb2⟩; have hb12 := below_then hb1 hb1.size hb2)
    | (go_at_call 7; (with_reducible refine (parse_good b s2 HB.out w2 (HT.out.below hb12)).mono ?_); rintro e w3 ⟨⟨A3, c3, rfl, hR3⟩, hb3⟩; have hb13 := below_then hb12 hb12.size hb3)
    | (go_at_call 7; (with_reducible refine (parse_good _ s3 HC.out w3 (HT.out.below hb13)).mono ?_); rintro e w4 ⟨⟨A4, c4, rfl, hR4⟩, hb4⟩; have hb14 := below_then hb13 hb13.size hb4;
        have hz12 := hb12.size; have hz13 := hb13.size; have hz14 := hb14.size; have hz1 := hb1.size; have hz2 := hb2.size; have hz3 := hb3.size; have hz4 := hb4.size;
        have gR2 := Lib.hid (Kd.R_mono (ok' := fun k => w.heap.size ≤ k ∧ k < w4.heap.size) (Kd.R_below (Kd.R_below (Kd.R_below (Kd.R_bound (Kd.R_lower hR2 (show w.heap.size ≤ w1.heap.size from hz1))) hb3) hb4) (below_alloc (Below.refl _ _) (.cells #[] 34))) (fun k hk => ⟨hk.2.1, Nat.lt_of_lt_of_le hk.2.2.1 (Nat.le_trans hz3 hz4)⟩));
        have gR3 := Lib.hid (Kd.R_mono (ok' := fun k => w.heap.size ≤ k ∧ k < w4.heap.size) (Kd.R_below (Kd.R_below (Kd.R_bound (Kd.R_lower hR3 (show w.heap.size ≤ w2.heap.size from hz12))) hb4) (below_alloc (Below.refl _ _) (.cells #[] 34))) (fun k hk => ⟨hk.2.1, Nat.lt_of_lt_of_le hk.2.2.1 hz4⟩));
        have gR4 := Lib.hid (Kd.R_mono (ok' := fun k => w.heap.size ≤ k ∧ k < w4.heap.size) (Kd.R_below (Kd.R_bound (Kd.R_lower hR4 (show w.heap.size ≤ w3.heap.size from hz13))) (below_alloc (Below.refl _ _) (.cells #[] 34))) (fun k hk => ⟨hk.2.1, hk.2.2.1⟩)); clear hR2 hR3 hR4)
    | (at_builtin; refine Kd.R_append_rows (w0 := w4) k34 w.heap.size rfl (.tmp 89) (.tmp 90) 23 34 (.agg #[.string ⟨#[]⟩, .string ⟨#[]⟩, .string ⟨#[]⟩, .string ⟨#[]⟩, .slice none 0 0, .slice none 0 0, .slice none 0 0, .slice none 0 0, .slice none 0 0, .slice none 0 0, .slice none 0 0, .slice none 0 0]) 256 rfl Tryd.underlying23 infoPkg rfl (by decide) (by decide) (.slice (some ⟨w4.heap.size, 0, none⟩) 0 0) [] s1.out A2 s1.out.length c2 (fun k => w.heap.size ≤ k) (fun k => w.heap.size ≤ k ∧ k < w4.heap.size) rfl rfl (R_made hz14) (R_rows gR2.out) (fun x cs h => h) (fun k hk => ⟨hk.1, fun e => by (have : k = w4.heap.size := by simpa [Value.ownBlock] using e); omega⟩) (fun k hk => by simp at hk; omega) (below_alloc (Below.refl _ _) _ |>.mono hz14) (by simp; omega) (by simp; omega) ?_; intro v5 w5 hR5 hb5 hg5 hat5; have hne5 : ∀ k, k < w4.heap.size → some k ≠ v5.ownBlock := (fun k hk e => by (rcases hat5 with h | ⟨b, h, hle⟩); (rw [h] at e; (have : k = w4.heap.size := by simpa [Value.ownBlock] using e); omega); (rw [h] at e; simp at hle; injection e with e; omega)))
    | (at_builtin; refine Kd.R_append_rows (w0 := w4) k34 w.heap.size rfl (.tmp 91) (.tmp 92) 23 34 (.agg #[.string ⟨#[]⟩, .string ⟨#[]⟩, .string ⟨#[]⟩, .string ⟨#[]⟩, .slice none 0 0, .slice none 0 0, .slice none 0 0, .slice none 0 0, .slice none 0 0, .slice none 0 0, .slice none 0 0, .slice none 0 0]) 256 rfl Tryd.underlying23 infoPkg rfl (by decide) (by decide) v5 ([] ++ s1.out) s2.out A3 s2.out.length c3 (fun k => w.heap.size ≤ k) (fun k => w.heap.size ≤ k ∧ k < w4.heap.size) rfl rfl hR5 (R_rows (Kd.R_grown gR3.out hg5 (fun k hk e => by (have : k = w4.heap.size := by simpa [Value.ownBlock] using e); omega))) (fun x cs h => h) ?hokp ?hfresh hb5 (Nat.le_trans hz14 hb5.size) (by simp; omega) ?hgo; rotate_right; intro v6 w6 hR6 hb6 hg6 hat6; have hR7 : k34.R 34 w6 w.heap.size (fun k => w.heap.size ≤ k) v6 s3.out := (by rw [HO.out]; exact hR6); obtain ⟨A6, c6, rfl⟩ := Kd.R_slice hR7; have gR7 := Lib.hid hR7; clear hR7 hR6)
    | (go_at_call 8; refine (same_ok (Kd.R_grown (Kd.R_grown gR4.out hg5 (fun k hk e => by (have : k = w4.heap.size := by simpa [Value.ownBlock] using e); omega)) hg6 (fun k hk => hne5 k hk.2)) gR7.out).mono ?_; rintro e w7 ⟨rfl, hb7⟩))
  case hokp => exact fun k hk => ⟨hk.1, hne5 k hk.2⟩
  case hfresh => exact fun k hk => Nat.le_trans (Nat.le_trans hz14 hb5.size) hk
  go_ret
  exact ⟨rfl, below_then (hb14.trans hb6) (by have := hb6.size; omega) hb7⟩
/-- DebctlJoins answers true. -/
theorem joins_calls (a b : ByteArray) (hza : a.size < 140737488355328) (hzb : b.size < 140737488355328) (w : World) (hT : Tabs w) : Calls Tryd.prog 4 #[.string a, .string b] w fun e w' => e = .returned (.bool true) ∧ Below w.heap.size w w' := by
  by_cases hl : (40000 : Int) < (a.size : Int) + 2 + b.size
  · exact joins_long a b hza hzb hl w hT
  have hl' : (a.size : Int) + 2 + b.size ≤ 40000 := by omega
  have hz : (a ++ (⟨#[10, 10]⟩ ++ b)).size ≤ 40000 := by
    have : (a ++ (⟨#[10, 10]⟩ ++ b)).size = a.size + (2 + b.size) := by simp [ByteArray.size_append]; rfl
    omega
  have e : a ++ ⟨#[10, 10]⟩ ++ b = a ++ (⟨#[10, 10]⟩ ++ b) := by
    apply ByteArray.ext
    apply Array.ext'
    simp
  obtain ⟨j1, j2, j3, j4⟩ := joins hz
  rw [← e] at j1 j2 j3 j4
  rcases ha : parseF a with e1 | s1
  · have he := parse_err ha
    rw [ha] at j1
    have h1 := j1 he
    rcases hc : parseF (a ++ ⟨#[10, 10]⟩ ++ b) with g | s3
    · rw [hc] at h1
      have hg : g = e1 := h1.1
      subst hg
      exact joins_bad a b hza hzb hl' _ he ha hc w hT
    · rw [hc] at h1
      exact absurd h1.1.symm he
  · have hn1 := (parse_end ha).2
    rw [ha] at j2 j3 j4
    rcases hb : parseF b with e2 | s2
    · have he := parse_err hb
      rw [hb] at j3
      have h1 := j3 rfl he
      rcases hc : parseF (a ++ ⟨#[10, 10]⟩ ++ b) with g | s3
      · rw [hc] at h1
        refine joins_two a b hza hzb hl' s1 e2 g he ?_ ha hb hc (by omega) w hT
        by_cases hg : g = e2
        · exact .inl hg
        · rcases h1.1 with h2 | h2
          · exact absurd h2 hg
          · exact .inr ⟨h2, hg⟩
      · rw [hc] at h1
        rcases h1.1 with h2 | h2
        · exact absurd h2.symm he
        · exact absurd (show (0 : Int) = 121 from h2) (by decide)
    · have hn2 := (parse_end hb).2
      rw [hb] at j2 j4
      by_cases hn : 200 < s1.out.length + s2.out.length
      · have h1 := j2 rfl hn
        rcases hc : parseF (a ++ ⟨#[10, 10]⟩ ++ b) with g | s3
        · exact joins_many a b hza hzb hl' s1 s2 g (parse_err hc) ha hb hc (by omega) hn1 hn2 w hT
        · rw [hc] at h1
          exact absurd rfl h1
      · have h1 := j4 rfl rfl (show s1.out.length + s2.out.length ≤ 200 by omega)
        rcases hc : parseF (a ++ ⟨#[10, 10]⟩ ++ b) with g | s3
        · rw [hc] at h1
          exact absurd h1.1 (parse_err hc)
        · rw [hc] at h1
          exact joins_all a b hza hzb hl' s1 s2 s3 ha hb hc h1.2 (by omega) w hT
end Go.Proofs.YtmclfdonoldlpaaDoor.Own
