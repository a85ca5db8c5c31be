/- chandlerref12.Lines: a text's lines; what is read of them; lines that are not seen. -/
import Derived.Test.YtmclfdonoldlpaaDoorSame
import Derived.Test.YtmclfdonoldlpaaDoorG10
namespace Go.Proofs.YtmclfdonoldlpaaDoor.Own
open Go.RowKit Go.Lib Go.Proofs.YtmclfdonoldlpaaDoorW.PrintWords Go.Proofs.YtmclfdonoldlpaaDoorW.PrintLast Go.Proofs.YtmclfdonoldlpaaDoorW.PrintMore Go.Proofs.YtmclfdonoldlpaaDoor.POwn
set_option linter.unusedVariables false
set_option linter.unusedSimpArgs false

/-- The lines of what is left of a text; cur: what stands ahead in the line. -/
def lnG : List UInt8 → List UInt8 → List ByteArray
  | cur, [] => if cur = [] then [] else [ofL cur]
  | cur, b :: r => if b = 10 then ofL cur :: lnG [] r else lnG (cur ++ [b]) r
def linesP (t : ByteArray) : List ByteArray := lnG [] t.data.toList
theorem bt_val (x : ByteArray) (j : Nat) (h : j < x.size) : bt x j = (x.data.toList[j]'(by simpa using h)).toNat := by
  have := bt_at x (j : Int) (by simpa using h)
  rw [← this]
  simp [getEq]
theorem ext_of (x : ByteArray) (f j : Nat) (h : f ≤ j) (hj : j ≤ x.size) : x.extract f j = ofL ((x.data.toList.drop f).take (j - f)) := by
  rw [ofL_extract, List.drop_take]
theorem lines_loop (x : ByteArray) (hx : x.size < 8796093022208) : ∀ (m j f : Nat) (acc : List ByteArray), x.size - j = m → f ≤ j → j ≤ x.size → acc.length ≤ j →
    Ev (fun k => chandlerref12_Lines.l0 k x acc f j) (acc ++ lnG ((x.data.toList.drop f).take (j - f)) (x.data.toList.drop j)) := by
  have hlen : x.data.toList.length = x.size := by simp
  intro m
  induction m with
  | zero =>
    intro j f acc hm hf hj ha
    have hjs : j = x.size := by omega
    subst hjs
    have hd : x.data.toList.drop x.size = [] := List.drop_eq_nil_of_le (by omega)
    have ht : (x.data.toList.drop f).take (x.size - f) = x.data.toList.drop f := List.take_of_length_le (by rw [List.length_drop]; omega)
    rw [hd, ht]
    refine Ev.step (f := fun _ => some (acc ++ lnG (x.data.toList.drop f) [])) (fun k => ?_) (Ev.now _)
    unfold chandlerref12_Lines.l0
    rw [if_neg (by omega)]
    unfold lnG
    by_cases hfs : f < x.size
    · rw [if_pos (by omega), if_pos (by omega), if_pos (by omega), if_pos (by omega), if_neg (fun e => by have := congrArg List.length e; rw [List.length_drop] at this; simp at this; omega)]
      rw [show ((f : Int)).toNat = f by omega, ext_of x f x.size hf (Nat.le_refl _), List.take_of_length_le (by rw [List.length_drop]; omega)]
    · rw [if_neg (by omega), if_pos (by rw [List.drop_eq_nil_of_le (by omega)]), List.append_nil]
  | succ m ih =>
    intro j f acc hm hf hj ha
    have hlt : j < x.size := by omega
    have hget : x.data.toList.drop j = (x.data.toList[j]'(by omega)) :: x.data.toList.drop (j + 1) := List.drop_eq_getElem_cons (by omega)
    have hbt := bt_val x j hlt
    by_cases h10 : x.data.toList[j]'(by omega) = 10
    · have hg : lnG ((x.data.toList.drop f).take (j - f)) (x.data.toList.drop j) = ofL ((x.data.toList.drop f).take (j - f)) :: lnG ((x.data.toList.drop (j + 1)).take (j + 1 - (j + 1))) (x.data.toList.drop (j + 1)) := by
        rw [hget]
        conv => lhs; unfold lnG
        rw [if_pos h10, Nat.sub_self, List.take_zero]
      rw [hg, show acc ++ ofL ((x.data.toList.drop f).take (j - f)) :: lnG ((x.data.toList.drop (j + 1)).take (j + 1 - (j + 1))) (x.data.toList.drop (j + 1)) = (acc ++ [ofL ((x.data.toList.drop f).take (j - f))]) ++ lnG ((x.data.toList.drop (j + 1)).take (j + 1 - (j + 1))) (x.data.toList.drop (j + 1)) by simp]
      refine Ev.step (f := fun k => chandlerref12_Lines.l0 k x (acc ++ [ofL ((x.data.toList.drop f).take (j - f))]) ((j + 1 : Nat) : Int) ((j + 1 : Nat) : Int)) (fun k => ?_) (ih (j + 1) (j + 1) _ (by omega) (Nat.le_refl _) (by omega) (by rw [List.length_append, List.length_singleton]; omega))
      conv => lhs; unfold chandlerref12_Lines.l0
      rw [if_pos (by omega), if_pos (by omega), if_pos (by rw [hbt, h10]; rfl), if_pos (by omega), if_pos (by omega), if_pos (by omega), if_pos (by omega)]
      rw [show ((f : Int)).toNat = f by omega, show ((j : Int)).toNat = j by omega, ext_of x f j hf hj, wrap_next (n := x.size) hlt (by omega)]
    · have hg : lnG ((x.data.toList.drop f).take (j - f)) (x.data.toList.drop j) = lnG ((x.data.toList.drop f).take (j + 1 - f)) (x.data.toList.drop (j + 1)) := by
        rw [hget]
        conv => lhs; unfold lnG
        rw [if_neg h10]
        congr 1
        rw [show j + 1 - f = (j - f) + 1 by omega, List.take_add_one, List.getElem?_drop, show f + (j - f) = j by omega, List.getElem?_eq_getElem (by omega)]
        rfl
      rw [hg]
      refine Ev.step (f := fun k => chandlerref12_Lines.l0 k x acc f ((j + 1 : Nat) : Int)) (fun k => ?_) (ih (j + 1) f acc (by omega) (by omega) (by omega) (by omega))
      conv => lhs; unfold chandlerref12_Lines.l0
      rw [if_pos (by omega), if_pos (by omega), if_neg (by
        rw [hbt]
        intro e
        apply h10
        apply UInt8.toNat_inj.1
        have : ((x.data.toList[j]'(by omega)).toNat : Int) = ((10 : UInt8).toNat : Int) := e
        omega), wrap_next (n := x.size) hlt (by omega)]
theorem lines_ok (x : ByteArray) (hx : x.size < 8796093022208) : ∃ k, chandlerref12_Lines.f k x = some (linesP x) := by
  obtain ⟨k, hk⟩ := Ev.rounds (lines_loop x hx x.size 0 0 [] (by omega) (by omega) (by omega) (by decide))
  refine ⟨k, ?_⟩
  unfold chandlerref12_Lines.f linesP
  have e : ([] : List ByteArray) ++ lnG (List.take (0 - 0) (List.drop 0 x.data.toList)) (List.drop 0 x.data.toList) = lnG [] x.data.toList := by simp
  rw [e] at hk
  exact hk
/-- They are what splitting gives, but for an empty one at the end. -/
theorem lnG_split : ∀ (r cur : List UInt8), 10 ∉ cur → (splitL 10 (cur ++ r)).map ofL = lnG cur r ∨ (splitL 10 (cur ++ r)).map ofL = lnG cur r ++ [⟨#[]⟩]
  | [], cur, h => by
    rw [List.append_nil, splitL_none 10 cur h]
    unfold lnG
    split
    · rename_i e
      subst e
      exact .inr rfl
    · exact .inl rfl
  | b :: r, cur, h => by
    unfold lnG
    by_cases hb : b = 10
    · subst hb
      rw [if_pos rfl, splitL_append, splitL_none 10 cur h, List.map_append]
      rcases lnG_split r [] (by simp) with e | e
      · left
        rw [List.nil_append] at e
        rw [e]
        rfl
      · right
        rw [List.nil_append] at e
        rw [e]
        rfl
    · rw [if_neg hb, show cur ++ b :: r = (cur ++ [b]) ++ r by simp]
      exact lnG_split r (cur ++ [b]) (by simp [h]; exact fun e => hb e.symm)
theorem lnG_no : ∀ (r cur : List UInt8), 10 ∉ cur → ∀ x ∈ lnG cur r, (10 : UInt8) ∉ x.data.toList
  | [], cur, h, x, hx => by
    unfold lnG at hx
    split at hx
    · cases hx
    · rw [List.mem_singleton.1 hx]
      exact h
  | b :: r, cur, h, x, hx => by
    unfold lnG at hx
    split at hx
    · rcases List.mem_cons.1 hx with rfl | hx
      · exact h
      · exact lnG_no r [] (by simp) x hx
    · rename_i hb
      exact lnG_no r (cur ++ [b]) (by simp [h]; exact fun e => hb e.symm) x hx
theorem lnG_len : ∀ (r cur : List UInt8), (lnG cur r).length ≤ r.length + 1
  | [], cur => by unfold lnG; split <;> simp
  | b :: r, cur => by
    unfold lnG
    split
    · have := lnG_len r []; simp; omega
    · have := lnG_len r (cur ++ [b]); simp; omega
theorem lnG_tot : ∀ (r cur : List UInt8), cur.length + r.length ≤ tot (lnG cur r)
  | [], cur => by
    unfold lnG
    split
    · rename_i e; subst e; simp
    · simp [tot]
      show cur.length ≤ cur.toArray.size + 1
      simp
  | b :: r, cur => by
    unfold lnG
    split
    · have := lnG_tot r []
      rw [tot]
      have e : (ofL cur).size = cur.length := by show cur.toArray.size = _; simp
      rw [e]
      simp at this ⊢
      omega
    · have := lnG_tot r (cur ++ [b])
      simp at this ⊢
      omega
/-- What is read of a text hangs on its lines alone. -/
theorem run_lines (x : ByteArray) : runF st0 (splitB 10 x ++ [⟨#[]⟩]) = runF st0 (linesP x ++ [⟨#[]⟩]) := by
  rw [splitB_eq]
  unfold linesP
  have h := lnG_split x.data.toList [] (by simp)
  rw [List.nil_append] at h
  rcases h with e | e
  · rw [e]
  · rw [e, runF_append]
    cases hr : runF st0 (lnG [] x.data.toList ++ [⟨#[]⟩]) with
    | error e => rfl
    | ok s =>
      show runF s [⟨#[]⟩] = .ok s
      rw [runF_one, (run_end hr).1, step_more]
/-- Lines, some not seen ahead of others. -/
def noted (n : ByteArray) (ev : Int) : Nat → List ByteArray → List ByteArray
  | _, [] => []
  | i, x :: r => if (i : Int).tmod ev = 0 then (⟨#[35]⟩ ++ n) :: x :: noted n ev (i + 1) r else x :: noted n ev (i + 1) r
theorem run_noted (n : ByteArray) (ev : Int) : ∀ (l : List ByteArray) (i : Nat) (s : St), runF s (noted n ev i l) = runF s l
  | [], i, s => rfl
  | x :: r, i, s => by
    have key : ∀ s : St, runF s (x :: noted n ev (i + 1) r) = runF s (x :: r) := fun s => by
      rcases h : stepF s x with e | s'
      · rw [runF_er _ h, runF_er _ h]
      · rw [runF_ok _ h, runF_ok _ h]
        exact run_noted n ev r (i + 1) s'
    unfold noted
    split
    · rw [runF_ok _ (step_note s (⟨#[35]⟩ ++ n) (by rw [append_data]; rfl))]
      exact key s
    · exact key s
/-- A text of lines, an end behind each. -/
def laidT : List ByteArray → ByteArray
  | [] => ⟨#[]⟩
  | x :: r => x ++ (⟨#[10]⟩ ++ laidT r)
theorem split_laid : ∀ (l : List ByteArray), (∀ x ∈ l, (10 : UInt8) ∉ x.data.toList) → splitB 10 (laidT l) = l ++ [⟨#[]⟩]
  | [], _ => splitB_empty 10
  | x :: r, h => by
    unfold laidT
    rw [splitB_append, split_laid r (fun y hy => h y (by simp [hy])), splitB_eq, splitL_none 10 _ (h x (by simp))]
    simp [ofL_toList]
theorem laidT_size : ∀ l : List ByteArray, (laidT l).size = tot l
  | [] => rfl
  | x :: r => by
    unfold laidT
    rw [tot, ByteArray.size_append, ByteArray.size_append, laidT_size r]
    show x.size + (1 + _) = _
    omega
theorem laidT_append : ∀ a b : List ByteArray, laidT (a ++ b) = laidT a ++ laidT b
  | [], b => by
    show laidT b = ⟨#[]⟩ ++ laidT b
    apply ByteArray.ext
    apply Array.ext'
    simp
  | x :: r, b => by
    show x ++ (⟨#[10]⟩ ++ laidT (r ++ b)) = (x ++ (⟨#[10]⟩ ++ laidT r)) ++ laidT b
    rw [laidT_append r b]
    apply ByteArray.ext
    apply Array.ext'
    simp
theorem noted_no (n : ByteArray) (ev : Int) (hn : (10 : UInt8) ∉ n.data.toList) : ∀ (l : List ByteArray) (i : Nat), (∀ x ∈ l, (10 : UInt8) ∉ x.data.toList) → ∀ x ∈ noted n ev i l, (10 : UInt8) ∉ x.data.toList
  | [], i, h, x, hx => by cases hx
  | y :: r, i, h, x, hx => by
    have h1 := noted_no n ev hn r (i + 1) (fun z hz => h z (by simp [hz]))
    unfold noted at hx
    split at hx
    · rcases List.mem_cons.1 hx with rfl | hx
      · rw [append_data]
        intro hm
        rcases List.mem_append.1 hm with hm | hm
        · revert hm; decide
        · exact hn hm
      · rcases List.mem_cons.1 hx with rfl | hx
        · exact h _ (by simp)
        · exact h1 x hx
    · rcases List.mem_cons.1 hx with rfl | hx
      · exact h _ (by simp)
      · exact h1 x hx
theorem noted_tot (n : ByteArray) (ev : Int) : ∀ (l : List ByteArray) (i : Nat), tot l ≤ tot (noted n ev i l) ∧ tot (noted n ev i l) ≤ tot l + l.length * (n.size + 2)
  | [], i => by simp [noted]
  | y :: r, i => by
    have h1 := noted_tot n ev r (i + 1)
    have e : (⟨#[35]⟩ ++ n : ByteArray).size = n.size + 1 := by rw [ByteArray.size_append]; show 1 + _ = _; omega
    unfold noted
    split
    · rw [tot, tot, tot, e, List.length_cons, Nat.succ_mul]
      omega
    · rw [tot, tot, List.length_cons, Nat.succ_mul]
      omega
/-- DebctlNotes, in plain words. -/
theorem parse_noted (t n : ByteArray) (ev : Int) (hn : (10 : UInt8) ∉ n.data.toList) (hw : (laidT (noted n ev 0 (linesP t))).size ≤ 40000) : parseF (laidT (noted n ev 0 (linesP t))) = parseF t := by
  have hno : ∀ x ∈ linesP t, (10 : UInt8) ∉ x.data.toList := lnG_no _ _ (by simp)
  have hts : t.size ≤ 40000 := by
    rw [laidT_size] at hw
    have h1 := (noted_tot n ev (linesP t) 0).1
    have h2 := lnG_tot t.data.toList []
    have h3 : t.data.toList.length = t.size := by simp
    unfold linesP at h1 hw
    simp at h2
    omega
  rw [parse_lines hw, parse_lines hts, run_lines t, split_laid _ (noted_no n ev hn _ _ hno), runF_append, runF_append, run_noted]
  rw [runF_append]
  cases hr : runF st0 (linesP t) with
  | error e => rfl
  | ok s =>
    show (match runF s [⟨#[]⟩] with | .ok s' => runF s' [⟨#[]⟩] | .error e => .error e) = runF s [⟨#[]⟩]
    cases hs : runF s [⟨#[]⟩] with
    | error e => rfl
    | ok s2 =>
      have h4 : runF st0 (linesP t ++ [⟨#[]⟩]) = .ok s2 := by rw [runF_append, hr]; exact hs
      show runF s2 [⟨#[]⟩] = .ok s2
      rw [runF_one, (run_end h4).1, step_more]
theorem lnG_tot_le : ∀ (r cur : List UInt8), tot (lnG cur r) ≤ cur.length + r.length + 1
  | [], cur => by
    unfold lnG
    split
    · simp [tot]
    · simp [tot]
      show cur.toArray.size ≤ cur.length
      simp
  | b :: r, cur => by
    unfold lnG
    split
    · have := lnG_tot_le r []
      rw [tot]
      have e : (ofL cur).size = cur.length := by show cur.toArray.size = _; simp
      rw [e]
      simp at this ⊢
      omega
    · have := lnG_tot_le r (cur ++ [b])
      simp at this ⊢
      omega
theorem noted_snoc (n : ByteArray) (ev : Int) (x : ByteArray) : ∀ (l : List ByteArray) (i : Nat), noted n ev i (l ++ [x]) = noted n ev i l ++ (if ((i + l.length : Nat) : Int).tmod ev = 0 then [⟨#[35]⟩ ++ n, x] else [x])
  | [], i => by
    rw [List.nil_append, List.length_nil, Nat.add_zero]
    unfold noted
    split <;> rfl
  | y :: r, i => by
    have ih := noted_snoc n ev x r (i + 1)
    rw [List.cons_append, noted, noted, ih, show i + 1 + r.length = i + (y :: r).length by simp; omega]
    split <;> rfl
theorem tot_take (l : List ByteArray) (k : Nat) : tot (l.take k) ≤ tot l := by
  have h := tot_append (l.take k) (l.drop k)
  rw [List.take_append_drop] at h
  omega
/-- The text behind k lines. -/
def wideT (n : ByteArray) (ev : Int) (l : List ByteArray) (k : Nat) : ByteArray := laidT (noted n ev 0 (l.take k))
theorem wideT_size (n : ByteArray) (ev : Int) (t : ByteArray) (k : Nat) (ht : t.size ≤ 1048576) (hn : n.size ≤ 1048576) : (wideT n ev (linesP t) k).size ≤ 4000000000000 := by
  unfold wideT
  rw [laidT_size]
  have h1 := (noted_tot n ev ((linesP t).take k) 0).2
  have h2 := tot_take (linesP t) k
  have h3 := lnG_tot_le t.data.toList []
  have h4 := lnG_len t.data.toList []
  have h5 : ((linesP t).take k).length ≤ (linesP t).length := by rw [List.length_take]; omega
  have h6 : t.data.toList.length = t.size := by simp
  unfold linesP at *
  simp only [List.length_nil] at h3
  have h7 : ((lnG [] t.data.toList).take k).length * (n.size + 2) ≤ 1048577 * 1048578 := Nat.mul_le_mul (by omega) (by omega)
  omega
theorem wideT_next (n : ByteArray) (ev : Int) (l : List ByteArray) (k : Nat) (x : ByteArray) (hx : l[k]? = some x) : wideT n ev l (k + 1) = (if (k : Int).tmod ev = 0 then wideT n ev l k ++ ⟨#[35]⟩ ++ n ++ ⟨#[10]⟩ else wideT n ev l k) ++ x ++ ⟨#[10]⟩ := by
  have hk : k < l.length := (List.getElem?_eq_some_iff.1 hx).1
  have e : l.take (k + 1) = l.take k ++ [x] := by rw [List.take_add_one, hx]; rfl
  unfold wideT
  rw [e, noted_snoc, List.length_take, Nat.min_eq_left (by omega), Nat.zero_add, laidT_append]
  split
  · show laidT (noted n ev 0 (l.take k)) ++ ((⟨#[35]⟩ ++ n) ++ (⟨#[10]⟩ ++ (x ++ (⟨#[10]⟩ ++ ⟨#[]⟩)))) = _
    apply ByteArray.ext
    apply Array.ext'
    simp
  · show laidT (noted n ev 0 (l.take k)) ++ (x ++ (⟨#[10]⟩ ++ ⟨#[]⟩)) = _
    apply ByteArray.ext
    apply Array.ext'
    simp
end Go.Proofs.YtmclfdonoldlpaaDoor.Own
