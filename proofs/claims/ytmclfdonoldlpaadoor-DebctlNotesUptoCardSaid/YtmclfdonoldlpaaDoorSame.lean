/- chandlerref11.Same of a row and itself. -/
import Derived.Test.YtmclfdonoldlpaaDoorAwake
namespace Go.Proofs.YtmclfdonoldlpaaDoor.Own
open Go.RowKit Go.Lib Go.Proofs.YtmclfdonoldlpaaDoorW.PrintWords Go.Proofs.YtmclfdonoldlpaaDoorW.PrintLast Go.Proofs.YtmclfdonoldlpaaDoorW.PrintMore Go.Proofs.YtmclfdonoldlpaaDoor.POwn
set_option linter.unusedVariables false
set_option linter.unusedSimpArgs false

/-- No row is longer than a length can say. -/
def lenOk {α : Type} (l : List α) : Prop := l.length ≤ 9223372036854775807
mutual
def lenD : S36 → Prop
  | ⟨_, _, _, _, l⟩ => lenOk l ∧ lenL l
def lenL : List S36 → Prop
  | [] => True
  | a :: r => lenD a ∧ lenL r
end
theorem lenL_mem : ∀ {l : List S36}, lenL l → ∀ x ∈ l, lenD x
  | [], _, x, h => by simp at h
  | a :: r, hw, x, h => by
    rw [lenL] at hw
    rcases List.mem_cons.1 h with rfl | h
    · exact hw.1
    · exact lenL_mem hw.2 x h
theorem lenL_all : ∀ {l : List S36}, (∀ x ∈ l, lenD x) → lenL l
  | [], _ => by rw [lenL]; trivial
  | a :: r, h => by
    rw [lenL]
    exact ⟨h a (by simp), lenL_all (fun x hx => h x (by simp [hx]))⟩
theorem lenD_open (d : S36) : lenD d ↔ lenOk d.f4 ∧ lenL d.f4 := by
  obtain ⟨a, b, c, e, l⟩ := d
  rw [lenD]
/-- What lies in memory is so. -/
theorem len_of_C {α : Type} {d : Kd α} {w : World} {A : Option Addr} {n : Nat} {xs : List α} (h : d.C w A n xs) : lenOk xs := by
  have := h.1
  have := h.2.1
  unfold lenOk
  omega
theorem mem_of_C {α : Type} {d : Kd α} {w : World} {A : Option Addr} {n : Nat} {xs : List α} (h : d.C w A n xs) (x : α) (hx : x ∈ xs) : ∃ c, d.K w x c := by
  obtain ⟨i, hi, rfl⟩ := List.mem_iff_getElem.1 hx
  have hn := h.1
  obtain ⟨ad, c, _, _, hK, _⟩ := Kd.C_get h xs[i] (i : Int) (by omega) (by omega)
  rw [show xs.getD ((i : Int)).toNat xs[i] = xs[i] by simp [List.getD_eq_getElem?_getD, hi]] at hK
  exact ⟨c, hK⟩
theorem lenD_of_K (n : Nat) : ∀ (d : S36) (w : World) (c : List Value), SizeOf.sizeOf d ≤ n → k36.K w d c → lenD d := by
  induction n with
  | zero => intro d w c h; obtain ⟨a, b, e, f, l⟩ := d; simp at h
  | succ n ih =>
    intro d w c h hK
    rw [lenD_open]
    obtain ⟨A4, c4, _, _, hC⟩ := k36_open hK
    refine ⟨len_of_C hC, lenL_all (fun x hx => ?_)⟩
    obtain ⟨cx, hx2⟩ := mem_of_C hC x hx
    refine ih x w cx ?_ hx2
    have h1 := List.sizeOf_lt_of_mem hx
    obtain ⟨a, b, e, f, l⟩ := d
    simp at h h1
    omega
theorem lenL_of_C {w : World} {A : Option Addr} {n : Nat} {l : List S36} (h : k36.C w A n l) : lenOk l ∧ lenL l :=
  ⟨len_of_C h, lenL_all (fun x hx => by
    obtain ⟨c, hK⟩ := mem_of_C h x hx
    exact lenD_of_K _ x w c (Nat.le_refl _) hK)⟩
theorem wrap_next {j n : Nat} (h : j < n) (hn : n ≤ 9223372036854775807) : wrap64 ((j : Int) + 1) = ((j + 1 : Nat) : Int) := by
  unfold wrap64
  first
    | (rw [Go.IntWalk.i64_in _ (by omega)]; simp; done)
    | (simp; omega)
theorem same_loop (l : List S36) (a0 : Int) (a1 : ByteArray) (a2 : Int) (a3 : ByteArray) (b0 : Int) (b1 : ByteArray) (b2 : Int) (b3 : ByteArray) (hl : lenOk l)
    (h : ∀ x ∈ l, Ev (fun k => chandlerref05_Same.f k x.f0 x.f1 x.f2 x.f3 x.f4 x.f0 x.f1 x.f2 x.f3 x.f4) true) :
    ∀ (m j : Nat), l.length - j = m → j ≤ l.length → Ev (fun k => chandlerref05_Same.l0 k j a0 a1 a2 a3 l b0 b1 b2 b3 l) true := by
  intro m
  induction m with
  | zero =>
    intro j hm hj
    refine Ev.step (f := fun _ => some true) (fun k => ?_) (Ev.now true)
    unfold chandlerref05_Same.l0
    rw [if_neg (by omega)]
  | succ m ih =>
    intro j hm hj
    have hlt : j < l.length := by omega
    have hx := h (rd_T36 l j) (by
      unfold rd_T36
      rw [show ((j : Int)).toNat = j by omega, List.getD_eq_getElem?_getD, List.getElem?_eq_getElem hlt]
      exact List.getElem_mem hlt)
    refine Ev.step (f := fun k => (chandlerref05_Same.f k (rd_T36 l j).f0 (rd_T36 l j).f1 (rd_T36 l j).f2 (rd_T36 l j).f3 (rd_T36 l j).f4 (rd_T36 l j).f0 (rd_T36 l j).f1 (rd_T36 l j).f2 (rd_T36 l j).f3 (rd_T36 l j).f4).bind fun t => if t = true then chandlerref05_Same.l0 k ((j + 1 : Nat) : Int) a0 a1 a2 a3 l b0 b1 b2 b3 l else some false) (fun k => ?_)
      (Ev.bind hx (Ev.congr (fun k => by rw [if_pos rfl]) (ih (j + 1) (by omega) (by omega))))
    conv => lhs; unfold chandlerref05_Same.l0
    rw [if_pos (by omega), if_pos (by omega), if_pos (by omega), wrap_next hlt hl]
theorem same_dep (n : Nat) : ∀ (d : S36), SizeOf.sizeOf d ≤ n → lenD d → Ev (fun k => chandlerref05_Same.f k d.f0 d.f1 d.f2 d.f3 d.f4 d.f0 d.f1 d.f2 d.f3 d.f4) true := by
  induction n with
  | zero => intro d h; obtain ⟨a, b, e, f, l⟩ := d; simp at h
  | succ n ih =>
    intro d h hd
    rw [lenD_open] at hd
    have hlp := same_loop d.f4 d.f0 d.f1 d.f2 d.f3 d.f0 d.f1 d.f2 d.f3 hd.1 (fun x hx => ih x (by
      have h1 := List.sizeOf_lt_of_mem hx
      obtain ⟨a, b, e, f, l⟩ := d
      simp at h h1
      omega) (lenL_mem hd.2 x hx)) d.f4.length 0 (by omega) (by omega)
    refine Ev.step (f := fun k => chandlerref05_Same.j0 k false d.f0 d.f1 d.f2 d.f3 d.f4 d.f0 d.f1 d.f2 d.f3 d.f4) (fun k => ?_) (Ev.step (f := fun k => chandlerref05_Same.l0 k ((0 : Nat) : Int) d.f0 d.f1 d.f2 d.f3 d.f4 d.f0 d.f1 d.f2 d.f3 d.f4) (fun k => ?_) hlp)
    · conv => lhs; unfold chandlerref05_Same.f
      simp
    · conv => lhs; unfold chandlerref05_Same.j0
      simp
theorem same_list (l : List S36) (h : lenOk l ∧ lenL l) : Ev (fun k => chandlerref05_SameList.f k l l) true := by
  have h1 := same_dep _ ⟨0, ⟨#[]⟩, 0, ⟨#[]⟩, l⟩ (Nat.le_refl _) (by rw [lenD]; exact h)
  refine Ev.congr (f := fun k => (chandlerref05_Same.f k 0 ⟨#[]⟩ 0 ⟨#[]⟩ l 0 ⟨#[]⟩ 0 ⟨#[]⟩ l).bind fun t => some t) (fun k => rfl) (Ev.bind h1 (Ev.now true))
theorem same_texts (l : List ByteArray) (hl : lenOk l) : Ev (fun k => chandlerref05_SameTexts.f k l l) true := by
  have key : ∀ (m j : Nat), l.length - j = m → j ≤ l.length → Ev (fun k => chandlerref05_SameTexts.l0 k l l j) true := by
    intro m
    induction m with
    | zero =>
      intro j hm hj
      refine Ev.step (f := fun _ => some true) (fun k => ?_) (Ev.now true)
      unfold chandlerref05_SameTexts.l0
      rw [if_neg (by omega)]
    | succ m ih =>
      intro j hm hj
      have hlt : j < l.length := by omega
      refine Ev.step (f := fun k => chandlerref05_SameTexts.l0 k l l ((j + 1 : Nat) : Int)) (fun k => ?_) (ih (j + 1) (by omega) (by omega))
      conv => lhs; unfold chandlerref05_SameTexts.l0
      rw [if_pos (by omega), if_pos (by omega), if_pos (by omega), if_pos rfl, wrap_next hlt hl]
  refine Ev.congr (fun k => ?_) (key l.length 0 (by omega) (by omega))
  unfold chandlerref05_SameTexts.f
  rw [if_pos rfl]
  rfl
/-- No row of a package is too long. -/
def lenP (p : S34) : Prop := (lenOk p.f4 ∧ lenL p.f4) ∧ (lenOk p.f5 ∧ lenL p.f5) ∧ (lenOk p.f6 ∧ lenL p.f6) ∧ (lenOk p.f7 ∧ lenL p.f7) ∧ (lenOk p.f8 ∧ lenL p.f8) ∧ (lenOk p.f9 ∧ lenL p.f9) ∧ (lenOk p.f10 ∧ lenL p.f10) ∧ lenOk p.f11
theorem lenP_of_K {w : World} {p : S34} {c : List Value} (h : k34.K w p c) : lenP p := by
  obtain ⟨A4, c4, A5, c5, A6, c6, A7, c7, A8, c8, A9, c9, A10, c10, A11, c11, he, l4, g4, l5, g5, l6, g6, l7, g7, l8, g8, l9, g9, l10, g10, l11, g11⟩ := k34_open h
  exact ⟨lenL_of_C g4, lenL_of_C g5, lenL_of_C g6, lenL_of_C g7, lenL_of_C g8, lenL_of_C g9, lenL_of_C g10, len_of_C g11⟩
theorem lenP_of_C {w : World} {A : Option Addr} {n : Nat} {l : List S34} (h : k34.C w A n l) : lenOk l ∧ ∀ p ∈ l, lenP p :=
  ⟨len_of_C h, fun p hp => by
    obtain ⟨c, hK⟩ := mem_of_C h p hp
    exact lenP_of_K hK⟩
theorem same_pkg (p : S34) (h : lenP p) : Ev (fun k => chandlerref06_SamePackage.f k p.f0 p.f1 p.f2 p.f3 p.f4 p.f5 p.f6 p.f7 p.f8 p.f9 p.f10 p.f11 p.f0 p.f1 p.f2 p.f3 p.f4 p.f5 p.f6 p.f7 p.f8 p.f9 p.f10 p.f11) true := by
  obtain ⟨h4, h5, h6, h7, h8, h9, h10, h11⟩ := h
  obtain ⟨L, hL⟩ : ∃ L, L = [p.f4, p.f5, p.f6, p.f7, p.f8, p.f9, p.f10] := ⟨_, rfl⟩
  have hall : ∀ x ∈ L, lenOk x ∧ lenL x := by
    intro x hx
    rw [hL] at hx
    simp only [List.mem_cons, List.mem_nil_iff, or_false] at hx
    rcases hx with rfl | rfl | rfl | rfl | rfl | rfl | rfl <;> assumption
  have hLl : L.length = 7 := by rw [hL]; rfl
  have key : ∀ (m j : Nat), L.length - j = m → j ≤ L.length → Ev (fun k => chandlerref06_SamePackage.l0 k L L j p.f0 p.f1 p.f2 p.f3 p.f4 p.f5 p.f6 p.f7 p.f8 p.f9 p.f10 p.f11 p.f0 p.f1 p.f2 p.f3 p.f4 p.f5 p.f6 p.f7 p.f8 p.f9 p.f10 p.f11) true := by
    intro m
    induction m with
    | zero =>
      intro j hm hj
      refine Ev.step (f := fun k => (chandlerref05_SameTexts.f k p.f11 p.f11).bind fun t => if t = true then some true else some false) (fun k => ?_) (Ev.bind (same_texts p.f11 h11) (Ev.congr (fun k => by rw [if_pos rfl]) (Ev.now true)))
      conv => lhs; unfold chandlerref06_SamePackage.l0
      rw [if_neg (by omega)]
      simp
    | succ m ih =>
      intro j hm hj
      have hlt : j < L.length := by omega
      have hx := same_list (rd_L3 L j) (hall _ (by
        unfold rd_L3
        rw [show ((j : Int)).toNat = j by omega, List.getD_eq_getElem?_getD, List.getElem?_eq_getElem hlt]
        exact List.getElem_mem hlt))
      refine Ev.step (f := fun k => (chandlerref05_SameList.f k (rd_L3 L j) (rd_L3 L j)).bind fun t => if t = true then chandlerref06_SamePackage.l0 k L L ((j + 1 : Nat) : Int) p.f0 p.f1 p.f2 p.f3 p.f4 p.f5 p.f6 p.f7 p.f8 p.f9 p.f10 p.f11 p.f0 p.f1 p.f2 p.f3 p.f4 p.f5 p.f6 p.f7 p.f8 p.f9 p.f10 p.f11 else some false) (fun k => ?_)
        (Ev.bind hx (Ev.congr (fun k => by rw [if_pos rfl]) (ih (j + 1) (by omega) (by omega))))
      conv => lhs; unfold chandlerref06_SamePackage.l0
      rw [if_pos (by omega), if_pos (by omega), if_pos (by omega), wrap_next hlt (by omega)]
  refine Ev.congr (fun k => ?_) (key L.length 0 (by omega) (by omega))
  unfold chandlerref06_SamePackage.f chandlerref06_Lists.f
  rw [hL]
  rfl
/-- A row of packages is the same as itself. -/
theorem same_self (l : List S34) (h : lenOk l ∧ ∀ p ∈ l, lenP p) : ∃ k, chandlerref11_Same.f k l l = some true := by
  have key : ∀ (m j : Nat), l.length - j = m → j ≤ l.length → Ev (fun k => chandlerref11_Same.l0 k l l j) true := by
    intro m
    induction m with
    | zero =>
      intro j hm hj
      refine Ev.step (f := fun _ => some true) (fun k => ?_) (Ev.now true)
      unfold chandlerref11_Same.l0
      rw [if_neg (by omega)]
    | succ m ih =>
      intro j hm hj
      have hlt : j < l.length := by omega
      have hx := same_pkg (rd_T34 l j) (h.2 _ (by
        unfold rd_T34
        rw [show ((j : Int)).toNat = j by omega, List.getD_eq_getElem?_getD, List.getElem?_eq_getElem hlt]
        exact List.getElem_mem hlt))
      refine Ev.step (f := fun k => (chandlerref06_SamePackage.f k (rd_T34 l j).f0 (rd_T34 l j).f1 (rd_T34 l j).f2 (rd_T34 l j).f3 (rd_T34 l j).f4 (rd_T34 l j).f5 (rd_T34 l j).f6 (rd_T34 l j).f7 (rd_T34 l j).f8 (rd_T34 l j).f9 (rd_T34 l j).f10 (rd_T34 l j).f11 (rd_T34 l j).f0 (rd_T34 l j).f1 (rd_T34 l j).f2 (rd_T34 l j).f3 (rd_T34 l j).f4 (rd_T34 l j).f5 (rd_T34 l j).f6 (rd_T34 l j).f7 (rd_T34 l j).f8 (rd_T34 l j).f9 (rd_T34 l j).f10 (rd_T34 l j).f11).bind fun t => if t = true then chandlerref11_Same.l0 k l l ((j + 1 : Nat) : Int) else some false) (fun k => ?_)
        (Ev.bind hx (Ev.congr (fun k => by rw [if_pos rfl]) (ih (j + 1) (by omega) (by omega))))
      conv => lhs; unfold chandlerref11_Same.l0
      rw [if_pos (by omega), if_pos (by omega), if_pos (by omega), wrap_next hlt h.1]
  obtain ⟨k, hk⟩ := Ev.rounds (key l.length 0 (by omega) (by omega))
  refine ⟨k, ?_⟩
  unfold chandlerref11_Same.f
  rw [if_pos rfl]
  exact hk
end Go.Proofs.YtmclfdonoldlpaaDoor.Own
