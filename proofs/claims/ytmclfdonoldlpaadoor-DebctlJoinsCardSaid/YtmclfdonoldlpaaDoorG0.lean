/- Walks of package evr's small functions: digit, letter, the closure of Parse, count. Walks of library functions at the arguments that the program hands them: strings.Cut at one byte. -/
import Derived.Test.YtmclfdonoldlpaaDoorPOwnx
import Derived.Test.YtmclfdonoldlpaaDoorShelf
import Derived.Lib.Hide
import Derived.Deep.QuietTactic
import Derived.BigQuiet
namespace Go.Proofs.YtmclfdonoldlpaaDoor.Own
open Go.RowKit Go.Proofs.YtmclfdonoldlpaaDoorW.PrintWords Go.Proofs.YtmclfdonoldlpaaDoorW.PrintLast Go.Proofs.YtmclfdonoldlpaaDoorW.PrintMore Go.Proofs.YtmclfdonoldlpaaDoor.POwn
set_option linter.unusedVariables false
set_option linter.unusedSimpArgs false

def digB (c : Int) : Bool := decide (48 ≤ c) && decide (c ≤ 57)
def letB (c : Int) : Bool := (decide (97 ≤ c) && decide (c ≤ 122)) || (decide (65 ≤ c) && decide (c ≤ 90))
def oddB (c : Int) : Bool := c == 46 || c == 95 || c == 43 || c == 126 || c == 94 || c == 45 || c == 58
/-- A byte of a version. -/
def verB (c : Int) : Bool := digB c || letB c || oddB c

theorem digit_f (c : Int) : evr_digit.f c = some (digB c) := by
  unfold evr_digit.f digB
  by_cases h : 48 ≤ c <;> simp [h, ge_iff_le]
theorem letter_f (c : Int) : evr_letter.f c = some (letB c) := by
  unfold evr_letter.f letB
  by_cases h : 97 ≤ c <;> by_cases h2 : c ≤ 122 <;> by_cases h3 : 65 ≤ c <;> simp [h, h2, h3, ge_iff_le]
theorem digit_calls (c : Int) (b : Bool) (h : digB c = b) (w : World) : Calls Tryd.prog 71 #[.int .u8 c] w fun e w' => e = .returned (.bool b) ∧ Drawn0 w w' :=
  evr_digit.calls c b w (by rw [digit_f, h])
theorem letter_calls (c : Int) (b : Bool) (h : letB c = b) (w : World) : Calls Tryd.prog 72 #[.int .u8 c] w fun e w' => e = .returned (.bool b) ∧ Drawn0 w w' :=
  evr_letter.calls c b w (by rw [letter_f, h])

theorem odd_index (c : Int) (h0 : 0 ≤ c) (h1 : c ≤ 255) : decide (0 ≤ Lib.indexByte [46, 95, 43, 126, 94, 45, 58] c.toNat.toUInt8) = oddB c := by
  obtain ⟨n, rfl⟩ := Int.eq_ofNat_of_zero_le h0
  have hn : n < 256 := by omega
  clear h0 h1
  revert n hn
  decide +kernel

theorem odd_calls (c : Int) (h0 : 0 ≤ c) (h1 : c ≤ 255) (w : World) : Calls Tryd.prog 13 #[.string ⟨#[46, 95, 43, 126, 94, 45, 58]⟩, .int .u8 c] w fun e w' => (∃ i : Int, e = .returned (.int .i64 i) ∧ decide (0 ≤ i) = oddB c) ∧ w' = w :=
  (Tryd.strings_IndexByte _ c w).mono fun e w' h => ⟨⟨_, h.1, odd_index c h0 h1⟩, h.2⟩

set_option maxHeartbeats 1000000 in
theorem ver_calls (c : Int) (h0 : 0 ≤ c) (h1 : c ≤ 255) (w : World) : Calls Tryd.prog 70 #[.int .u8 c] w fun e w' => e = .returned (.bool (verB c)) ∧ Drawn0 w w' := by
  have hv : verB c = (digB c || letB c || oddB c) := rfl
  rcases hd : digB c with _ | _
  · rcases hl : letB c with _ | _
    · rw [hv, hd, hl]
      have Hd := Lib.hid hd
      have Hl := Lib.hid hl
      clear hd hl hv
      simp only [Bool.false_or]
      generalize hob : oddB c = ob
      have Ho := Lib.hid hob
      clear hob
      go_enter Tryd.func70, Tryd.ntmps70
      go_wp2_with (first | (go_at_call 71; refine (digit_calls c false Hd.out _).mono ?_; rintro e w' ⟨rfl, ⟨n1, rfl⟩⟩) | (go_at_call 72; refine (letter_calls c false Hl.out _).mono ?_; rintro e w' ⟨rfl, ⟨n2, rfl⟩⟩) | (go_at_call 13; refine (odd_calls c h0 h1 _).mono ?_; rintro e w' ⟨⟨i, rfl, hi⟩, rfl⟩; have Hi := Lib.hid (hi.trans Ho.out); clear hi))
      go_ret
      exact ⟨by rw [← Hi.out]; rfl, by repeat (first | exact Drawn0.refl _ | apply Drawn0.step)⟩
    · rw [hv, hd, hl]
      have Hd := Lib.hid hd
      have Hl := Lib.hid hl
      clear hd hl hv
      go_enter Tryd.func70, Tryd.ntmps70
      go_wp2_with (first | (go_at_call 71; refine (digit_calls c false Hd.out _).mono ?_; rintro e w' ⟨rfl, ⟨n1, rfl⟩⟩) | (go_at_call 72; refine (letter_calls c true Hl.out _).mono ?_; rintro e w' ⟨rfl, ⟨n2, rfl⟩⟩))
      go_ret
      exact ⟨by simp, by repeat (first | exact Drawn0.refl _ | apply Drawn0.step)⟩
  · rw [hv, hd]
    have Hd := Lib.hid hd
    clear hd hv
    go_enter Tryd.func70, Tryd.ntmps70
    go_wp2_with (go_at_call 71; refine (digit_calls c true Hd.out _).mono ?_; rintro e w' ⟨rfl, ⟨n1, rfl⟩⟩)
    go_ret
    exact ⟨by simp, by repeat (first | exact Drawn0.refl _ | apply Drawn0.step)⟩

/-- How many bytes at a text's begin are such. -/
def cnt (p : Int → Bool) (s : ByteArray) : Nat := (s.data.toList.takeWhile fun b => p (b.toNat : Int)).length
theorem cnt_at (p : Int → Bool) (s : ByteArray) (k : Nat) (hk : k ≤ s.size) (h : ∀ j, j < k → p (bt s j) = true) (he : k < s.size → p (bt s k) = false) : cnt p s = k := by
  unfold cnt
  have hb : ∀ (j : Nat) (hj : j < s.data.toList.length), bt s j = ((s.data.toList[j]'hj).toNat : Int) := by
    intro j hj
    have hj' : j < s.size := by simpa using hj
    rw [← bt_at s j (by simpa using hj')]
    rfl
  have hlen : s.data.toList.length = s.size := by simp
  generalize s.data.toList = l at *
  have key : ∀ (l : List UInt8) (k : Nat), k ≤ l.length → (∀ j (hj : j < l.length), j < k → p ((l[j]'hj).toNat : Int) = true) → (∀ hk : k < l.length, p ((l[k]'hk).toNat : Int) = false) → (l.takeWhile fun b => p (b.toNat : Int)).length = k := by
    intro l
    induction l with
    | nil => intro k hk _ _; simp at hk; simp [hk]
    | cons a r ih =>
      intro k hk h1 h2
      cases k with
      | zero =>
        have := h2 (by simp)
        simp only [List.getElem_cons_zero] at this
        rw [List.takeWhile_cons_of_neg (by simp [this])]
        rfl
      | succ k =>
        have ha := h1 0 (by simp) (by omega)
        simp only [List.getElem_cons_zero] at ha
        rw [List.takeWhile_cons_of_pos (by simp [ha]), List.length_cons]
        rw [ih k (by simpa using hk) (fun j hj hjk => by have := h1 (j + 1) (by simpa using hj) (by omega); simpa using this) (fun hk2 => by have := h2 (by simpa using hk2); simpa using this)]
  refine key l k (by omega) (fun j hj hjk => by rw [← hb j hj]; exact h j hjk) (fun hk2 => by rw [← hb k hk2]; exact he (by omega))

set_option maxHeartbeats 1000000 in
theorem count_calls (g : Nat) (eg : ∀ args w, (callFunc g args).run Tryd.prog w = .ok (.enter g args) w) (p : Int → Bool) (hp : ∀ (c : Int) (W : World), 0 ≤ c → c ≤ 255 → Calls Tryd.prog g #[.int .u8 c] W fun e w' => e = .returned (.bool (p c)) ∧ Drawn0 W w')
    (s : ByteArray) (hs : s.size ≤ maxLen) (w : World) :
    Calls Tryd.prog 73 #[.string s, .func (.func g) #[] #[]] w fun e w' => e = .returned (.int .i64 (cnt p s)) ∧ Drawn0 w w' := by
  unfold maxLen at hs
  go_enter Tryd.func73, Tryd.ntmps73
  go_wp2
  go_loopw [5] (fun i wr => ∃ k : Nat, k ≤ s.size ∧ i = .int .i64 k ∧ Hid (∀ j : Nat, j < k → p (bt s j) = true) ∧ Drawn0 w wr) (fun i _ => s.size - (intOf i).toNat)
  case atStart => exact ⟨0, Nat.zero_le _, rfl, Lib.hid (fun j hj => by omega), Drawn0.refl _⟩
  case round =>
    obtain ⟨k, hk, rfl, hj, hd⟩ := hrel
    by_cases hlt : k < s.size
    · have hx : ∀ h : k < s.size, ((s[k]'h).toNat : Int) = bt s k := fun h => by have := bt_at s k (by simpa using h); simpa using this
      have hr := bt_range s k
      rcases hpk : p (bt s k) with _ | _
      · have Hp := Lib.hid hpk
        have Hq := Lib.hid (cnt_at p s k hk hj.out (fun _ => hpk))
        clear hpk
        go_wp2_with (go_at_fn g; refine (hp _ _ hr.1 hr.2).mono ?_; rw [Hp.out]; rintro e w' ⟨rfl, ⟨n1, rfl⟩⟩)
        go_ret
        exact ⟨by rw [Hq.out]; rfl, by repeat (first | exact Drawn0.refl _ | exact hd | apply Drawn0.step)⟩
      · have Hp := Lib.hid hpk
        have Hj := Lib.hid (show ∀ j : Nat, j < k + 1 → p (bt s j) = true from fun j hjk => by
          rcases Nat.lt_or_ge j k with h | h
          · exact hj.out j h
          · obtain rfl : j = k := by omega
            exact hpk)
        clear hpk
        go_wp2_with (go_at_fn g; refine (hp _ _ hr.1 hr.2).mono ?_; rw [Hp.out]; rintro e w' ⟨rfl, ⟨n1, rfl⟩⟩)
        go_roundw
        case rel => exact ⟨k + 1, by omega, by go_num, Hj, by repeat (first | exact Drawn0.refl _ | exact hd | apply Drawn0.step)⟩
        case measure => simp [intOf]; omega
    · have Hq := Lib.hid (cnt_at p s k hk hj.out (fun h => by omega))
      go_wp2
      go_ret
      exact ⟨by rw [Hq.out]; rfl, by repeat (first | exact Drawn0.refl _ | exact hd | apply Drawn0.step)⟩
end Go.Proofs.YtmclfdonoldlpaaDoor.Own

namespace Go.Proofs.YtmclfdonoldlpaaDoor.Own
open Go.RowKit Go.Proofs.YtmclfdonoldlpaaDoorW.PrintWords Go.Proofs.YtmclfdonoldlpaaDoorW.PrintLast Go.Proofs.YtmclfdonoldlpaaDoorW.PrintMore Go.Proofs.YtmclfdonoldlpaaDoor.POwn
set_option linter.unusedVariables false
set_option linter.unusedSimpArgs false

/-- A store makes no cell and takes none away. -/
theorem isSome_setCell (w : World) (a b : Addr) (v : Value) : ((w.setCell a v).cell? b).isSome = (w.cell? b).isSome := by
  by_cases h : a = b
  · subst h
    rcases hc : w.cell? a with _ | u
    · rcases h2 : (w.setCell a v).cell? a with _ | u2
      · rfl
      · exfalso
        have hf : ∀ W : World, W.cell? a = none → (W.setCell a v).cell? a = none := by
          intro W hW
          simp only [World.setCell, World.cell?, Array.getElem?_modify, if_true] at *
          rcases hh : W.heap[a.block]? with _ | o
          · simp
          · rw [hh] at hW
            cases o with
            | cells c e f =>
              simp only [Option.map_some] at *
              rcases hs : a.spot with _ | sp
              · simp only [hs] at *
                simp at *
                exact hW
              · simp only [hs] at *
                exact hW
            | _ => simp at *
        rw [hf w hc] at h2
        cases h2
    · rw [World.cell?_setCell_same w a v hc]; rfl
  · rw [World.cell?_setCell_other w a b v h]

/-- Where a byte first stands. -/
def at1 (s : ByteArray) (c : UInt8) : Int := Lib.indexByte s.data.toList c
theorem indexByte_lt : ∀ (l : List UInt8) (c : UInt8), -1 ≤ Lib.indexByte l c ∧ Lib.indexByte l c < l.length
  | [], c => by simp [Lib.indexByte]
  | a :: l, c => by
    have := indexByte_lt l c
    simp only [Lib.indexByte, List.length_cons]
    split
    · omega
    · split <;> omega
theorem at1_lt (s : ByteArray) (c : UInt8) : -1 ≤ at1 s c ∧ at1 s c < s.size := by
  have := indexByte_lt s.data.toList c
  simpa [at1] using this

theorem slIndex_one (s : ByteArray) (c : UInt8) (w : World) : Calls Tryd.prog 60 #[.string s, .string ⟨#[c]⟩] w fun e w' => e = .returned (.int .i64 (at1 s c)) ∧ w' = w := Tryd.stringslite_Index_one s c w

set_option maxHeartbeats 1000000 in
theorem slCut_yes (s : ByteArray) (c : UInt8) (n : Nat) (hn : at1 s c = n) (hs : s.size ≤ maxLen) (w : World) : Calls Tryd.prog 29 #[.string s, .string ⟨#[c]⟩] w fun e w' => e = .returned (.tuple #[.string (s.extract 0 n), .string (s.extract (n + 1) s.size), .bool true]) ∧ Drawn0 w w' := by
  unfold maxLen at hs
  have hlt := at1_lt s c
  rw [hn] at hlt
  have hlt1 : n < s.size := by omega
  have Hn := Lib.hid hn
  clear hn hlt
  go_enter Tryd.func29, Tryd.ntmps29
  go_wp2_with (go_at_call 60; refine (slIndex_one s c _).mono ?_; rw [Hn.out]; rintro e w' ⟨rfl, rfl⟩)
  go_quiet (fail)
  go_wp2
  go_ret3
  exact ⟨rfl, by repeat (first | exact Drawn0.refl _ | apply Drawn0.step)⟩

set_option maxHeartbeats 1000000 in
theorem slCut_no (s : ByteArray) (c : UInt8) (hn : at1 s c = -1) (w : World) : Calls Tryd.prog 29 #[.string s, .string ⟨#[c]⟩] w fun e w' => e = .returned (.tuple #[.string s, .string ⟨#[]⟩, .bool false]) ∧ Drawn0 w w' := by
  have Hn := Lib.hid hn
  clear hn
  go_enter Tryd.func29, Tryd.ntmps29
  go_wp2_with (go_at_call 60; refine (slIndex_one s c _).mono ?_; rw [Hn.out]; rintro e w' ⟨rfl, rfl⟩)
  go_ret3
  exact ⟨rfl, by repeat (first | exact Drawn0.refl _ | apply Drawn0.step)⟩

theorem cut_yes (s : ByteArray) (c : UInt8) (n : Nat) (hn : at1 s c = n) (hs : s.size ≤ maxLen) (w : World) : Calls Tryd.prog 14 #[.string s, .string ⟨#[c]⟩] w fun e w' => e = .returned (.tuple #[.string (s.extract 0 n), .string (s.extract (n + 1) s.size), .bool true]) ∧ Drawn0 w w' := by
  have Hn := Lib.hid hn
  clear hn
  go_enter Tryd.func14, Tryd.ntmps14
  go_wp2_with (go_at_call 29; refine (slCut_yes s c n Hn.out hs _).mono ?_; rintro e w' ⟨rfl, ⟨n1, rfl⟩⟩)
  go_ret3
  exact ⟨rfl, by repeat (first | exact Drawn0.refl _ | apply Drawn0.step)⟩
theorem cut_no (s : ByteArray) (c : UInt8) (hn : at1 s c = -1) (w : World) : Calls Tryd.prog 14 #[.string s, .string ⟨#[c]⟩] w fun e w' => e = .returned (.tuple #[.string s, .string ⟨#[]⟩, .bool false]) ∧ Drawn0 w w' := by
  have Hn := Lib.hid hn
  clear hn
  go_enter Tryd.func14, Tryd.ntmps14
  go_wp2_with (go_at_call 29; refine (slCut_no s c Hn.out _).mono ?_; rintro e w' ⟨rfl, ⟨n1, rfl⟩⟩)
  go_ret3
  exact ⟨rfl, by repeat (first | exact Drawn0.refl _ | apply Drawn0.step)⟩
end Go.Proofs.YtmclfdonoldlpaaDoor.Own
