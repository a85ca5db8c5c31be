/- debctl.anyAt: where a rune of a set first stands. debctl.cutLeft: a text without the runes of a set at its begin. debctl.cutRight: a text without the runes of a set at its end. debctl.word: a text ahead of layout, or one of some bytes. strings.Trim at layout; strings.CutPrefix. debctl.piece: the plain function; the walk where no comparison stands. -/
import Derived.Test.YtmclfdonoldlpaaDoorG0
import Derived.Lib.OthersKept
import Derived.WalkSmall
import Derived.Outline
import Derived.Lib.TrimU
import Derived.Deep.RegionHeld3
import Derived.Shelf.Strings.SlTrimAscii
import Derived.Test.YtmclfdonoldlpaaDoorG2
namespace Go.Proofs.YtmclfdonoldlpaaDoor.Own
open Go.RowKit Go.Lib Go.Proofs.YtmclfdonoldlpaaDoorW.PrintWords Go.Proofs.YtmclfdonoldlpaaDoorW.PrintLast Go.Proofs.YtmclfdonoldlpaaDoorW.PrintMore Go.Proofs.YtmclfdonoldlpaaDoor.POwn
set_option linter.unusedVariables false
set_option linter.unusedSimpArgs false

/-- Is a rune one of a set's bytes? -/
def inSet (t : ByteArray) (r : Nat) : Bool := t.data.toList.any fun b => b.toNat == r
def AsciiB (t : ByteArray) : Prop := ∀ (j : Nat) (h : j < t.size), (t[j]'h).toNat < 128

theorem getEq (t : ByteArray) (j : Nat) (h : j < t.size) : t[j] = t.data[j] := rfl
theorem inSet_of (t : ByteArray) (r : Nat) (j : Nat) (h : j < t.size) (e : (t[j]'h).toNat = r) : inSet t r = true := by
  unfold inSet
  rw [List.any_eq_true]
  exact ⟨t[j], by rw [← Array.mem_def]; exact Array.getElem_mem h, by simpa using e⟩
theorem inSet_no (t : ByteArray) (r : Nat) (h : ∀ (j : Nat) (h : j < t.size), ¬ (t[j]'h).toNat = r) : inSet t r = false := by
  unfold inSet
  rw [List.any_eq_false]
  intro b hb
  rw [← Array.mem_def] at hb
  obtain ⟨j, hj, rfl⟩ := Array.mem_iff_getElem.1 hb
  have h2 : ¬ (t.data[j]'hj).toNat = r := h j hj
  simpa using h2

theorem width_pos (s : ByteArray) (pos : Nat) (h : pos < s.size) : 1 ≤ (Utf8.decode s pos).2 := by
  by_cases ha : (s[pos]'h).toNat < 128
  · rw [decode_ascii s pos h ha]
    exact Nat.le_refl _
  · exact (decode_high s pos h (by omega)).2

set_option maxHeartbeats 4000000 in
theorem anyAt_calls (s t : ByteArray) (ht : AsciiB t) (w : World) :
    Calls Tryd.prog 87 #[.string s, .string t] w fun e w' => e = .returned (.int .i64 (Lib.idxFunc (inSet t) true s)) ∧ Below w.heap.size w w' := by
  have HT := Lib.hid ht
  clear ht
  go_enter Tryd.func87, Tryd.ntmps87
  go_wp2
  go_loopw [5] (fun _ wr => ∃ pos f : Nat, wr.heap[w.heap.size]? = some (.stringIter s pos) ∧ Hid (Below w.heap.size w wr) ∧ Hid (Lib.idxFunc (inSet t) true s = Lib.idxFuncFrom (inSet t) true s f pos) ∧ s.size ≤ pos + f) (fun _ wr => s.size - wr.iterPos w.heap.size)
  case atStart => exact ⟨0, s.size, World.iter_heap _ _ _, Lib.hid (below_alloc (Below.refl _ _) _), Lib.hid rfl, by omega⟩
  case round =>
    obtain ⟨pos, f, hit, hB, hf, hle⟩ := hrel
    by_cases hp : pos < s.size
    · obtain ⟨f, rfl⟩ : ∃ m, f = m + 1 := ⟨f - 1, by omega⟩
      have hnx := fun ty => run_next_any_at (P := Tryd.prog) wr w.heap.size s pos ty hit hp
      have hwd := width_pos s pos hp
      have hfs : Lib.idxFuncFrom (inSet t) true s (f + 1) pos = if inSet t (Utf8.decode s pos).1 = true then (pos : Int) else Lib.idxFuncFrom (inSet t) true s f (pos + (Utf8.decode s pos).2) := by
        rw [Lib.idxFuncFrom, if_pos hp]
      have HF := Lib.hid (hf.out.trans hfs)
      clear hfs hf
      go_wp2
      have hb1 := iterAt_heap wr w.heap.size s pos (pos + (Utf8.decode s pos).2) hit
      have hB1 := Lib.hid (below_iterAt hB.out (Nat.le_refl _) s (pos + (Utf8.decode s pos).2))
      clear hnx
      have hit' := hit
      have hpz : wr.iterPos w.heap.size = pos := iterPos_of hit
      clear hit' hit
      generalize wr.iterAt w.heap.size s (pos + (Utf8.decode s pos).2) = W1 at *
      generalize (Utf8.decode s pos).1 = c at *
      generalize hwe : (Utf8.decode s pos).2 = wd at *
      have Hpz := Lib.hid hpz
      clear hwe hpz hB
      have hlt1 : w.heap.size < W1.heap.size := (Array.getElem?_eq_some_iff.1 hb1).1
      go_loopw [8] (fun _ w2 => ∃ j : Nat, j ≤ t.size ∧ w2.heap[W1.heap.size]? = some (.stringIter t j) ∧ w2.heap[w.heap.size]? = some (.stringIter s (pos + wd)) ∧ Hid (Below w.heap.size w w2) ∧ Hid (∀ (i : Nat) (h : i < t.size), i < j → ¬ (t[i]'h).toNat = c)) (fun _ w2 => t.size - w2.iterPos W1.heap.size)
      case atStart => exact ⟨0, Nat.zero_le _, World.iter_heap _ _ _, (Below.heap_alloc W1 _ _ hlt1).trans hb1, Lib.hid (below_alloc hB1.out _), Lib.hid (fun i h hi => by omega)⟩
      case round =>
        obtain ⟨j, hj, it2, it1, hB2, hno⟩ := hrel
        by_cases hjt : j < t.size
        · have hnx := fun ty => run_next_ascii_at (P := Tryd.prog) wr W1.heap.size t j ty it2 hjt (HT.out j hjt)
          have hne : w.heap.size ≠ W1.heap.size := by omega
          by_cases hcj : (t[j]'hjt).toNat = c
          · have he : ((c : Int) == ((t[j]'hjt).toNat : Int)) = true := by simp; omega
            have HR := Lib.hid (show Lib.idxFunc (inSet t) true s = pos by rw [HF.out, if_pos (inSet_of t c j hjt hcj)])
            clear hcj
            go_wp2
            go_ret
            exact ⟨by rw [HR.out]; rfl, below_iterAt hB2.out (by omega) _ _⟩
          · have he : ((c : Int) == ((t[j]'hjt).toNat : Int)) = false := by simp; omega
            have HN := Lib.hid (show ∀ (i : Nat) (h : i < t.size), i < j + 1 → ¬ (t[i]'h).toNat = c from fun i h hi => by
              rcases Nat.lt_or_ge i j with h2 | h2
              · exact hno.out i h h2
              · obtain rfl : i = j := by omega
                exact hcj)
            have H2 := Lib.hid it2
            have H1 := Lib.hid it1
            have Hne := Lib.hid hne
            clear hcj hne
            go_wp2
            go_roundw
            case rel => exact ⟨j + 1, by omega, iterAt_heap _ _ _ _ _ H2.out, (iterAt_other _ _ _ _ _ Hne.out).trans H1.out, Lib.hid (below_iterAt hB2.out (by omega) _ _), HN⟩
            case measure => rw [iterPos_of (iterAt_heap _ _ _ _ _ H2.out), iterPos_of H2.out]; omega
        · have hnx := fun ty => run_next_end_at (P := Tryd.prog) wr W1.heap.size t j ty it2 hjt
          have HR := Lib.hid (show Lib.idxFunc (inSet t) true s = Lib.idxFuncFrom (inSet t) true s f (pos + wd) by
            rw [HF.out, if_neg]
            rw [inSet_no t c (fun i h => hno.out i h (by omega))]
            simp)
          have H1 := Lib.hid it1
          clear hno HF it2
          go_wp2
          go_roundw
          case rel => exact ⟨pos + wd, f, H1.out, hB2, HR, by omega⟩
          case measure => rw [iterPos_of H1.out, Hpz.out]; omega
    · have hnx := fun ty => run_next_end_at (P := Tryd.prog) wr w.heap.size s pos ty hit hp
      have HR := Lib.hid (hf.out.trans (Lib.idxFuncFrom_end _ _ _ _ _ hp))
      clear hf
      go_wp2
      go_ret
      exact ⟨by rw [HR.out]; rfl, hB.out⟩
end Go.Proofs.YtmclfdonoldlpaaDoor.Own

namespace Go.Proofs.YtmclfdonoldlpaaDoor.Own
open Go.RowKit Go.Lib Go.Proofs.YtmclfdonoldlpaaDoorW.PrintWords Go.Proofs.YtmclfdonoldlpaaDoorW.PrintLast Go.Proofs.YtmclfdonoldlpaaDoorW.PrintMore Go.Proofs.YtmclfdonoldlpaaDoor.POwn
set_option linter.unusedVariables false
set_option linter.unusedSimpArgs false

/-- Is a rune among a set's first j bytes? -/
def inUp (t : ByteArray) (c j : Nat) : Bool := (t.data.toList.take j).any fun b => b.toNat == c
theorem inUp_zero (t : ByteArray) (c : Nat) : inUp t c 0 = false := by simp [inUp]
theorem inUp_succ (t : ByteArray) (c j : Nat) (h : j < t.size) : inUp t c (j + 1) = (inUp t c j || ((t[j]'h).toNat == c)) := by
  have hl : j < t.data.toList.length := by simpa using h
  unfold inUp
  rw [List.take_succ_eq_append_getElem hl, List.any_append]
  simp
  rfl
theorem inUp_all (t : ByteArray) (c j : Nat) (h : t.size ≤ j) : inUp t c j = inSet t c := by
  unfold inUp inSet
  rw [List.take_of_length_le (by simpa using h)]

/-- A text without the runes of a set at its begin. -/
def cutL (t s : ByteArray) : ByteArray := if Lib.idxFunc (inSet t) false s < 0 then ⟨#[]⟩ else s.extract (Lib.idxFunc (inSet t) false s).toNat s.size

set_option maxHeartbeats 4000000 in
theorem cutLeft_calls (s t : ByteArray) (ht : AsciiB t) (hs : s.size ≤ 9223372036854775807) (w : World) :
    Calls Tryd.prog 89 #[.string s, .string t] w fun e w' => e = .returned (.string (cutL t s)) ∧ Below w.heap.size w w' := by
  have HT := Lib.hid ht
  clear ht
  go_enter Tryd.func89, Tryd.ntmps89
  go_wp2
  go_loopw [5] (fun _ wr => ∃ pos f : Nat, wr.heap[w.heap.size]? = some (.stringIter s pos) ∧ Hid (Below w.heap.size w wr) ∧ Hid (Lib.idxFunc (inSet t) false s = Lib.idxFuncFrom (inSet t) false s f pos) ∧ s.size ≤ pos + f) (fun _ wr => s.size - wr.iterPos w.heap.size)
  case atStart => exact ⟨0, s.size, World.iter_heap _ _ _, Lib.hid (below_alloc (Below.refl _ _) _), Lib.hid rfl, by omega⟩
  case round =>
    obtain ⟨pos, f, hit, hB, hf, hle⟩ := hrel
    by_cases hp : pos < s.size
    · obtain ⟨f, rfl⟩ : ∃ m, f = m + 1 := ⟨f - 1, by omega⟩
      have hnx := fun ty => run_next_any_at (P := Tryd.prog) wr w.heap.size s pos ty hit hp
      have hwd := width_pos s pos hp
      have hfs : Lib.idxFuncFrom (inSet t) false s (f + 1) pos = if inSet t (Utf8.decode s pos).1 = false then (pos : Int) else Lib.idxFuncFrom (inSet t) false s f (pos + (Utf8.decode s pos).2) := by
        rw [Lib.idxFuncFrom, if_pos hp]
      have HF := Lib.hid (hf.out.trans hfs)
      clear hfs hf
      go_wp2
      have hb1 := iterAt_heap wr w.heap.size s pos (pos + (Utf8.decode s pos).2) hit
      have hB1 := Lib.hid (below_iterAt hB.out (Nat.le_refl _) s (pos + (Utf8.decode s pos).2))
      clear hnx
      have hpz : wr.iterPos w.heap.size = pos := iterPos_of hit
      clear hit
      generalize wr.iterAt w.heap.size s (pos + (Utf8.decode s pos).2) = W1 at *
      generalize (Utf8.decode s pos).1 = c at *
      generalize hwe : (Utf8.decode s pos).2 = wd at *
      have Hpz := Lib.hid hpz
      clear hwe hpz hB
      have hlt1 : w.heap.size < W1.heap.size := (Array.getElem?_eq_some_iff.1 hb1).1
      go_loopw [7] (fun v w2 => ∃ j : Nat, j ≤ t.size ∧ v = .bool (inUp t c j) ∧ w2.heap[W1.heap.size]? = some (.stringIter t j) ∧ w2.heap[w.heap.size]? = some (.stringIter s (pos + wd)) ∧ Hid (Below w.heap.size w w2)) (fun _ w2 => t.size - w2.iterPos W1.heap.size)
      case atStart => exact ⟨0, Nat.zero_le _, by rw [inUp_zero], World.iter_heap _ _ _, (Below.heap_alloc W1 _ _ hlt1).trans hb1, Lib.hid (below_alloc hB1.out _)⟩
      case round =>
        obtain ⟨j, hj, rfl, it2, it1, hB2⟩ := hrel
        by_cases hjt : j < t.size
        · have hnx := fun ty => run_next_ascii_at (P := Tryd.prog) wr W1.heap.size t j ty it2 hjt (HT.out j hjt)
          have hne : w.heap.size ≠ W1.heap.size := by omega
          have hup := inUp_succ t c j hjt
          have H2 := Lib.hid it2
          have H1 := Lib.hid it1
          have Hne := Lib.hid hne
          clear hne
          rcases hin : inUp t c j with _ | _
          · rw [hin, Bool.false_or] at hup
            have he : ((c : Int) == ((t[j]'hjt).toNat : Int)) = ((t[j]'hjt).toNat == c) := by
              rw [Bool.eq_iff_iff]; simp; omega
            have HU := Lib.hid hup
            clear hup hin
            go_wp2
            go_roundw
            case rel => exact ⟨j + 1, by omega, by rw [HU.out], iterAt_heap _ _ _ _ _ H2.out, (iterAt_other _ _ _ _ _ Hne.out).trans H1.out, Lib.hid (below_iterAt hB2.out (by omega) _ _)⟩
            case measure => rw [iterPos_of (iterAt_heap _ _ _ _ _ H2.out), iterPos_of H2.out]; omega
          · rw [hin, Bool.true_or] at hup
            have HU := Lib.hid hup
            clear hup hin
            go_wp2
            go_roundw
            case rel => exact ⟨j + 1, by omega, by rw [HU.out], iterAt_heap _ _ _ _ _ H2.out, (iterAt_other _ _ _ _ _ Hne.out).trans H1.out, Lib.hid (below_iterAt hB2.out (by omega) _ _)⟩
            case measure => rw [iterPos_of (iterAt_heap _ _ _ _ _ H2.out), iterPos_of H2.out]; omega
        · have hnx := fun ty => run_next_end_at (P := Tryd.prog) wr W1.heap.size t j ty it2 hjt
          have H1 := Lib.hid it1
          have hall := inUp_all t c j (by omega)
          rcases hin : inSet t c with _ | _
          · rw [hall, hin]
            have HR := Lib.hid (show cutL t s = s.extract pos s.size by
              unfold cutL
              rw [show Lib.idxFunc (inSet t) false s = pos from by rw [HF.out, if_pos hin], if_neg (by omega), Int.toNat_natCast])
            clear hall hin HF it2
            go_wp2
            go_ret
            exact ⟨by rw [HR.out]; rfl, hB2.out⟩
          · rw [hall, hin]
            have HR := Lib.hid (show Lib.idxFunc (inSet t) false s = Lib.idxFuncFrom (inSet t) false s f (pos + wd) by
              rw [HF.out, if_neg (by rw [hin]; simp)])
            clear hall hin HF it2
            go_wp2
            go_roundw
            case rel => exact ⟨pos + wd, f, H1.out, hB2, HR, by omega⟩
            case measure => rw [iterPos_of H1.out, Hpz.out]; omega
    · have hnx := fun ty => run_next_end_at (P := Tryd.prog) wr w.heap.size s pos ty hit hp
      have HR := Lib.hid (show cutL t s = ⟨#[]⟩ by
        unfold cutL
        rw [hf.out, Lib.idxFuncFrom_end _ _ _ _ _ hp]
        rfl)
      clear hf
      go_wp2
      go_ret
      exact ⟨by rw [HR.out]; rfl, hB.out⟩
end Go.Proofs.YtmclfdonoldlpaaDoor.Own

namespace Go.Proofs.YtmclfdonoldlpaaDoor.Own
open Go.RowKit Go.Lib Go.Proofs.YtmclfdonoldlpaaDoorW.PrintWords Go.Proofs.YtmclfdonoldlpaaDoorW.PrintLast Go.Proofs.YtmclfdonoldlpaaDoorW.PrintMore Go.Proofs.YtmclfdonoldlpaaDoor.POwn
set_option linter.unusedVariables false
set_option linter.unusedSimpArgs false

/-- Go's own tables of UTF-8 lie in a world. -/
abbrev Tabs (w : World) : Prop := Lib.Utf8Tabs 1 2 w
theorem Tabs.below {w w' : World} (h : Tabs w) (hb : Below w.heap.size w w') : Tabs w' := Go.Proofs.Utf8Tabs_below h hb

/-- A text without the runes of a set at its end. -/
def cutRf (t : ByteArray) : Nat → ByteArray → ByteArray
  | 0, s => s
  | f + 1, s => if s.size = 0 then s else if inSet t (Lib.decodeLastL s.data.toList).1 then cutRf t f (s.extract 0 (s.size - (Lib.decodeLastL s.data.toList).2)) else s
def cutR (t s : ByteArray) : ByteArray := cutRf t s.size s

set_option maxHeartbeats 4000000 in
theorem cutRight_calls (s t : ByteArray) (ht : AsciiB t) (hs : s.size ≤ 9223372036854775807) (w : World) (hT : Tabs w) :
    Calls Tryd.prog 88 #[.string s, .string t] w fun e w' => e = .returned (.string (cutR t s)) ∧ Below w.heap.size w w' := by
  have HA := Lib.hid ht
  have HT := Lib.hid hT
  clear ht hT
  go_enter Tryd.func88, Tryd.ntmps88
  go_wp2
  go_loopw [0] (fun v wr => ∃ (x : ByteArray) (f : Nat), v = .string x ∧ x.size ≤ s.size ∧ x.size ≤ f ∧ Hid (cutR t s = cutRf t f x) ∧ Hid (Below w.heap.size w wr)) (fun v _ => match v with | .string x => x.size | _ => 0)
  case atStart => exact ⟨s, s.size, rfl, Nat.le_refl _, Nat.le_refl _, Lib.hid rfl, Lib.hid (Below.refl _ _)⟩
  case round =>
    obtain ⟨x, f, rfl, hxs, hxf, hf, hB⟩ := hrel
    by_cases h0 : 0 < x.size
    · obtain ⟨f, rfl⟩ : ∃ m, f = m + 1 := ⟨f - 1, by omega⟩
      have hstep : cutRf t (f + 1) x = if inSet t (Lib.decodeLastL x.data.toList).1 then cutRf t f (x.extract 0 (x.size - (Lib.decodeLastL x.data.toList).2)) else x := by
        rw [cutRf, if_neg (by omega)]
      have HF := Lib.hid (hf.out.trans hstep)
      have hw := Lib.decodeLastL_width x.data.toList (by simpa using h0)
      have hwl : x.data.toList.length = x.size := by simp
      rw [hwl] at hw
      have hdec := Tryd.utf8_DecodeLastRuneInString x wr (by omega) (HT.out.below hB.out)
      clear hf hstep hwl
      generalize (Lib.decodeLastL x.data.toList).1 = c at *
      generalize (Lib.decodeLastL x.data.toList).2 = n at *
      have HD := Lib.hid hdec
      clear hdec
      obtain ⟨hn1, hn2⟩ := hw
      go_wp2_with (go_at_call 39; refine HD.out.mono ?_; rintro e W1 ⟨rfl, hb1⟩; have HB1 := Lib.hid (below_then hB.out hB.out.size hb1); clear hb1)
      go_loopw [7] (fun v w2 => ∃ j : Nat, j ≤ t.size ∧ v = .bool (inUp t c j) ∧ w2.heap[W1.heap.size]? = some (.stringIter t j) ∧ Hid (Below w.heap.size w w2)) (fun _ w2 => t.size - w2.iterPos W1.heap.size)
      case atStart => exact ⟨0, Nat.zero_le _, by rw [inUp_zero], World.iter_heap _ _ _, Lib.hid (below_alloc HB1.out _)⟩
      case round =>
        obtain ⟨j, hj, rfl, it2, hB2⟩ := hrel
        have hws := HB1.out.size
        by_cases hjt : j < t.size
        · have hnx := fun ty => run_next_ascii_at (P := Tryd.prog) wr W1.heap.size t j ty it2 hjt (HA.out j hjt)
          have hup := inUp_succ t c j hjt
          have H2 := Lib.hid it2
          rcases hin : inUp t c j with _ | _
          · rw [hin, Bool.false_or] at hup
            have he : ((c : Int) == ((t[j]'hjt).toNat : Int)) = ((t[j]'hjt).toNat == c) := by
              rw [Bool.eq_iff_iff]; simp; omega
            have HU := Lib.hid hup
            clear hup hin
            go_wp2
            go_roundw
            case rel => exact ⟨j + 1, by omega, by rw [HU.out], iterAt_heap _ _ _ _ _ H2.out, Lib.hid (below_iterAt hB2.out (by omega) _ _)⟩
            case measure => rw [iterPos_of (iterAt_heap _ _ _ _ _ H2.out), iterPos_of H2.out]; omega
          · rw [hin, Bool.true_or] at hup
            have HU := Lib.hid hup
            clear hup hin
            go_wp2
            go_roundw
            case rel => exact ⟨j + 1, by omega, by rw [HU.out], iterAt_heap _ _ _ _ _ H2.out, Lib.hid (below_iterAt hB2.out (by omega) _ _)⟩
            case measure => rw [iterPos_of (iterAt_heap _ _ _ _ _ H2.out), iterPos_of H2.out]; omega
        · have hnx := fun ty => run_next_end_at (P := Tryd.prog) wr W1.heap.size t j ty it2 hjt
          have hall := inUp_all t c j (by omega)
          rcases hin : inSet t c with _ | _
          · rw [hall, hin]
            have HR := Lib.hid (show cutR t s = x by rw [HF.out, hin]; simp)
            clear hall hin HF it2
            go_wp2
            go_ret
            exact ⟨by rw [HR.out]; rfl, hB2.out⟩
          · rw [hall, hin]
            have HR := Lib.hid (show cutR t s = cutRf t f (x.extract 0 (x.size - n)) by rw [HF.out, hin]; simp)
            have q1 : (0 : Int) ≤ (x.size : Int) - (n : Int) := by omega
            have q2 : ((x.size : Int) - (n : Int)).toNat = x.size - n := by omega
            have q3 : (x.size : Int) - (n : Int) ≤ (x.size : Int) := by omega
            clear hall hin HF it2
            go_wp2
            go_roundw
            case rel => exact ⟨x.extract 0 (x.size - n), f, by simp, by simp; omega, by simp; omega, HR, hB2⟩
            case measure => simp; omega
    · have HR := Lib.hid (show cutR t s = x by
        rw [hf.out]
        cases f with
        | zero => rfl
        | succ f => rw [cutRf, if_pos (by omega)])
      clear hf
      go_wp2
      go_ret
      exact ⟨by rw [HR.out]; rfl, hB.out⟩
end Go.Proofs.YtmclfdonoldlpaaDoor.Own

namespace Go.Proofs.YtmclfdonoldlpaaDoor.Own
open Go.RowKit Go.Lib Go.Proofs.YtmclfdonoldlpaaDoorW.PrintWords Go.Proofs.YtmclfdonoldlpaaDoorW.PrintLast Go.Proofs.YtmclfdonoldlpaaDoorW.PrintMore Go.Proofs.YtmclfdonoldlpaaDoor.POwn
set_option linter.unusedVariables false
set_option linter.unusedSimpArgs false

def wsB : ByteArray := ⟨#[32, 9]⟩
theorem ws_ascii : AsciiB wsB := by
  intro j h
  have h2 : j < 2 := h
  rcases j with _ | _ | j
  · show (32 : UInt8).toNat < 128; decide
  · show (9 : UInt8).toNat < 128; decide
  · omega
theorem set_ascii (c : UInt8) (hc : c.toNat < 128) : AsciiB ⟨#[32, 9, c]⟩ := by
  intro j h
  have h2 : j < 3 := h
  rcases j with _ | _ | _ | j
  · show (32 : UInt8).toNat < 128; decide
  · show (9 : UInt8).toNat < 128; decide
  · exact hc
  · omega
/-- A text ahead of layout, or a byte c; and what stands behind. -/
def wordI (c : UInt8) (s : ByteArray) : Int := Lib.idxFunc (inSet ⟨#[32, 9, c]⟩) true s
def wordF (c : UInt8) (s : ByteArray) : ByteArray × ByteArray :=
  if wordI c s < 0 then (s, ⟨#[]⟩) else (s.extract 0 (wordI c s).toNat, cutR wsB (cutL wsB (s.extract (wordI c s).toNat s.size)))
theorem idx_range (p : Nat → Bool) (b : Bool) (s : ByteArray) : Lib.idxFunc p b s = -1 ∨ (0 ≤ Lib.idxFunc p b s ∧ Lib.idxFunc p b s < s.size) := by
  rcases Lib.idxFuncFrom_range p b s s.size 0 with h | h
  · exact .inl h
  · exact .inr ⟨by have h1 : ((0 : Nat) : Int) ≤ Lib.idxFunc p b s := h.1; simpa using h1, h.2⟩

theorem any_ws (s : ByteArray) (c : UInt8) (hc : c.toNat < 128) (n : Int) (h : wordI c s = n) (w : World) :
    Calls Tryd.prog 87 #[.string s, .string ⟨#[32, 9, c]⟩] w fun e w' => e = .returned (.int .i64 n) ∧ Below w.heap.size w w' := by
  subst h
  exact anyAt_calls s _ (set_ascii c hc) w
theorem cutL_ws (s : ByteArray) (hs : s.size ≤ 9223372036854775807) (r : ByteArray) (h : cutL wsB s = r) (w : World) :
    Calls Tryd.prog 89 #[.string s, .string ⟨#[32, 9]⟩] w fun e w' => e = .returned (.string r) ∧ Below w.heap.size w w' := by
  subst h
  exact cutLeft_calls s wsB ws_ascii hs w
theorem cutR_ws (s : ByteArray) (hs : s.size ≤ 9223372036854775807) (r : ByteArray) (h : cutR wsB s = r) (w : World) (hT : Tabs w) :
    Calls Tryd.prog 88 #[.string s, .string ⟨#[32, 9]⟩] w fun e w' => e = .returned (.string r) ∧ Below w.heap.size w w' := by
  subst h
  exact cutRight_calls s wsB ws_ascii hs w hT
theorem cutL_size (t s : ByteArray) : (cutL t s).size ≤ s.size := by
  unfold cutL
  split
  · exact Nat.zero_le _
  · simp

set_option maxHeartbeats 4000000 in
theorem word_calls (s : ByteArray) (c : UInt8) (hc : c.toNat < 128) (hs : s.size ≤ 9223372036854775807) (a b : ByteArray) (hr : wordF c s = (a, b)) (w : World) (hT : Tabs w) :
    Calls Tryd.prog 66 #[.string s, .string ⟨#[c]⟩] w fun e w' => e = .returned (.tuple #[.string a, .string b]) ∧ Below w.heap.size w w' := by
  have HT := Lib.hid hT
  have HC := Lib.hid hc
  unfold wordF at hr
  have hrange : wordI c s = -1 ∨ (0 ≤ wordI c s ∧ wordI c s < s.size) := idx_range _ _ _
  rcases hrange with h | ⟨h1, h2⟩
  · rw [if_pos (by omega)] at hr
    obtain ⟨rfl, rfl⟩ : s = a ∧ (⟨#[]⟩ : ByteArray) = b := by simpa using hr
    have HI := Lib.hid h
    clear h hr hT hc
    go_enter Tryd.func66, Tryd.ntmps66
    go_wp2_with (go_at_call 87; refine (any_ws s c HC.out _ HI.out _).mono ?_; rintro e w1 ⟨rfl, hb⟩)
    go_ret2
    exact ⟨rfl, hb⟩
  · rw [if_neg (by omega)] at hr
    obtain ⟨n, hn⟩ : ∃ n : Nat, wordI c s = n := ⟨(wordI c s).toNat, by omega⟩
    rw [hn, Int.toNat_natCast] at hr
    obtain ⟨m, hm⟩ : ∃ m, cutL wsB (s.extract n s.size) = m := ⟨_, rfl⟩
    rw [hm] at hr
    have hml : m.size ≤ s.size := by rw [← hm]; exact Nat.le_trans (cutL_size _ _) (by simp)
    obtain ⟨rfl, hb2⟩ : s.extract 0 n = a ∧ cutR wsB m = b := by simpa using hr
    have HI := Lib.hid hn
    have HM := Lib.hid hm
    have HBB := Lib.hid hb2
    have q1 : (0 : Int) ≤ (n : Int) := by omega
    have q2 : (n : Int) ≤ (s.size : Int) := by omega
    have hn2 : n ≤ s.size := by omega
    clear h1 h2 hn hm hb2 hr hT hc
    go_enter Tryd.func66, Tryd.ntmps66
    go_wp2_with (go_at_call 87; refine (any_ws s c HC.out _ HI.out _).mono ?_; rintro e w1 ⟨rfl, hb⟩; have HB := Lib.hid hb; clear hb)
    go_region_held3 (fun _ => True) (trivial) (first | (go_at_call 89; refine (cutL_ws _ (by simp; omega) _ HM.out _).mono ?_; rintro e w2 ⟨rfl, hb2⟩) | (go_at_call 88; refine (cutR_ws m (by omega) _ HBB.out _ (HT.out.below (by exact below_then HB.out HB.out.size (below_then (below_drew1 (Below.refl _ _)) (by simp) hb2)))).mono ?_; rintro e w3 ⟨rfl, hb3⟩))
    go_wp2
    go_ret2
    exact ⟨rfl, below_then HB.out HB.out.size (below_then (below_then (below_drew1 (Below.refl _ _)) (by simp) hb2) (by have := hb2.size; simp at this; omega) hb3)⟩
end Go.Proofs.YtmclfdonoldlpaaDoor.Own

namespace Go.Proofs.YtmclfdonoldlpaaDoor.Own
open Go.RowKit Go.Lib Go.Proofs.YtmclfdonoldlpaaDoorW.PrintWords Go.Proofs.YtmclfdonoldlpaaDoorW.PrintLast Go.Proofs.YtmclfdonoldlpaaDoorW.PrintMore Go.Proofs.YtmclfdonoldlpaaDoor.POwn
set_option linter.unusedVariables false
set_option linter.unusedSimpArgs false

/-- A text without layout at its ends. -/
def trimB (s : ByteArray) : ByteArray := ⟨(Lib.trimS s.data.toList [32, 9]).toArray⟩
theorem trim_calls (s : ByteArray) (hs : s.size ≤ 9223372036854775807) (r : ByteArray) (h : trimB s = r) (w : World) :
    Calls Tryd.prog 11 #[.string s, .string ⟨#[32, 9]⟩] w fun e w' => e = .returned (.string r) ∧ Below w.heap.size w w' := by
  subst h
  exact Go.Proofs.Any.strings_Trim_laid Tryd.lays160 (by kernel_rfl) s ⟨#[32, 9]⟩ w hs (by decide) (Go.Proofs.ascii_of_all (by decide))
theorem trimS_le (l cs : List UInt8) : (Lib.trimS l cs).length ≤ l.length := by
  unfold Lib.trimS
  have h1 : ∀ l : List UInt8, (Lib.trimLeftS l cs).length ≤ l.length := fun l => by
    unfold Lib.trimLeftS
    exact (List.dropWhile_sublist _).length_le
  have h2 : ∀ l : List UInt8, (Lib.trimRightS l cs).length ≤ l.length := fun l => by
    unfold Lib.trimRightS
    have := (List.dropWhile_sublist (fun x => cs.contains x) (l := l.reverse)).length_le
    simpa using this
  first
    | exact Nat.le_trans (h1 _) (h2 _)
    | exact Nat.le_trans (h2 _) (h1 _)
theorem trimB_size (s : ByteArray) : (trimB s).size ≤ s.size := by
  have := trimS_le s.data.toList [32, 9]
  have h2 : s.data.toList.length = s.size := by simp
  have h3 : (trimB s).size = (Lib.trimS s.data.toList [32, 9]).length := by unfold trimB; rfl
  omega

/-- Does a text begin with another? -/
def hasP (s p : ByteArray) : Bool := decide (p.size ≤ s.size) && ((s.extract 0 p.size).toList == p.toList)
/-- What stands behind it, or all. -/
def cutP (s p : ByteArray) : ByteArray := if hasP s p then s.extract p.size s.size else s
theorem cutP_f (s p : ByteArray) : strings_CutPrefix.f s p = some (cutP s p, hasP s p) := by
  unfold strings_CutPrefix.f stringslite_CutPrefix.f stringslite_HasPrefix.f cutP hasP
  by_cases h : p.size ≤ s.size
  · have e1 : ((p.size : Int)).toNat = p.size := by omega
    simp only [e1]
    rw [if_pos (by omega), if_pos (by omega), if_pos (by omega)]
    rcases hq : ((s.extract 0 p.size).toList == p.toList) with _ | _
    · simp [h, hq]
    · simp [h, hq]
  · rw [if_neg (by omega)]
    simp [h]
theorem cutP_calls (s p : ByteArray) (r : ByteArray) (b : Bool) (hr : cutP s p = r) (hb : hasP s p = b) (w : World) :
    Calls Tryd.prog 67 #[.string s, .string p] w fun e w' => e = .returned (.tuple #[.string r, .bool b]) ∧ Drawn0 w w' := by
  subst hr hb
  exact strings_CutPrefix.calls s p _ _ w (cutP_f s p)
theorem cutP_size (s p : ByteArray) : (cutP s p).size ≤ s.size := by
  unfold cutP
  split
  · simp
  · exact Nat.le_refl _
end Go.Proofs.YtmclfdonoldlpaaDoor.Own

namespace Go.Proofs.YtmclfdonoldlpaaDoor.Own
open Go.RowKit Go.Lib Go.Proofs.YtmclfdonoldlpaaDoorW.PrintWords Go.Proofs.YtmclfdonoldlpaaDoorW.PrintLast Go.Proofs.YtmclfdonoldlpaaDoorW.PrintMore Go.Proofs.YtmclfdonoldlpaaDoor.POwn
set_option linter.unusedVariables false
set_option linter.unusedSimpArgs false

def sgn : List S97 := (debctl_signs.f).getD []
def sgStep (st : Int × ByteArray) (x : S97) : Int × ByteArray := if hasP st.2 x.f0 && st.1 == 0 then (x.f1, trimB (cutP st.2 x.f0)) else st
/-- The comparison that a text begins with, and what stands behind. -/
def sgRun (r : ByteArray) : Int × ByteArray := sgn.foldl sgStep (0, r)
def parB : ByteArray := ⟨#[40]⟩
def endB : ByteArray := ⟨#[41]⟩
/-- What debctl.piece answers: name, comparison, version; whether it is one. -/
def pieceF (s : ByteArray) : S36 × Bool :=
  let nm := wordF 40 (trimB s)
  if nm.2.toList.isEmpty then (⟨1, nm.1, 0, ⟨#[]⟩, []⟩, !nm.1.toList.isEmpty)
  else if !hasP nm.2 parB then (⟨1, nm.1, 0, ⟨#[]⟩, []⟩, false)
  else
    let sg := sgRun (trimB (cutP nm.2 parB))
    let vr := wordF 41 sg.2
    (⟨1, nm.1, sg.1, vr.1, []⟩, !nm.1.toList.isEmpty && decide (0 < sg.1) && !vr.1.toList.isEmpty && (vr.2.toList == endB.toList))

theorem bcell {W w1 : World} (hb : Below W.heap.size W w1) : (∀ b o, b < W.heap.size → w1.cell? ⟨b, o, none⟩ = W.cell? ⟨b, o, none⟩) ∧ (∀ b o, b < W.heap.size → w1.frozen? ⟨b, o, none⟩ = W.frozen? ⟨b, o, none⟩) :=
  ⟨fun b o h => hb.cell (p := ⟨b, o, none⟩) h, fun b o h => hb.frozen (p := ⟨b, o, none⟩) h⟩

attribute [local go_sem ↓] isSome_setCell
/-- A dependency, and whether it is one. -/
def PiecePost (w : World) (n : ByteArray) (o : Int) (v : ByteArray) (b : Bool) (e : Ending) (w' : World) : Prop :=
  e = .returned (.tuple #[.agg #[.int .i64 1, .string n, .int .i64 o, .string v, .slice none 0 0], .bool b]) ∧ Below w.heap.size w w'
theorem word_size (c : UInt8) (s : ByteArray) : (wordF c s).1.size ≤ s.size := by
  unfold wordF
  split
  · exact Nat.le_refl _
  · simp; omega

set_option maxRecDepth 100000 in
set_option maxHeartbeats 4000000 in
theorem piece_a (s t n : ByteArray) (hs : s.size ≤ 9223372036854775807) (ht : trimB s = t) (hw : wordF 40 t = (n, ⟨#[]⟩)) (b : Bool) (hb : n.toList.isEmpty = b) (w : World) (hT : Tabs w) :
    Calls Tryd.prog 47 #[.string s] w (PiecePost w n 0 ⟨#[]⟩ (!b)) := by
  have hts : t.size ≤ 9223372036854775807 := by have := trimB_size s; rw [ht] at this; omega
  have HT := Lib.hid hT
  have HR := Lib.hid ht
  have HW := Lib.hid hw
  clear hT ht hw
  go_enter Tryd.func47, Tryd.ntmps47
  go_wp2_with (first
    | (go_at_call 11; (with_reducible refine (trim_calls s hs t HR.out _).mono ?_); rintro e w1 ⟨rfl, hb1⟩; obtain ⟨x1, y1⟩ := bcell hb1; have hs1 : w.heap.size < w1.heap.size := (by have := hb1.size; simp at this; omega); have HB1 := Lib.hid (below_then (below_alloc (Below.refl _ _) _) (by simp) hb1); clear hb1)
    | (go_at_call 66; (with_reducible refine (word_calls t 40 (by decide) hts n _ HW.out _ (HT.out.below HB1.out)).mono ?_); rintro e w2 ⟨rfl, hb2⟩; obtain ⟨x2, y2⟩ := bcell hb2; have hs2 : w.heap.size < w2.heap.size := (by have := hb2.size; omega); have HB2 := Lib.hid (below_then HB1.out HB1.out.size hb2); clear hb2))
  refine bodyPost_ret (v := .tuple #[.agg #[.int .i64 1, .string n, .int .i64 0, .string ⟨#[]⟩, .slice none 0 0], .bool (!b)]) ?ga ?gb ?gc
  case ga =>
    simp [results, Tryd.results47, go_sem, x1, x2, hs1, hs2, hb]
  case gb => rfl
  case gc =>
    refine ⟨rfl, ?_⟩
    repeat (first | (with_reducible exact HB2.out) | (with_reducible apply below_alloc) | (with_reducible apply pw_below_drewN) | ((with_reducible refine below_set ?_ ?_); rotate_left; first | exact Nat.le_refl _ | omega))

set_option maxRecDepth 100000 in
set_option maxHeartbeats 4000000 in
theorem piece_b (s t n r : ByteArray) (hs : s.size ≤ 9223372036854775807) (ht : trimB s = t) (hw : wordF 40 t = (n, r)) (hr : r.toList.isEmpty = false) (hp : hasP r parB = false) (w : World) (hT : Tabs w) :
    Calls Tryd.prog 47 #[.string s] w (PiecePost w n 0 ⟨#[]⟩ false) := by
  have hts : t.size ≤ 9223372036854775807 := by have := trimB_size s; rw [ht] at this; omega
  have HT := Lib.hid hT
  have HR := Lib.hid ht
  have HW := Lib.hid hw
  have HP := Lib.hid hp
  have HQ := Lib.hid (show cutP r ⟨#[40]⟩ = r by unfold cutP; rw [show hasP r ⟨#[40]⟩ = false from hp]; rfl)
  clear hT ht hw hp
  go_enter Tryd.func47, Tryd.ntmps47
  go_wp2_with (first
    | (go_at_call 11; (with_reducible refine (trim_calls s hs t HR.out _).mono ?_); rintro e w1 ⟨rfl, hb1⟩; obtain ⟨x1, y1⟩ := bcell hb1; have hs1 : w.heap.size < w1.heap.size := (by have := hb1.size; simp at this; omega); have HB1 := Lib.hid (below_then (below_alloc (Below.refl _ _) _) (by simp) hb1); clear hb1)
    | (go_at_call 66; (with_reducible refine (word_calls t 40 (by decide) hts n _ HW.out _ (HT.out.below HB1.out)).mono ?_); rintro e w2 ⟨rfl, hb2⟩; obtain ⟨x2, y2⟩ := bcell hb2; have hs2 : w.heap.size < w2.heap.size := (by have := hb2.size; omega); have HB2 := Lib.hid (below_then HB1.out HB1.out.size hb2); clear hb2)
    | (go_at_call 67; refine (cutP_calls r ⟨#[40]⟩ _ _ HQ.out HP.out _).mono ?_; rintro e w3 ⟨rfl, ⟨n3, rfl⟩⟩))
  refine bodyPost_ret (v := .tuple #[.agg #[.int .i64 1, .string n, .int .i64 0, .string ⟨#[]⟩, .slice none 0 0], .bool false]) ?ga ?gb ?gc
  case ga =>
    simp [results, Tryd.results47, go_sem, x1, x2, hs1, hs2]
  case gb => rfl
  case gc =>
    refine ⟨rfl, ?_⟩
    repeat (first | (with_reducible exact HB2.out) | (with_reducible apply below_alloc) | (with_reducible apply pw_below_drewN) | ((with_reducible refine below_set ?_ ?_); rotate_left; first | exact Nat.le_refl _ | omega))

end Go.Proofs.YtmclfdonoldlpaaDoor.Own
