/- debctl.piece: the whole. strings.ContainsAny at layout, at every text. strings.ContainsAny at layout. strings.SplitSeq at a separator of one byte: its iterator keeps the text that is left in a box of its own. Within a round: a region that draws its order. The laws of a loop over strings.SplitSeq. The laws of a loop over strings.SplitSeq at a separator of one byte: at a function's top; within a round. -/
import Derived.Test.YtmclfdonoldlpaaDoorG7
import Derived.Test.YtmclfdonoldlpaaDoorG6
import Derived.Laws.Runes
import Derived.WalkMore
import Derived.Deep.RegionHeld3
import Derived.Deep.QuietTactic
import Derived.BigQuiet
import Derived.Shelf.Strings.SlTrimAscii
import Derived.RangeFuncNested
import Derived.RangeFuncBound
import Derived.RangeFuncCalls
import Derived.RangeFuncLeaves
import Derived.Shelf.Abstract
import Derived.Shelf.RegionOpen
import Derived.WalkKit
import Derived.OwnWalkIn
import Derived.TacticsInMore
import Derived.LoopNIn
import Derived.LoopIn
namespace Go.Proofs.YtmclfdonoldlpaaDoor.Own
open Go.RowKit Go.Lib Go.Proofs.YtmclfdonoldlpaaDoorW.PrintWords Go.Proofs.YtmclfdonoldlpaaDoorW.PrintLast Go.Proofs.YtmclfdonoldlpaaDoorW.PrintMore Go.Proofs.YtmclfdonoldlpaaDoor.POwn
set_option linter.unusedVariables false
set_option linter.unusedSimpArgs false

def depV (d : S36) : Value := .agg #[.int .i64 d.f0, .string d.f1, .int .i64 d.f2, .string d.f3, .slice none 0 0]
theorem extract_size (s : ByteArray) (a b : Nat) : (s.extract a b).size ≤ s.size := by simp; omega
theorem cutRf_size (t : ByteArray) : ∀ (f : Nat) (s : ByteArray), (cutRf t f s).size ≤ s.size
  | 0, s => Nat.le_refl _
  | f + 1, s => by
    unfold cutRf
    split
    · exact Nat.le_refl _
    · split
      · exact Nat.le_trans (cutRf_size t f _) (extract_size _ _ _)
      · exact Nat.le_refl _
theorem cutR_size (t s : ByteArray) : (cutR t s).size ≤ s.size := cutRf_size t _ s
theorem wordR_size (c : UInt8) (s : ByteArray) : (wordF c s).2.size ≤ s.size := by
  unfold wordF
  split
  · exact Nat.zero_le _
  · exact Nat.le_trans (cutR_size _ _) (Nat.le_trans (cutL_size _ _) (extract_size _ _ _))

theorem piece_calls (s : ByteArray) (hs : s.size ≤ 9223372036854775807) (w : World) (hT : Tabs w) :
    Calls Tryd.prog 47 #[.string s] w fun e w' => e = .returned (.tuple #[depV (pieceF s).1, .bool (pieceF s).2]) ∧ Below w.heap.size w w' := by
  rcases hw : wordF 40 (trimB s) with ⟨n, r⟩
  rcases hr : r.toList.isEmpty with _ | _
  · rcases hp : hasP r parB with _ | _
    · have e : pieceF s = (⟨1, n, 0, ⟨#[]⟩, []⟩, false) := by unfold pieceF; simp only [hw, hr, hp]; rfl
      rw [e]
      refine (piece_b s _ n r hs rfl hw hr hp w hT).mono ?_
      rintro e w' ⟨rfl, hb⟩
      exact ⟨rfl, hb⟩
    · rcases hsg : sgRun (trimB (cutP r parB)) with ⟨op, r2⟩
      rcases hv : wordF 41 r2 with ⟨ver, en⟩
      have e : pieceF s = (⟨1, n, op, ver, []⟩, !n.toList.isEmpty && decide (0 < op) && !ver.toList.isEmpty && (en.toList == endB.toList)) := by unfold pieceF; simp only [hw, hr, hp, hsg, hv]; rfl
      rw [e]
      have hus : (cutP r parB).size ≤ 9223372036854775807 := by
        have h1 := cutP_size r parB
        have h2 := wordR_size 40 (trimB s)
        rw [hw] at h2
        have h3 := trimB_size s
        dsimp only at h2
        omega
      refine (piece_c s _ n r _ _ hs rfl hw hr hp rfl rfl hus op r2 hsg ver en hv _ rfl w hT).mono ?_
      rintro e w' ⟨rfl, hb⟩
      exact ⟨rfl, hb⟩
  · have e2 : r = ⟨#[]⟩ := by
      rw [ByteArray.toList_eq] at hr
      rcases r with ⟨⟨l⟩⟩
      cases l <;> simp_all
    subst e2
    have e : pieceF s = (⟨1, n, 0, ⟨#[]⟩, []⟩, !n.toList.isEmpty) := by unfold pieceF; simp only [hw, hr]; rfl
    rw [e]
    refine (piece_a s _ n hs rfl hw _ rfl w hT).mono ?_
    rintro e w' ⟨rfl, hb⟩
    exact ⟨rfl, hb⟩
end Go.Proofs.YtmclfdonoldlpaaDoor.Own

namespace Go.Proofs.YtmclfdonoldlpaaDoor.Own
open Go.RowKit Go.Lib Go.Proofs.YtmclfdonoldlpaaDoorW.PrintWords Go.Proofs.YtmclfdonoldlpaaDoorW.PrintLast Go.Proofs.YtmclfdonoldlpaaDoorW.PrintMore Go.Proofs.YtmclfdonoldlpaaDoor.POwn
set_option linter.unusedVariables false
set_option linter.unusedSimpArgs false

theorem ws_at (j : Nat) (h : j < (⟨#[32, 9]⟩ : ByteArray).size) : (((⟨#[32, 9]⟩ : ByteArray)[j]'h).toNat : Int) ≠ 65533 ∧ ((⟨#[32, 9]⟩ : ByteArray)[j]'h).toNat < 128 := by
  have h2 : j < 2 := h
  rcases j with _ | _ | j
  · exact ⟨by show ((32 : UInt8).toNat : Int) ≠ 65533; decide, by show (32 : UInt8).toNat < 128; decide⟩
  · exact ⟨by show ((9 : UInt8).toNat : Int) ≠ 65533; decide, by show (9 : UInt8).toNat < 128; decide⟩
  · omega

set_option maxRecDepth 100000 in
set_option maxHeartbeats 4000000 in
theorem idxRune_bad (w : World) : Calls Tryd.prog 61 #[.string ⟨#[32, 9]⟩, .int .i32 65533] w fun e w' => e = .returned (.int .i64 (-1)) ∧ Below w.heap.size w w' := by
  go_enter Tryd.func61, Tryd.ntmps61
  go_wp2
  go_loopw [5] (fun _ wr => ∃ j : Nat, j ≤ 2 ∧ wr.heap[w.heap.size]? = some (.stringIter ⟨#[32, 9]⟩ j) ∧ Hid (Below w.heap.size w wr)) (fun _ wr => 2 - wr.iterPos w.heap.size)
  case atStart => exact ⟨0, by omega, World.iter_heap _ _ _, Lib.hid (below_alloc (Below.refl _ _) _)⟩
  case round =>
    obtain ⟨j, hj, hit, hB⟩ := hrel
    have H2 := Lib.hid hit
    by_cases hjt : j < (⟨#[32, 9]⟩ : ByteArray).size
    · have hw := ws_at j hjt
      have hnx := fun ty => run_next_ascii_at (P := Tryd.prog) wr w.heap.size ⟨#[32, 9]⟩ j ty hit hjt hw.2
      have hj2 : j < 2 := hjt
      have he : ((((⟨#[32, 9]⟩ : ByteArray)[j]'hjt).toNat : Int) == 65533) = false := by simpa using hw.1
      generalize ((⟨#[32, 9]⟩ : ByteArray)[j]'hjt).toNat = c at *
      clear hw hjt hit
      go_wp2
      go_roundw
      case rel => exact ⟨j + 1, by omega, iterAt_heap _ _ _ _ _ H2.out, Lib.hid (below_iterAt hB.out (Nat.le_refl _) _ _)⟩
      case measure => rw [iterPos_of (iterAt_heap _ _ _ _ _ H2.out), iterPos_of H2.out]; omega
    · have hnx := fun ty => run_next_end_at (P := Tryd.prog) wr w.heap.size ⟨#[32, 9]⟩ j ty hit hjt
      go_wp2
      go_ret
      exact ⟨rfl, hB.out⟩

set_option maxRecDepth 100000 in
set_option maxHeartbeats 4000000 in
theorem idxRune_inv (r : Int) (h1 : 128 ≤ r) (h2 : (r == 65533) = false) (hv : Lib.validRune r = false) (w : World) : Calls Tryd.prog 61 #[.string ⟨#[32, 9]⟩, .int .i32 r] w fun e w' => e = .returned (.int .i64 (-1)) ∧ Below w.heap.size w w' := by
  have HV := Lib.hid hv
  clear hv
  go_enter Tryd.func61, Tryd.ntmps61
  go_wp2_with (go_at_call 86; refine (Tryd.utf8_ValidRune r _).mono ?_; rw [HV.out]; rintro e w' ⟨rfl, rfl⟩)
  go_ret
  exact ⟨rfl, Below.refl _ _⟩

theorem ib_end (c : Int) (w : World) : Calls Tryd.prog 13 #[.string ByteArray.empty, .int .u8 c] w fun e w' => e = .returned (.int .i64 (-1)) ∧ w' = w :=
  Tryd.strings_IndexByte ByteArray.empty c w

set_option maxRecDepth 100000 in
set_option maxHeartbeats 4000000 in
theorem idxRune_hi (t : ByteArray) (ht : t.size = 2) (hx9 : ∀ h : 1 < t.size, ((t[1]'h).toNat : Int) = 9) (r : Int) (h1 : 128 ≤ r) (h2 : (r == 65533) = false) (hv : Lib.validRune r = true) (w : World) : Calls Tryd.prog 61 #[.string t, .int .i32 r] w fun e w' => e = .returned (.int .i64 (-1)) ∧ Below w.heap.size w w' := by
  obtain ⟨z2, z4, zh⟩ := encode_facts r (by rw [validRune_eq]; exact hv) h1
  have HV := Lib.hid hv
  clear hv
  obtain ⟨en, hen⟩ : ∃ en, Utf8.encode r = en := ⟨_, rfl⟩
  rw [hen] at z2 z4 zh
  have HE := Lib.hid hen
  by_cases hs2 : en.size = 2
  · have hx1 : ∀ h : 1 < en.size, ((en[1]'h).toNat : Int) = bt en 1 := fun h => bt_at en 1 h
    have hc : 128 ≤ bt en 1 := by
      rw [← hx1 (by omega)]
      have := zh (by omega)
      simp only [hs2] at this
      exact_mod_cast this
    have hc2 := (bt_range en 1).2
    have hne : ((9 : Int) != bt en 1) = true := by rw [bne_iff_ne]; omega
    clear hen zh z2 z4
    go_enter Tryd.func61, Tryd.ntmps61
    go_wp2_with (go_at_call 86; refine (Tryd.utf8_ValidRune r _).mono ?_; rw [HV.out]; rintro e w' ⟨rfl, rfl⟩)
    have hen := HE.out
    go_step3
    go_wp2_with (fail)
    clear hen
    go_loopw [9] (fun v wr => v = .int .i64 1 ∧ wr = w') (fun _ _ => 0)
    case atStart => exact ⟨rfl, rfl⟩
    case round =>
      obtain ⟨rfl, rfl⟩ := hrel
      go_wp2_with (fail)
      go_step3
      go_wp2_with (fail)
      go_quiet (fail)
      go_wp2_with (fail)
      generalize hW2 : wr.drewN _ = W2
      have HW2 := Lib.hid hW2
      clear hW2
      have s1 : IntKind.i64.wrap ((1 : Int) + 1) = 2 := by decide
      have s2 : IntKind.i64.wrap (2 : Int) = 2 := by decide
      go_quiet ((go_at_call 13; exact Calls.quiet_of_same (ib_end _ _)))
      clear s1 s2
      go_wp2_with (fail)
      rw [Exit.noGoto_ret]
      first
        | (go_ret)
        | (go_wp2_with (fail); rw [Exit.noGoto_ret]; go_ret)
      exact ⟨rfl, by rw [← HW2.out]; exact pw_below_drewN (pw_below_drewN (Below.refl _ _) _) _⟩
  · have z3 : 3 ≤ en.size := by omega
    clear hs2 zh hen
    go_enter Tryd.func61, Tryd.ntmps61
    go_wp2_with (go_at_call 86; refine (Tryd.utf8_ValidRune r _).mono ?_; rw [HV.out]; rintro e w' ⟨rfl, rfl⟩)
    have hen := HE.out
    go_step3
    go_wp2_with (fail)
    clear hen
    go_loopw [9] (fun v wr => v = .int .i64 ((en.size : Int) - 1) ∧ wr = w') (fun _ _ => 0)
    case atStart => exact ⟨rfl, rfl⟩
    case round =>
      obtain ⟨rfl, rfl⟩ := hrel
      go_wp2_with (fail)
      rw [Exit.noGoto_ret]
      go_ret
      exact ⟨rfl, Below.refl _ _⟩
end Go.Proofs.YtmclfdonoldlpaaDoor.Own

namespace Go.Proofs.YtmclfdonoldlpaaDoor.Own
open Go.RowKit Go.Lib Go.Proofs.YtmclfdonoldlpaaDoorW.PrintWords Go.Proofs.YtmclfdonoldlpaaDoorW.PrintLast Go.Proofs.YtmclfdonoldlpaaDoorW.PrintMore Go.Proofs.YtmclfdonoldlpaaDoor.POwn
set_option linter.unusedVariables false
set_option linter.unusedSimpArgs false

theorem inWs_hi (r : Nat) (h : 128 ≤ r) : inSet wsB r = false := by
  refine inSet_no wsB r (fun j hj => ?_)
  have := ws_ascii j hj
  omega
theorem inWs_lo (r : Nat) (h : r < 128) : decide (0 ≤ Lib.indexByte [32, 9] (r : Int).toNat.toUInt8) = inSet wsB r := by
  revert r h
  decide +kernel

theorem idxRune_ws (r : Nat) (b : Bool) (hb : inSet wsB r = b) (w : World) : Calls Tryd.prog 61 #[.string ⟨#[32, 9]⟩, .int .i32 r] w fun e w' => (∃ i : Int, e = .returned (.int .i64 i) ∧ decide (0 ≤ i) = b) ∧ Below w.heap.size w w' := by
  subst hb
  by_cases h : r < 128
  · refine (Tryd.strings_IndexRune_ascii ⟨#[32, 9]⟩ r w (by omega) (by omega)).mono ?_
    rintro e w' ⟨rfl, rfl⟩
    exact ⟨⟨_, rfl, inWs_lo r h⟩, Below.refl _ _⟩
  · rw [inWs_hi r (by omega)]
    have key : Calls Tryd.prog 61 #[.string ⟨#[32, 9]⟩, .int .i32 r] w fun e w' => e = .returned (.int .i64 (-1)) ∧ Below w.heap.size w w' := by
      by_cases h2 : r = 65533
      · subst h2; exact idxRune_bad w
      · have h2' : ((r : Int) == 65533) = false := by simp; omega
        rcases hv : Lib.validRune r with _ | _
        · exact idxRune_inv r (by omega) h2' hv w
        · exact idxRune_hi ⟨#[32, 9]⟩ rfl (fun _ => rfl) r (by omega) h2' hv w
    exact key.mono fun e w' h => ⟨⟨-1, h.1, rfl⟩, h.2⟩

/-- Has a text layout in it? -/
def hasWs (s : ByteArray) : Bool := if s.size ≤ 8 then decide (0 ≤ Lib.idxFunc (inSet wsB) true s) else decide (0 ≤ Lib.indexAny s.data.toList [32, 9])

set_option maxHeartbeats 4000000 in
theorem idxAny_short (s : ByteArray) (hs : s.size ≤ 8) (w : World) :
    Calls Tryd.prog 30 #[.string s, .string ⟨#[32, 9]⟩] w fun e w' => (∃ i : Int, e = .returned (.int .i64 i) ∧ decide (0 ≤ i) = decide (0 ≤ Lib.idxFunc (inSet wsB) true s)) ∧ Below w.heap.size w w' := by
  have hne : ¬ (8 : Int) < (s.size : Int) := by omega
  have hsh : ∀ W, Calls Tryd.prog 62 #[.int .i64 s.size] W fun e w' => e = .returned (.bool false) ∧ w' = W := fun W => by
    have := Tryd.strings_shouldUseASCIISet s.size W
    rw [decide_eq_false hne] at this
    exact this
  have HS := Lib.hid hsh
  clear hsh hne
  go_enter Tryd.func30, Tryd.ntmps30
  go_wp2_with (go_at_call 62; refine (HS.out _).mono ?_; rintro e w' ⟨rfl, rfl⟩)
  rename World => w0
  go_loopw [9] (fun _ wr => ∃ pos f : Nat, wr.heap[w0.heap.size]? = some (.stringIter s pos) ∧ Hid (Below w0.heap.size w0 wr) ∧ Hid (Lib.idxFunc (inSet wsB) true s = Lib.idxFuncFrom (inSet wsB) true s f pos) ∧ s.size ≤ pos + f) (fun _ wr => s.size - wr.iterPos w0.heap.size)
  case atStart => exact ⟨0, s.size, World.iter_heap _ _ _, Lib.hid (below_alloc (Below.refl _ _) _), Lib.hid rfl, by omega⟩
  case round =>
    obtain ⟨pos, f, hit, hB, hf, hle⟩ := hrel
    by_cases hp : pos < s.size
    · obtain ⟨f, rfl⟩ : ∃ m, f = m + 1 := ⟨f - 1, by omega⟩
      have hnx := fun ty => run_next_any_at (P := Tryd.prog) wr w0.heap.size s pos ty hit hp
      have hwd := width_pos s pos hp
      have hfs : Lib.idxFuncFrom (inSet wsB) true s (f + 1) pos = if inSet wsB (Utf8.decode s pos).1 = true then (pos : Int) else Lib.idxFuncFrom (inSet wsB) true s f (pos + (Utf8.decode s pos).2) := by
        rw [Lib.idxFuncFrom, if_pos hp]
      have HF := Lib.hid (hf.out.trans hfs)
      have hb1 := iterAt_heap wr w0.heap.size s pos (pos + (Utf8.decode s pos).2) hit
      have hB1 := Lib.hid (below_iterAt hB.out (Nat.le_refl _) s (pos + (Utf8.decode s pos).2))
      have hpz : wr.iterPos w0.heap.size = pos := iterPos_of hit
      clear hfs hf hit hB
      have Hpz := Lib.hid hpz
      have HB1 := Lib.hid hb1
      clear hpz hb1
      generalize wr.iterAt w0.heap.size s (pos + (Utf8.decode s pos).2) = W1 at *
      generalize (Utf8.decode s pos).1 = c at *
      generalize (Utf8.decode s pos).2 = wd at *
      rcases hin : inSet wsB c with _ | _
      · have HI := Lib.hid hin
        have HR := Lib.hid (show Lib.idxFunc (inSet wsB) true s = Lib.idxFuncFrom (inSet wsB) true s f (pos + wd) by rw [HF.out, if_neg]; rw [hin]; simp)
        clear hin HF
        go_wp2_with (go_at_call 61; refine (idxRune_ws c false HI.out _).mono ?_; rintro e w2 ⟨⟨i, rfl, hi⟩, hb2⟩; have HB2 := Lib.hid hb2; clear hb2)
        go_roundw
        case rel => exact ⟨pos + wd, f, (HB2.out.block _ (Array.getElem?_eq_some_iff.1 HB1.out).1).trans HB1.out, Lib.hid (below_then hB1.out hB1.out.size HB2.out), HR, by omega⟩
        case measure => rw [iterPos_of ((HB2.out.block _ (Array.getElem?_eq_some_iff.1 HB1.out).1).trans HB1.out), Hpz.out]; omega
      · have HI := Lib.hid hin
        have HR := Lib.hid (show decide (0 ≤ Lib.idxFunc (inSet wsB) true s) = true by rw [HF.out, if_pos hin]; simp)
        clear hin HF
        go_wp2_with (go_at_call 61; refine (idxRune_ws c true HI.out _).mono ?_; rintro e w2 ⟨⟨i, rfl, hi⟩, hb2⟩; have HB2 := Lib.hid hb2; clear hb2)
        go_ret
        exact ⟨⟨_, rfl, by rw [HR.out]; simp⟩, below_then hB1.out hB1.out.size HB2.out⟩
    · have hnx := fun ty => run_next_end_at (P := Tryd.prog) wr w0.heap.size s pos ty hit hp
      have HR := Lib.hid (hf.out.trans (Lib.idxFuncFrom_end _ _ _ _ _ hp))
      clear hf
      go_wp2
      go_ret
      exact ⟨⟨-1, rfl, by rw [HR.out]⟩, hB.out⟩

theorem idxAny_ws (s : ByteArray) (hs : s.size < 4294967281) (w : World) : Calls Tryd.prog 30 #[.string s, .string ⟨#[32, 9]⟩] w fun e w' => (∃ i : Int, e = .returned (.int .i64 i) ∧ decide (0 ≤ i) = hasWs s) ∧ Below w.heap.size w w' := by
  unfold hasWs
  by_cases h : s.size ≤ 8
  · rw [if_pos h]; exact idxAny_short s h w
  · rw [if_neg h]
    refine (Tryd.strings_IndexAny_long (Go.zero_of_info (n := 256) (by kernel_rfl)).1 s ⟨#[32, 9]⟩ w (by decide) (by omega) hs (by decide) (Go.Proofs.ascii_of_all (by decide))).mono ?_
    rintro e w' ⟨rfl, rfl⟩
    exact ⟨⟨_, rfl, rfl⟩, below_alloc (below_alloc (Below.refl _ _) _) _⟩
theorem hasWs_calls (s : ByteArray) (hs : s.size < 4294967281) (b : Bool) (hb : hasWs s = b) (w : World) : Calls Tryd.prog 15 #[.string s, .string ⟨#[32, 9]⟩] w fun e w' => e = .returned (.bool b) ∧ Below w.heap.size w w' := by
  subst hb
  have H := Lib.hid (idxAny_ws s hs w)
  go_enter Tryd.func15, Tryd.ntmps15
  go_wp2_with (go_at_call 30; refine H.out.mono ?_; rintro e w2 ⟨⟨i, rfl, hi⟩, hb2⟩; have HI := Lib.hid hi; clear hi)
  go_ret
  exact ⟨by rw [← HI.out]; rfl, hb2⟩
end Go.Proofs.YtmclfdonoldlpaaDoor.Own

namespace Go.Proofs.YtmclfdonoldlpaaDoor.Own
open Go.RowKit Go.Lib Go.Proofs.YtmclfdonoldlpaaDoorW.PrintWords Go.Proofs.YtmclfdonoldlpaaDoorW.PrintLast Go.Proofs.YtmclfdonoldlpaaDoorW.PrintMore Go.Proofs.YtmclfdonoldlpaaDoor.POwn
set_option linter.unusedVariables false
set_option linter.unusedSimpArgs false
attribute [local go_sem] Oper.semAt_some

def splitF (c : UInt8) : Nat → ByteArray → List ByteArray
  | 0, s => [s]
  | f + 1, s => if at1 s c < 0 then [s] else s.extract 0 (at1 s c).toNat :: splitF c f (s.extract ((at1 s c).toNat + 1) s.size)
/-- The pieces of a text between the bytes c. -/
def splitB (c : UInt8) (s : ByteArray) : List ByteArray := splitF c s.size s
theorem splitF_more (c : UInt8) : ∀ (f : Nat) (s : ByteArray), s.size ≤ f → splitF c (f + 1) s = splitF c f s
  | 0, s, h => by
    have h1 := at1_lt s c
    unfold splitF
    rw [if_pos (by omega)]
  | f + 1, s, h => by
    have h1 := at1_lt s c
    show (if at1 s c < 0 then [s] else s.extract 0 (at1 s c).toNat :: splitF c (f + 1) (s.extract ((at1 s c).toNat + 1) s.size)) = (if at1 s c < 0 then [s] else s.extract 0 (at1 s c).toNat :: splitF c f (s.extract ((at1 s c).toNat + 1) s.size))
    rw [splitF_more c f _ (by simp; omega)]
theorem splitF_eq (c : UInt8) (s : ByteArray) : ∀ (k : Nat), splitF c (s.size + k) s = splitB c s
  | 0 => rfl
  | k + 1 => by rw [← Nat.add_assoc, splitF_more c _ _ (by omega), splitF_eq c s k]
theorem splitB_no (c : UInt8) (s : ByteArray) (h : at1 s c = -1) : splitB c s = [s] := by
  rw [← splitF_eq c s 1, splitF, if_pos (by omega)]
theorem splitB_yes (c : UInt8) (s : ByteArray) (n : Nat) (h : at1 s c = n) : splitB c s = s.extract 0 n :: splitB c (s.extract (n + 1) s.size) := by
  have h1 := at1_lt s c
  rw [← splitF_eq c s 1, splitF, if_neg (by omega), h, Int.toNat_natCast]
  congr 1
  have e : (s.extract (n + 1) s.size).size + (n + 1) = s.size := by simp; omega
  have := splitF_eq c (s.extract (n + 1) s.size) (n + 1)
  rwa [e] at this

/-- The three boxes of a SplitSeq: the text that is left, the separator, its length that is kept. -/
structure SBox (W : World) (B : Nat) (r : ByteArray) (c : UInt8) : Prop where
  txt : Boxed W B 9 (.string r)
  sep : Boxed W (B + 1) 9 (.string ⟨#[c]⟩)
  sav : Boxed W (B + 2) 3 (.int .i64 0)
/-- A round keeps the three. -/
def SKeep (B : Nat) (W W' : World) : Prop := ∀ k, B ≤ k → k < B + 3 → W'.heap[k]? = W.heap[k]?
theorem SBox.keep {W W' : World} {B : Nat} {r : ByteArray} {c : UInt8} (h : SBox W B r c) (k : SKeep B W W') : SBox W' B r c :=
  ⟨(k B (by omega) (by omega)).trans h.txt, (k (B + 1) (by omega) (by omega)).trans h.sep, (k (B + 2) (by omega) (by omega)).trans h.sav⟩
theorem SKeep.trans {B : Nat} {X Y Z : World} (h : SKeep B X Y) (k : SKeep B Y Z) : SKeep B X Z := fun i h0 h1 => (k i h0 h1).trans (h i h0 h1)
theorem SKeep.refl (B : Nat) (X : World) : SKeep B X X := fun _ _ _ => rfl
theorem SKeep.below {B b : Nat} {X Y : World} (h : Below b X Y) (hb : B + 3 ≤ b) : SKeep B X Y := fun k _ h1 => h.block k (by omega)
def leftOf (B : Nat) (W : World) : Nat := match W.cell? ⟨B, 0, none⟩ with | some (.string r) => r.size | _ => 0
theorem SBox.left {W : World} {B : Nat} {r : ByteArray} {c : UInt8} (h : SBox W B r c) : leftOf B W = r.size := by unfold leftOf; rw [h.txt.cell]
theorem SBox.put {W : World} {B : Nat} {r : ByteArray} {c : UInt8} (h : SBox W B r c) (r' : ByteArray) : SBox (W.setCell ⟨B, 0, none⟩ (.string r')) B r' c :=
  ⟨h.txt.set _, h.sep.kept (grownBy_setCell' W B _) (by simp), h.sav.kept (grownBy_setCell' W B _) (by simp)⟩

set_option maxRecDepth 100000 in
set_option maxHeartbeats 2000000 in
/-- The iterator, for every loop body that keeps the three boxes and what it says of a world's turn there. -/
theorem split1_in (l B : Nat) (c : UInt8) (s : ByteArray) (hs : s.size ≤ 9223372036854775807) (J Jx : List ByteArray → World → Prop)
    (hJ : ∀ pre X Y, J pre X → X.grownBy Y (some B) → J pre Y)
    (hY : ∀ pre x rest r X, splitB c s = pre ++ x :: rest → SBox X B r c → J pre X → YieldAt Fence.wide 0 Tryd.prog l #[.string x] X fun e W' =>
      (e = .returned (.bool true) ∧ J (pre ++ [x]) W' ∧ SKeep B X W') ∨ (e = .returned (.bool false) ∧ Jx (pre ++ [x]) W'))
    (W : World) (hB : SBox W B s c) (h0 : J [] W) :
    CallsIn Fence.wide 0 Tryd.prog 34 #[.func (.yield l) #[] #[], .pointer (some ⟨B + 1, 0, none⟩), .pointer (some ⟨B, 0, none⟩), .pointer (some ⟨B + 2, 0, none⟩)] W fun e W' => (∃ v, e = .returned v) ∧
      (J (splitB c s) W' ∨ (∃ pre, Jx pre W')) := by
  refine callsIn_of_wp Tryd.func34 rfl trivial ?_ rfl
  simp only [Tryd.ntmps34, List.size_toArray, List.length_cons, List.length_nil, Nat.reduceAdd, Nat.reduceSub, Array.replicate_succ, Array.replicate_zero, List.push_toArray, List.append_toArray, List.nil_append, List.cons_append]
  have b1 := hB.sep.cell
  gi_wp2
  clear b1
  gi_loopw [7] (fun i wr => ∃ (pre : List ByteArray) (r : ByteArray), splitB c s = pre ++ splitB c r ∧ r.size ≤ s.size ∧ SBox wr B r c ∧ J pre wr)
    (fun i wr => leftOf B wr)
  case atStart => exact ⟨[], s, rfl, Nat.le_refl _, hB, h0⟩
  case round =>
    obtain ⟨pre, r, hx, hrs, hbx, hJs⟩ := hrel
    have c1 := hbx.txt.cell
    have c2 := hbx.sep.cell
    have c3 := hbx.sav.cell
    have hlt := at1_lt r c
    rcases (show at1 r c < 0 ∨ 0 ≤ at1 r c by omega) with hn | hn
    · have hn' : at1 r c = -1 := by omega
      have HN := Lib.hid hn'
      obtain ⟨fn, tmps, assign, body, hy, hR⟩ := hY pre r [] r wr (by rw [hx, splitB_no c r hn']) hbx hJs
      clear hn hn' hlt
      gi_wp2_with (refine ⟨trivial, rfl, ?_⟩; gi_at_call 36; refine (callsIn_wide.2 (Tryd.strings_Index_one r c _)).mono ?_; rw [show Lib.indexByte r.data.toList c = -1 from HN.out]; rintro e w' ⟨rfl, rfl⟩)
      refine ⟨rfl, hR.mono ?_⟩
      rintro e W3 (⟨rfl, hJ3, hk3⟩ | ⟨rfl, hJx3⟩)
      · gi_wp2
        go_end0
        exact ⟨⟨_, rfl⟩, .inl (by rw [hx, splitB_no c r HN.out]; exact hJ3)⟩
      · gi_wp2
        go_end0
        exact ⟨⟨_, rfl⟩, .inr ⟨_, hJx3⟩⟩
    · obtain ⟨k, hk⟩ : ∃ k : Nat, at1 r c = k := ⟨_, (Int.toNat_of_nonneg hn).symm⟩
      have hkr : k < r.size := by omega
      have HN := Lib.hid hk
      obtain ⟨fn, tmps, assign, body, hy, hR⟩ := hY pre (r.extract 0 k) (splitB c (r.extract (k + 1) r.size)) r wr (by rw [hx, splitB_yes c r k hk]) hbx hJs
      have hw : IntKind.i64.wrap ((k : Int) + 1) = (k : Int) + 1 := IntWalk.i64_in _ (by omega)
      have hw0 : IntKind.i64.wrap ((k : Int) + 0) = (k : Int) := by rw [Int.add_zero]; exact IntWalk.i64_in _ (by omega)
      clear hn hk hlt
      gi_wp2_with (refine ⟨trivial, rfl, ?_⟩; gi_at_call 36; refine (callsIn_wide.2 (Tryd.strings_Index_one r c _)).mono ?_; rw [show Lib.indexByte r.data.toList c = (k : Int) from HN.out]; rintro e w' ⟨rfl, rfl⟩)
      refine ⟨rfl, hR.mono ?_⟩
      rintro e W3 (⟨rfl, hJ3, hk3⟩ | ⟨rfl, hJx3⟩)
      · have hbx3 := hbx.keep hk3
        have d1 := hbx3.txt.cell
        have d1f := hbx3.txt.frozen
        have d2 := hbx3.sep.cell
        gi_wp2
        go_roundw
        case rel => exact ⟨pre ++ [r.extract 0 k], r.extract (k + 1) r.size, by rw [hx, splitB_yes c r k HN.out]; simp, by simp; omega, hbx3.put _, hJ _ _ _ hJ3 (grownBy_setCell' _ _ _)⟩
        case measure => rw [(hbx3.put _).left, hbx.left]; simp; omega
      · gi_wp2
        refine bodyPost_ret (results_none rfl _ _ _) rfl ?_
        exact ⟨⟨_, rfl⟩, .inr ⟨_, hJx3⟩⟩
end Go.Proofs.YtmclfdonoldlpaaDoor.Own

namespace Go.Proofs.YtmclfdonoldlpaaDoor.Own
open Go.RowKit Go.Lib Go.Proofs.YtmclfdonoldlpaaDoorW.PrintWords Go.Proofs.YtmclfdonoldlpaaDoorW.PrintLast Go.Proofs.YtmclfdonoldlpaaDoorW.PrintMore Go.Proofs.YtmclfdonoldlpaaDoor.POwn
set_option linter.unusedVariables false
set_option linter.unusedSimpArgs false

def noDefer (ops : Array Oper) : Bool := ops.all fun o => match o.op with | .defer .. => false | _ => true
theorem noDefer_spec {ops : Array Oper} (h : noDefer ops = true) {j : Nat} {o : Oper} (ho : ops[j]? = some o) (c : Call) : o.op ≠ .defer c := by
  intro e
  have h1 := Array.all_eq_true.1 h j (Array.getElem?_eq_some_iff.1 ho).1
  rw [(Array.getElem?_eq_some_iff.1 ho).2, e] at h1
  cases h1
section
variable {P : Program} {ops : Array Oper} {Q : Exit → Act → World → Prop} {l n : Nat}
theorem rowsIn_wide {row : String} {args : Array Value} {w : World} {R : Value → World → Prop} (h : Rows P row args w R) : RowsIn (Fence.wide.inRound l) n P row args w R := fun c cs _ => by
  obtain ⟨v, w', r, s⟩ := h c cs
  exact ⟨v, w', r, stepsIn_wide.2 s⟩
theorem wpIn_of_op {o : Oper} (hd : ∀ c, o.op ≠ .defer c) {a : Act} {w : World} {K K' : Act → World → Prop} (hK : ∀ a w, K a w → K' a w) (h : o.wp P a w K Q) : o.wpIn (Fence.wide.inRound l) n P a w K' Q := by
  refine ⟨fun _ _ => trivial, ?_⟩
  rw [show o.semAt (Fence.wide.inRound l).round a.eval = execOp a.eval o from Oper.semAt_some l _ _ hd]
  unfold Oper.wp at h
  generalize (execOp a.eval o).run P w = r at *
  cases r with
  | ok nx w' =>
    cases nx <;> simp only [Oper.upon, Oper.uponIn] at h ⊢
    case value v => exact hK _ _ h
    case skip => exact hK _ _ h
    case defer d => exact hK _ _ h
    case enter f args =>
      refine ⟨(fun e => by cases e), ?_⟩
      refine CallsIn.inRound l (callsIn_wide.2 (h.mono ?_))
      intro e w'' he
      cases e with
      | returned u => exact hK _ _ he
      | panicked c => exact he
      | outgrown => exact he
    case row row args => exact ⟨(fun e => by cases e), rowsIn_wide (h.mono (fun v w'' hv => hK _ _ hv))⟩
  | halt x w' =>
    cases x <;> simp only [Oper.upon, Oper.uponIn] at h ⊢
    case panic u => exact h
theorem wpOpsIn_of (hd : noDefer ops = true) (hL : ¬ LetsOut Q) : ∀ (is : List Nat) (a : Act) (w : World), wpOps P ops Q is a w → wpOpsIn (Fence.wide.inRound l) n P ops Q is a w
  | [], a, w, h => h
  | i :: is, a, w, h => by
    unfold wpOps at h
    unfold wpOpsIn
    cases ho : ops[i]? with
    | none => rw [ho] at h; exact wpOpsIn_of hd hL is a w h
    | some o =>
      rw [ho] at h
      dsimp only at h ⊢
      split at h
      · rename_i hw
        rw [if_pos hw]
        rcases h with h | ⟨_, h⟩
        · exact wpIn_of_op (noDefer_spec hd ho) (fun a w hk => wpOpsIn_of hd hL is a w hk) h
        · exact absurd h hL
      · rename_i hw
        rw [if_neg hw]
        exact ⟨fun _ _ => trivial, wpOpsIn_of hd hL is _ w h⟩
/-- Q where the region runs to its end; nothing else. -/
def OnlyOn (Q : Exit → Act → World → Prop) : Exit → Act → World → Prop
  | .normal, a, w => Q .normal a w
  | _, _, _ => False
theorem onlyOn {a : Act} {w : World} (h : Q .normal a w) : OnlyOn Q .normal a w := h
/-- What lies behind a code, said of the world alone. -/
def AtEnd (Pf : World → Prop) : Exit → Act → World → Prop
  | .normal, _, w => Pf w
  | _, _, _ => False
theorem wpIn_fact {F : Fence} {c : Code} {a : Act} {w : World} (Pf : World → Prop) (h1 : c.wpIn F n P (AtEnd Pf) a w) (h2 : ∀ a w, Pf w → Q .normal a w) : c.wpIn F n P Q a w := by
  refine wpIn_mono h1 ?_
  intro e a w h
  cases e <;> first | exact h2 _ _ h | exact h.elim
/-- A region that draws its order, within a round: from the world behind the draw. -/
theorem wpIn_region_held {id : Nat} (S : World → Prop) {a : Act} {w : World} (hm : P.follows .mixedOrders = true) (hd : noDefer ops = true)
    (h : wpAnyH P .any ops (OnlyOn Q) S ops.size (Array.replicate ops.size false) a w.drew) : (Code.region id ops true).wpIn (Fence.wide.inRound l) n P Q a w := by
  refine wpIn_mono (Q := OnlyOn Q) ?_ ?_
  · refine wpIn_region_draw fun t => ?_
    simp only [Region.schedule, hm, Bool.true_or, if_true]
    exact wpOpsIn_of hd (fun ⟨_, _, h⟩ => h) _ _ _ (wpAny_sound ops.size t _ a _ (wpAny_of_held _ _ _ _ h))
  · intro e a w h
    cases e <;> first | exact h | exact h.elim
end

set_option maxHeartbeats 1000000 in
/-- strings.SplitSeq's value: three boxes are laid. -/
theorem splitSeq_calls (s : ByteArray) (c : UInt8) (w : World) :
    Calls Tryd.prog 10 #[.string s, .string ⟨#[c]⟩] w fun e w' => e = .returned (.func (.func 34) #[] #[.pointer (some ⟨w.heap.size + 1, 0, none⟩), .pointer (some ⟨w.heap.size, 0, none⟩), .pointer (some ⟨w.heap.size + 2, 0, none⟩)]) ∧
      SBox w' w.heap.size s c ∧ Below w.heap.size w w' ∧ w'.heap.size = w.heap.size + 3 := by
  have H : ∀ w : World, Calls Tryd.prog 17 #[.string s, .string ⟨#[c]⟩, .int .i64 0] w fun e w' => e = .returned (.func (.func 34) #[] #[.pointer (some ⟨w.heap.size + 1, 0, none⟩), .pointer (some ⟨w.heap.size, 0, none⟩), .pointer (some ⟨w.heap.size + 2, 0, none⟩)]) ∧
      SBox w' w.heap.size s c ∧ Below w.heap.size w w' ∧ w'.heap.size = w.heap.size + 3 := by
    intro w
    go_enter Tryd.func17, Tryd.ntmps17
    go_wp2
    go_ret
    refine ⟨rfl, ⟨?_, ?_, ?_⟩, below_alloc (below_alloc (below_alloc (Below.refl _ _) _) _) _, by simp⟩
    · exact ((Boxed.new w 9 (.string s)).alloc _).alloc _
    · have := (Boxed.new (w.alloc (.cells #[.string s] 9)) 9 (.string ⟨#[c]⟩)).alloc (.cells #[.int .i64 0] 3)
      rwa [World.size_alloc] at this
    · have := Boxed.new ((w.alloc (.cells #[.string s] 9)).alloc (.cells #[.string ⟨#[c]⟩] 9)) 3 (.int .i64 0)
      rwa [World.size_alloc, World.size_alloc] at this
  have HH := Lib.hid (H w)
  clear H
  go_enter Tryd.func10, Tryd.ntmps10
  go_wp2_with (go_at_call 17; refine HH.out.mono ?_; rintro e w2 ⟨rfl, hS, hb, hz⟩)
  go_ret
  exact ⟨rfl, hS, hb, hz⟩
end Go.Proofs.YtmclfdonoldlpaaDoor.Own

namespace Go.Proofs.YtmclfdonoldlpaaDoor.Own
open Go.RowKit Go.Lib Go.Proofs.YtmclfdonoldlpaaDoorW.PrintWords Go.Proofs.YtmclfdonoldlpaaDoorW.PrintLast Go.Proofs.YtmclfdonoldlpaaDoorW.PrintMore Go.Proofs.YtmclfdonoldlpaaDoor.POwn
set_option linter.unusedVariables false
set_option linter.unusedSimpArgs false

/-- How a round's body may be left. -/
def roundEnd (B D l : Nat) (I : World → Prop) (Ix : Code → World → Prop) (W : World) : Exit → Act → World → Prop
  | .normal, _, W' => W'.heap[D]? = W.heap[D]? ∧ W'.heap[l]? = W.heap[l]? ∧ SKeep B W W' ∧ I W'
  | .ret, _, W' => W'.heap[D]? = W.heap[D]? ∧ W'.heap[l]? = W.heap[l]? ∧ Ix .ret W'
  | .exit id, _, W' => W'.heap[D]? = W.heap[D]? ∧ W'.heap[l]? = W.heap[l]? ∧ Ix (.exit id) W'
  | .goto t, _, W' => W'.heap[D]? = W.heap[D]? ∧ W'.heap[l]? = W.heap[l]? ∧ Ix (.goto t) W'
  | .panic _, _, _ => False
  | .outgrown, _, _ => False

abbrev sbArgs (B : Nat) : Array Value := #[.pointer (some ⟨B + 1, 0, none⟩), .pointer (some ⟨B, 0, none⟩), .pointer (some ⟨B + 2, 0, none⟩)]
theorem SBox.size {W : World} {B : Nat} {r : ByteArray} {c : UInt8} (h : SBox W B r c) : B + 3 ≤ W.heap.size := by have := h.sav.lt; omega
theorem sbox_grown {W W' : World} {B : Nat} {r : ByteArray} {c : UInt8} {row : Option Nat} (h : SBox W B r c) (hg : W.grownBy W' row) (hr : ∀ k, row = some k → k < B ∨ B + 3 ≤ k) : SBox W' B r c :=
  ⟨h.txt.kept hg (fun e => by have := hr _ e.symm; omega), h.sep.kept hg (fun e => by have := hr _ e.symm; omega), h.sav.kept hg (fun e => by have := hr _ e.symm; omega)⟩
theorem skeep_put {W : World} {B l : Nat} (o : Obj) (h : l < B ∨ B + 3 ≤ l) : SKeep B W (W.putObj l o) := fun k h0 h1 => World.putObj_heap_other (by omega)

theorem wpIn_split {g : Operand} {ps : Array Tmp} {assign body : Code} {Q : Exit → Act → World → Prop} {a : Act} {w : World} {B : Nat} {c : UInt8} {s : ByteArray}
    (hs : s.size ≤ 9223372036854775807) (hS : SBox w B s c) (hg : a.eval g = .func (.func 34) #[] (sbArgs B)) (hps : ps.size = 1)
    (I : List ByteArray → World → Prop) (Ix : Code → World → Prop)
    (hI : ∀ pre X Y row, I pre X → X.grownBy Y row → (∀ r, row = some r → r = B ∨ r = w.heap.size + 1) → I pre Y)
    (hIx : ∀ c X Y row, Ix c X → X.grownBy Y row → (∀ r, row = some r → r = w.heap.size + 1) → Ix c Y)
    (h0 : I [] w) (a₁ : ByteArray → Act)
    (hassign : ∀ (x : ByteArray) (W : World) (K : Act → World → Prop), K (a₁ x) W →
      assign.wpIn (Fence.wide.inRound (w.heap.size + 1)) 0 Tryd.prog (Exit.then K (fun _ _ _ => False)) { tmps := (ps.zip #[.string x]).foldl (fun t (p, v) => t.setIfInBounds p v) a.tmps, defers := [] } W)
    (hbody : ∀ (pre : List ByteArray) (x : ByteArray) (rest : List ByteArray) (W : World), splitB c s = pre ++ x :: rest → (∃ r, W.heap[w.heap.size + 1]? = some (.loop r)) → W.heap[w.heap.size]? = some (.deferred (some [])) → I pre W →
      body.wpIn (Fence.wide.inRound (w.heap.size + 1)) 0 Tryd.prog (roundEnd B w.heap.size (w.heap.size + 1) (I (pre ++ [x])) Ix W) (a₁ x) W)
    (hdone : ∀ (W : World), I (splitB c s) W → W.heap[w.heap.size]? = some (.deferred (some [])) → Q .normal { a with defers := { target := .collected w.heap.size, args := #[] } :: a.defers } W)
    (hstop : ∀ (c : Code) (W : World), Ix c W → W.heap[w.heap.size]? = some (.deferred (some [])) → c.wpIn Fence.wide 0 Tryd.prog Q { a with defers := { target := .collected w.heap.size, args := #[] } :: a.defers } W) :
    (Code.rangeFunc g ps assign body).wpIn Fence.wide 0 Tryd.prog Q a w := by
  refine wpIn_rangeFunc ?_
  intro fn hfn
  have hSz := hS.size
  obtain ⟨rec, hrec⟩ : ∃ rec : LoopState → Option Code → Loop, rec = fun st pe => { state := st, pending := pe, fn, tmps := a.tmps, params := ps, assign, body, defers := w.heap.size } := ⟨_, rfl⟩
  obtain ⟨W1, hW1⟩ : ∃ W1, (w.alloc (.deferred (some []))).alloc (.loop (rec .ready none)) = W1 := ⟨_, rfl⟩
  have hL1 : W1.heap[w.heap.size + 1]? = some (.loop (rec .ready none)) := by
    rw [← hW1]; have := World.alloc_heap_new (w.alloc (.deferred (some []))) (.loop (rec .ready none)); rwa [World.size_alloc] at this
  have hK1 : W1.heap[w.heap.size]? = some (.deferred (some [])) := by
    rw [← hW1]; exact (Below.heap_alloc _ _ _ (by simp)).trans (World.alloc_heap_new w _)
  have hg1 : w.grownBy W1 none := by
    rw [← hW1]; exact (World.grownBy_alloc w _ none).trans (World.grownBy_alloc _ _ none)
  have hI1 : I [] W1 := hI _ _ _ none h0 hg1 (fun r e => by cases e)
  have hS1 : SBox W1 B s c := sbox_grown hS hg1 (fun k e => by cases e)
  refine ⟨w.heap.size + 1, [{ target := .collected w.heap.size, args := #[] }], W1, { target := .fn (.func 34) (sbArgs B), args := #[.func (.yield (w.heap.size + 1)) #[] #[]] }, W1, 34,
    #[.func (.yield (w.heap.size + 1)) #[] #[]] ++ sbArgs B, W1, ?_, ?_, ?_, ?_, fun h => by (cases h), ?_⟩
  · rw [← hW1, hrec]; exact run_enterLoop_outer _ _ _ _ _
  · simp only [resolve, hg]
    simp [go_sem]
  · intro f' hf'; exact trivial
  · have eg := enters_of Tryd.func34 (f := 34) (P := Tryd.prog) (by kernel_rfl) rfl
    simp [invoke, go_sem, eg]
  · refine (split1_in (w.heap.size + 1) B c s hs
      (fun pre W => I pre W ∧ W.heap[w.heap.size + 1]? = some (.loop (rec .ready none)) ∧ W.heap[w.heap.size]? = some (.deferred (some [])))
      (fun pre W => ∃ c, Ix c W ∧ W.heap[w.heap.size + 1]? = some (.loop (rec .done (some c))) ∧ W.heap[w.heap.size]? = some (.deferred (some [])))
      (fun pre X Y h hgr => ⟨hI _ _ _ _ h.1 hgr (fun r e => by cases e; exact .inl rfl), (hgr.block _ (lt_of_block h.2.1) (fun e => by injection e with e; omega)).trans h.2.1, (hgr.block _ (lt_of_block h.2.2) (fun e => by injection e with e; omega)).trans h.2.2⟩)
      ?_ W1 hS1 ⟨hI1, hL1, hK1⟩).mono ?_
    · rintro pre x rest r W hx hbx ⟨hi, hl, hk⟩
      have hlt : w.heap.size + 1 < W.heap.size := lt_of_block hl
      have hy := run_yield (P := Tryd.prog) (args := #[.string x]) hl (by rw [hrec]; exact hps.symm)
      rw [hrec] at hy
      refine ⟨fn, _, assign, body, hy, roundIn_of_wpIn hfn (hassign x W _ ?_)⟩
      clear hy
      refine ⟨_, run_beginRound hl (by rw [hrec]), ?_⟩
      have hl2 : (W.putObj (w.heap.size + 1) (.loop { rec .ready none with state := .busy })).heap[w.heap.size + 1]? = some (.loop { rec .ready none with state := .busy }) := World.putObj_heap_same hlt
      have hk2 : (W.putObj (w.heap.size + 1) (.loop { rec .ready none with state := .busy })).heap[w.heap.size]? = some (.deferred (some [])) := (World.putObj_heap_other (by omega)).trans hk
      have hw2 : SKeep B W (W.putObj (w.heap.size + 1) (.loop { rec .ready none with state := .busy })) := skeep_put _ (by omega)
      have hi2 := hI pre W _ (some (w.heap.size + 1)) hi (grownBy_putObj' W (w.heap.size + 1) (.loop { rec .ready none with state := .busy })) (fun r e => by cases e; exact .inr rfl)
      refine wpIn_mono (hbody pre x rest _ hx ⟨_, hl2⟩ hk2 hi2) ?_
      have fin : ∀ (jump : Option Code) (W3 : World), W3.heap[w.heap.size]? = (W.putObj (w.heap.size + 1) (.loop { rec .ready none with state := .busy })).heap[w.heap.size]? → W3.heap[w.heap.size + 1]? = (W.putObj (w.heap.size + 1) (.loop { rec .ready none with state := .busy })).heap[w.heap.size + 1]? →
          (Instr.endRound (w.heap.size + 1) jump).run Tryd.prog W3 = .ok (.bool jump.isNone) (W3.putObj (w.heap.size + 1) (.loop (rec (if jump.isNone then .ready else .done) jump))) ∧
          (W3.putObj (w.heap.size + 1) (.loop (rec (if jump.isNone then .ready else .done) jump))).heap[w.heap.size + 1]? = some (.loop (rec (if jump.isNone then .ready else .done) jump)) ∧
          (W3.putObj (w.heap.size + 1) (.loop (rec (if jump.isNone then .ready else .done) jump))).heap[w.heap.size]? = some (.deferred (some [])) := fun jump W3 hkD hkl => by
        have hl3 := hkl.trans hl2
        have hd3 := hkD.trans hk2
        have := run_endRound (P := Tryd.prog) jump hl3
        rw [hrec] at this ⊢
        exact ⟨this, World.putObj_heap_same (lt_of_block hl3), (World.putObj_heap_other (by omega)).trans hd3⟩
      rintro e a3 W3 hp
      cases e with
      | normal =>
        obtain ⟨hkD, hkl, hks, hi3⟩ := hp
        obtain ⟨hr, hl4, hk4⟩ := fin none W3 hkD hkl
        exact ⟨_, _, hr, .inl ⟨rfl, ⟨hI _ _ _ (some (w.heap.size + 1)) hi3 (grownBy_putObj' _ _ _) (fun r e => by cases e; exact .inr rfl), hl4, hk4⟩, (hw2.trans hks).trans (skeep_put _ (by omega))⟩⟩
      | ret =>
        obtain ⟨hkD, hkl, hi3⟩ := hp
        obtain ⟨hr, hl4, hk4⟩ := fin (some .ret) W3 hkD hkl
        exact ⟨_, _, hr, .inr ⟨rfl, .ret, hIx _ _ _ (some (w.heap.size + 1)) hi3 (grownBy_putObj' _ _ _) (fun r e => by cases e; rfl), hl4, hk4⟩⟩
      | exit id =>
        obtain ⟨hkD, hkl, hi3⟩ := hp
        obtain ⟨hr, hl4, hk4⟩ := fin (some (.exit id)) W3 hkD hkl
        exact ⟨_, _, hr, .inr ⟨rfl, .exit id, hIx _ _ _ (some (w.heap.size + 1)) hi3 (grownBy_putObj' _ _ _) (fun r e => by cases e; rfl), hl4, hk4⟩⟩
      | goto t =>
        obtain ⟨hkD, hkl, hi3⟩ := hp
        obtain ⟨hr, hl4, hk4⟩ := fin (some (.goto t)) W3 hkD hkl
        exact ⟨_, _, hr, .inr ⟨rfl, .goto t, hIx _ _ _ (some (w.heap.size + 1)) hi3 (grownBy_putObj' _ _ _) (fun r e => by cases e; rfl), hl4, hk4⟩⟩
      | panic ch => exact hp.elim
      | outgrown => exact hp.elim
    · rintro e W2 ⟨⟨v, rfl⟩, (⟨hi, hl, hk⟩ | ⟨pre, c', hi, hl, hk⟩)⟩
      · have he := run_endLoop (P := Tryd.prog) hl (by rw [hrec]; simp)
        rw [hrec] at he
        refine ⟨none, _, he, hdone _ (hI _ _ _ (some (w.heap.size + 1)) hi (grownBy_putObj' _ _ _) (fun r e => by cases e; exact .inr rfl)) ((World.putObj_heap_other (by omega)).trans hk)⟩
      · have he := run_endLoop (P := Tryd.prog) hl (by rw [hrec]; simp)
        rw [hrec] at he
        exact ⟨some c', _, he, hstop c' _ (hIx _ _ _ (some (w.heap.size + 1)) hi (grownBy_putObj' _ _ _) (fun r e => by cases e; rfl)) ((World.putObj_heap_other (by omega)).trans hk)⟩

/-- The same within a round of loop l₀: no block for deferred calls is laid. -/
theorem wpIn_splitN {g : Operand} {ps : Array Tmp} {assign body : Code} {Q : Exit → Act → World → Prop} {a : Act} {w : World} {B : Nat} {c : UInt8} {s : ByteArray} {l₀ : Nat} {r₀ : Loop} (hl₀ : w.heap[l₀]? = some (.loop r₀))
    (hs : s.size ≤ 9223372036854775807) (hS : SBox w B s c) (hg : a.eval g = .func (.func 34) #[] (sbArgs B)) (hps : ps.size = 1)
    (I : List ByteArray → World → Prop) (Ix : Code → World → Prop)
    (hI : ∀ pre X Y row, I pre X → X.grownBy Y row → (∀ r, row = some r → r = B ∨ r = w.heap.size) → I pre Y)
    (hIx : ∀ c X Y row, Ix c X → X.grownBy Y row → (∀ r, row = some r → r = w.heap.size) → Ix c Y)
    (h0 : I [] w) (a₁ : ByteArray → Act)
    (hassign : ∀ (x : ByteArray) (W : World) (K : Act → World → Prop), K (a₁ x) W →
      assign.wpIn (Fence.wide.inRound w.heap.size) 0 Tryd.prog (Exit.then K (fun _ _ _ => False)) { tmps := (ps.zip #[.string x]).foldl (fun t (p, v) => t.setIfInBounds p v) a.tmps, defers := [] } W)
    (hbody : ∀ (pre : List ByteArray) (x : ByteArray) (rest : List ByteArray) (W : World), splitB c s = pre ++ x :: rest → (∃ r, W.heap[w.heap.size]? = some (.loop r)) → I pre W →
      body.wpIn (Fence.wide.inRound w.heap.size) 0 Tryd.prog (roundEnd B w.heap.size w.heap.size (I (pre ++ [x])) Ix W) (a₁ x) W)
    (hdone : ∀ (W : World), I (splitB c s) W → Q .normal a W)
    (hstop : ∀ (c : Code) (W : World), Ix c W → c.wpIn (Fence.wide.inRound l₀) 0 Tryd.prog Q a W) :
    (Code.rangeFunc g ps assign body).wpIn (Fence.wide.inRound l₀) 0 Tryd.prog Q a w := by
  refine wpIn_rangeFunc ?_
  intro fn hfn
  have hSz := hS.size
  obtain ⟨rec, hrec⟩ : ∃ rec : LoopState → Option Code → Loop, rec = fun st pe => { state := st, pending := pe, fn, tmps := a.tmps, params := ps, assign, body, defers := r₀.defers } := ⟨_, rfl⟩
  obtain ⟨W1, hW1⟩ : ∃ W1, w.alloc (.loop (rec .ready none)) = W1 := ⟨_, rfl⟩
  have hL1 : W1.heap[w.heap.size]? = some (.loop (rec .ready none)) := by rw [← hW1]; exact World.alloc_heap_new w _
  have hg1 : w.grownBy W1 none := by
    rw [← hW1]; exact World.grownBy_alloc w _ none
  have hI1 : I [] W1 := hI _ _ _ none h0 hg1 (fun r e => by cases e)
  have hS1 : SBox W1 B s c := sbox_grown hS hg1 (fun k e => by cases e)
  refine ⟨w.heap.size, [], W1, { target := .fn (.func 34) (sbArgs B), args := #[.func (.yield w.heap.size) #[] #[]] }, W1, 34,
    #[.func (.yield w.heap.size) #[] #[]] ++ sbArgs B, W1, ?_, ?_, ?_, ?_, fun h => by (cases h), ?_⟩
  · rw [← hW1, hrec]; exact run_enterLoop_inner hl₀ _ _ _ _ _
  · simp only [resolve, hg]
    simp [go_sem]
  · intro f' hf'; exact trivial
  · have eg := enters_of Tryd.func34 (f := 34) (P := Tryd.prog) (by kernel_rfl) rfl
    simp [invoke, go_sem, eg]
  · refine (split1_in w.heap.size B c s hs
      (fun pre W => I pre W ∧ W.heap[w.heap.size]? = some (.loop (rec .ready none)))
      (fun pre W => ∃ c, Ix c W ∧ W.heap[w.heap.size]? = some (.loop (rec .done (some c))))
      (fun pre X Y h hgr => ⟨hI _ _ _ _ h.1 hgr (fun r e => by cases e; exact .inl rfl), (hgr.block _ (lt_of_block h.2) (fun e => by injection e with e; omega)).trans h.2⟩)
      ?_ W1 hS1 ⟨hI1, hL1⟩).mono ?_
    · rintro pre x rest r W hx hbx ⟨hi, hl⟩
      have hlt : w.heap.size < W.heap.size := lt_of_block hl
      have hy := run_yield (P := Tryd.prog) (args := #[.string x]) hl (by rw [hrec]; exact hps.symm)
      rw [hrec] at hy
      refine ⟨fn, _, assign, body, hy, roundIn_of_wpIn hfn (hassign x W _ ?_)⟩
      clear hy
      refine ⟨_, run_beginRound hl (by rw [hrec]), ?_⟩
      have hl2 : (W.putObj w.heap.size (.loop { rec .ready none with state := .busy })).heap[w.heap.size]? = some (.loop { rec .ready none with state := .busy }) := World.putObj_heap_same hlt
      have hw2 : SKeep B W (W.putObj w.heap.size (.loop { rec .ready none with state := .busy })) := skeep_put _ (by omega)
      have hi2 := hI pre W _ (some w.heap.size) hi (grownBy_putObj' W w.heap.size (.loop { rec .ready none with state := .busy })) (fun r e => by cases e; exact .inr rfl)
      refine wpIn_mono (hbody pre x rest _ hx ⟨_, hl2⟩ hi2) ?_
      have fin : ∀ (jump : Option Code) (W3 : World), W3.heap[w.heap.size]? = (W.putObj w.heap.size (.loop { rec .ready none with state := .busy })).heap[w.heap.size]? →
          (Instr.endRound w.heap.size jump).run Tryd.prog W3 = .ok (.bool jump.isNone) (W3.putObj w.heap.size (.loop (rec (if jump.isNone then .ready else .done) jump))) ∧
          (W3.putObj w.heap.size (.loop (rec (if jump.isNone then .ready else .done) jump))).heap[w.heap.size]? = some (.loop (rec (if jump.isNone then .ready else .done) jump)) := fun jump W3 hkl => by
        have hl3 := hkl.trans hl2
        have := run_endRound (P := Tryd.prog) jump hl3
        rw [hrec] at this ⊢
        exact ⟨this, World.putObj_heap_same (lt_of_block hl3)⟩
      rintro e a3 W3 hp
      cases e with
      | normal =>
        obtain ⟨_, hkl, hks, hi3⟩ := hp
        obtain ⟨hr, hl4⟩ := fin none W3 hkl
        exact ⟨_, _, hr, .inl ⟨rfl, ⟨hI _ _ _ (some w.heap.size) hi3 (grownBy_putObj' _ _ _) (fun r e => by cases e; exact .inr rfl), hl4⟩, (hw2.trans hks).trans (skeep_put _ (by omega))⟩⟩
      | ret =>
        obtain ⟨_, hkl, hi3⟩ := hp
        obtain ⟨hr, hl4⟩ := fin (some .ret) W3 hkl
        exact ⟨_, _, hr, .inr ⟨rfl, .ret, hIx _ _ _ (some w.heap.size) hi3 (grownBy_putObj' _ _ _) (fun r e => by cases e; rfl), hl4⟩⟩
      | exit id =>
        obtain ⟨_, hkl, hi3⟩ := hp
        obtain ⟨hr, hl4⟩ := fin (some (.exit id)) W3 hkl
        exact ⟨_, _, hr, .inr ⟨rfl, .exit id, hIx _ _ _ (some w.heap.size) hi3 (grownBy_putObj' _ _ _) (fun r e => by cases e; rfl), hl4⟩⟩
      | goto t =>
        obtain ⟨_, hkl, hi3⟩ := hp
        obtain ⟨hr, hl4⟩ := fin (some (.goto t)) W3 hkl
        exact ⟨_, _, hr, .inr ⟨rfl, .goto t, hIx _ _ _ (some w.heap.size) hi3 (grownBy_putObj' _ _ _) (fun r e => by cases e; rfl), hl4⟩⟩
      | panic ch => exact hp.elim
      | outgrown => exact hp.elim
    · rintro e W2 ⟨⟨v, rfl⟩, (⟨hi, hl⟩ | ⟨pre, c', hi, hl⟩)⟩
      · have he := run_endLoop (P := Tryd.prog) hl (by rw [hrec]; simp)
        rw [hrec] at he
        exact ⟨none, _, he, hdone _ (hI _ _ _ (some w.heap.size) hi (grownBy_putObj' _ _ _) (fun r e => by cases e; exact .inr rfl))⟩
      · have he := run_endLoop (P := Tryd.prog) hl (by rw [hrec]; simp)
        rw [hrec] at he
        exact ⟨some c', _, he, hstop c' _ (hIx _ _ _ (some w.heap.size) hi (grownBy_putObj' _ _ _) (fun r e => by cases e; rfl))⟩
end Go.Proofs.YtmclfdonoldlpaaDoor.Own
