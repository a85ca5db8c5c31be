/- The walk of evr.Parse: when a text is a version. -/
import Derived.Test.YtmclfdonoldlpaaDoorG0
import Derived.Outline
import Derived.IntWalk
namespace Go.Proofs.YtmclfdonoldlpaaDoor.Own
open Go.RowKit Go.Proofs.YtmclfdonoldlpaaDoorW.PrintWords Go.Proofs.YtmclfdonoldlpaaDoorW.PrintLast Go.Proofs.YtmclfdonoldlpaaDoorW.PrintMore Go.Proofs.YtmclfdonoldlpaaDoor.POwn
set_option linter.unusedVariables false
set_option linter.unusedSimpArgs false

attribute [local go_sem ↓] isSome_setCell
theorem count_ver (s : ByteArray) (hs : s.size ≤ maxLen) (n : Nat) (h : cnt verB s = n) (w : World) : Calls Tryd.prog 73 #[.string s, .func (.func 70) #[] #[]] w fun e w' => e = .returned (.int .i64 (n : Int)) ∧ Drawn0 w w' := by
  subst h
  exact count_calls 70 (fun _ _ => by kernel_rfl) verB (fun c W a b => ver_calls c a b W) s hs w
theorem count_dig (s : ByteArray) (hs : s.size ≤ maxLen) (n : Nat) (h : cnt digB s = n) (w : World) : Calls Tryd.prog 73 #[.string s, .func (.func 71) #[] #[]] w fun e w' => e = .returned (.int .i64 (n : Int)) ∧ Drawn0 w w' := by
  subst h
  exact count_calls 71 (fun _ _ => by kernel_rfl) digB (fun c W a b => digit_calls c _ rfl W) s hs w
theorem lastByte (s : ByteArray) (hs : s.size ≤ 60) (n : Int) (h : Lib.lastIndexByte s 45 = n) (w : World) : Calls Tryd.prog 74 #[.string s, .int .u8 45] w fun e w' => e = .returned (.int .i64 n) ∧ Drawn0 w w' := by
  subst h
  exact (Tryd.strings_LastIndexByte s 45 (by omega) w).mono fun e w' h => ⟨h.1, by rw [h.2]; exact Drawn0.refl _⟩
theorem hasByte (s : ByteArray) (c : UInt8) (b : Bool) (h : decide (0 ≤ at1 s c) = b) (w : World) : Calls Tryd.prog 75 #[.string s, .string ⟨#[c]⟩] w fun e w' => e = .returned (.bool b) ∧ Drawn0 w w' := by
  subst h
  exact (Tryd.strings_Contains_one s c w).mono fun e w' h => ⟨h.1, by rw [h.2]; exact Drawn0.refl _⟩

theorem cut_at (s : ByteArray) (c : UInt8) (n : Nat) (ep r : ByteArray) (hn : at1 s c = n) (hs : s.size ≤ maxLen) (he : s.extract 0 n = ep) (hr : s.extract (n + 1) s.size = r) (w : World) : Calls Tryd.prog 14 #[.string s, .string ⟨#[c]⟩] w fun e w' => e = .returned (.tuple #[.string ep, .string r, .bool true]) ∧ Drawn0 w w' := by
  subst he hr
  exact cut_yes s c n hn hs w

/-- What evr.Parse hands back: some parts, and an error. -/
def EvrPost (w : World) (k : Int) (e : Ending) (w' : World) : Prop := (∃ a b c : ByteArray, e = .returned (.tuple #[.agg #[.string a, .string b, .string c], .int .i64 k])) ∧ Below w.heap.size w w'
theorem evr_end (w W : World) (k : Int) (a b c : ByteArray) (h : Below w.heap.size w W) : EvrPost w k (.returned (.tuple #[.agg #[.string a, .string b, .string c], .int .i64 k])) W := ⟨⟨a, b, c, rfl⟩, h⟩

set_option maxHeartbeats 2000000 in
theorem evr_a1 (s : ByteArray) (h0 : s.toList.isEmpty = true) (w : World) : Calls Tryd.prog 53 #[.string s] w (EvrPost w 30) := by
  go_enter Tryd.func53, Tryd.ntmps53
  go_wp2_with (first
    | fail)
  refine bodyPost_ret (v := .tuple #[.agg #[.string ⟨#[]⟩, .string ⟨#[]⟩, .string ⟨#[]⟩], .int .i64 30]) (by simp [results, Tryd.results53, go_sem]) rfl (evr_end _ _ _ _ _ _ ?_)
  repeat (first | (with_reducible exact Below.refl _ _) | (with_reducible apply below_alloc) | (with_reducible apply pw_below_drewN) | (with_reducible apply below_drew1) | ((with_reducible refine below_set ?_ ?_); rotate_left; first | exact Nat.le_refl _ | exact Nat.le_add_right _ _))

set_option maxHeartbeats 2000000 in
theorem evr_a2 (s : ByteArray) (h0 : s.toList.isEmpty = false) (h1 : 60 < s.size) (w : World) : Calls Tryd.prog 53 #[.string s] w (EvrPost w 30) := by
  go_enter Tryd.func53, Tryd.ntmps53
  go_wp2_with (first
    | fail)
  refine bodyPost_ret (v := .tuple #[.agg #[.string ⟨#[]⟩, .string ⟨#[]⟩, .string ⟨#[]⟩], .int .i64 30]) (by simp [results, Tryd.results53, go_sem]) rfl (evr_end _ _ _ _ _ _ ?_)
  repeat (first | (with_reducible exact Below.refl _ _) | (with_reducible apply below_alloc) | (with_reducible apply pw_below_drewN) | (with_reducible apply below_drew1) | ((with_reducible refine below_set ?_ ?_); rotate_left; first | exact Nat.le_refl _ | exact Nat.le_add_right _ _))

set_option maxHeartbeats 2000000 in
theorem evr_a3 (s : ByteArray) (h0 : s.toList.isEmpty = false) (hs : s.size ≤ 60) (k : Nat) (hc : cnt verB s = k) (hk : ((k : Int) != (s.size : Int)) = true) (w : World) : Calls Tryd.prog 53 #[.string s] w (EvrPost w 30) := by
  have hsm : s.size ≤ maxLen := by unfold maxLen; omega
  have HC_ := Lib.hid hc
  clear hc
  go_enter Tryd.func53, Tryd.ntmps53
  go_wp2_with (first
    | (go_at_call 73; (with_reducible refine (count_ver s hsm _ HC_.out _).mono ?_); rintro e w' ⟨rfl, ⟨n1, rfl⟩⟩))
  refine bodyPost_ret (v := .tuple #[.agg #[.string ⟨#[]⟩, .string ⟨#[]⟩, .string ⟨#[]⟩], .int .i64 30]) (by simp [results, Tryd.results53, go_sem]) rfl (evr_end _ _ _ _ _ _ ?_)
  repeat (first | (with_reducible exact Below.refl _ _) | (with_reducible apply below_alloc) | (with_reducible apply pw_below_drewN) | (with_reducible apply below_drew1) | ((with_reducible refine below_set ?_ ?_); rotate_left; first | exact Nat.le_refl _ | exact Nat.le_add_right _ _))

set_option maxHeartbeats 2000000 in
theorem evr_bn1 (s : ByteArray) (h0 : s.toList.isEmpty = false) (hs : s.size ≤ 60) (hc : cnt verB s = s.size) (hn : at1 s 58 = -1) (hl : Lib.lastIndexByte s 45 = -1) (hr0 : s.toList.isEmpty = false) (hx : decide (0 ≤ at1 s 58) = true) (w : World) : Calls Tryd.prog 53 #[.string s] w (EvrPost w 30) := by
  have hsm : s.size ≤ maxLen := by unfold maxLen; omega
  have HC_ := Lib.hid hc
  clear hc
  have HN_ := Lib.hid hn
  clear hn
  have HL_ := Lib.hid hl
  clear hl
  have HX_ := Lib.hid hx
  clear hx
  go_enter Tryd.func53, Tryd.ntmps53
  go_wp2_with (first
    | (go_at_call 73; (with_reducible refine (count_ver s hsm _ HC_.out _).mono ?_); rintro e w' ⟨rfl, ⟨n1, rfl⟩⟩)
    | (go_at_call 14; (with_reducible refine (cut_no s 58 HN_.out _).mono ?_); rintro e w' ⟨rfl, ⟨n2, rfl⟩⟩)
    | (go_at_call 74; (with_reducible refine (lastByte s hs _ HL_.out _).mono ?_); rintro e w' ⟨rfl, ⟨n3, rfl⟩⟩)
    | (go_at_call 75; (with_reducible refine (hasByte s 58 true HX_.out _).mono ?_); rintro e w' ⟨rfl, ⟨n4, rfl⟩⟩))
  refine bodyPost_ret (v := .tuple #[.agg #[.string ⟨#[]⟩, .string ⟨#[]⟩, .string ⟨#[]⟩], .int .i64 30]) (by simp [results, Tryd.results53, go_sem]) rfl (evr_end _ _ _ _ _ _ ?_)
  repeat (first | (with_reducible exact Below.refl _ _) | (with_reducible apply below_alloc) | (with_reducible apply pw_below_drewN) | (with_reducible apply below_drew1) | ((with_reducible refine below_set ?_ ?_); rotate_left; first | exact Nat.le_refl _ | exact Nat.le_add_right _ _))

set_option maxHeartbeats 2000000 in
theorem evr_bn2 (s : ByteArray) (h0 : s.toList.isEmpty = false) (hs : s.size ≤ 60) (hc : cnt verB s = s.size) (hn : at1 s 58 = -1) (hl : Lib.lastIndexByte s 45 = -1) (hr0 : s.toList.isEmpty = false) (hx : decide (0 ≤ at1 s 58) = false) (w : World) : Calls Tryd.prog 53 #[.string s] w (EvrPost w 0) := by
  have hsm : s.size ≤ maxLen := by unfold maxLen; omega
  have HC_ := Lib.hid hc
  clear hc
  have HN_ := Lib.hid hn
  clear hn
  have HL_ := Lib.hid hl
  clear hl
  have HX_ := Lib.hid hx
  clear hx
  go_enter Tryd.func53, Tryd.ntmps53
  go_wp2_with (first
    | (go_at_call 73; (with_reducible refine (count_ver s hsm _ HC_.out _).mono ?_); rintro e w' ⟨rfl, ⟨n1, rfl⟩⟩)
    | (go_at_call 14; (with_reducible refine (cut_no s 58 HN_.out _).mono ?_); rintro e w' ⟨rfl, ⟨n2, rfl⟩⟩)
    | (go_at_call 74; (with_reducible refine (lastByte s hs _ HL_.out _).mono ?_); rintro e w' ⟨rfl, ⟨n3, rfl⟩⟩)
    | (go_at_call 75; (with_reducible refine (hasByte s 58 false HX_.out _).mono ?_); rintro e w' ⟨rfl, ⟨n4, rfl⟩⟩))
  refine bodyPost_ret (v := .tuple #[.agg #[.string ⟨#[]⟩, .string s, .string ⟨#[]⟩], .int .i64 0]) (by simp [results, Tryd.results53, go_sem]) rfl (evr_end _ _ _ _ _ _ ?_)
  repeat (first | (with_reducible exact Below.refl _ _) | (with_reducible apply below_alloc) | (with_reducible apply pw_below_drewN) | (with_reducible apply below_drew1) | ((with_reducible refine below_set ?_ ?_); rotate_left; first | exact Nat.le_refl _ | exact Nat.le_add_right _ _))

set_option maxHeartbeats 2000000 in
theorem evr_by0 (s : ByteArray) (h0 : s.toList.isEmpty = false) (hs : s.size ≤ 60) (hc : cnt verB s = s.size) (hn : at1 s 58 = -1)  (j : Nat) (hj : j < s.size) (hl : Lib.lastIndexByte s 45 = j) (hr0 : (s.extract (j + 1) s.size).toList.isEmpty = true) (w : World) : Calls Tryd.prog 53 #[.string s] w (EvrPost w 30) := by
  have hsm : s.size ≤ maxLen := by unfold maxLen; omega
  have HC_ := Lib.hid hc
  clear hc
  have HN_ := Lib.hid hn
  clear hn
  have HL_ := Lib.hid hl
  clear hl
  go_enter Tryd.func53, Tryd.ntmps53
  go_wp2_with (first
    | (go_at_call 73; (with_reducible refine (count_ver s hsm _ HC_.out _).mono ?_); rintro e w' ⟨rfl, ⟨n1, rfl⟩⟩)
    | (go_at_call 14; (with_reducible refine (cut_no s 58 HN_.out _).mono ?_); rintro e w' ⟨rfl, ⟨n2, rfl⟩⟩)
    | (go_at_call 74; (with_reducible refine (lastByte s hs _ HL_.out _).mono ?_); rintro e w' ⟨rfl, ⟨n3, rfl⟩⟩))
  have q1 : (0 : Int) ≤ (j : Int) := by omega
  have q2 : (j : Int) ≤ (s.size : Int) := by omega
  have q3 : (0 : Int) ≤ (j : Int) + 1 := by omega
  have q4 : (j : Int) + 1 ≤ (s.size : Int) := by omega
  have q5 : ((j : Int) + 1).toNat = j + 1 := by omega
  have q6 : IntKind.i64.wrap ((j : Int) + 1) = (j : Int) + 1 := IntWalk.i64_in _ (by omega)
  go_region_held3 (fun _ => True) (trivial) (fail)
  all_goals clear q1 q2 q3 q4 q5 q6
  all_goals go_wp2_with (first
    | (go_at_call 73; (with_reducible refine (count_ver s hsm _ HC_.out _).mono ?_); rintro e w' ⟨rfl, ⟨n1, rfl⟩⟩)
    | (go_at_call 14; (with_reducible refine (cut_no s 58 HN_.out _).mono ?_); rintro e w' ⟨rfl, ⟨n2, rfl⟩⟩)
    | (go_at_call 74; (with_reducible refine (lastByte s hs _ HL_.out _).mono ?_); rintro e w' ⟨rfl, ⟨n3, rfl⟩⟩))
  refine bodyPost_ret (v := .tuple #[.agg #[.string ⟨#[]⟩, .string ⟨#[]⟩, .string ⟨#[]⟩], .int .i64 30]) (by simp [results, Tryd.results53, go_sem]) rfl (evr_end _ _ _ _ _ _ ?_)
  repeat (first | (with_reducible exact Below.refl _ _) | (with_reducible apply below_alloc) | (with_reducible apply pw_below_drewN) | (with_reducible apply below_drew1) | ((with_reducible refine below_set ?_ ?_); rotate_left; first | exact Nat.le_refl _ | exact Nat.le_add_right _ _))

set_option maxHeartbeats 2000000 in
theorem evr_by1 (s : ByteArray) (h0 : s.toList.isEmpty = false) (hs : s.size ≤ 60) (hc : cnt verB s = s.size) (hn : at1 s 58 = -1)  (j : Nat) (hj : j < s.size) (hl : Lib.lastIndexByte s 45 = j) (hr0 : (s.extract (j + 1) s.size).toList.isEmpty = false) (hr1 : (s.extract 0 j).toList.isEmpty = true) (w : World) : Calls Tryd.prog 53 #[.string s] w (EvrPost w 30) := by
  have hsm : s.size ≤ maxLen := by unfold maxLen; omega
  have HC_ := Lib.hid hc
  clear hc
  have HN_ := Lib.hid hn
  clear hn
  have HL_ := Lib.hid hl
  clear hl
  go_enter Tryd.func53, Tryd.ntmps53
  go_wp2_with (first
    | (go_at_call 73; (with_reducible refine (count_ver s hsm _ HC_.out _).mono ?_); rintro e w' ⟨rfl, ⟨n1, rfl⟩⟩)
    | (go_at_call 14; (with_reducible refine (cut_no s 58 HN_.out _).mono ?_); rintro e w' ⟨rfl, ⟨n2, rfl⟩⟩)
    | (go_at_call 74; (with_reducible refine (lastByte s hs _ HL_.out _).mono ?_); rintro e w' ⟨rfl, ⟨n3, rfl⟩⟩))
  have q1 : (0 : Int) ≤ (j : Int) := by omega
  have q2 : (j : Int) ≤ (s.size : Int) := by omega
  have q3 : (0 : Int) ≤ (j : Int) + 1 := by omega
  have q4 : (j : Int) + 1 ≤ (s.size : Int) := by omega
  have q5 : ((j : Int) + 1).toNat = j + 1 := by omega
  have q6 : IntKind.i64.wrap ((j : Int) + 1) = (j : Int) + 1 := IntWalk.i64_in _ (by omega)
  go_region_held3 (fun _ => True) (trivial) (fail)
  all_goals clear q1 q2 q3 q4 q5 q6
  all_goals go_wp2_with (first
    | (go_at_call 73; (with_reducible refine (count_ver s hsm _ HC_.out _).mono ?_); rintro e w' ⟨rfl, ⟨n1, rfl⟩⟩)
    | (go_at_call 14; (with_reducible refine (cut_no s 58 HN_.out _).mono ?_); rintro e w' ⟨rfl, ⟨n2, rfl⟩⟩)
    | (go_at_call 74; (with_reducible refine (lastByte s hs _ HL_.out _).mono ?_); rintro e w' ⟨rfl, ⟨n3, rfl⟩⟩))
  refine bodyPost_ret (v := .tuple #[.agg #[.string ⟨#[]⟩, .string ⟨#[]⟩, .string ⟨#[]⟩], .int .i64 30]) (by simp [results, Tryd.results53, go_sem]) rfl (evr_end _ _ _ _ _ _ ?_)
  repeat (first | (with_reducible exact Below.refl _ _) | (with_reducible apply below_alloc) | (with_reducible apply pw_below_drewN) | (with_reducible apply below_drew1) | ((with_reducible refine below_set ?_ ?_); rotate_left; first | exact Nat.le_refl _ | exact Nat.le_add_right _ _))

set_option maxHeartbeats 2000000 in
theorem evr_by2 (s : ByteArray) (h0 : s.toList.isEmpty = false) (hs : s.size ≤ 60) (hc : cnt verB s = s.size) (hn : at1 s 58 = -1)  (j : Nat) (hj : j < s.size) (hl : Lib.lastIndexByte s 45 = j) (hr0 : (s.extract (j + 1) s.size).toList.isEmpty = false) (hr1 : (s.extract 0 j).toList.isEmpty = false) (hx : decide (0 ≤ at1 s 58) = true) (w : World) : Calls Tryd.prog 53 #[.string s] w (EvrPost w 30) := by
  have hsm : s.size ≤ maxLen := by unfold maxLen; omega
  have HC_ := Lib.hid hc
  clear hc
  have HN_ := Lib.hid hn
  clear hn
  have HL_ := Lib.hid hl
  clear hl
  have HX_ := Lib.hid hx
  clear hx
  go_enter Tryd.func53, Tryd.ntmps53
  go_wp2_with (first
    | (go_at_call 73; (with_reducible refine (count_ver s hsm _ HC_.out _).mono ?_); rintro e w' ⟨rfl, ⟨n1, rfl⟩⟩)
    | (go_at_call 14; (with_reducible refine (cut_no s 58 HN_.out _).mono ?_); rintro e w' ⟨rfl, ⟨n2, rfl⟩⟩)
    | (go_at_call 74; (with_reducible refine (lastByte s hs _ HL_.out _).mono ?_); rintro e w' ⟨rfl, ⟨n3, rfl⟩⟩)
    | (go_at_call 75; (with_reducible refine (hasByte s 58 true HX_.out _).mono ?_); rintro e w' ⟨rfl, ⟨n4, rfl⟩⟩))
  have q1 : (0 : Int) ≤ (j : Int) := by omega
  have q2 : (j : Int) ≤ (s.size : Int) := by omega
  have q3 : (0 : Int) ≤ (j : Int) + 1 := by omega
  have q4 : (j : Int) + 1 ≤ (s.size : Int) := by omega
  have q5 : ((j : Int) + 1).toNat = j + 1 := by omega
  have q6 : IntKind.i64.wrap ((j : Int) + 1) = (j : Int) + 1 := IntWalk.i64_in _ (by omega)
  go_region_held3 (fun _ => True) (trivial) (fail)
  all_goals clear q1 q2 q3 q4 q5 q6
  all_goals go_wp2_with (first
    | (go_at_call 73; (with_reducible refine (count_ver s hsm _ HC_.out _).mono ?_); rintro e w' ⟨rfl, ⟨n1, rfl⟩⟩)
    | (go_at_call 14; (with_reducible refine (cut_no s 58 HN_.out _).mono ?_); rintro e w' ⟨rfl, ⟨n2, rfl⟩⟩)
    | (go_at_call 74; (with_reducible refine (lastByte s hs _ HL_.out _).mono ?_); rintro e w' ⟨rfl, ⟨n3, rfl⟩⟩)
    | (go_at_call 75; (with_reducible refine (hasByte s 58 true HX_.out _).mono ?_); rintro e w' ⟨rfl, ⟨n4, rfl⟩⟩))
  refine bodyPost_ret (v := .tuple #[.agg #[.string ⟨#[]⟩, .string ⟨#[]⟩, .string ⟨#[]⟩], .int .i64 30]) (by simp [results, Tryd.results53, go_sem]) rfl (evr_end _ _ _ _ _ _ ?_)
  repeat (first | (with_reducible exact Below.refl _ _) | (with_reducible apply below_alloc) | (with_reducible apply pw_below_drewN) | (with_reducible apply below_drew1) | ((with_reducible refine below_set ?_ ?_); rotate_left; first | exact Nat.le_refl _ | exact Nat.le_add_right _ _))

set_option maxHeartbeats 2000000 in
theorem evr_by3 (s : ByteArray) (h0 : s.toList.isEmpty = false) (hs : s.size ≤ 60) (hc : cnt verB s = s.size) (hn : at1 s 58 = -1)  (j : Nat) (hj : j < s.size) (hl : Lib.lastIndexByte s 45 = j) (hr0 : (s.extract (j + 1) s.size).toList.isEmpty = false) (hr1 : (s.extract 0 j).toList.isEmpty = false) (hx : decide (0 ≤ at1 s 58) = false) (w : World) : Calls Tryd.prog 53 #[.string s] w (EvrPost w 0) := by
  have hsm : s.size ≤ maxLen := by unfold maxLen; omega
  have HC_ := Lib.hid hc
  clear hc
  have HN_ := Lib.hid hn
  clear hn
  have HL_ := Lib.hid hl
  clear hl
  have HX_ := Lib.hid hx
  clear hx
  go_enter Tryd.func53, Tryd.ntmps53
  go_wp2_with (first
    | (go_at_call 73; (with_reducible refine (count_ver s hsm _ HC_.out _).mono ?_); rintro e w' ⟨rfl, ⟨n1, rfl⟩⟩)
    | (go_at_call 14; (with_reducible refine (cut_no s 58 HN_.out _).mono ?_); rintro e w' ⟨rfl, ⟨n2, rfl⟩⟩)
    | (go_at_call 74; (with_reducible refine (lastByte s hs _ HL_.out _).mono ?_); rintro e w' ⟨rfl, ⟨n3, rfl⟩⟩)
    | (go_at_call 75; (with_reducible refine (hasByte s 58 false HX_.out _).mono ?_); rintro e w' ⟨rfl, ⟨n4, rfl⟩⟩))
  have q1 : (0 : Int) ≤ (j : Int) := by omega
  have q2 : (j : Int) ≤ (s.size : Int) := by omega
  have q3 : (0 : Int) ≤ (j : Int) + 1 := by omega
  have q4 : (j : Int) + 1 ≤ (s.size : Int) := by omega
  have q5 : ((j : Int) + 1).toNat = j + 1 := by omega
  have q6 : IntKind.i64.wrap ((j : Int) + 1) = (j : Int) + 1 := IntWalk.i64_in _ (by omega)
  go_region_held3 (fun _ => True) (trivial) (fail)
  all_goals clear q1 q2 q3 q4 q5 q6
  all_goals go_wp2_with (first
    | (go_at_call 73; (with_reducible refine (count_ver s hsm _ HC_.out _).mono ?_); rintro e w' ⟨rfl, ⟨n1, rfl⟩⟩)
    | (go_at_call 14; (with_reducible refine (cut_no s 58 HN_.out _).mono ?_); rintro e w' ⟨rfl, ⟨n2, rfl⟩⟩)
    | (go_at_call 74; (with_reducible refine (lastByte s hs _ HL_.out _).mono ?_); rintro e w' ⟨rfl, ⟨n3, rfl⟩⟩)
    | (go_at_call 75; (with_reducible refine (hasByte s 58 false HX_.out _).mono ?_); rintro e w' ⟨rfl, ⟨n4, rfl⟩⟩))
  refine bodyPost_ret (v := .tuple #[.agg #[.string ⟨#[]⟩, .string (s.extract 0 j), .string (s.extract (j + 1) s.size)], .int .i64 0]) (by simp [results, Tryd.results53, go_sem]) rfl (evr_end _ _ _ _ _ _ ?_)
  repeat (first | (with_reducible exact Below.refl _ _) | (with_reducible apply below_alloc) | (with_reducible apply pw_below_drewN) | (with_reducible apply below_drew1) | ((with_reducible refine below_set ?_ ?_); rotate_left; first | exact Nat.le_refl _ | exact Nat.le_add_right _ _))

set_option maxHeartbeats 2000000 in
theorem evr_c1 (s : ByteArray) (h0 : s.toList.isEmpty = false) (hs : s.size ≤ 60) (hc : cnt verB s = s.size) (n : Nat) (ep r : ByteArray) (hn : at1 s 58 = n) (he : s.extract 0 n = ep) (hr : s.extract (n + 1) s.size = r) (he0 : ep.toList.isEmpty = true) (w : World) : Calls Tryd.prog 53 #[.string s] w (EvrPost w 30) := by
  have hsm : s.size ≤ maxLen := by unfold maxLen; omega
  have HC_ := Lib.hid hc
  clear hc
  have HN_ := Lib.hid hn
  clear hn
  have HE_ := Lib.hid he
  clear he
  have HR_ := Lib.hid hr
  clear hr
  go_enter Tryd.func53, Tryd.ntmps53
  go_wp2_with (first
    | (go_at_call 73; (with_reducible refine (count_ver s hsm _ HC_.out _).mono ?_); rintro e w' ⟨rfl, ⟨n1, rfl⟩⟩)
    | (go_at_call 14; (with_reducible refine (cut_at s 58 n ep r HN_.out hsm HE_.out HR_.out _).mono ?_); rintro e w' ⟨rfl, ⟨n2, rfl⟩⟩))
  refine bodyPost_ret (v := .tuple #[.agg #[.string ⟨#[]⟩, .string ⟨#[]⟩, .string ⟨#[]⟩], .int .i64 30]) (by simp [results, Tryd.results53, go_sem]) rfl (evr_end _ _ _ _ _ _ ?_)
  repeat (first | (with_reducible exact Below.refl _ _) | (with_reducible apply below_alloc) | (with_reducible apply pw_below_drewN) | (with_reducible apply below_drew1) | ((with_reducible refine below_set ?_ ?_); rotate_left; first | exact Nat.le_refl _ | exact Nat.le_add_right _ _))

set_option maxHeartbeats 2000000 in
theorem evr_c2 (s : ByteArray) (h0 : s.toList.isEmpty = false) (hs : s.size ≤ 60) (hc : cnt verB s = s.size) (n : Nat) (ep r : ByteArray) (hn : at1 s 58 = n) (he : s.extract 0 n = ep) (hr : s.extract (n + 1) s.size = r) (he0 : ep.toList.isEmpty = false) (he9 : 9 < ep.size) (w : World) : Calls Tryd.prog 53 #[.string s] w (EvrPost w 30) := by
  have hsm : s.size ≤ maxLen := by unfold maxLen; omega
  have HC_ := Lib.hid hc
  clear hc
  have HN_ := Lib.hid hn
  clear hn
  have HE_ := Lib.hid he
  clear he
  have HR_ := Lib.hid hr
  clear hr
  go_enter Tryd.func53, Tryd.ntmps53
  go_wp2_with (first
    | (go_at_call 73; (with_reducible refine (count_ver s hsm _ HC_.out _).mono ?_); rintro e w' ⟨rfl, ⟨n1, rfl⟩⟩)
    | (go_at_call 14; (with_reducible refine (cut_at s 58 n ep r HN_.out hsm HE_.out HR_.out _).mono ?_); rintro e w' ⟨rfl, ⟨n2, rfl⟩⟩))
  refine bodyPost_ret (v := .tuple #[.agg #[.string ⟨#[]⟩, .string ⟨#[]⟩, .string ⟨#[]⟩], .int .i64 30]) (by simp [results, Tryd.results53, go_sem]) rfl (evr_end _ _ _ _ _ _ ?_)
  repeat (first | (with_reducible exact Below.refl _ _) | (with_reducible apply below_alloc) | (with_reducible apply pw_below_drewN) | (with_reducible apply below_drew1) | ((with_reducible refine below_set ?_ ?_); rotate_left; first | exact Nat.le_refl _ | exact Nat.le_add_right _ _))

set_option maxHeartbeats 2000000 in
theorem evr_c3 (s : ByteArray) (h0 : s.toList.isEmpty = false) (hs : s.size ≤ 60) (hc : cnt verB s = s.size) (n : Nat) (ep r : ByteArray) (hn : at1 s 58 = n) (he : s.extract 0 n = ep) (hr : s.extract (n + 1) s.size = r) (he0 : ep.toList.isEmpty = false) (he9 : ep.size ≤ 9) (k : Nat) (hd : cnt digB ep = k) (hk : ((k : Int) != (ep.size : Int)) = true) (w : World) : Calls Tryd.prog 53 #[.string s] w (EvrPost w 30) := by
  have hsm : s.size ≤ maxLen := by unfold maxLen; omega
  have hem : ep.size ≤ maxLen := by unfold maxLen; omega
  have HC_ := Lib.hid hc
  clear hc
  have HN_ := Lib.hid hn
  clear hn
  have HE_ := Lib.hid he
  clear he
  have HR_ := Lib.hid hr
  clear hr
  have HD_ := Lib.hid hd
  clear hd
  go_enter Tryd.func53, Tryd.ntmps53
  go_wp2_with (first
    | (go_at_call 73; (with_reducible refine (count_ver s hsm _ HC_.out _).mono ?_); rintro e w' ⟨rfl, ⟨n1, rfl⟩⟩)
    | (go_at_call 14; (with_reducible refine (cut_at s 58 n ep r HN_.out hsm HE_.out HR_.out _).mono ?_); rintro e w' ⟨rfl, ⟨n2, rfl⟩⟩)
    | (go_at_call 73; (with_reducible refine (count_dig ep hem _ HD_.out _).mono ?_); rintro e w' ⟨rfl, ⟨n5, rfl⟩⟩))
  refine bodyPost_ret (v := .tuple #[.agg #[.string ⟨#[]⟩, .string ⟨#[]⟩, .string ⟨#[]⟩], .int .i64 30]) (by simp [results, Tryd.results53, go_sem]) rfl (evr_end _ _ _ _ _ _ ?_)
  repeat (first | (with_reducible exact Below.refl _ _) | (with_reducible apply below_alloc) | (with_reducible apply pw_below_drewN) | (with_reducible apply below_drew1) | ((with_reducible refine below_set ?_ ?_); rotate_left; first | exact Nat.le_refl _ | exact Nat.le_add_right _ _))

set_option maxHeartbeats 2000000 in
theorem evr_cn0 (s : ByteArray) (h0 : s.toList.isEmpty = false) (hs : s.size ≤ 60) (hc : cnt verB s = s.size) (n : Nat) (ep r : ByteArray) (hn : at1 s 58 = n) (he : s.extract 0 n = ep) (hr : s.extract (n + 1) s.size = r) (he0 : ep.toList.isEmpty = false) (he9 : ep.size ≤ 9) (hd : cnt digB ep = ep.size) (hr60 : r.size ≤ 60) (hl : Lib.lastIndexByte r 45 = -1) (hr0 : r.toList.isEmpty = true) (w : World) : Calls Tryd.prog 53 #[.string s] w (EvrPost w 30) := by
  have hsm : s.size ≤ maxLen := by unfold maxLen; omega
  have hem : ep.size ≤ maxLen := by unfold maxLen; omega
  have HC_ := Lib.hid hc
  clear hc
  have HN_ := Lib.hid hn
  clear hn
  have HE_ := Lib.hid he
  clear he
  have HR_ := Lib.hid hr
  clear hr
  have HD_ := Lib.hid hd
  clear hd
  have HL_ := Lib.hid hl
  clear hl
  go_enter Tryd.func53, Tryd.ntmps53
  go_wp2_with (first
    | (go_at_call 73; (with_reducible refine (count_ver s hsm _ HC_.out _).mono ?_); rintro e w' ⟨rfl, ⟨n1, rfl⟩⟩)
    | (go_at_call 14; (with_reducible refine (cut_at s 58 n ep r HN_.out hsm HE_.out HR_.out _).mono ?_); rintro e w' ⟨rfl, ⟨n2, rfl⟩⟩)
    | (go_at_call 73; (with_reducible refine (count_dig ep hem _ HD_.out _).mono ?_); rintro e w' ⟨rfl, ⟨n5, rfl⟩⟩)
    | (go_at_call 74; (with_reducible refine (lastByte r hr60 _ HL_.out _).mono ?_); rintro e w' ⟨rfl, ⟨n3, rfl⟩⟩))
  refine bodyPost_ret (v := .tuple #[.agg #[.string ⟨#[]⟩, .string ⟨#[]⟩, .string ⟨#[]⟩], .int .i64 30]) (by simp [results, Tryd.results53, go_sem]) rfl (evr_end _ _ _ _ _ _ ?_)
  repeat (first | (with_reducible exact Below.refl _ _) | (with_reducible apply below_alloc) | (with_reducible apply pw_below_drewN) | (with_reducible apply below_drew1) | ((with_reducible refine below_set ?_ ?_); rotate_left; first | exact Nat.le_refl _ | exact Nat.le_add_right _ _))

set_option maxHeartbeats 2000000 in
theorem evr_cn1 (s : ByteArray) (h0 : s.toList.isEmpty = false) (hs : s.size ≤ 60) (hc : cnt verB s = s.size) (n : Nat) (ep r : ByteArray) (hn : at1 s 58 = n) (he : s.extract 0 n = ep) (hr : s.extract (n + 1) s.size = r) (he0 : ep.toList.isEmpty = false) (he9 : ep.size ≤ 9) (hd : cnt digB ep = ep.size) (hr60 : r.size ≤ 60) (hl : Lib.lastIndexByte r 45 = -1) (hr0 : r.toList.isEmpty = false) (hx : decide (0 ≤ at1 r 58) = true) (w : World) : Calls Tryd.prog 53 #[.string s] w (EvrPost w 30) := by
  have hsm : s.size ≤ maxLen := by unfold maxLen; omega
  have hem : ep.size ≤ maxLen := by unfold maxLen; omega
  have HC_ := Lib.hid hc
  clear hc
  have HN_ := Lib.hid hn
  clear hn
  have HE_ := Lib.hid he
  clear he
  have HR_ := Lib.hid hr
  clear hr
  have HD_ := Lib.hid hd
  clear hd
  have HL_ := Lib.hid hl
  clear hl
  have HX_ := Lib.hid hx
  clear hx
  go_enter Tryd.func53, Tryd.ntmps53
  go_wp2_with (first
    | (go_at_call 73; (with_reducible refine (count_ver s hsm _ HC_.out _).mono ?_); rintro e w' ⟨rfl, ⟨n1, rfl⟩⟩)
    | (go_at_call 14; (with_reducible refine (cut_at s 58 n ep r HN_.out hsm HE_.out HR_.out _).mono ?_); rintro e w' ⟨rfl, ⟨n2, rfl⟩⟩)
    | (go_at_call 73; (with_reducible refine (count_dig ep hem _ HD_.out _).mono ?_); rintro e w' ⟨rfl, ⟨n5, rfl⟩⟩)
    | (go_at_call 74; (with_reducible refine (lastByte r hr60 _ HL_.out _).mono ?_); rintro e w' ⟨rfl, ⟨n3, rfl⟩⟩)
    | (go_at_call 75; (with_reducible refine (hasByte r 58 true HX_.out _).mono ?_); rintro e w' ⟨rfl, ⟨n4, rfl⟩⟩))
  refine bodyPost_ret (v := .tuple #[.agg #[.string ⟨#[]⟩, .string ⟨#[]⟩, .string ⟨#[]⟩], .int .i64 30]) (by simp [results, Tryd.results53, go_sem]) rfl (evr_end _ _ _ _ _ _ ?_)
  repeat (first | (with_reducible exact Below.refl _ _) | (with_reducible apply below_alloc) | (with_reducible apply pw_below_drewN) | (with_reducible apply below_drew1) | ((with_reducible refine below_set ?_ ?_); rotate_left; first | exact Nat.le_refl _ | exact Nat.le_add_right _ _))

set_option maxHeartbeats 2000000 in
theorem evr_cn2 (s : ByteArray) (h0 : s.toList.isEmpty = false) (hs : s.size ≤ 60) (hc : cnt verB s = s.size) (n : Nat) (ep r : ByteArray) (hn : at1 s 58 = n) (he : s.extract 0 n = ep) (hr : s.extract (n + 1) s.size = r) (he0 : ep.toList.isEmpty = false) (he9 : ep.size ≤ 9) (hd : cnt digB ep = ep.size) (hr60 : r.size ≤ 60) (hl : Lib.lastIndexByte r 45 = -1) (hr0 : r.toList.isEmpty = false) (hx : decide (0 ≤ at1 r 58) = false) (w : World) : Calls Tryd.prog 53 #[.string s] w (EvrPost w 0) := by
  have hsm : s.size ≤ maxLen := by unfold maxLen; omega
  have hem : ep.size ≤ maxLen := by unfold maxLen; omega
  have HC_ := Lib.hid hc
  clear hc
  have HN_ := Lib.hid hn
  clear hn
  have HE_ := Lib.hid he
  clear he
  have HR_ := Lib.hid hr
  clear hr
  have HD_ := Lib.hid hd
  clear hd
  have HL_ := Lib.hid hl
  clear hl
  have HX_ := Lib.hid hx
  clear hx
  go_enter Tryd.func53, Tryd.ntmps53
  go_wp2_with (first
    | (go_at_call 73; (with_reducible refine (count_ver s hsm _ HC_.out _).mono ?_); rintro e w' ⟨rfl, ⟨n1, rfl⟩⟩)
    | (go_at_call 14; (with_reducible refine (cut_at s 58 n ep r HN_.out hsm HE_.out HR_.out _).mono ?_); rintro e w' ⟨rfl, ⟨n2, rfl⟩⟩)
    | (go_at_call 73; (with_reducible refine (count_dig ep hem _ HD_.out _).mono ?_); rintro e w' ⟨rfl, ⟨n5, rfl⟩⟩)
    | (go_at_call 74; (with_reducible refine (lastByte r hr60 _ HL_.out _).mono ?_); rintro e w' ⟨rfl, ⟨n3, rfl⟩⟩)
    | (go_at_call 75; (with_reducible refine (hasByte r 58 false HX_.out _).mono ?_); rintro e w' ⟨rfl, ⟨n4, rfl⟩⟩))
  refine bodyPost_ret (v := .tuple #[.agg #[.string ep, .string r, .string ⟨#[]⟩], .int .i64 0]) (by simp [results, Tryd.results53, go_sem]) rfl (evr_end _ _ _ _ _ _ ?_)
  repeat (first | (with_reducible exact Below.refl _ _) | (with_reducible apply below_alloc) | (with_reducible apply pw_below_drewN) | (with_reducible apply below_drew1) | ((with_reducible refine below_set ?_ ?_); rotate_left; first | exact Nat.le_refl _ | exact Nat.le_add_right _ _))

set_option maxHeartbeats 2000000 in
theorem evr_cy0 (s : ByteArray) (h0 : s.toList.isEmpty = false) (hs : s.size ≤ 60) (hc : cnt verB s = s.size) (n : Nat) (ep r : ByteArray) (hn : at1 s 58 = n) (he : s.extract 0 n = ep) (hr : s.extract (n + 1) s.size = r) (he0 : ep.toList.isEmpty = false) (he9 : ep.size ≤ 9) (hd : cnt digB ep = ep.size) (hr60 : r.size ≤ 60)  (j : Nat) (hj : j < r.size) (hl : Lib.lastIndexByte r 45 = j) (hr0 : (r.extract (j + 1) r.size).toList.isEmpty = true) (w : World) : Calls Tryd.prog 53 #[.string s] w (EvrPost w 30) := by
  have hsm : s.size ≤ maxLen := by unfold maxLen; omega
  have hem : ep.size ≤ maxLen := by unfold maxLen; omega
  have HC_ := Lib.hid hc
  clear hc
  have HN_ := Lib.hid hn
  clear hn
  have HE_ := Lib.hid he
  clear he
  have HR_ := Lib.hid hr
  clear hr
  have HD_ := Lib.hid hd
  clear hd
  have HL_ := Lib.hid hl
  clear hl
  go_enter Tryd.func53, Tryd.ntmps53
  go_wp2_with (first
    | (go_at_call 73; (with_reducible refine (count_ver s hsm _ HC_.out _).mono ?_); rintro e w' ⟨rfl, ⟨n1, rfl⟩⟩)
    | (go_at_call 14; (with_reducible refine (cut_at s 58 n ep r HN_.out hsm HE_.out HR_.out _).mono ?_); rintro e w' ⟨rfl, ⟨n2, rfl⟩⟩)
    | (go_at_call 73; (with_reducible refine (count_dig ep hem _ HD_.out _).mono ?_); rintro e w' ⟨rfl, ⟨n5, rfl⟩⟩)
    | (go_at_call 74; (with_reducible refine (lastByte r hr60 _ HL_.out _).mono ?_); rintro e w' ⟨rfl, ⟨n3, rfl⟩⟩))
  have q1 : (0 : Int) ≤ (j : Int) := by omega
  have q2 : (j : Int) ≤ (r.size : Int) := by omega
  have q3 : (0 : Int) ≤ (j : Int) + 1 := by omega
  have q4 : (j : Int) + 1 ≤ (r.size : Int) := by omega
  have q5 : ((j : Int) + 1).toNat = j + 1 := by omega
  have q6 : IntKind.i64.wrap ((j : Int) + 1) = (j : Int) + 1 := IntWalk.i64_in _ (by omega)
  go_region_held3 (fun _ => True) (trivial) (fail)
  all_goals clear q1 q2 q3 q4 q5 q6
  all_goals go_wp2_with (first
    | (go_at_call 73; (with_reducible refine (count_ver s hsm _ HC_.out _).mono ?_); rintro e w' ⟨rfl, ⟨n1, rfl⟩⟩)
    | (go_at_call 14; (with_reducible refine (cut_at s 58 n ep r HN_.out hsm HE_.out HR_.out _).mono ?_); rintro e w' ⟨rfl, ⟨n2, rfl⟩⟩)
    | (go_at_call 73; (with_reducible refine (count_dig ep hem _ HD_.out _).mono ?_); rintro e w' ⟨rfl, ⟨n5, rfl⟩⟩)
    | (go_at_call 74; (with_reducible refine (lastByte r hr60 _ HL_.out _).mono ?_); rintro e w' ⟨rfl, ⟨n3, rfl⟩⟩))
  refine bodyPost_ret (v := .tuple #[.agg #[.string ⟨#[]⟩, .string ⟨#[]⟩, .string ⟨#[]⟩], .int .i64 30]) (by simp [results, Tryd.results53, go_sem]) rfl (evr_end _ _ _ _ _ _ ?_)
  repeat (first | (with_reducible exact Below.refl _ _) | (with_reducible apply below_alloc) | (with_reducible apply pw_below_drewN) | (with_reducible apply below_drew1) | ((with_reducible refine below_set ?_ ?_); rotate_left; first | exact Nat.le_refl _ | exact Nat.le_add_right _ _))

set_option maxHeartbeats 2000000 in
theorem evr_cy1 (s : ByteArray) (h0 : s.toList.isEmpty = false) (hs : s.size ≤ 60) (hc : cnt verB s = s.size) (n : Nat) (ep r : ByteArray) (hn : at1 s 58 = n) (he : s.extract 0 n = ep) (hr : s.extract (n + 1) s.size = r) (he0 : ep.toList.isEmpty = false) (he9 : ep.size ≤ 9) (hd : cnt digB ep = ep.size) (hr60 : r.size ≤ 60)  (j : Nat) (hj : j < r.size) (hl : Lib.lastIndexByte r 45 = j) (hr0 : (r.extract (j + 1) r.size).toList.isEmpty = false) (hr1 : (r.extract 0 j).toList.isEmpty = true) (w : World) : Calls Tryd.prog 53 #[.string s] w (EvrPost w 30) := by
  have hsm : s.size ≤ maxLen := by unfold maxLen; omega
  have hem : ep.size ≤ maxLen := by unfold maxLen; omega
  have HC_ := Lib.hid hc
  clear hc
  have HN_ := Lib.hid hn
  clear hn
  have HE_ := Lib.hid he
  clear he
  have HR_ := Lib.hid hr
  clear hr
  have HD_ := Lib.hid hd
  clear hd
  have HL_ := Lib.hid hl
  clear hl
  go_enter Tryd.func53, Tryd.ntmps53
  go_wp2_with (first
    | (go_at_call 73; (with_reducible refine (count_ver s hsm _ HC_.out _).mono ?_); rintro e w' ⟨rfl, ⟨n1, rfl⟩⟩)
    | (go_at_call 14; (with_reducible refine (cut_at s 58 n ep r HN_.out hsm HE_.out HR_.out _).mono ?_); rintro e w' ⟨rfl, ⟨n2, rfl⟩⟩)
    | (go_at_call 73; (with_reducible refine (count_dig ep hem _ HD_.out _).mono ?_); rintro e w' ⟨rfl, ⟨n5, rfl⟩⟩)
    | (go_at_call 74; (with_reducible refine (lastByte r hr60 _ HL_.out _).mono ?_); rintro e w' ⟨rfl, ⟨n3, rfl⟩⟩))
  have q1 : (0 : Int) ≤ (j : Int) := by omega
  have q2 : (j : Int) ≤ (r.size : Int) := by omega
  have q3 : (0 : Int) ≤ (j : Int) + 1 := by omega
  have q4 : (j : Int) + 1 ≤ (r.size : Int) := by omega
  have q5 : ((j : Int) + 1).toNat = j + 1 := by omega
  have q6 : IntKind.i64.wrap ((j : Int) + 1) = (j : Int) + 1 := IntWalk.i64_in _ (by omega)
  go_region_held3 (fun _ => True) (trivial) (fail)
  all_goals clear q1 q2 q3 q4 q5 q6
  all_goals go_wp2_with (first
    | (go_at_call 73; (with_reducible refine (count_ver s hsm _ HC_.out _).mono ?_); rintro e w' ⟨rfl, ⟨n1, rfl⟩⟩)
    | (go_at_call 14; (with_reducible refine (cut_at s 58 n ep r HN_.out hsm HE_.out HR_.out _).mono ?_); rintro e w' ⟨rfl, ⟨n2, rfl⟩⟩)
    | (go_at_call 73; (with_reducible refine (count_dig ep hem _ HD_.out _).mono ?_); rintro e w' ⟨rfl, ⟨n5, rfl⟩⟩)
    | (go_at_call 74; (with_reducible refine (lastByte r hr60 _ HL_.out _).mono ?_); rintro e w' ⟨rfl, ⟨n3, rfl⟩⟩))
  refine bodyPost_ret (v := .tuple #[.agg #[.string ⟨#[]⟩, .string ⟨#[]⟩, .string ⟨#[]⟩], .int .i64 30]) (by simp [results, Tryd.results53, go_sem]) rfl (evr_end _ _ _ _ _ _ ?_)
  repeat (first | (with_reducible exact Below.refl _ _) | (with_reducible apply below_alloc) | (with_reducible apply pw_below_drewN) | (with_reducible apply below_drew1) | ((with_reducible refine below_set ?_ ?_); rotate_left; first | exact Nat.le_refl _ | exact Nat.le_add_right _ _))

set_option maxHeartbeats 2000000 in
theorem evr_cy2 (s : ByteArray) (h0 : s.toList.isEmpty = false) (hs : s.size ≤ 60) (hc : cnt verB s = s.size) (n : Nat) (ep r : ByteArray) (hn : at1 s 58 = n) (he : s.extract 0 n = ep) (hr : s.extract (n + 1) s.size = r) (he0 : ep.toList.isEmpty = false) (he9 : ep.size ≤ 9) (hd : cnt digB ep = ep.size) (hr60 : r.size ≤ 60)  (j : Nat) (hj : j < r.size) (hl : Lib.lastIndexByte r 45 = j) (hr0 : (r.extract (j + 1) r.size).toList.isEmpty = false) (hr1 : (r.extract 0 j).toList.isEmpty = false) (hx : decide (0 ≤ at1 r 58) = true) (w : World) : Calls Tryd.prog 53 #[.string s] w (EvrPost w 30) := by
  have hsm : s.size ≤ maxLen := by unfold maxLen; omega
  have hem : ep.size ≤ maxLen := by unfold maxLen; omega
  have HC_ := Lib.hid hc
  clear hc
  have HN_ := Lib.hid hn
  clear hn
  have HE_ := Lib.hid he
  clear he
  have HR_ := Lib.hid hr
  clear hr
  have HD_ := Lib.hid hd
  clear hd
  have HL_ := Lib.hid hl
  clear hl
  have HX_ := Lib.hid hx
  clear hx
  go_enter Tryd.func53, Tryd.ntmps53
  go_wp2_with (first
    | (go_at_call 73; (with_reducible refine (count_ver s hsm _ HC_.out _).mono ?_); rintro e w' ⟨rfl, ⟨n1, rfl⟩⟩)
    | (go_at_call 14; (with_reducible refine (cut_at s 58 n ep r HN_.out hsm HE_.out HR_.out _).mono ?_); rintro e w' ⟨rfl, ⟨n2, rfl⟩⟩)
    | (go_at_call 73; (with_reducible refine (count_dig ep hem _ HD_.out _).mono ?_); rintro e w' ⟨rfl, ⟨n5, rfl⟩⟩)
    | (go_at_call 74; (with_reducible refine (lastByte r hr60 _ HL_.out _).mono ?_); rintro e w' ⟨rfl, ⟨n3, rfl⟩⟩)
    | (go_at_call 75; (with_reducible refine (hasByte r 58 true HX_.out _).mono ?_); rintro e w' ⟨rfl, ⟨n4, rfl⟩⟩))
  have q1 : (0 : Int) ≤ (j : Int) := by omega
  have q2 : (j : Int) ≤ (r.size : Int) := by omega
  have q3 : (0 : Int) ≤ (j : Int) + 1 := by omega
  have q4 : (j : Int) + 1 ≤ (r.size : Int) := by omega
  have q5 : ((j : Int) + 1).toNat = j + 1 := by omega
  have q6 : IntKind.i64.wrap ((j : Int) + 1) = (j : Int) + 1 := IntWalk.i64_in _ (by omega)
  go_region_held3 (fun _ => True) (trivial) (fail)
  all_goals clear q1 q2 q3 q4 q5 q6
  all_goals go_wp2_with (first
    | (go_at_call 73; (with_reducible refine (count_ver s hsm _ HC_.out _).mono ?_); rintro e w' ⟨rfl, ⟨n1, rfl⟩⟩)
    | (go_at_call 14; (with_reducible refine (cut_at s 58 n ep r HN_.out hsm HE_.out HR_.out _).mono ?_); rintro e w' ⟨rfl, ⟨n2, rfl⟩⟩)
    | (go_at_call 73; (with_reducible refine (count_dig ep hem _ HD_.out _).mono ?_); rintro e w' ⟨rfl, ⟨n5, rfl⟩⟩)
    | (go_at_call 74; (with_reducible refine (lastByte r hr60 _ HL_.out _).mono ?_); rintro e w' ⟨rfl, ⟨n3, rfl⟩⟩)
    | (go_at_call 75; (with_reducible refine (hasByte r 58 true HX_.out _).mono ?_); rintro e w' ⟨rfl, ⟨n4, rfl⟩⟩))
  refine bodyPost_ret (v := .tuple #[.agg #[.string ⟨#[]⟩, .string ⟨#[]⟩, .string ⟨#[]⟩], .int .i64 30]) (by simp [results, Tryd.results53, go_sem]) rfl (evr_end _ _ _ _ _ _ ?_)
  repeat (first | (with_reducible exact Below.refl _ _) | (with_reducible apply below_alloc) | (with_reducible apply pw_below_drewN) | (with_reducible apply below_drew1) | ((with_reducible refine below_set ?_ ?_); rotate_left; first | exact Nat.le_refl _ | exact Nat.le_add_right _ _))

set_option maxHeartbeats 2000000 in
theorem evr_cy3 (s : ByteArray) (h0 : s.toList.isEmpty = false) (hs : s.size ≤ 60) (hc : cnt verB s = s.size) (n : Nat) (ep r : ByteArray) (hn : at1 s 58 = n) (he : s.extract 0 n = ep) (hr : s.extract (n + 1) s.size = r) (he0 : ep.toList.isEmpty = false) (he9 : ep.size ≤ 9) (hd : cnt digB ep = ep.size) (hr60 : r.size ≤ 60)  (j : Nat) (hj : j < r.size) (hl : Lib.lastIndexByte r 45 = j) (hr0 : (r.extract (j + 1) r.size).toList.isEmpty = false) (hr1 : (r.extract 0 j).toList.isEmpty = false) (hx : decide (0 ≤ at1 r 58) = false) (w : World) : Calls Tryd.prog 53 #[.string s] w (EvrPost w 0) := by
  have hsm : s.size ≤ maxLen := by unfold maxLen; omega
  have hem : ep.size ≤ maxLen := by unfold maxLen; omega
  have HC_ := Lib.hid hc
  clear hc
  have HN_ := Lib.hid hn
  clear hn
  have HE_ := Lib.hid he
  clear he
  have HR_ := Lib.hid hr
  clear hr
  have HD_ := Lib.hid hd
  clear hd
  have HL_ := Lib.hid hl
  clear hl
  have HX_ := Lib.hid hx
  clear hx
  go_enter Tryd.func53, Tryd.ntmps53
  go_wp2_with (first
    | (go_at_call 73; (with_reducible refine (count_ver s hsm _ HC_.out _).mono ?_); rintro e w' ⟨rfl, ⟨n1, rfl⟩⟩)
    | (go_at_call 14; (with_reducible refine (cut_at s 58 n ep r HN_.out hsm HE_.out HR_.out _).mono ?_); rintro e w' ⟨rfl, ⟨n2, rfl⟩⟩)
    | (go_at_call 73; (with_reducible refine (count_dig ep hem _ HD_.out _).mono ?_); rintro e w' ⟨rfl, ⟨n5, rfl⟩⟩)
    | (go_at_call 74; (with_reducible refine (lastByte r hr60 _ HL_.out _).mono ?_); rintro e w' ⟨rfl, ⟨n3, rfl⟩⟩)
    | (go_at_call 75; (with_reducible refine (hasByte r 58 false HX_.out _).mono ?_); rintro e w' ⟨rfl, ⟨n4, rfl⟩⟩))
  have q1 : (0 : Int) ≤ (j : Int) := by omega
  have q2 : (j : Int) ≤ (r.size : Int) := by omega
  have q3 : (0 : Int) ≤ (j : Int) + 1 := by omega
  have q4 : (j : Int) + 1 ≤ (r.size : Int) := by omega
  have q5 : ((j : Int) + 1).toNat = j + 1 := by omega
  have q6 : IntKind.i64.wrap ((j : Int) + 1) = (j : Int) + 1 := IntWalk.i64_in _ (by omega)
  go_region_held3 (fun _ => True) (trivial) (fail)
  all_goals clear q1 q2 q3 q4 q5 q6
  all_goals go_wp2_with (first
    | (go_at_call 73; (with_reducible refine (count_ver s hsm _ HC_.out _).mono ?_); rintro e w' ⟨rfl, ⟨n1, rfl⟩⟩)
    | (go_at_call 14; (with_reducible refine (cut_at s 58 n ep r HN_.out hsm HE_.out HR_.out _).mono ?_); rintro e w' ⟨rfl, ⟨n2, rfl⟩⟩)
    | (go_at_call 73; (with_reducible refine (count_dig ep hem _ HD_.out _).mono ?_); rintro e w' ⟨rfl, ⟨n5, rfl⟩⟩)
    | (go_at_call 74; (with_reducible refine (lastByte r hr60 _ HL_.out _).mono ?_); rintro e w' ⟨rfl, ⟨n3, rfl⟩⟩)
    | (go_at_call 75; (with_reducible refine (hasByte r 58 false HX_.out _).mono ?_); rintro e w' ⟨rfl, ⟨n4, rfl⟩⟩))
  refine bodyPost_ret (v := .tuple #[.agg #[.string ep, .string (r.extract 0 j), .string (r.extract (j + 1) r.size)], .int .i64 0]) (by simp [results, Tryd.results53, go_sem]) rfl (evr_end _ _ _ _ _ _ ?_)
  repeat (first | (with_reducible exact Below.refl _ _) | (with_reducible apply below_alloc) | (with_reducible apply pw_below_drewN) | (with_reducible apply below_drew1) | ((with_reducible refine below_set ?_ ?_); rotate_left; first | exact Nat.le_refl _ | exact Nat.le_add_right _ _))
end Go.Proofs.YtmclfdonoldlpaaDoor.Own
