/- When evr.Parse takes a text for a version: one contract over all ways. dep.Name answers at every text: the printed function is total at rounds enough. The closures of pool.Check: which runes may be; whether all of a text may. slices.IndexFunc, ContainsFunc over dependencies: a predicate that may lay blocks of its own. When a dependency's form is right: the plain function; the walk of dep.form's closure. The walk of dep.form at a name. -/
import Derived.Test.YtmclfdonoldlpaaDoorG1
import Derived.Test.YtmclfdonoldlpaaDoorG0
import Derived.Laws.EntriesVeiled
import Derived.Outline
namespace Go.Proofs.YtmclfdonoldlpaaDoor.Own
open Go.RowKit Go.Proofs.YtmclfdonoldlpaaDoorW.PrintWords Go.Proofs.YtmclfdonoldlpaaDoorW.PrintLast Go.Proofs.YtmclfdonoldlpaaDoorW.PrintMore Go.Proofs.YtmclfdonoldlpaaDoor.POwn
set_option linter.unusedVariables false
set_option linter.unusedSimpArgs false

/-- Is what stands behind an epoch, or alone, right? -/
def evrRest (r : ByteArray) : Bool :=
  (if Lib.lastIndexByte r 45 = -1 then !r.toList.isEmpty
   else !(r.extract ((Lib.lastIndexByte r 45).toNat + 1) r.size).toList.isEmpty && !(r.extract 0 (Lib.lastIndexByte r 45).toNat).toList.isEmpty) && !decide (0 ≤ at1 r 58)
/-- Is a text a version? -/
def evrOk (s : ByteArray) : Bool :=
  !s.toList.isEmpty && decide (s.size ≤ 60) && (cnt verB s == s.size) &&
    (if at1 s 58 = -1 then evrRest s
     else !(s.extract 0 (at1 s 58).toNat).toList.isEmpty && decide ((s.extract 0 (at1 s 58).toNat).size ≤ 9) && (cnt digB (s.extract 0 (at1 s 58).toNat) == (s.extract 0 (at1 s 58).toNat).size) && evrRest (s.extract ((at1 s 58).toNat + 1) s.size))
def evrErr (s : ByteArray) : Int := if evrOk s then 0 else 30

theorem lastIdx_range (s : ByteArray) (c : Int) : ∀ n, -1 ≤ Lib.lastIdx s c n ∧ Lib.lastIdx s c n < n := by
  intro n
  induction n with
  | zero => simp [Lib.lastIdx]
  | succ n ih =>
    unfold Lib.lastIdx
    split <;> omega
theorem lastIndex_range (s : ByteArray) (c : Int) : -1 ≤ Lib.lastIndexByte s c ∧ Lib.lastIndexByte s c < s.size := lastIdx_range s c s.size

theorem evr_calls (s : ByteArray) (w : World) : Calls Tryd.prog 53 #[.string s] w (EvrPost w (evrErr s)) := by
  rcases h0 : s.toList.isEmpty with _ | _
  case true => rw [show evrErr s = 30 by simp [evrErr, evrOk, h0]]; exact evr_a1 s h0 w
  by_cases hs : s.size ≤ 60
  case neg => rw [show evrErr s = 30 by simp [evrErr, evrOk, h0, hs]]; exact evr_a2 s h0 (by omega) w
  by_cases hc : cnt verB s = s.size
  case neg => rw [show evrErr s = 30 by simp [evrErr, evrOk, h0, hs, hc]]; exact evr_a3 s h0 hs _ rfl (by rw [bne_iff_ne]; omega) w
  have hat := at1_lt s 58
  by_cases hn : at1 s 58 = -1
  · have hx : decide (0 ≤ at1 s 58) = false := by rw [hn]; rfl
    have e1 : evrErr s = if evrRest s then 0 else 30 := by simp [evrErr, evrOk, h0, hs, hc, hn]
    rw [e1]
    have hr := lastIndex_range s 45
    by_cases hl : Lib.lastIndexByte s 45 = -1
    · rw [show evrRest s = true by simp [evrRest, hl, h0, hx]]
      exact evr_bn2 s h0 hs hc hn hl h0 hx w
    · obtain ⟨j, hj⟩ : ∃ j : Nat, Lib.lastIndexByte s 45 = j := ⟨(Lib.lastIndexByte s 45).toNat, by omega⟩
      rcases h1 : (s.extract (j + 1) s.size).toList.isEmpty with _ | _
      · rcases h2 : (s.extract 0 j).toList.isEmpty with _ | _
        · rw [show evrRest s = true by simp [evrRest, hj, h1, h2, hx]]
          exact evr_by3 s h0 hs hc hn j (by omega) hj h1 h2 hx w
        · rw [show evrRest s = false by simp [evrRest, hj, h1, h2, hx]]
          exact evr_by1 s h0 hs hc hn j (by omega) hj h1 h2 w
      · rw [show evrRest s = false by simp [evrRest, hj, h1]]
        exact evr_by0 s h0 hs hc hn j (by omega) hj h1 w
  · obtain ⟨n, hn'⟩ : ∃ n : Nat, at1 s 58 = n := ⟨(at1 s 58).toNat, by omega⟩
    obtain ⟨ep, he⟩ : ∃ ep, s.extract 0 n = ep := ⟨_, rfl⟩
    obtain ⟨r, hr⟩ : ∃ r, s.extract (n + 1) s.size = r := ⟨_, rfl⟩
    have e0 : evrErr s = if !ep.toList.isEmpty && decide (ep.size ≤ 9) && (cnt digB ep == ep.size) && evrRest r then 0 else 30 := by
      simp [evrErr, evrOk, h0, hs, hc, hn', he, hr, show ((n : Int) = -1) = False from eq_false (by omega)]
    have hr60 : r.size ≤ 60 := by rw [← hr]; simp; try omega
    rcases he0 : ep.toList.isEmpty with _ | _
    case true => rw [show evrErr s = 30 by rw [e0]; simp [he0]]; exact evr_c1 s h0 hs hc n ep r hn' he hr he0 w
    by_cases he9 : ep.size ≤ 9
    case neg => rw [show evrErr s = 30 by rw [e0]; simp [he9]]; exact evr_c2 s h0 hs hc n ep r hn' he hr he0 (by omega) w
    by_cases hd : cnt digB ep = ep.size
    case neg => rw [show evrErr s = 30 by rw [e0]; simp [hd]]; exact evr_c3 s h0 hs hc n ep r hn' he hr he0 he9 _ rfl (by rw [bne_iff_ne]; omega) w
    rw [show evrErr s = if evrRest r then 0 else 30 by rw [e0]; simp [he0, he9, hd]]
    have hrr := lastIndex_range r 45
    by_cases hl : Lib.lastIndexByte r 45 = -1
    · rcases hr0 : r.toList.isEmpty with _ | _
      · rcases hx : decide (0 ≤ at1 r 58) with _ | _
        · rw [show evrRest r = true by simp only [evrRest, hx, hl, hr0]; rfl]
          exact evr_cn2 s h0 hs hc n ep r hn' he hr he0 he9 hd hr60 hl hr0 hx w
        · rw [show evrRest r = false by simp only [evrRest, hx, hl, hr0]; rfl]
          exact evr_cn1 s h0 hs hc n ep r hn' he hr he0 he9 hd hr60 hl hr0 hx w
      · rw [show evrRest r = false by simp only [evrRest, hl, hr0]; simp]
        exact evr_cn0 s h0 hs hc n ep r hn' he hr he0 he9 hd hr60 hl hr0 w
    · obtain ⟨j, hj⟩ : ∃ j : Nat, Lib.lastIndexByte r 45 = j := ⟨(Lib.lastIndexByte r 45).toNat, by omega⟩
      rcases h1 : (r.extract (j + 1) r.size).toList.isEmpty with _ | _
      · rcases h2 : (r.extract 0 j).toList.isEmpty with _ | _
        · rcases hx : decide (0 ≤ at1 r 58) with _ | _
          · rw [show evrRest r = true by simp only [evrRest, hj, hx, Int.toNat_natCast, h1, h2]; simp]
            exact evr_cy3 s h0 hs hc n ep r hn' he hr he0 he9 hd hr60 j (by omega) hj h1 h2 hx w
          · rw [show evrRest r = false by simp only [evrRest, hj, hx, Int.toNat_natCast, h1, h2]; simp]
            exact evr_cy2 s h0 hs hc n ep r hn' he hr he0 he9 hd hr60 j (by omega) hj h1 h2 hx w
        · rw [show evrRest r = false by simp only [evrRest, hj, Int.toNat_natCast, h1, h2]; simp]
          exact evr_cy1 s h0 hs hc n ep r hn' he hr he0 he9 hd hr60 j (by omega) hj h1 h2 w
      · rw [show evrRest r = false by simp only [evrRest, hj, Int.toNat_natCast, h1]; simp]
        exact evr_cy0 s h0 hs hc n ep r hn' he hr he0 he9 hd hr60 j (by omega) hj h1 w
end Go.Proofs.YtmclfdonoldlpaaDoor.Own

namespace Go.Proofs.YtmclfdonoldlpaaDoor.Own
open Go.RowKit Go.Proofs.YtmclfdonoldlpaaDoorW.PrintWords Go.Proofs.YtmclfdonoldlpaaDoorW.PrintLast Go.Proofs.YtmclfdonoldlpaaDoorW.PrintMore Go.Proofs.YtmclfdonoldlpaaDoor.POwn
set_option linter.unusedVariables false
set_option linter.unusedSimpArgs false

theorem idx_total (xs : List ByteArray) (x : ByteArray) (hx : xs.length ≤ 1000) : ∀ (d k : Nat) (i : Nat), i ≤ xs.length → xs.length - i = d → d < k → ∃ r, slices_Index_string_string.l0 k xs x (xs.length : Int) (i : Int) = some r := by
  intro d
  induction d with
  | zero =>
    intro k i h0 hd hk
    obtain ⟨k, rfl⟩ : ∃ m, k = m + 1 := ⟨k - 1, by omega⟩
    exact ⟨-1, by simp only [slices_Index_string_string.l0]; rw [if_neg (by omega)]⟩
  | succ d ih =>
    intro k i h0 hd hk
    obtain ⟨k, rfl⟩ : ∃ m, k = m + 1 := ⟨k - 1, by omega⟩
    simp only [slices_Index_string_string.l0]
    rw [if_pos (by omega), if_pos (by omega), if_pos (by omega)]
    split
    · exact ⟨_, rfl⟩
    · rw [show wrap64 ((i : Int) + 1) = ((i + 1 : Nat) : Int) by unfold wrap64; omega]
      exact ih k (i + 1) (by omega) (by omega) (by omega)
theorem contains_total (k : Nat) (xs : List ByteArray) (x : ByteArray) (hx : xs.length ≤ 1000) (hk : xs.length < k) : ∃ r, slices_Contains_string_string.f k xs x = some r := by
  obtain ⟨r, h⟩ := idx_total xs x hx xs.length k 0 (by omega) (by omega) hk
  exact ⟨decide (r ≥ 0), by unfold slices_Contains_string_string.f slices_Index_string_string.f; rw [show (0 : Int) = ((0 : Nat) : Int) from rfl, h]; rfl⟩

theorem name_l0_total (s : ByteArray) (hs : s.size ≤ 60) : ∀ (d k : Nat) (i : Nat) (o : Int), -100 ≤ o - i → o ≤ i → 0 ≤ o → i ≤ s.size → s.size - i = d → 2 * d < k → ∃ r, dep_Name.l0 k s o (s.size : Int) (i : Int) = some r := by
  intro d
  induction d with
  | zero =>
    intro k i o ha hb hc h0 hd hk
    obtain ⟨k, rfl⟩ : ∃ m, k = m + 1 := ⟨k - 1, by omega⟩
    exact ⟨_, by simp only [dep_Name.l0]; rw [if_neg (by omega)]⟩
  | succ d ih =>
    intro k i o ha hb hc h0 hd hk
    obtain ⟨k, rfl⟩ : ∃ m, k = m + 1 + 1 := ⟨k - 2, by omega⟩
    have hw : wrap64 ((i : Int) + 1) = ((i + 1 : Nat) : Int) := by unfold wrap64; omega
    have hj : ∀ (o' : Int) (c : Int) (b : Bool), o' = o → ∃ r, dep_Name.j2 (k + 1) s o' c (s.size : Int) (i : Int) b = some r := by
      intro o' c b ho
      subst ho
      simp only [dep_Name.j2]
      rw [hw]
      have w1 : wrap64 (o' + 1) = o' + 1 := by unfold wrap64; omega
      have w2 : wrap64 (o' - 1) = o' - 1 := by unfold wrap64; omega
      rw [w1, w2]
      split
      · exact ⟨_, rfl⟩
      · split
        · split
          · exact ⟨_, rfl⟩
          · exact ih k (i + 1) _ (by omega) (by omega) (by omega) (by omega) (by omega) (by omega)
        · split
          · split
            · exact ⟨_, rfl⟩
            · exact ih k (i + 1) _ (by omega) (by omega) (by omega) (by omega) (by omega) (by omega)
          · split
            · exact ⟨_, rfl⟩
            · exact ih k (i + 1) _ (by omega) (by omega) (by omega) (by omega) (by omega) (by omega)
    simp only [dep_Name.l0]
    rw [if_pos (by omega), if_pos (by omega), if_pos (by omega)]
    split
    · exact hj o _ _ rfl
    · exact hj o _ _ rfl

theorem name_total (s : ByteArray) : ∃ r, dep_Name.f (2 * s.size + 20) s = some r := by
  have hj : s.size ≤ 60 → ∀ b, ∃ r, dep_Name.j0 (2 * s.size + 20) s b = some r := by
    intro hs b
    rw [show 2 * s.size + 20 = (2 * s.size + 19) + 1 from rfl]
    simp only [dep_Name.j0]
    split
    · exact ⟨_, rfl⟩
    · exact name_l0_total s hs s.size _ 0 0 (by omega) (by omega) (by omega) (by omega) (by omega) (by omega)
  have hj1 : ∃ r, dep_Name.j0 (2 * s.size + 20) s true = some r := by
    rw [show 2 * s.size + 20 = (2 * s.size + 19) + 1 from rfl]
    simp only [dep_Name.j0]
    exact ⟨false, by simp⟩
  unfold dep_Name.f
  split
  · exact hj1
  · rename_i he
    split
    · exact hj1
    · rename_i h60
      have hs : s.size ≤ 60 := by omega
      have h0 : 0 < s.size := by
        rcases Nat.eq_zero_or_pos s.size with h | h
        · exfalso
          apply he
          have : s.toList.length = s.size := by rw [ByteArray.toList_eq]; simp
          exact List.eq_nil_of_length_eq_zero (by omega)
        · exact h
      rw [if_pos (by omega)]
      split
      · exact hj1
      · split
        · exact hj1
        · split
          · exact hj1
          · unfold dep_signs.f dep_words.f
            simp only [Option.bind_some]
            obtain ⟨r1, h1⟩ := contains_total (2 * s.size + 20) [(⟨#[]⟩ : ByteArray), (⟨#[60]⟩ : ByteArray), (⟨#[61]⟩ : ByteArray), (⟨#[60, 61]⟩ : ByteArray), (⟨#[62]⟩ : ByteArray), (⟨#[60, 62]⟩ : ByteArray), (⟨#[62, 61]⟩ : ByteArray), (⟨#[60, 61, 62]⟩ : ByteArray)] s (by simp) (by simp)
            rw [h1]
            simp only [Option.bind_some]
            split
            · exact hj1
            · obtain ⟨r2, h2⟩ := contains_total (2 * s.size + 20) [(⟨#[]⟩ : ByteArray), (⟨#[]⟩ : ByteArray), (⟨#[97, 110, 100]⟩ : ByteArray), (⟨#[111, 114]⟩ : ByteArray), (⟨#[105, 102]⟩ : ByteArray), (⟨#[119, 105, 116, 104]⟩ : ByteArray), (⟨#[119, 105, 116, 104, 111, 117, 116]⟩ : ByteArray)] s (by simp) (by simp)
              rw [h2]
              simp only [Option.bind_some]
              exact hj hs r2

/-- May a text be a name? -/
def nameB (s : ByteArray) : Bool := (dep_Name.f (2 * s.size + 20) s).getD false
theorem name_calls (s : ByteArray) (b : Bool) (h : nameB s = b) (w : World) : Calls Tryd.prog 54 #[.string s] w fun e w' => e = .returned (.bool b) ∧ Below w.heap.size w w' := by
  obtain ⟨r, hr⟩ := name_total s
  have : b = r := by rw [← h, nameB, hr]; rfl
  subst this
  exact dep_Name.calls _ s b w hr
end Go.Proofs.YtmclfdonoldlpaaDoor.Own

namespace Go.Proofs.YtmclfdonoldlpaaDoor.Own
open Go.RowKit Go.Shelf Go.Lib Go.Proofs.YtmclfdonoldlpaaDoorW.PrintWords Go.Proofs.YtmclfdonoldlpaaDoorW.PrintLast Go.Proofs.YtmclfdonoldlpaaDoorW.PrintMore Go.Proofs.YtmclfdonoldlpaaDoor.POwn
set_option linter.unusedVariables false
set_option linter.unusedSimpArgs false

def smallR (r : Nat) : Bool := (decide (97 ≤ r) && decide (r ≤ 122)) || (decide (48 ≤ r) && decide (r ≤ 57)) || decide (r = 95)
def shownR (r : Nat) : Bool := decide (32 ≤ r) && decide (r ≤ 126)

theorem small_at (w : World) : PredAt Tryd.prog 48 #[] encR smallR w := fun W r _ => by
  unfold FnGives smallR
  have z1 : (97 : Int) ≤ (r : Int) ↔ 97 ≤ r := by omega
  have z2 : (r : Int) ≤ 122 ↔ r ≤ 122 := by omega
  have z3 : (48 : Int) ≤ (r : Int) ↔ 48 ≤ r := by omega
  have z4 : (r : Int) ≤ 57 ↔ r ≤ 57 := by omega
  by_cases h1 : 97 ≤ r <;> by_cases h2 : r ≤ 122 <;> by_cases h3 : 48 ≤ r <;> by_cases h4 : r ≤ 57 <;> by_cases h5 : r = 95
  all_goals first
    | (exfalso; omega)
    | (go_enter Tryd.func48, Tryd.ntmps48
       go_wp2
       all_goals first | (exfalso; omega) | (go_ret; refine ⟨?_, 0, rfl⟩; first | (simp [h1, h2, h3, h4, h5]; done) | (simp [h1, h2, h3, h4, h5]; omega)))

theorem shown_at (w : World) : PredAt Tryd.prog 49 #[] encR shownR w := fun W r _ => by
  unfold FnGives shownR
  have z1 : (32 : Int) ≤ (r : Int) ↔ 32 ≤ r := by omega
  have z2 : (r : Int) ≤ 126 ↔ r ≤ 126 := by omega
  by_cases h1 : 32 ≤ r <;> by_cases h2 : r ≤ 126
  all_goals first
    | (exfalso; omega)
    | (go_enter Tryd.func49, Tryd.ntmps49
       go_wp2
       all_goals first | (exfalso; omega) | (go_ret; exact ⟨by simp [h1, h2], 0, rfl⟩))

/-- The closure that turns a predicate round: it is captured in a cell. -/
theorem not_at (g : Nat) (p : Nat → Bool) (eg : ∀ args w, (callFunc g args).run Tryd.prog w = .ok (.enter g args) w) (w : World) (hp : PredAt Tryd.prog g #[] encR p w) (B : Nat) (hB : B < w.heap.size) (hc : w.cell? ⟨B, 0, none⟩ = some (.func (.func g) #[] #[])) :
    PredAt Tryd.prog 52 #[.pointer (some ⟨B, 0, none⟩)] encR (fun r => !p r) w := fun W r hb => by
  have hc' : W.cell? ⟨B, 0, none⟩ = some (.func (.func g) #[] #[]) := (hb.cell (p := ⟨B, 0, none⟩) hB).trans hc
  have hq : Calls Tryd.prog g #[.int .i32 r] W fun e w' => e = .returned (.bool (p r)) ∧ ∃ q, w' = W.drewN q := hp W r hb
  clear hp hb hc
  unfold FnGives
  dsimp only
  generalize p r = b at *
  go_enter Tryd.func52, Tryd.ntmps52
  go_wp2_with (go_at_fn g; refine hq.mono ?_; rintro e w' ⟨rfl, n1, rfl⟩)
  go_ret
  exact ⟨rfl, _, rfl⟩

/-- Has a text none but such runes, and not too many bytes? -/
def allR (p : Nat → Bool) (s : ByteArray) (most : Int) : Bool := decide ((s.size : Int) ≤ most) && decide (Lib.idxFunc (fun r => !p r) true s < 0)

set_option maxHeartbeats 1000000 in
theorem all_calls (g : Nat) (p : Nat → Bool) (eg : ∀ args w, (callFunc g args).run Tryd.prog w = .ok (.enter g args) w) (hp : ∀ w, PredAt Tryd.prog g #[] encR p w) (s : ByteArray) (most : Int) (b : Bool) (hb : allR p s most = b) (w : World) :
    Calls Tryd.prog 50 #[.string s, .int .i64 most, .func (.func g) #[] #[]] w fun e w' => e = .returned (.bool b) ∧ Below w.heap.size w w' := by
  subst hb
  have hC := fun (W : World) (hB : w.heap.size < W.heap.size) (hc : W.cell? ⟨w.heap.size, 0, none⟩ = some (.func (.func g) #[] #[])) =>
    Tryd.strings_IndexFunc 52 #[.pointer (some ⟨w.heap.size, 0, none⟩)] (fun _ _ => by kernel_rfl) (fun r => !p r) s W (not_at g p eg W (hp W) w.heap.size hB hc)
  have HC := Lib.hid hC
  clear hC
  unfold allR
  generalize Lib.idxFunc (fun r => !p r) true s = i at *
  by_cases h : (s.size : Int) ≤ most
  · go_enter Tryd.func50, Tryd.ntmps50
    go_wp2_with (go_at_call 51; refine (HC.out _ (by simp) (by simp [go_sem])).mono ?_; rintro e w' ⟨rfl, hb⟩)
    go_ret
    exact ⟨by simp [h], below_then (below_alloc (Below.refl _ _) _) (by simp) hb⟩
  · have h' := h
    go_enter Tryd.func50, Tryd.ntmps50
    go_wp2
    go_ret
    exact ⟨by rw [decide_eq_false (show ¬ (s.size : Int) ≤ most by omega)]; rfl, (Below.refl _ _).alloc (Nat.le_refl _) _⟩
end Go.Proofs.YtmclfdonoldlpaaDoor.Own

namespace Go.Proofs.YtmclfdonoldlpaaDoor.Own
open Go.RowKit Go.Proofs.YtmclfdonoldlpaaDoorW.PrintWords Go.Proofs.YtmclfdonoldlpaaDoorW.PrintLast Go.Proofs.YtmclfdonoldlpaaDoorW.PrintMore Go.Proofs.YtmclfdonoldlpaaDoor.POwn
set_option linter.unusedVariables false
set_option linter.unusedSimpArgs false

/-- A dependency as a value: its list is read in a world. -/
def DepV (W : World) (x : S36) (v : Value) : Prop := ∃ A c, v = .agg #[.int .i64 x.f0, .string x.f1, .int .i64 x.f2, .string x.f3, .slice A x.f4.length c] ∧ x.f4.length ≤ c ∧ k36.C W A x.f4.length x.f4
theorem DepV.below {W W1 : World} {x : S36} {v : Value} (h : DepV W x v) (hb : Below W.heap.size W W1) : DepV W1 x v := by
  obtain ⟨A, c, e, hl, hc⟩ := h
  exact ⟨A, c, e, hl, Kd.C_below hc hb⟩
/-- The cells of a list's element i. -/
theorem dep_at {w : World} {A : Option Addr} {xs : List S36} (h : k36.C w A xs.length xs) (i : Nat) (x : S36) (hi : xs[i]? = some x) : ∃ ad A4 c4, A = some ad ∧ w.cell? (ad.add (i * 5)) = some (.int .i64 x.f0) ∧ w.cell? ⟨(ad.add (i * 5)).block, (ad.add (i * 5)).off + 1, none⟩ = some (.string x.f1) ∧ w.cell? ⟨(ad.add (i * 5)).block, (ad.add (i * 5)).off + 2, none⟩ = some (.int .i64 x.f2) ∧ w.cell? ⟨(ad.add (i * 5)).block, (ad.add (i * 5)).off + 3, none⟩ = some (.string x.f3) ∧ w.cell? ⟨(ad.add (i * 5)).block, (ad.add (i * 5)).off + 4, none⟩ = some (.slice A4 x.f4.length c4) ∧ x.f4.length ≤ c4 ∧ k36.C w A4 x.f4.length x.f4 := by
  have hlt : i < xs.length := (List.getElem?_eq_some_iff.1 hi).1
  have hx : rd_T36 xs (i : Int) = x := by
    unfold rd_T36
    rw [Int.toNat_natCast, List.getD_eq_getElem?_getD, hi]; rfl
  have := at_T36 h (i : Int) (by omega) (by omega)
  rw [hx] at this
  simpa using this

/-- The first place of which p holds, from i on; -1: none. -/
def firstI {α : Type} (p : α → Bool) : List α → Nat → Int
  | [], _ => -1
  | x :: r, i => if p x then i else firstI p r (i + 1)
theorem firstI_drop {α : Type} (p : α → Bool) (xs : List α) (k : Nat) (x : α) (hx : xs[k]? = some x) : firstI p (xs.drop k) k = if p x then (k : Int) else firstI p (xs.drop (k + 1)) (k + 1) := by
  have hlt : k < xs.length := (List.getElem?_eq_some_iff.1 hx).1
  rw [List.drop_eq_getElem_cons hlt]
  have : xs[k] = x := (List.getElem?_eq_some_iff.1 hx).2
  rw [this]; rfl
theorem firstI_any {α : Type} (p : α → Bool) : ∀ (xs : List α) (i : Nat), decide (0 ≤ firstI p xs i) = xs.any p
  | [], i => by simp [firstI]
  | x :: r, i => by
    unfold firstI
    rcases h : p x with _ | _
    · simp [h]
      rw [← firstI_any p r (i + 1)]
    · simp [h]

set_option maxHeartbeats 1000000 in
theorem idxDep_calls (g B : Nat) (eg : ∀ args w, (callFunc g args).run Tryd.prog w = .ok (.enter g args) w) (p : S36 → Bool) (xs : List S36) (A : Option Addr) (c : Nat) (w : World)
    (hr : k36.C w A xs.length xs) (hc : xs.length ≤ c)
    (hp : ∀ (x : S36) (v : Value) (W : World), x ∈ xs → Below w.heap.size w W → DepV W x v → Calls Tryd.prog g #[v, .pointer (some ⟨B, 0, none⟩)] W fun e w' => e = .returned (.bool (p x)) ∧ Below W.heap.size W w') :
    Calls Tryd.prog 99 #[.slice A xs.length c, .func (.func g) #[] #[.pointer (some ⟨B, 0, none⟩)]] w fun e w' => e = .returned (.int .i64 (firstI p xs 0)) ∧ Below w.heap.size w w' := by
  have hlen : xs.length ≤ 9223372036854775807 := hr.2.1
  have HR := Lib.hid hr
  have HP := Lib.hid hp
  clear hr hp
  go_enter Tryd.func99, Tryd.ntmps99
  go_wp2
  go_loopw [8] (fun i wr => ∃ k : Nat, k ≤ xs.length ∧ i = .int .i64 k ∧ Hid (firstI p xs 0 = firstI p (xs.drop k) k) ∧ Below w.heap.size w wr) (fun i _ => xs.length - (intOf i).toNat)
  case atStart => exact ⟨0, Nat.zero_le _, rfl, Lib.hid rfl, Below.refl _ _⟩
  case round =>
    obtain ⟨k, hk, rfl, hf, hd⟩ := hrel
    by_cases hlt : k < xs.length
    · obtain ⟨x, hx⟩ : ∃ x, xs[k]? = some x := ⟨_, List.getElem?_eq_getElem hlt⟩
      obtain ⟨ad, A4, c4, rfl, q0, q1, q2, q3, q4, l4, g4⟩ := dep_at HR.out k x hx
      have hv : DepV wr x (.agg #[.int .i64 x.f0, .string x.f1, .int .i64 x.f2, .string x.f3, .slice A4 x.f4.length c4]) := ⟨A4, c4, rfl, l4, Kd.C_below g4 hd⟩
      have hcall := HP.out x _ wr (List.mem_of_getElem? hx) hd hv
      have HF := Lib.hid (hf.out.trans (firstI_drop p xs k x hx))
      replace q0 := (hd.cell (World.block_lt_of_cell? w _ q0)).trans q0
      replace q1 := (hd.cell (World.block_lt_of_cell? w _ q1)).trans q1
      replace q2 := (hd.cell (World.block_lt_of_cell? w _ q2)).trans q2
      replace q3 := (hd.cell (World.block_lt_of_cell? w _ q3)).trans q3
      replace q4 := (hd.cell (World.block_lt_of_cell? w _ q4)).trans q4
      have HD := Lib.hid hd
      clear hx hv g4 hf hd
      rcases hpx : p x with _ | _
      · rw [hpx] at hcall
        have HF' := Lib.hid (show firstI p xs 0 = firstI p (xs.drop (k + 1)) (k + 1) by rw [HF.out, hpx]; rfl)
        clear hpx HF
        go_wp2_with (go_at_fn g; refine hcall.mono ?_; rintro e w' ⟨rfl, hb⟩)
        go_roundw
        case rel => exact ⟨k + 1, by omega, by go_num, HF', below_then HD.out HD.out.size hb⟩
        case measure => simp [intOf]; omega
      · rw [hpx] at hcall
        have HF' := Lib.hid (show firstI p xs 0 = k by rw [HF.out, hpx]; rfl)
        clear hpx HF
        go_wp2_with (go_at_fn g; refine hcall.mono ?_; rintro e w' ⟨rfl, hb⟩)
        go_ret
        exact ⟨by rw [HF'.out]; rfl, below_then HD.out HD.out.size hb⟩
    · have HF' := Lib.hid (show firstI p xs 0 = -1 by rw [hf.out, List.drop_eq_nil_of_le (by omega)]; rfl)
      go_wp2
      go_ret
      exact ⟨by rw [HF'.out]; rfl, hd⟩

theorem hasDep_calls (g B : Nat) (eg : ∀ args w, (callFunc g args).run Tryd.prog w = .ok (.enter g args) w) (p : S36 → Bool) (xs : List S36) (A : Option Addr) (c : Nat) (w : World)
    (hr : k36.C w A xs.length xs) (hc : xs.length ≤ c)
    (hp : ∀ (x : S36) (v : Value) (W : World), x ∈ xs → Below w.heap.size w W → DepV W x v → Calls Tryd.prog g #[v, .pointer (some ⟨B, 0, none⟩)] W fun e w' => e = .returned (.bool (p x)) ∧ Below W.heap.size W w') :
    Calls Tryd.prog 97 #[.slice A xs.length c, .func (.func g) #[] #[.pointer (some ⟨B, 0, none⟩)]] w fun e w' => e = .returned (.bool (xs.any p)) ∧ Below w.heap.size w w' := by
  have h := idxDep_calls g B eg p xs A c w hr hc hp
  rw [← firstI_any p xs 0]
  generalize firstI p xs 0 = i at *
  have H := Lib.hid h
  clear h hp hr
  go_enter Tryd.func97, Tryd.ntmps97
  go_wp2_with (go_at_call 99; refine H.out.mono ?_; rintro e w' ⟨rfl, hb⟩)
  go_ret
  exact ⟨rfl, hb⟩
end Go.Proofs.YtmclfdonoldlpaaDoor.Own

namespace Go.Proofs.YtmclfdonoldlpaaDoor.Own
open Go.RowKit Go.Proofs.YtmclfdonoldlpaaDoorW.PrintWords Go.Proofs.YtmclfdonoldlpaaDoorW.PrintLast Go.Proofs.YtmclfdonoldlpaaDoorW.PrintMore Go.Proofs.YtmclfdonoldlpaaDoor.POwn
set_option linter.unusedVariables false
set_option linter.unusedSimpArgs false

def plainB (k : Int) : Bool := k == 1 || k == 5 || k == 6
/-- How many parts a kind may have; 0: whatever. -/
def mostI (k : Int) : Int := if k = 4 then 3 else if k = 6 then 2 else 0
/-- Is a name's form right? -/
def leafB (n : ByteArray) (o : Int) (v : ByteArray) (len : Nat) : Bool := nameB n && (len == 0) && ((decide (o = 0) && v.toList.isEmpty) || (decide (1 ≤ o) && decide (o ≤ 7) && evrOk v))
/-- Is a node's own form right? -/
def nodeB (k : Int) (n : ByteArray) (o : Int) (v : ByteArray) (len : Nat) : Bool := !(decide (k < 2) || decide (6 < k) || !n.toList.isEmpty || decide (o ≠ 0) || !v.toList.isEmpty || decide (len < 2) || (decide (0 < mostI k) && decide (mostI k < len)))
mutual
def formB : S36 → Bool
  | ⟨k, n, o, v, l⟩ => if k = 1 then leafB n o v l.length else nodeB k n o v l.length && formL k l
def formL (k : Int) : List S36 → Bool
  | [] => true
  | a :: r => !((decide (5 ≤ k) && !plainB a.f0) || !formB a) && formL k r
end
def badB (k : Int) (x : S36) : Bool := (decide (5 ≤ k) && !plainB x.f0) || !formB x
theorem formL_any (k : Int) : ∀ l, formL k l = !l.any (badB k)
  | [] => by simp [formL]
  | a :: r => by rw [formL, formL_any k r, List.any_cons, badB]; simp
/-- The kinds are numbers of 64 bits. -/
def wfI (k : Int) : Prop := -9223372036854775808 ≤ k ∧ k ≤ 9223372036854775807
mutual
def wfD : S36 → Prop
  | ⟨k, n, o, v, l⟩ => wfI k ∧ wfL l
def wfL : List S36 → Prop
  | [] => True
  | a :: r => wfD a ∧ wfL r
end
theorem wfL_mem : ∀ {l : List S36}, wfL l → ∀ x ∈ l, wfD x
  | [], _, x, h => by simp at h
  | a :: r, hw, x, h => by
    rw [wfL] at hw
    rcases List.mem_cons.1 h with rfl | h
    · exact hw.1
    · exact wfL_mem hw.2 x h
/-- dep.form answers so. -/
def FormC (x : S36) : Prop := wfD x → ∀ (v : Value) (W : World), DepV W x v → Calls Tryd.prog 93 #[v] W fun e w' => e = .returned (.bool (formB x)) ∧ Below W.heap.size W w'

set_option maxHeartbeats 1000000 in
theorem form1_calls (k : Int) (x : S36) (v : Value) (W : World) (B : Nat) (hB : B < W.heap.size) (hk : W.cell? ⟨B, 0, none⟩ = some (.int .i64 k)) (hv : DepV W x v) (hw : wfD x) (hf : FormC x) :
    Calls Tryd.prog 98 #[v, .pointer (some ⟨B, 0, none⟩)] W fun e w' => e = .returned (.bool (badB k x)) ∧ Below W.heap.size W w' := by
  obtain ⟨A, c, rfl, hl, hc⟩ := hv
  have hfc := fun W1 (hb : Below W.heap.size W W1) => hf hw _ W1 ⟨A, c, rfl, hl, Kd.C_below hc hb⟩
  have HF := Lib.hid hfc
  clear hfc hf hc hl hw
  unfold badB
  generalize formB x = b at *
  have n1 : ¬ B = W.heap.size := by omega
  have n2 : ¬ W.heap.size = B := by omega
  by_cases h5 : 5 ≤ k
  · rcases hp : plainB x.f0 with _ | _
    · have e1 : (x.f0 == 1) = false := by rcases h : x.f0 == 1 with _ | _; rfl; simp [plainB, h] at hp
      have e5 : (x.f0 == 5) = false := by rcases h : x.f0 == 5 with _ | _; rfl; simp [plainB, h] at hp
      have e6 : (x.f0 == 6) = false := by rcases h : x.f0 == 6 with _ | _; rfl; simp [plainB, h] at hp
      clear hp
      go_enter Tryd.func98, Tryd.ntmps98
      go_wp2
      go_ret
      exact ⟨by simp [h5], (Below.refl _ _).alloc (Nat.le_refl _) _⟩
    · have hpp : x.f0 = 1 ∨ x.f0 = 5 ∨ x.f0 = 6 := by simpa [plainB, or_assoc] using hp
      clear hp
      generalize x.f0 = f0 at *
      rcases hpp with rfl | rfl | rfl
      all_goals
        go_enter Tryd.func98, Tryd.ntmps98
        go_wp2_with (go_at_call 93; refine (HF.out _ (below_alloc (Below.refl _ _) _)).mono ?_; rintro e w' ⟨rfl, hb⟩)
        go_ret
        exact ⟨by simp, below_then (below_alloc (Below.refl _ _) _) (by simp) hb⟩
  · have hd : decide (5 ≤ k) = false := decide_eq_false h5
    rw [hd]
    have Hd := Lib.hid hd
    clear hd
    have cases1 : x.f0 = 1 ∨ x.f0 = 5 ∨ x.f0 = 6 ∨ ((x.f0 == 1) = false ∧ (x.f0 == 5) = false ∧ (x.f0 == 6) = false) := by
      by_cases a1 : x.f0 = 1
      · exact .inl a1
      · by_cases a5 : x.f0 = 5
        · exact .inr (.inl a5)
        · by_cases a6 : x.f0 = 6
          · exact .inr (.inr (.inl a6))
          · exact .inr (.inr (.inr ⟨by simpa using a1, by simpa using a5, by simpa using a6⟩))
    generalize x.f0 = f0 at *
    rcases cases1 with rfl | rfl | rfl | ⟨e1, e5, e6⟩
    all_goals
      go_enter Tryd.func98, Tryd.ntmps98
      go_wp2_with (go_at_call 93; refine (HF.out _ (below_alloc (Below.refl _ _) _)).mono ?_; rintro e w' ⟨rfl, hb⟩)
      go_ret
      exact ⟨by simp, below_then (below_alloc (Below.refl _ _) _) (by simp) hb⟩
end Go.Proofs.YtmclfdonoldlpaaDoor.Own

namespace Go.Proofs.YtmclfdonoldlpaaDoor.Own
open Go.RowKit Go.Proofs.YtmclfdonoldlpaaDoorW.PrintWords Go.Proofs.YtmclfdonoldlpaaDoorW.PrintLast Go.Proofs.YtmclfdonoldlpaaDoorW.PrintMore Go.Proofs.YtmclfdonoldlpaaDoor.POwn
set_option linter.unusedVariables false
set_option linter.unusedSimpArgs false

theorem cell_after {w w1 : World} {a : Addr} {v : Value} (hb : Below w.heap.size w w1) (h : w.cell? a = some v) : w1.cell? a = some v := (hb.cell (World.block_lt_of_cell? w a h)).trans h
theorem decide_of {p : Prop} [Decidable p] {b : Bool} (h : decide p = b) : decide p = b := h

theorem evr_calls' (s : ByteArray) (k : Int) (h : evrErr s = k) (w : World) : Calls Tryd.prog 53 #[.string s] w (EvrPost w k) := by
  rw [← h]; exact evr_calls s w
/-- The ways through a name's test. -/
theorem leaf_ways (nb : Bool) (o : Int) (v : ByteArray) (len : Nat) (P : Bool → Prop)
    (h1 : nb = false → P false)
    (h2 : nb = true → 0 < len → P false)
    (h3 : nb = true → len = 0 → o = 0 → v.toList.isEmpty = true → P true)
    (h4 : nb = true → len = 0 → o = 0 → v.toList.isEmpty = false → P false)
    (h5 : nb = true → len = 0 → o < 0 → P false)
    (h6 : nb = true → len = 0 → 7 < o → P false)
    (h7 : nb = true → len = 0 → 1 ≤ o → o ≤ 7 → evrOk v = true → P true)
    (h8 : nb = true → len = 0 → 1 ≤ o → o ≤ 7 → evrOk v = false → P false) : P (nb && (len == 0) && ((decide (o = 0) && v.toList.isEmpty) || (decide (1 ≤ o) && decide (o ≤ 7) && evrOk v))) := by
  rcases nb with _ | _
  · simpa using h1 rfl
  · rcases Nat.eq_zero_or_pos len with rfl | hl
    · rcases Int.lt_trichotomy o 0 with ho | rfl | ho
      · have := h5 rfl rfl ho
        simpa [show ¬ o = 0 by omega, show ¬ 1 ≤ o by omega] using this
      · rcases hv : v.toList.isEmpty with _ | _
        · simpa [hv] using h4 rfl rfl rfl hv
        · simpa [hv] using h3 rfl rfl rfl hv
      · by_cases h : o ≤ 7
        · rcases he : evrOk v with _ | _
          · simpa [he, show ¬ o = 0 by omega, h] using h8 rfl rfl (by omega) h he
          · simpa [he, show ¬ o = 0 by omega, h, show 1 ≤ o by omega] using h7 rfl rfl (by omega) h he
        · simpa [h, show ¬ o = 0 by omega] using h6 rfl rfl (by omega)
    · rw [show (len == 0) = false from beq_false_of_ne (by omega)]; simpa using h2 rfl hl

set_option maxHeartbeats 2000000 in
theorem leaf_calls (n v : ByteArray) (o : Int) (A : Option Addr) (len c : Nat) (hlen : len ≤ 9223372036854775807) (w : World) :
    Calls Tryd.prog 93 #[.agg #[.int .i64 1, .string n, .int .i64 o, .string v, .slice A len c]] w fun e w' => e = .returned (.bool (leafB n o v len)) ∧ Below w.heap.size w w' := by
  unfold leafB
  refine leaf_ways (nameB n) o v len (fun b => Calls Tryd.prog 93 #[.agg #[.int .i64 1, .string n, .int .i64 o, .string v, .slice A len c]] w fun e w' => e = .returned (.bool b) ∧ Below w.heap.size w w') ?_ ?_ ?_ ?_ ?_ ?_ ?_ ?_
  · intro hn
    have HN := Lib.hid hn
    clear hn
    go_enter Tryd.func93, Tryd.ntmps93
    go_wp2_with (first
      | (go_at_call 53; refine (evr_calls v _).mono ?_; rintro e w' ⟨⟨a, b, cc, rfl⟩, hb⟩; have q1 := cell_after (a := ⟨w.heap.size, 1, none⟩) (v := .string n) hb (by simp [go_sem]); have q2 := cell_after (a := ⟨w.heap.size, 2, none⟩) (v := .int .i64 o) hb (by simp [go_sem]); have q3 := cell_after (a := ⟨w.heap.size, 3, none⟩) (v := .string v) hb (by simp [go_sem]); have q4 := cell_after (a := ⟨w.heap.size, 4, none⟩) (v := .slice A len c) hb (by simp [go_sem]); have hs : w.heap.size < w'.heap.size := (by have := hb.size; simp at this; omega))
      | (go_at_call 54; refine (name_calls n false HN.out _).mono ?_; rintro e w2 ⟨rfl, hb2⟩; have r2 := cell_after (a := ⟨w.heap.size, 2, none⟩) (v := .int .i64 o) hb2 (by simp [go_sem, q2, hs]); have r3 := cell_after (a := ⟨w.heap.size, 3, none⟩) (v := .string v) hb2 (by simp [go_sem, q3, hs]); have r4 := cell_after (a := ⟨w.heap.size, 4, none⟩) (v := .slice A len c) hb2 (by simp [go_sem, q4, hs])))
    go_ret
    exact ⟨by first | rfl | (simp; done), below_then (below_alloc (below_then (below_alloc (Below.refl _ _) _) (by simp) hb) _) (by simp; omega) hb2⟩
  · intro hn hl
    have e0 : ((len : Int) == 0) = false := beq_false_of_ne (by omega)
    have HN := Lib.hid hn
    clear hn
    go_enter Tryd.func93, Tryd.ntmps93
    go_wp2_with (first
      | (go_at_call 53; refine (evr_calls v _).mono ?_; rintro e w' ⟨⟨a, b, cc, rfl⟩, hb⟩; have q1 := cell_after (a := ⟨w.heap.size, 1, none⟩) (v := .string n) hb (by simp [go_sem]); have q2 := cell_after (a := ⟨w.heap.size, 2, none⟩) (v := .int .i64 o) hb (by simp [go_sem]); have q3 := cell_after (a := ⟨w.heap.size, 3, none⟩) (v := .string v) hb (by simp [go_sem]); have q4 := cell_after (a := ⟨w.heap.size, 4, none⟩) (v := .slice A len c) hb (by simp [go_sem]); have hs : w.heap.size < w'.heap.size := (by have := hb.size; simp at this; omega))
      | (go_at_call 54; refine (name_calls n true HN.out _).mono ?_; rintro e w2 ⟨rfl, hb2⟩; have r2 := cell_after (a := ⟨w.heap.size, 2, none⟩) (v := .int .i64 o) hb2 (by simp [go_sem, q2, hs]); have r3 := cell_after (a := ⟨w.heap.size, 3, none⟩) (v := .string v) hb2 (by simp [go_sem, q3, hs]); have r4 := cell_after (a := ⟨w.heap.size, 4, none⟩) (v := .slice A len c) hb2 (by simp [go_sem, q4, hs])))
    go_ret
    exact ⟨by first | rfl | (simp; done), below_then (below_alloc (below_then (below_alloc (Below.refl _ _) _) (by simp) hb) _) (by simp; omega) hb2⟩
  · intro hn hl ho hv
    subst hl ho
    have HN := Lib.hid hn
    clear hn
    go_enter Tryd.func93, Tryd.ntmps93
    go_wp2_with (first
      | (go_at_call 53; refine (evr_calls v _).mono ?_; rintro e w' ⟨⟨a, b, cc, rfl⟩, hb⟩; have q1 := cell_after (a := ⟨w.heap.size, 1, none⟩) (v := .string n) hb (by simp [go_sem]); have q2 := cell_after (a := ⟨w.heap.size, 2, none⟩) (v := .int .i64 0) hb (by simp [go_sem]); have q3 := cell_after (a := ⟨w.heap.size, 3, none⟩) (v := .string v) hb (by simp [go_sem]); have q4 := cell_after (a := ⟨w.heap.size, 4, none⟩) (v := .slice A 0 c) hb (by simp [go_sem]); have hs : w.heap.size < w'.heap.size := (by have := hb.size; simp at this; omega))
      | (go_at_call 54; refine (name_calls n true HN.out _).mono ?_; rintro e w2 ⟨rfl, hb2⟩; have r2 := cell_after (a := ⟨w.heap.size, 2, none⟩) (v := .int .i64 0) hb2 (by simp [go_sem, q2, hs]); have r3 := cell_after (a := ⟨w.heap.size, 3, none⟩) (v := .string v) hb2 (by simp [go_sem, q3, hs]); have r4 := cell_after (a := ⟨w.heap.size, 4, none⟩) (v := .slice A 0 c) hb2 (by simp [go_sem, q4, hs])))
    go_ret
    exact ⟨by first | rfl | (simp; done), below_then (below_alloc (below_then (below_alloc (Below.refl _ _) _) (by simp) hb) _) (by simp; omega) hb2⟩
  · intro hn hl ho hv
    subst hl ho
    have HN := Lib.hid hn
    clear hn
    go_enter Tryd.func93, Tryd.ntmps93
    go_wp2_with (first
      | (go_at_call 53; refine (evr_calls v _).mono ?_; rintro e w' ⟨⟨a, b, cc, rfl⟩, hb⟩; have q1 := cell_after (a := ⟨w.heap.size, 1, none⟩) (v := .string n) hb (by simp [go_sem]); have q2 := cell_after (a := ⟨w.heap.size, 2, none⟩) (v := .int .i64 0) hb (by simp [go_sem]); have q3 := cell_after (a := ⟨w.heap.size, 3, none⟩) (v := .string v) hb (by simp [go_sem]); have q4 := cell_after (a := ⟨w.heap.size, 4, none⟩) (v := .slice A 0 c) hb (by simp [go_sem]); have hs : w.heap.size < w'.heap.size := (by have := hb.size; simp at this; omega))
      | (go_at_call 54; refine (name_calls n true HN.out _).mono ?_; rintro e w2 ⟨rfl, hb2⟩; have r2 := cell_after (a := ⟨w.heap.size, 2, none⟩) (v := .int .i64 0) hb2 (by simp [go_sem, q2, hs]); have r3 := cell_after (a := ⟨w.heap.size, 3, none⟩) (v := .string v) hb2 (by simp [go_sem, q3, hs]); have r4 := cell_after (a := ⟨w.heap.size, 4, none⟩) (v := .slice A 0 c) hb2 (by simp [go_sem, q4, hs])))
    go_ret
    exact ⟨by first | rfl | (simp; done), below_then (below_alloc (below_then (below_alloc (Below.refl _ _) _) (by simp) hb) _) (by simp; omega) hb2⟩
  · intro hn hl ho
    subst hl
    have e0 : (o == 0) = false := beq_false_of_ne (by omega)
    have HN := Lib.hid hn
    clear hn
    go_enter Tryd.func93, Tryd.ntmps93
    go_wp2_with (first
      | (go_at_call 53; refine (evr_calls v _).mono ?_; rintro e w' ⟨⟨a, b, cc, rfl⟩, hb⟩; have q1 := cell_after (a := ⟨w.heap.size, 1, none⟩) (v := .string n) hb (by simp [go_sem]); have q2 := cell_after (a := ⟨w.heap.size, 2, none⟩) (v := .int .i64 o) hb (by simp [go_sem]); have q3 := cell_after (a := ⟨w.heap.size, 3, none⟩) (v := .string v) hb (by simp [go_sem]); have q4 := cell_after (a := ⟨w.heap.size, 4, none⟩) (v := .slice A 0 c) hb (by simp [go_sem]); have hs : w.heap.size < w'.heap.size := (by have := hb.size; simp at this; omega))
      | (go_at_call 54; refine (name_calls n true HN.out _).mono ?_; rintro e w2 ⟨rfl, hb2⟩; have r2 := cell_after (a := ⟨w.heap.size, 2, none⟩) (v := .int .i64 o) hb2 (by simp [go_sem, q2, hs]); have r3 := cell_after (a := ⟨w.heap.size, 3, none⟩) (v := .string v) hb2 (by simp [go_sem, q3, hs]); have r4 := cell_after (a := ⟨w.heap.size, 4, none⟩) (v := .slice A 0 c) hb2 (by simp [go_sem, q4, hs])))
    go_ret
    exact ⟨by first | rfl | (simp; done), below_then (below_alloc (below_then (below_alloc (Below.refl _ _) _) (by simp) hb) _) (by simp; omega) hb2⟩
  · intro hn hl ho
    subst hl
    have e0 : (o == 0) = false := beq_false_of_ne (by omega)
    have HN := Lib.hid hn
    clear hn
    go_enter Tryd.func93, Tryd.ntmps93
    go_wp2_with (first
      | (go_at_call 53; refine (evr_calls v _).mono ?_; rintro e w' ⟨⟨a, b, cc, rfl⟩, hb⟩; have q1 := cell_after (a := ⟨w.heap.size, 1, none⟩) (v := .string n) hb (by simp [go_sem]); have q2 := cell_after (a := ⟨w.heap.size, 2, none⟩) (v := .int .i64 o) hb (by simp [go_sem]); have q3 := cell_after (a := ⟨w.heap.size, 3, none⟩) (v := .string v) hb (by simp [go_sem]); have q4 := cell_after (a := ⟨w.heap.size, 4, none⟩) (v := .slice A 0 c) hb (by simp [go_sem]); have hs : w.heap.size < w'.heap.size := (by have := hb.size; simp at this; omega))
      | (go_at_call 54; refine (name_calls n true HN.out _).mono ?_; rintro e w2 ⟨rfl, hb2⟩; have r2 := cell_after (a := ⟨w.heap.size, 2, none⟩) (v := .int .i64 o) hb2 (by simp [go_sem, q2, hs]); have r3 := cell_after (a := ⟨w.heap.size, 3, none⟩) (v := .string v) hb2 (by simp [go_sem, q3, hs]); have r4 := cell_after (a := ⟨w.heap.size, 4, none⟩) (v := .slice A 0 c) hb2 (by simp [go_sem, q4, hs])))
    go_ret
    exact ⟨by first | rfl | (simp; done), below_then (below_alloc (below_then (below_alloc (Below.refl _ _) _) (by simp) hb) _) (by simp; omega) hb2⟩
  · intro hn hl ho h7 he
    subst hl
    have e0 : (o == 0) = false := beq_false_of_ne (by omega)
    have HE := Lib.hid (show evrErr v = 0 by rw [evrErr, he]; rfl)
    clear he
    have HN := Lib.hid hn
    clear hn
    go_enter Tryd.func93, Tryd.ntmps93
    go_wp2_with (first
      | (go_at_call 53; refine (evr_calls' v 0 HE.out _).mono ?_; rintro e w' ⟨⟨a, b, cc, rfl⟩, hb⟩; have q1 := cell_after (a := ⟨w.heap.size, 1, none⟩) (v := .string n) hb (by simp [go_sem]); have q2 := cell_after (a := ⟨w.heap.size, 2, none⟩) (v := .int .i64 o) hb (by simp [go_sem]); have q3 := cell_after (a := ⟨w.heap.size, 3, none⟩) (v := .string v) hb (by simp [go_sem]); have q4 := cell_after (a := ⟨w.heap.size, 4, none⟩) (v := .slice A 0 c) hb (by simp [go_sem]); have hs : w.heap.size < w'.heap.size := (by have := hb.size; simp at this; omega))
      | (go_at_call 54; refine (name_calls n true HN.out _).mono ?_; rintro e w2 ⟨rfl, hb2⟩; have r2 := cell_after (a := ⟨w.heap.size, 2, none⟩) (v := .int .i64 o) hb2 (by simp [go_sem, q2, hs]); have r3 := cell_after (a := ⟨w.heap.size, 3, none⟩) (v := .string v) hb2 (by simp [go_sem, q3, hs]); have r4 := cell_after (a := ⟨w.heap.size, 4, none⟩) (v := .slice A 0 c) hb2 (by simp [go_sem, q4, hs])))
    go_ret
    exact ⟨by first | rfl | (simp; done), below_then (below_alloc (below_then (below_alloc (Below.refl _ _) _) (by simp) hb) _) (by simp; omega) hb2⟩
  · intro hn hl ho h7 he
    subst hl
    have e0 : (o == 0) = false := beq_false_of_ne (by omega)
    have HE := Lib.hid (show evrErr v = 30 by rw [evrErr, he]; rfl)
    clear he
    have HN := Lib.hid hn
    clear hn
    go_enter Tryd.func93, Tryd.ntmps93
    go_wp2_with (first
      | (go_at_call 53; refine (evr_calls' v 30 HE.out _).mono ?_; rintro e w' ⟨⟨a, b, cc, rfl⟩, hb⟩; have q1 := cell_after (a := ⟨w.heap.size, 1, none⟩) (v := .string n) hb (by simp [go_sem]); have q2 := cell_after (a := ⟨w.heap.size, 2, none⟩) (v := .int .i64 o) hb (by simp [go_sem]); have q3 := cell_after (a := ⟨w.heap.size, 3, none⟩) (v := .string v) hb (by simp [go_sem]); have q4 := cell_after (a := ⟨w.heap.size, 4, none⟩) (v := .slice A 0 c) hb (by simp [go_sem]); have hs : w.heap.size < w'.heap.size := (by have := hb.size; simp at this; omega))
      | (go_at_call 54; refine (name_calls n true HN.out _).mono ?_; rintro e w2 ⟨rfl, hb2⟩; have r2 := cell_after (a := ⟨w.heap.size, 2, none⟩) (v := .int .i64 o) hb2 (by simp [go_sem, q2, hs]); have r3 := cell_after (a := ⟨w.heap.size, 3, none⟩) (v := .string v) hb2 (by simp [go_sem, q3, hs]); have r4 := cell_after (a := ⟨w.heap.size, 4, none⟩) (v := .slice A 0 c) hb2 (by simp [go_sem, q4, hs])))
    go_ret
    exact ⟨by first | rfl | (simp; done), below_then (below_alloc (below_then (below_alloc (Below.refl _ _) _) (by simp) hb) _) (by simp; omega) hb2⟩
end Go.Proofs.YtmclfdonoldlpaaDoor.Own
