/- The walk of dep.form at a node. dep.form at every dependency. dep.all counting names; dep.Check. pool.lists: the addresses of a package's lists. -/
import Derived.Test.YtmclfdonoldlpaaDoorG2
import Derived.Maps.OwnOps
import Derived.Outline
import Derived.OneCell
import Derived.Deep.RegionHeld3
namespace Go.Proofs.YtmclfdonoldlpaaDoor.Own
open Go.RowKit Go.Proofs.YtmclfdonoldlpaaDoorW.PrintWords Go.Proofs.YtmclfdonoldlpaaDoorW.PrintLast Go.Proofs.YtmclfdonoldlpaaDoorW.PrintMore Go.Proofs.YtmclfdonoldlpaaDoor.POwn
set_option linter.unusedVariables false
set_option linter.unusedSimpArgs false

theorem grown_cell {w w1 : World} {b : Nat} {a : Addr} {v : Value} (hg : w.grownBy w1 (some b)) (hne : a.block ≠ b) (h : w.cell? a = some v) : w1.cell? a = some v := by
  have hlt := World.block_lt_of_cell? w a h
  have := hg.block a.block hlt (by intro e; cases e; exact hne rfl)
  unfold World.cell? at h ⊢
  rw [this]; exact h
theorem wf_of (k : Int) (h : wfI k) : (Lit.int .i64 k).wf = true := by
  unfold wfI at h
  simp [Lit.wf, IntKind.min, IntKind.max, IntKind.signed, IntKind.bits]
  omega

/-- The map literal of dep.form, and what it is asked. -/
theorem most_map (k : Int) (hk : wfI k) (W : World) : ∃ W1 W2 : World,
    (Instr.mapUpdate 119 (.map (some W.heap.size)) (.int .i64 4) (.int .i64 3)).run Tryd.prog (W.alloc (.map #[] 0)) = .ok () W1 ∧
    (Instr.mapUpdate 119 (.map (some W.heap.size)) (.int .i64 6) (.int .i64 2)).run Tryd.prog W1 = .ok () W2 ∧
    (Instr.lookup 119 (.map (some W.heap.size)) (.int .i64 k) false).run Tryd.prog W2 = .ok (.int .i64 (mostI k)) W2 ∧
    (W.alloc (.map #[] 0)).grownBy W2 (some W.heap.size) := by
  have h0 := World.ownsMap_made (H := Unit) W Tryd.prog 3 (plainElem Tryd.prog 3)
  obtain ⟨W1, r1, o1, g1⟩ := h0.update (Maps.int_keyed Tryd.underlying3) Tryd.underlying119 (by unfold maxLen; omega) (Maps.keyOf_int_mk Tryd.underlying3 (a := 4) (by decide)) (plainElem_int Tryd.underlying3 (a := 3) (by decide))
  obtain ⟨W2, r2, o2, g2⟩ := o1.update (Maps.int_keyed Tryd.underlying3) Tryd.underlying119 (by unfold maxLen; omega) (Maps.keyOf_int_mk Tryd.underlying3 (a := 6) (by decide)) (plainElem_int Tryd.underlying3 (a := 2) (by decide))
  obtain ⟨c, r3, hc, _⟩ := o2.lookup_int (Maps.int_keyed Tryd.underlying3) Tryd.underlying119 Tryd.underlying3 (Tryd.zeroValue3 _) (Maps.keyOf_int_mk Tryd.underlying3 (wf_of k hk))
  refine ⟨W1, W2, r1, r2, ?_, World.grownBy.trans g1 g2⟩
  rw [r3]
  have : c = mostI k := by
    have key : ((DataW.map (H := Unit) []).put (Lit.int .i64 4) (.lit (.int .i64 3))).put (Lit.int .i64 6) (.lit (.int .i64 2)) = .map [(.int .i64 4, .lit (.int .i64 3)), (.int .i64 6, .lit (.int .i64 2))] := by kernel_rfl
    rw [key] at hc
    clear key o2 o1 r1 r2 r3 g1 g2 h0
    unfold mostI
    by_cases h4 : k = 4
    · subst h4
      have : DataW.lit (H := Unit) (Lit.int .i64 3) = .lit (.int .i64 c) := hc
      injection this with h1; injection h1 with _ h1
      rw [← h1]; rfl
    · by_cases h6 : k = 6
      · subst h6
        have : DataW.lit (H := Unit) (Lit.int .i64 2) = .lit (.int .i64 c) := hc
        injection this with h1; injection h1 with _ h1
        rw [← h1]; rfl
      · rw [if_neg h4, if_neg h6]
        have e4 : (Lit.int .i64 4).sameKey (.int .i64 k) = false := by simp [Lit.sameKey]; omega
        have e6 : (Lit.int .i64 6).sameKey (.int .i64 k) = false := by simp [Lit.sameKey]; omega
        simp [DataW.atKey, List.find?, e4, e6] at hc
        exact hc.symm
  rw [this]
/-- The ways through a node's test. -/
theorem node_ways (k : Int) (n : ByteArray) (o : Int) (v : ByteArray) (len : Nat) (fl : Bool) (P : Bool → Prop)
    (h1 : k < 2 → P false)
    (h2 : 2 ≤ k → 6 < k → P false)
    (h3 : 2 ≤ k → k ≤ 6 → n.toList.isEmpty = false → P false)
    (h4 : 2 ≤ k → k ≤ 6 → n.toList.isEmpty = true → (o != 0) = true → P false)
    (h5 : 2 ≤ k → k ≤ 6 → n.toList.isEmpty = true → o = 0 → v.toList.isEmpty = false → P false)
    (h6 : 2 ≤ k → k ≤ 6 → n.toList.isEmpty = true → o = 0 → v.toList.isEmpty = true → len < 2 → P false)
    (h7 : 2 ≤ k → k ≤ 6 → n.toList.isEmpty = true → o = 0 → v.toList.isEmpty = true → 2 ≤ len → 0 < mostI k → mostI k < len → P false)
    (h8 : 2 ≤ k → k ≤ 6 → n.toList.isEmpty = true → o = 0 → v.toList.isEmpty = true → 2 ≤ len → 0 < mostI k → len ≤ mostI k → P fl)
    (h9 : 2 ≤ k → k ≤ 6 → n.toList.isEmpty = true → o = 0 → v.toList.isEmpty = true → 2 ≤ len → mostI k ≤ 0 → P fl) : P (nodeB k n o v len && fl) := by
  unfold nodeB
  by_cases a1 : k < 2
  · simpa [a1] using h1 a1
  by_cases a2 : 6 < k
  · simpa [a1, a2] using h2 (by omega) a2
  have b1 : 2 ≤ k := by omega
  have b2 : k ≤ 6 := by omega
  rcases a3 : n.toList.isEmpty with _ | _
  · simpa [a1, a2, a3] using h3 b1 b2 a3
  by_cases a4 : o = 0
  case neg => simpa [a1, a2, a3, a4] using h4 b1 b2 a3 (by simpa using a4)
  rcases a5 : v.toList.isEmpty with _ | _
  · simpa [a1, a2, a3, a4, a5] using h5 b1 b2 a3 a4 a5
  by_cases a6 : len < 2
  · simpa [a1, a2, a3, a4, a5, a6] using h6 b1 b2 a3 a4 a5 a6
  have b6 : 2 ≤ len := by omega
  by_cases a7 : 0 < mostI k
  · by_cases a8 : mostI k < len
    · simpa [a1, a2, a3, a4, a5, a6, a7, a8] using h7 b1 b2 a3 a4 a5 b6 a7 a8
    · simpa [a1, a2, a3, a4, a5, a6, a7, a8] using h8 b1 b2 a3 a4 a5 b6 a7 (by omega)
  · simpa [a1, a2, a3, a4, a5, a6, a7] using h9 b1 b2 a3 a4 a5 b6 (by omega)

set_option maxRecDepth 100000 in
set_option maxHeartbeats 4000000 in
theorem node_calls (k : Int) (hkw : wfI k) (hk : (k == 1) = false) (n v : ByteArray) (o : Int) (A : Option Addr) (len c : Nat) (hlen : len ≤ 9223372036854775807) (w : World) (b : Bool)
    (hany : ∀ W : World, Below w.heap.size w W → W.cell? ⟨w.heap.size, 0, none⟩ = some (.int .i64 k) → w.heap.size < W.heap.size → Calls Tryd.prog 97 #[.slice A len c, .func (.func 98) #[] #[.pointer (some ⟨w.heap.size, 0, none⟩)]] W fun e w' => e = .returned (.bool b) ∧ Below W.heap.size W w') :
    Calls Tryd.prog 93 #[.agg #[.int .i64 k, .string n, .int .i64 o, .string v, .slice A len c]] w fun e w' => e = .returned (.bool (nodeB k n o v len && !b)) ∧ Below w.heap.size w w' := by
  have hmm := @run_makeMap Tryd.prog
  obtain ⟨W1, W2, r1, r2, r3, g⟩ := most_map k hkw (w.alloc (.cells #[.int .i64 k, .string n, .int .i64 o, .string v, .slice A len c] 36))
  simp only [World.size_alloc] at r1 r2 r3 g
  have c0 := grown_cell (a := ⟨w.heap.size, 0, none⟩) (v := .int .i64 k) g (by simp) (by simp [go_sem])
  have c1 := grown_cell (a := ⟨w.heap.size, 1, none⟩) (v := .string n) g (by simp) (by simp [go_sem])
  have c2 := grown_cell (a := ⟨w.heap.size, 2, none⟩) (v := .int .i64 o) g (by simp) (by simp [go_sem])
  have c3 := grown_cell (a := ⟨w.heap.size, 3, none⟩) (v := .string v) g (by simp) (by simp [go_sem])
  have c4 := grown_cell (a := ⟨w.heap.size, 4, none⟩) (v := .slice A len c) g (by simp) (by simp [go_sem])
  have HB := Lib.hid (show Below w.heap.size w W2 from (below_alloc (below_alloc (Below.refl _ _) _) _).grown g (by simp; omega) (fun q e => by cases e; simp))
  have hsz : w.heap.size < W2.heap.size := by have := g.size; simp at this; omega
  have HA := Lib.hid (hany W2 HB.out c0 hsz)
  clear g hany hkw
  revert r1 r2 r3 c0
  refine node_ways k n o v len (!b) (fun x => _ → _ → _ → _ → Calls Tryd.prog 93 #[.agg #[.int .i64 k, .string n, .int .i64 o, .string v, .slice A len c]] w fun e w' => e = .returned (.bool x) ∧ Below w.heap.size w w') ?_ ?_ ?_ ?_ ?_ ?_ ?_ ?_ ?_
  · intro h1 r1 r2 r3 c0
    generalize mostI k = m at *
    go_enter Tryd.func93, Tryd.ntmps93
    go_wp2_with (fail)
    go_ret
    exact ⟨by first | rfl | (simp; done), HB.out⟩
  · intro h1 h2 r1 r2 r3 c0
    generalize mostI k = m at *
    go_enter Tryd.func93, Tryd.ntmps93
    go_wp2_with (fail)
    go_ret
    exact ⟨by first | rfl | (simp; done), HB.out⟩
  · intro h1 h2 h3 r1 r2 r3 c0
    generalize mostI k = m at *
    go_enter Tryd.func93, Tryd.ntmps93
    go_wp2_with (fail)
    go_ret
    exact ⟨by first | rfl | (simp; done), HB.out⟩
  · intro h1 h2 h3 h4 r1 r2 r3 c0
    generalize mostI k = m at *
    go_enter Tryd.func93, Tryd.ntmps93
    go_wp2_with (fail)
    go_ret
    exact ⟨by first | rfl | (simp; done), HB.out⟩
  · intro h1 h2 h3 h4 h5 r1 r2 r3 c0
    subst h4
    generalize mostI k = m at *
    go_enter Tryd.func93, Tryd.ntmps93
    go_wp2_with (fail)
    go_ret
    exact ⟨by first | rfl | (simp; done), HB.out⟩
  · intro h1 h2 h3 h4 h5 h6 r1 r2 r3 c0
    subst h4
    generalize mostI k = m at *
    go_enter Tryd.func93, Tryd.ntmps93
    go_wp2_with (fail)
    go_ret
    exact ⟨by first | rfl | (simp; done), HB.out⟩
  · intro h1 h2 h3 h4 h5 h6 h7 h8 r1 r2 r3 c0
    subst h4
    generalize mostI k = m at *
    go_enter Tryd.func93, Tryd.ntmps93
    go_wp2_with (fail)
    go_ret
    exact ⟨by first | rfl | (simp; done), HB.out⟩
  · intro h1 h2 h3 h4 h5 h6 h7 h8 r1 r2 r3 c0
    subst h4
    generalize mostI k = m at *
    go_enter Tryd.func93, Tryd.ntmps93
    go_wp2_with ((go_at_call 97; refine HA.out.mono ?_; rintro e w' ⟨rfl, hb⟩))
    go_ret
    exact ⟨by first | rfl | (simp; done), below_then HB.out HB.out.size hb⟩
  · intro h1 h2 h3 h4 h5 h6 h7 r1 r2 r3 c0
    subst h4
    generalize mostI k = m at *
    go_enter Tryd.func93, Tryd.ntmps93
    go_wp2_with ((go_at_call 97; refine HA.out.mono ?_; rintro e w' ⟨rfl, hb⟩))
    go_ret
    exact ⟨by first | rfl | (simp; done), below_then HB.out HB.out.size hb⟩
end Go.Proofs.YtmclfdonoldlpaaDoor.Own

namespace Go.Proofs.YtmclfdonoldlpaaDoor.Own
open Go.RowKit Go.Proofs.YtmclfdonoldlpaaDoorW.PrintWords Go.Proofs.YtmclfdonoldlpaaDoorW.PrintLast Go.Proofs.YtmclfdonoldlpaaDoorW.PrintMore Go.Proofs.YtmclfdonoldlpaaDoor.POwn
set_option linter.unusedVariables false
set_option linter.unusedSimpArgs false

theorem form_upto : ∀ (n : Nat) (x : S36), SizeOf.sizeOf x ≤ n → FormC x := by
  intro m
  induction m with
  | zero =>
    intro x hx
    cases x
    simp at hx
  | succ m ih =>
    intro x hx hw v W hv
    obtain ⟨k, n, o, vv, l⟩ := x
    obtain ⟨A, c, rfl, hl, hc⟩ := hv
    have hwl : wfI k ∧ wfL l := by rw [wfD] at hw; exact hw
    have hlen : l.length ≤ 9223372036854775807 := hc.2.1
    by_cases hk : k = 1
    · subst hk
      have e : formB ⟨1, n, o, vv, l⟩ = leafB n o vv l.length := by rw [formB]; simp
      rw [e]
      exact leaf_calls n vv o A l.length c hlen W
    · have e : formB ⟨k, n, o, vv, l⟩ = (nodeB k n o vv l.length && !l.any (badB k)) := by rw [formB, formL_any]; simp [hk]
      rw [e]
      refine node_calls k hwl.1 (by simpa using hk) n vv o A l.length c hlen W (l.any (badB k)) ?_
      intro W1 hb hcell hlt
      refine hasDep_calls 98 W.heap.size (fun _ _ => by kernel_rfl) (badB k) l A c W1 (Kd.C_below hc hb) hl ?_
      intro y vy W2 hy hb2 hvy
      have hsz : SizeOf.sizeOf y < SizeOf.sizeOf l := List.sizeOf_lt_of_mem hy
      have hsx : SizeOf.sizeOf y ≤ m := by simp at hx; omega
      exact form1_calls k y vy W2 W.heap.size (Nat.lt_of_lt_of_le hlt hb2.size) (cell_after hb2 hcell) hvy (wfL_mem hwl.2 y hy) (ih y hsx)
theorem form_all (x : S36) : FormC x := form_upto _ x (Nat.le_refl _)
end Go.Proofs.YtmclfdonoldlpaaDoor.Own

namespace Go.Proofs.YtmclfdonoldlpaaDoor.Own
open Go.RowKit Go.Proofs.YtmclfdonoldlpaaDoorW.PrintWords Go.Proofs.YtmclfdonoldlpaaDoorW.PrintLast Go.Proofs.YtmclfdonoldlpaaDoorW.PrintMore Go.Proofs.YtmclfdonoldlpaaDoor.POwn
set_option linter.unusedVariables false
set_option linter.unusedSimpArgs false

mutual
/-- How many names a dependency has. -/
def namesN : S36 → Int
  | ⟨k, n, o, v, l⟩ => (if k = 1 then 1 else 0) + namesL l
def namesL : List S36 → Int
  | [] => 0
  | a :: r => namesN a + namesL r
end
theorem wrap_wrap (a b : Int) : wrap64 (wrap64 a + b) = wrap64 (a + b) := by unfold wrap64; omega
theorem namesL_snoc : ∀ (l : List S36) (k : Nat) (x : S36), l[k]? = some x → namesL (l.take (k + 1)) = namesL (l.take k) + namesN x
  | [], k, x, h => by simp at h
  | a :: r, 0, x, h => by
    simp at h; subst h
    simp [namesL]
  | a :: r, k + 1, x, h => by
    have := namesL_snoc r k x (by simpa using h)
    simp only [List.take_succ_cons, namesL, this]
    omega

theorem take_calls (s : ByteArray) (B : Nat) (c : Int) (W : World) (h : W.heap[B]? = some (.cells #[.int .i64 c] 3 (0, 0))) :
    Calls Tryd.prog 95 #[.string s, .pointer (some ⟨B, 0, none⟩)] W fun e w' => e = .returned (.tuple #[]) ∧ w' = W.setCell ⟨B, 0, none⟩ (.int .i64 (wrap64 (c + 1))) := by
  have hc := cell_of_one h
  have hf := free_of_one h
  go_enter Tryd.func95, Tryd.ntmps95
  go_wp2
  go_end0
  exact ⟨rfl, rfl⟩

theorem grownBy_set (w : World) (b i : Nat) (v : Value) : w.grownBy (w.setCell ⟨b, i, none⟩ v) (some b) :=
  ⟨rfl, rfl, rfl, by simp [World.setCell], fun j hj hne => Below.heap_setCell w ⟨b, i, none⟩ v j (fun e => hne (by rw [e]))⟩
/-- What a call of dep.all leaves: nothing but the counter has turned. -/
structure AllPost (w0 W : World) (B : Nat) (c : Int) (w' : World) : Prop where
  below : Below w0.heap.size w0 w'
  cell : w'.heap[B]? = some (.cells #[.int .i64 c] 3 (0, 0))
  grown : W.grownBy w' (some B)
/-- dep.all counts so. -/
def AllC (x : S36) : Prop := ∀ (v : Value) (w0 W : World) (B : Nat) (c : Int), DepV w0 x v → Below w0.heap.size w0 W → w0.heap.size ≤ B → W.heap[B]? = some (.cells #[.int .i64 c] 3 (0, 0)) → wrap64 c = c →
  Calls Tryd.prog 94 #[v, .func (.func 95) #[] #[.pointer (some ⟨B, 0, none⟩)]] W fun e w' => e = .returned (.tuple #[]) ∧ AllPost w0 W B (wrap64 (c + namesN x)) w'

theorem grown_heap {W w' : World} {B g : Nat} {o : Obj} (hg : W.grownBy w' (some B)) (h : W.heap[g]? = some o) (hne : g ≠ B) : w'.heap[g]? = some o :=
  (hg.block g (Array.getElem?_eq_some_iff.1 h).1 (by intro e; cases e; exact hne rfl)).trans h

set_option maxHeartbeats 2000000 in
theorem all_loop (k : Int) (n vv : ByteArray) (o : Int) (l : List S36) (A : Option Addr) (cp : Nat) (w0 : World) (hl : l.length ≤ cp) (hc : k36.C w0 A l.length l) (ih : ∀ x ∈ l, AllC x)
    (W : World) (B : Nat) (c : Int) (hb : Below w0.heap.size w0 W) (hB : w0.heap.size ≤ B) (hcell : W.heap[B]? = some (.cells #[.int .i64 c] 3 (0, 0))) (hwc : wrap64 c = c) :
    Calls Tryd.prog 94 #[.agg #[.int .i64 k, .string n, .int .i64 o, .string vv, .slice A l.length cp], .func (.func 95) #[] #[.pointer (some ⟨B, 0, none⟩)]] W fun e w' => e = .returned (.tuple #[]) ∧ AllPost w0 W B (wrap64 (wrap64 (c + (if k = 1 then 1 else 0)) + namesL l)) w' := by
  have hlen : l.length ≤ 9223372036854775807 := hc.2.1
  have hBl := lt_of_block hcell
  have hsW := hb.size
  have heg : ∀ args w, (callFunc 95 args).run Tryd.prog w = .ok (.enter 95 args) w := fun _ _ => by kernel_rfl
  have HW := Lib.hid hwc
  have HC := Lib.hid hc
  have HI := Lib.hid ih
  have h1 : ∀ o : Obj, (W.alloc o).heap[B]? = some (.cells #[.int .i64 c] 3 (0, 0)) := fun o => by rw [← hcell]; exact Below.heap_alloc W o B hBl
  have H1 := Lib.hid h1
  clear hc ih h1 hwc
  have hne : ¬ B = W.heap.size := by omega
  have hne2 : ¬ W.heap.size = B := by omega
  by_cases hk : k = 1
  · subst hk
    simp only [if_true]
    have hbox := take_calls n B c _ (H1.out (.cells #[.int .i64 1, .string n, .int .i64 o, .string vv, .slice A l.length cp] 36))
    have HX := Lib.hid hbox
    clear hbox
    go_enter Tryd.func94, Tryd.ntmps94
    go_wp2_with (go_at_call 95; refine HX.out.mono ?_; rintro e w' ⟨rfl, rfl⟩)
    have HS : Hid (∀ o, AllPost w0 W B (wrap64 (wrap64 (c + 1) + namesL (l.take 0))) ((W.setCell ⟨B, 0, none⟩ (.int .i64 (wrap64 (c + 1)))).alloc o)) := Lib.hid fun o => by
      have hc1 := one_setCell (u := .int .i64 (wrap64 (c + 1))) hcell
      refine ⟨?_, ?_, ?_⟩
      · exact hb.trans (((Below.refl _ W).setCell (p := ⟨B, 0, none⟩) hB _).trans ((below_alloc (Below.refl _ _) _).mono (by simp; omega)))
      · rw [List.take_zero, namesL, Int.add_zero, show wrap64 (wrap64 (c + 1)) = wrap64 (c + 1) by unfold wrap64; omega]
        exact (Below.heap_alloc _ _ B (lt_of_block hc1)).trans hc1
      · exact World.grownBy.trans (grownBy_set W B 0 _) (World.grownBy_alloc _ _ _)
    go_loopw [16] (fun i wr => ∃ j : Nat, j ≤ l.length ∧ i = .int .i64 j ∧ Hid (AllPost w0 W B (wrap64 (wrap64 (c + 1) + namesL (l.take j))) wr)) (fun i _ => l.length - (intOf i).toNat)
    case atStart => exact ⟨0, Nat.zero_le _, rfl, HS.out _⟩
    case round =>
      obtain ⟨j, hj, rfl, hp⟩ := hrel
      by_cases hlt : j < l.length
      · obtain ⟨x, hx⟩ : ∃ x, l[j]? = some x := ⟨_, List.getElem?_eq_getElem hlt⟩
        obtain ⟨ad, A4, c4, rfl, q0, q1, q2, q3, q4, l4, g4⟩ := dep_at HC.out j x hx
        have hd := hp.out.below
        have hn := namesL_snoc l j x hx
        have hcall := HI.out x (List.mem_of_getElem? hx) _ w0 (wr.alloc (.cells #[.int .i64 x.f0, .string x.f1, .int .i64 x.f2, .string x.f3, .slice A4 x.f4.length c4] 36)) B _ ⟨A4, c4, rfl, l4, g4⟩ (hd.trans ((below_alloc (Below.refl _ _) _).mono hd.size)) hB ((Below.heap_alloc wr _ B (lt_of_block hp.out.cell)).trans hp.out.cell) (by unfold wrap64; omega)
        have HQ := Lib.hid hcall
        replace q0 := (hd.cell (World.block_lt_of_cell? w0 _ q0)).trans q0
        replace q1 := (hd.cell (World.block_lt_of_cell? w0 _ q1)).trans q1
        replace q2 := (hd.cell (World.block_lt_of_cell? w0 _ q2)).trans q2
        replace q3 := (hd.cell (World.block_lt_of_cell? w0 _ q3)).trans q3
        replace q4 := (hd.cell (World.block_lt_of_cell? w0 _ q4)).trans q4
        have HN := Lib.hid hn
        clear hx g4 hd hcall hn
        go_wp2_with (go_at_call 94; refine HQ.out.mono ?_; rintro e w' ⟨rfl, hp2⟩)
        go_roundw
        case rel => exact ⟨j + 1, by omega, by go_num, Lib.hid ⟨hp2.below, by rw [HN.out, ← Int.add_assoc, ← wrap_wrap]; exact hp2.cell, World.grownBy.trans hp.out.grown (World.grownBy.trans (World.grownBy_alloc _ _ _) hp2.grown)⟩⟩
        case measure => simp [intOf]; omega
      · obtain rfl : j = l.length := by omega
        rw [List.take_length] at hp
        go_wp2
        go_end0
        exact ⟨rfl, hp.out⟩
  · rw [if_neg hk]
    have hk1 : (k == 1) = false := by simpa using hk
    have HS : Hid (∀ o, AllPost w0 W B (wrap64 (wrap64 (c + 0) + namesL (l.take 0))) (W.alloc o)) := Lib.hid fun o => by
      refine ⟨?_, ?_, ?_⟩
      · exact hb.trans ((below_alloc (Below.refl _ _) _).mono hsW)
      · rw [List.take_zero, namesL, Int.add_zero, Int.add_zero, show wrap64 (wrap64 c) = wrap64 c by unfold wrap64; omega]
        rw [HW.out]
        exact (Below.heap_alloc _ _ B hBl).trans hcell
      · exact World.grownBy_alloc _ _ _
    clear hk
    go_enter Tryd.func94, Tryd.ntmps94
    go_wp2
    go_loopw [16] (fun i wr => ∃ j : Nat, j ≤ l.length ∧ i = .int .i64 j ∧ Hid (AllPost w0 W B (wrap64 (wrap64 (c + 0) + namesL (l.take j))) wr)) (fun i _ => l.length - (intOf i).toNat)
    case atStart => exact ⟨0, Nat.zero_le _, rfl, HS.out _⟩
    case round =>
      obtain ⟨j, hj, rfl, hp⟩ := hrel
      by_cases hlt : j < l.length
      · obtain ⟨x, hx⟩ : ∃ x, l[j]? = some x := ⟨_, List.getElem?_eq_getElem hlt⟩
        obtain ⟨ad, A4, c4, rfl, q0, q1, q2, q3, q4, l4, g4⟩ := dep_at HC.out j x hx
        have hd := hp.out.below
        have hn := namesL_snoc l j x hx
        have hcall := HI.out x (List.mem_of_getElem? hx) _ w0 (wr.alloc (.cells #[.int .i64 x.f0, .string x.f1, .int .i64 x.f2, .string x.f3, .slice A4 x.f4.length c4] 36)) B _ ⟨A4, c4, rfl, l4, g4⟩ (hd.trans ((below_alloc (Below.refl _ _) _).mono hd.size)) hB ((Below.heap_alloc wr _ B (lt_of_block hp.out.cell)).trans hp.out.cell) (by unfold wrap64; omega)
        have HQ := Lib.hid hcall
        replace q0 := (hd.cell (World.block_lt_of_cell? w0 _ q0)).trans q0
        replace q1 := (hd.cell (World.block_lt_of_cell? w0 _ q1)).trans q1
        replace q2 := (hd.cell (World.block_lt_of_cell? w0 _ q2)).trans q2
        replace q3 := (hd.cell (World.block_lt_of_cell? w0 _ q3)).trans q3
        replace q4 := (hd.cell (World.block_lt_of_cell? w0 _ q4)).trans q4
        have HN := Lib.hid hn
        clear hx g4 hd hcall hn
        go_wp2_with (go_at_call 94; refine HQ.out.mono ?_; rintro e w' ⟨rfl, hp2⟩)
        go_roundw
        case rel => exact ⟨j + 1, by omega, by go_num, Lib.hid ⟨hp2.below, by rw [HN.out, ← Int.add_assoc, ← wrap_wrap]; exact hp2.cell, World.grownBy.trans hp.out.grown (World.grownBy.trans (World.grownBy_alloc _ _ _) hp2.grown)⟩⟩
        case measure => simp [intOf]; omega
      · obtain rfl : j = l.length := by omega
        rw [List.take_length] at hp
        go_wp2
        go_end0
        exact ⟨rfl, hp.out⟩


theorem all_upto : ∀ (n : Nat) (x : S36), SizeOf.sizeOf x ≤ n → AllC x := by
  intro m
  induction m with
  | zero =>
    intro x hx
    cases x
    simp at hx
  | succ m ih =>
    intro x hx v w0 W B c hv hb hB hcell hwc
    obtain ⟨k, n, o, vv, l⟩ := x
    obtain ⟨A, cp, rfl, hl, hc⟩ := hv
    have e : wrap64 (wrap64 (c + (if k = 1 then 1 else 0)) + namesL l) = wrap64 (c + namesN ⟨k, n, o, vv, l⟩) := by rw [wrap_wrap, namesN, Int.add_assoc]
    rw [← e]
    refine all_loop k n vv o l A cp w0 hl hc (fun y hy => ih y ?_) W B c hb hB hcell hwc
    have hsz : SizeOf.sizeOf y < SizeOf.sizeOf l := List.sizeOf_lt_of_mem hy
    simp at hx
    omega
theorem all_all (x : S36) : AllC x := all_upto _ x (Nat.le_refl _)

/-- What dep.Check answers. -/
def depErr (x : S36) : Int := if formB x then (if 16 < wrap64 (namesN x) then 51 else 0) else 50

set_option maxHeartbeats 2000000 in
theorem check_calls (x : S36) (hw : wfD x) (v : Value) (w : World) (hv : DepV w x v) (b : Int) (hb : depErr x = b) :
    Calls Tryd.prog 80 #[v] w fun e w' => e = .returned (.int .i64 b) ∧ Below w.heap.size w w' := by
  have hform := form_all x hw v
  have hall := all_all x v w
  obtain ⟨A, c, rfl, hl, hc⟩ := hv
  have HF := Lib.hid (fun W (h : Below w.heap.size w W) => hform W ⟨A, c, rfl, hl, Kd.C_below hc h⟩)
  have HL := Lib.hid (fun W B c1 => hall W B c1 ⟨A, c, rfl, hl, hc⟩)
  clear hform hall hw
  unfold depErr at hb
  rcases hf : formB x with _ | _
  · rw [hf] at hb HF
    obtain rfl : (50 : Int) = b := hb
    clear hc hf
    go_enter Tryd.func80, Tryd.ntmps80
    go_wp2_with (go_at_call 93; refine (HF.out _ (below_alloc (Below.refl _ _) _)).mono ?_; rintro e w' ⟨rfl, hb⟩)
    go_ret
    exact ⟨rfl, below_then (below_alloc (Below.refl _ _) _) (by simp) hb⟩
  · rw [hf] at hb HF
    simp only [if_true] at hb
    have h0 := Lib.hid (show wrap64 0 = 0 by unfold wrap64; omega)
    clear hc hf
    by_cases h16 : 16 < wrap64 (namesN x)
    · rw [if_pos h16] at hb
      subst hb
      generalize hcnt : wrap64 (namesN x) = cnt at *
      have HN := Lib.hid hcnt
      clear hcnt
      go_enter Tryd.func80, Tryd.ntmps80
      go_wp2_with (first
        | (go_at_call 93; refine (HF.out _ (below_alloc (Below.refl _ _) _)).mono ?_; rintro e w' ⟨rfl, hb⟩; have q0 := cell_after (a := ⟨w.heap.size, 0, none⟩) (v := .int .i64 x.f0) hb (by simp [go_sem]); have q1 := cell_after (a := ⟨w.heap.size, 1, none⟩) (v := .string x.f1) hb (by simp [go_sem]); have q2 := cell_after (a := ⟨w.heap.size, 2, none⟩) (v := .int .i64 x.f2) hb (by simp [go_sem]); have q3 := cell_after (a := ⟨w.heap.size, 3, none⟩) (v := .string x.f3) hb (by simp [go_sem]); have q4 := cell_after (a := ⟨w.heap.size, 4, none⟩) (v := .slice A x.f4.length c) hb (by simp [go_sem]); have hs : w.heap.size < w'.heap.size := (by have := hb.size; simp at this; omega); have HB := Lib.hid (below_then (below_alloc (Below.refl _ _) _) (by simp) hb))
        | (go_at_call 94; refine (HL.out _ _ _ (below_alloc HB.out _) (by omega) (by exact heap_alloc_new _ _) h0.out).mono ?_; rintro e w2 ⟨rfl, hp⟩; have z0 : w2.cell? ⟨w'.heap.size, 0, none⟩ = some (.int .i64 cnt) := (by rw [← HN.out, ← Int.zero_add (namesN x)]; exact cell_of_one hp.cell)))
      go_ret
      exact ⟨rfl, hp.below⟩
    · rw [if_neg h16] at hb
      subst hb
      generalize hcnt : wrap64 (namesN x) = cnt at *
      have HN := Lib.hid hcnt
      clear hcnt
      go_enter Tryd.func80, Tryd.ntmps80
      go_wp2_with (first
        | (go_at_call 93; refine (HF.out _ (below_alloc (Below.refl _ _) _)).mono ?_; rintro e w' ⟨rfl, hb⟩; have q0 := cell_after (a := ⟨w.heap.size, 0, none⟩) (v := .int .i64 x.f0) hb (by simp [go_sem]); have q1 := cell_after (a := ⟨w.heap.size, 1, none⟩) (v := .string x.f1) hb (by simp [go_sem]); have q2 := cell_after (a := ⟨w.heap.size, 2, none⟩) (v := .int .i64 x.f2) hb (by simp [go_sem]); have q3 := cell_after (a := ⟨w.heap.size, 3, none⟩) (v := .string x.f3) hb (by simp [go_sem]); have q4 := cell_after (a := ⟨w.heap.size, 4, none⟩) (v := .slice A x.f4.length c) hb (by simp [go_sem]); have hs : w.heap.size < w'.heap.size := (by have := hb.size; simp at this; omega); have HB := Lib.hid (below_then (below_alloc (Below.refl _ _) _) (by simp) hb))
        | (go_at_call 94; refine (HL.out _ _ _ (below_alloc HB.out _) (by omega) (by exact heap_alloc_new _ _) h0.out).mono ?_; rintro e w2 ⟨rfl, hp⟩; have z0 : w2.cell? ⟨w'.heap.size, 0, none⟩ = some (.int .i64 cnt) := (by rw [← HN.out, ← Int.zero_add (namesN x)]; exact cell_of_one hp.cell)))
      go_ret
      exact ⟨rfl, hp.below⟩
end Go.Proofs.YtmclfdonoldlpaaDoor.Own

namespace Go.Proofs.YtmclfdonoldlpaaDoor.Own
open Go.RowKit Go.Proofs.YtmclfdonoldlpaaDoorW.PrintWords Go.Proofs.YtmclfdonoldlpaaDoorW.PrintLast Go.Proofs.YtmclfdonoldlpaaDoorW.PrintMore Go.Proofs.YtmclfdonoldlpaaDoor.POwn
set_option linter.unusedVariables false
set_option linter.unusedSimpArgs false

set_option maxRecDepth 100000 in
set_option maxHeartbeats 2000000 in
theorem lists_calls (B : Nat) (w : World) : Calls Tryd.prog 79 #[.pointer (some ⟨B, 0, none⟩)] w fun e w' =>
    e = .returned (.slice (some ⟨w.heap.size, 0, none⟩) 7 7) ∧ (∀ j, j < 7 → w'.cell? ⟨w.heap.size, j, none⟩ = some (.pointer (some ⟨B, 4 + j, none⟩))) ∧ Below w.heap.size w w' := by
  have hfin : ∀ n, (∀ j, j < 7 → ((w.alloc (.cells #[.pointer (some ⟨B, 4, none⟩), .pointer (some ⟨B, 5, none⟩), .pointer (some ⟨B, 6, none⟩), .pointer (some ⟨B, 7, none⟩), .pointer (some ⟨B, 8, none⟩), .pointer (some ⟨B, 9, none⟩), .pointer (some ⟨B, 10, none⟩)] 64)).drewN n).cell? ⟨w.heap.size, j, none⟩ = some (.pointer (some ⟨B, 4 + j, none⟩))) := by
    intro n j hj
    rw [show ∀ W : World, (W.drewN n).cell? ⟨w.heap.size, j, none⟩ = W.cell? ⟨w.heap.size, j, none⟩ from fun W => rfl]
    unfold World.cell?
    rw [heap_alloc_new]
    rcases j with _ | _ | _ | _ | _ | _ | _ | j
    all_goals first | rfl | omega
  have HF := Lib.hid hfin
  clear hfin
  go_enter Tryd.func79, Tryd.ntmps79
  go_wp2
  go_region_held3 (fun _ => True) (trivial) (fail)
  go_wp2
  go_ret
  exact ⟨rfl, HF.out 1, below_drew1 (below_alloc (Below.refl _ _) _)⟩
end Go.Proofs.YtmclfdonoldlpaaDoor.Own
