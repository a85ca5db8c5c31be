/- debctl.fields: what it answers; the functions in it: where each points. A stanza: its fields as a plain list of pairs; a map of the program that reads as one. splitB over lists of bytes; what a text's lines are behind an append. debctl.made, debctl.Parse: the plain functions. Parse's plain function: two texts of whole packages, one behind the other; lines that are not seen. -/
import Derived.Test.YtmclfdonoldlpaaDoorG0
import Derived.Maps.OwnIn
import Derived.StringKeys
import Derived.Test.YtmclfdonoldlpaaDoorG8
import Derived.Test.YtmclfdonoldlpaaDoorG9
import Derived.Test.YtmclfdonoldlpaaDoorG5
namespace Go.Proofs.YtmclfdonoldlpaaDoor.Own
open Go.RowKit Go.Lib Go.Proofs.YtmclfdonoldlpaaDoorW.PrintWords Go.Proofs.YtmclfdonoldlpaaDoorW.PrintLast Go.Proofs.YtmclfdonoldlpaaDoorW.PrintMore Go.Proofs.YtmclfdonoldlpaaDoor.POwn
set_option linter.unusedVariables false
set_option linter.unusedSimpArgs false

/-- The fields' names; the functions; which list each is. -/
def fName : Nat → ByteArray
  | 0 => ⟨#[80, 114, 111, 118, 105, 100, 101, 115]⟩
  | 1 => ⟨#[68, 101, 112, 101, 110, 100, 115]⟩
  | 2 => ⟨#[80, 114, 101, 45, 68, 101, 112, 101, 110, 100, 115]⟩
  | 3 => ⟨#[67, 111, 110, 102, 108, 105, 99, 116, 115]⟩
  | 4 => ⟨#[66, 114, 101, 97, 107, 115]⟩
  | 5 => ⟨#[82, 101, 112, 108, 97, 99, 101, 115]⟩
  | 6 => ⟨#[82, 101, 99, 111, 109, 109, 101, 110, 100, 115]⟩
  | _ => ⟨#[69, 110, 104, 97, 110, 99, 101, 115]⟩
def fFun : Nat → Nat
  | 0 => 41
  | 1 => 42
  | 2 => 43
  | 3 => 40
  | 4 => 40
  | 5 => 44
  | 6 => 45
  | _ => 46
def fOff : Nat → Nat
  | 0 => 4
  | 1 => 5
  | 2 => 6
  | 3 => 7
  | 4 => 7
  | 5 => 8
  | 6 => 9
  | _ => 10
abbrev fCells : Array Value := #[.string (fName 0), .func (.func (fFun 0)) #[] #[], .string (fName 1), .func (.func (fFun 1)) #[] #[], .string (fName 2), .func (.func (fFun 2)) #[] #[], .string (fName 3), .func (.func (fFun 3)) #[] #[], .string (fName 4), .func (.func (fFun 4)) #[] #[], .string (fName 5), .func (.func (fFun 5)) #[] #[], .string (fName 6), .func (.func (fFun 6)) #[] #[], .string (fName 7), .func (.func (fFun 7)) #[] #[]]
theorem fields_calls (w : World) : Calls Tryd.prog 25 #[] w fun e w' => e = .returned (.slice (some ⟨w.heap.size, 0, none⟩) 8 8) ∧ w' = w.alloc (.cells fCells 61) := by
  go_enter Tryd.func25, Tryd.ntmps25
  go_wp2
  go_ret
  exact ⟨rfl, rfl⟩
theorem fields1_calls (B : Nat) (w : World) : Calls Tryd.prog 40 #[.pointer (some ⟨B, 0, none⟩)] w fun e w' => e = .returned (.pointer (some ⟨B, 7, none⟩)) ∧ w' = w := by
  go_enter Tryd.func40, Tryd.ntmps40
  go_wp2
  go_ret
  exact ⟨rfl, rfl⟩
theorem fields2_calls (B : Nat) (w : World) : Calls Tryd.prog 41 #[.pointer (some ⟨B, 0, none⟩)] w fun e w' => e = .returned (.pointer (some ⟨B, 4, none⟩)) ∧ w' = w := by
  go_enter Tryd.func41, Tryd.ntmps41
  go_wp2
  go_ret
  exact ⟨rfl, rfl⟩
theorem fields3_calls (B : Nat) (w : World) : Calls Tryd.prog 42 #[.pointer (some ⟨B, 0, none⟩)] w fun e w' => e = .returned (.pointer (some ⟨B, 5, none⟩)) ∧ w' = w := by
  go_enter Tryd.func42, Tryd.ntmps42
  go_wp2
  go_ret
  exact ⟨rfl, rfl⟩
theorem fields4_calls (B : Nat) (w : World) : Calls Tryd.prog 43 #[.pointer (some ⟨B, 0, none⟩)] w fun e w' => e = .returned (.pointer (some ⟨B, 6, none⟩)) ∧ w' = w := by
  go_enter Tryd.func43, Tryd.ntmps43
  go_wp2
  go_ret
  exact ⟨rfl, rfl⟩
theorem fields5_calls (B : Nat) (w : World) : Calls Tryd.prog 44 #[.pointer (some ⟨B, 0, none⟩)] w fun e w' => e = .returned (.pointer (some ⟨B, 8, none⟩)) ∧ w' = w := by
  go_enter Tryd.func44, Tryd.ntmps44
  go_wp2
  go_ret
  exact ⟨rfl, rfl⟩
theorem fields6_calls (B : Nat) (w : World) : Calls Tryd.prog 45 #[.pointer (some ⟨B, 0, none⟩)] w fun e w' => e = .returned (.pointer (some ⟨B, 9, none⟩)) ∧ w' = w := by
  go_enter Tryd.func45, Tryd.ntmps45
  go_wp2
  go_ret
  exact ⟨rfl, rfl⟩
theorem fields7_calls (B : Nat) (w : World) : Calls Tryd.prog 46 #[.pointer (some ⟨B, 0, none⟩)] w fun e w' => e = .returned (.pointer (some ⟨B, 10, none⟩)) ∧ w' = w := by
  go_enter Tryd.func46, Tryd.ntmps46
  go_wp2
  go_ret
  exact ⟨rfl, rfl⟩
theorem fFun_calls (i : Nat) (hi : i < 8) (B : Nat) (w : World) : Calls Tryd.prog (fFun i) #[.pointer (some ⟨B, 0, none⟩)] w fun e w' => e = .returned (.pointer (some ⟨B, fOff i, none⟩)) ∧ w' = w := by
  rcases i with _ | _ | _ | _ | _ | _ | _ | _ | i
  · exact fields2_calls B w
  · exact fields3_calls B w
  · exact fields4_calls B w
  · exact fields1_calls B w
  · exact fields1_calls B w
  · exact fields5_calls B w
  · exact fields6_calls B w
  · exact fields7_calls B w
  · omega
theorem fFun_enter (i : Nat) (hi : i < 8) : ∀ args w, (callFunc (fFun i) args).run Tryd.prog w = .ok (.enter (fFun i) args) w := by
  rcases i with _ | _ | _ | _ | _ | _ | _ | _ | i
  all_goals first | omega | (intro _ _; kernel_rfl)
theorem fOff_range (i : Nat) : 4 ≤ fOff i ∧ fOff i ≤ 10 := by
  unfold fOff
  split <;> decide
/-- The cells of field i. -/
theorem fCells_at {w : World} {B : Nat} (h : w.heap[B]? = some (.cells fCells 61 (0, 0))) (i : Nat) (hi : i < 8) :
    w.cell? ⟨B, i * 2, none⟩ = some (.string (fName i)) ∧ w.cell? ⟨B, i * 2 + 1, none⟩ = some (.func (.func (fFun i)) #[] #[]) := by
  rw [blk_cell h, blk_cell h]
  rcases i with _ | _ | _ | _ | _ | _ | _ | _ | i
  all_goals first | omega | exact ⟨rfl, rfl⟩
end Go.Proofs.YtmclfdonoldlpaaDoor.Own

namespace Go.Proofs.YtmclfdonoldlpaaDoor.Own
open Go.RowKit Go.Lib Go.Proofs.YtmclfdonoldlpaaDoorW.PrintWords Go.Proofs.YtmclfdonoldlpaaDoorW.PrintLast Go.Proofs.YtmclfdonoldlpaaDoorW.PrintMore Go.Proofs.YtmclfdonoldlpaaDoor.POwn
set_option linter.unusedVariables false
set_option linter.unusedSimpArgs false

/-- Pairs of a key and a value; each key once. -/
abbrev Mp := List (ByteArray × ByteArray)
def mget : Mp → ByteArray → ByteArray
  | [], _ => ⟨#[]⟩
  | (a, b) :: r, k => if a = k then b else mget r k
def mhas : Mp → ByteArray → Bool
  | [], _ => false
  | (a, _) :: r, k => if a = k then true else mhas r k
def mput : Mp → ByteArray → ByteArray → Mp
  | [], k, v => [(k, v)]
  | (a, b) :: r, k, v => if a = k then (k, v) :: r else (a, b) :: mput r k v

theorem mget_put (m : Mp) (k v x : ByteArray) : mget (mput m k v) x = if k = x then v else mget m x := by
  induction m with
  | nil => simp [mput, mget]
  | cons p r ih =>
    obtain ⟨a, b⟩ := p
    by_cases h : a = k
    · subst h
      by_cases hx : a = x <;> simp [mput, mget, hx]
    · by_cases hx : a = x
      · subst hx
        have : ¬ k = a := fun e => h e.symm
        simp [mput, mget, h, this]
      · simp [mput, mget, h, hx, ih]
theorem mhas_put (m : Mp) (k v x : ByteArray) : mhas (mput m k v) x = if k = x then true else mhas m x := by
  induction m with
  | nil => simp [mput, mhas]
  | cons p r ih =>
    obtain ⟨a, b⟩ := p
    by_cases h : a = k
    · subst h
      by_cases hx : a = x <;> simp [mput, mhas, hx]
    · by_cases hx : a = x
      · subst hx
        have : ¬ k = a := fun e => h e.symm
        simp [mput, mhas, h, this]
      · simp [mput, mhas, h, hx, ih]
theorem mput_len (m : Mp) (k v : ByteArray) : (mput m k v).length = if mhas m k then m.length else m.length + 1 := by
  induction m with
  | nil => simp [mput, mhas]
  | cons p r ih =>
    obtain ⟨a, b⟩ := p
    by_cases h : a = k
    · simp [mput, mhas, h]
    · rcases hh : mhas r k with _ | _ <;> simp [mput, mhas, h, hh, ih]
theorem mput_ne (m : Mp) (k v : ByteArray) : mput m k v ≠ [] := by
  cases m with
  | nil => simp [mput]
  | cons p r =>
    obtain ⟨a, b⟩ := p
    unfold mput
    split <;> simp

/-- A key as a datum. -/
abbrev keyL (k : ByteArray) : Lit := .string k.data.toList
theorem keyL_ne {k x : ByteArray} (h : ¬ k = x) : keyL x ≠ keyL k := by
  intro e
  injection e with e
  apply h
  rcases k with ⟨⟨k⟩⟩
  rcases x with ⟨⟨x⟩⟩
  simp at e
  rw [e]
theorem keyL_key (k : ByteArray) : WideAt.IsKeyLit (keyL k) := trivial

/-- Block b is a map of at most n entries that reads as m. -/
def IsM (W : World) (b n : Nat) (m : Mp) : Prop := ∃ D : DataW Unit, W.ownsMap Tryd.prog 9 (plainElem Tryd.prog 9) b n D ∧ (∀ k, Maps.has D (keyL k) = mhas m k) ∧
  (∀ k, D.atKey (keyL k) (.lit (.string [])) = .lit (.string (mget m k).data.toList)) ∧ Maps.size D = m.length

theorem keyedS : Maps.Keyed Tryd.prog 9 := Maps.string_keyed Tryd.underlying9
theorem zeroS (W : World) : (zeroValue 9).run Tryd.prog W = .ok (.string ⟨#[]⟩) W := by
  kernel_rfl
theorem plainZ : plainElem (H := Unit) Tryd.prog 9 (.string ⟨#[]⟩) = some (.lit (.string []), []) := plainElem_string Tryd.underlying9 (by decide)
theorem plain_inv {P : Program} {e : TypeId} (he : P.underlying e = some .string) {v : Value} {z : DataW Unit × List MemPlace} (h : plainElem P e v = some z) : ∃ s : ByteArray, v = .string s ∧ z = (.lit (.string s.data.toList), []) := by
  unfold plainElem at h
  rw [he] at h
  cases v <;> simp at h
  obtain ⟨_, rfl⟩ := h
  exact ⟨_, rfl, rfl⟩
theorem lit_inj {a b : ByteArray} (h : (DataW.lit (.string a.data.toList) : DataW Unit) = .lit (.string b.data.toList)) : a = b := by
  injection h with h
  injection h with h
  rcases a with ⟨⟨a⟩⟩
  rcases b with ⟨⟨b⟩⟩
  simp at h
  rw [h]

theorem IsM.made (W : World) : IsM (W.alloc (.map #[] 0)) W.heap.size 0 [] :=
  ⟨.map [], World.ownsMap_made W _ _ _, fun k => rfl, fun k => rfl, rfl⟩
theorem IsM.kept {W W' : World} {b n : Nat} {m : Mp} {row : Option Nat} (h : IsM W b n m) (hg : W.grownBy W' row) (hne : some b ≠ row) : IsM W' b n m := by
  obtain ⟨D, h1, h2, h3, h4⟩ := h
  exact ⟨D, h1.kept hg hne, h2, h3, h4⟩
theorem IsM.mono {W : World} {b n n' : Nat} {m : Mp} (h : IsM W b n m) (hn : n ≤ n') : IsM W b n' m := by
  obtain ⟨D, h1, h2, h3, h4⟩ := h
  exact ⟨D, h1.mono hn, h2, h3, h4⟩
theorem IsM.block {W W' : World} {b n : Nat} {m : Mp} (h : IsM W b n m) (e : W'.heap[b]? = W.heap[b]?) : IsM W' b n m := by
  obtain ⟨D, ⟨es, c, h1, h1'⟩, h2⟩ := h
  exact ⟨D, ⟨es, c, e.trans h1, h1'⟩, h2⟩
theorem IsM.lt {W : World} {b n : Nat} {m : Mp} (h : IsM W b n m) : b < W.heap.size := by
  obtain ⟨D, h1, _⟩ := h
  exact h1.lt
theorem IsM.look {W : World} {b n : Nat} {m : Mp} (h : IsM W b n m) (k : ByteArray) (hk : k.size ≤ maxLen) : (Instr.lookup 37 (.map (some b)) (.string k) false).run Tryd.prog W = .ok (.string (mget m k)) W := by
  obtain ⟨D, h1, h2, h3, h4⟩ := h
  obtain ⟨v, ps, hrun, hv⟩ := h1.lookup keyedS Tryd.underlying37 (zeroS W) plainZ (WideMaps.keyOf_string_mk Tryd.underlying9 hk)
  obtain ⟨s, rfl, hz⟩ := plain_inv Tryd.underlying9 hv
  obtain rfl : mget m k = s := lit_inj ((h3 k).symm.trans (congrArg Prod.fst hz))
  exact hrun
theorem IsM.lookOk {W : World} {b n : Nat} {m : Mp} (h : IsM W b n m) (k : ByteArray) (hk : k.size ≤ maxLen) : (Instr.lookup 37 (.map (some b)) (.string k) true).run Tryd.prog W = .ok (.tuple #[.string (mget m k), .bool (mhas m k)]) W := by
  obtain ⟨D, h1, h2, h3, h4⟩ := h
  obtain ⟨v, ps, hrun, hv⟩ := h1.look_ok keyedS Tryd.underlying37 (zeroS W) plainZ (WideMaps.keyOf_string_mk Tryd.underlying9 hk)
  obtain ⟨s, rfl, hz⟩ := plain_inv Tryd.underlying9 hv
  obtain rfl : mget m k = s := lit_inj ((h3 k).symm.trans (congrArg Prod.fst hz))
  have e2 := h2 k
  generalize hq : Maps.has D (keyL k) = q at hrun e2
  subst e2
  exact hrun
theorem IsM.len {W : World} {b n : Nat} {m : Mp} (h : IsM W b n m) (ty : TypeId) : (Builtin.len_ #[37] ty #[.map (some b)]).run Tryd.prog W = .ok (.int .i64 m.length) W := by
  obtain ⟨D, h1, h2, h3, h4⟩ := h
  rw [h1.len Tryd.underlying37 ty, h4]
theorem IsM.update {W : World} {b n : Nat} {m : Mp} (h : IsM W b n m) (k v : ByteArray) (hk : k.size ≤ maxLen) (hv : v.size ≤ maxLen) (hn : n < maxLen) :
    ∃ W', (Instr.mapUpdate 37 (.map (some b)) (.string k) (.string v)).run Tryd.prog W = .ok () W' ∧ IsM W' b (n + 1) (mput m k v) ∧ W.grownBy W' (some b) := by
  obtain ⟨D, h1, h2, h3, h4⟩ := h
  obtain ⟨W', hrun, r1, r2⟩ := h1.update keyedS Tryd.underlying37 hn (WideMaps.keyOf_string_mk Tryd.underlying9 hk) (plainElem_string Tryd.underlying9 hv)
  have ht := h1.tidy keyedS
  refine ⟨W', hrun, ⟨_, r1, fun x => ?_, fun x => ?_, ?_⟩, r2⟩
  · rw [mhas_put]
    by_cases hx : k = x
    · subst hx; rw [if_pos rfl]; exact Maps.has_put_same ht.isMap (keyL_key k) _
    · rw [if_neg hx, ← h2 x]; exact Maps.has_put_other (keyL_ne hx) _
  · rw [mget_put]
    by_cases hx : k = x
    · subst hx; rw [if_pos rfl]; exact Maps.atKey_put_same ht.isMap (keyL_key k) _ _
    · rw [if_neg hx, ← h3 x]; exact Maps.atKey_put_other (keyL_ne hx) _ _
  · rw [Maps.size_put ht, mput_len, h2 k, h4]

/-- A look-up at the operation. -/
theorem wpList_lookM {w : World} {ops : Array Oper} {rest : List Oper} {o : Oper} {a : Act} {Q : Exit → Act → World → Prop} (hg : o.guard = none) (m x : Operand) (hop : o.op = Op.lookup 37 m x false)
    (b n : Nat) (M : Mp) (hm : a.eval m = .map (some b)) (hI : IsM w b n M) (k : ByteArray) (hx : a.eval x = .string k) (hk : k.size ≤ maxLen)
    (hK : wpList Tryd.prog ops Q rest (a.put o.dst (.string (mget M k))) w) : wpList Tryd.prog ops Q (o :: rest) a w := by
  refine wpList_plain hg fun K' hK' => ?_
  unfold Oper.wp
  simp [execOp, hop, hm, hx, hI.look k hk, Result.andThen]
  exact hK' _ _ hK
theorem wpListIn_lookM {F : Fence} {nF : Nat} {w : World} {ops : Array Oper} {rest : List Oper} {o : Oper} {a : Act} {Q : Exit → Act → World → Prop} (hg : o.guard = none) (m x : Operand) (hop : o.op = Op.lookup 37 m x false)
    (b n : Nat) (M : Mp) (hm : a.eval m = .map (some b)) (hI : IsM w b n M) (k : ByteArray) (hx : a.eval x = .string k) (hk : k.size ≤ maxLen)
    (hK : wpListIn F nF Tryd.prog ops Q rest (a.put o.dst (.string (mget M k))) w) : wpListIn F nF Tryd.prog ops Q (o :: rest) a w := by
  refine wpListIn_plain hg fun K' hK' => ?_
  unfold Oper.wpIn
  refine ⟨by simp [Oper.about, hop], ?_⟩
  rw [Oper.semAt_plain F _ _ (by rw [hop]; intro c hc'; cases hc')]
  simp [execOp, hop, hm, hx, hI.look k hk, Result.andThen]
  exact hK' _ _ hK
theorem wpListIn_lookOkM {F : Fence} {nF : Nat} {w : World} {ops : Array Oper} {rest : List Oper} {o : Oper} {a : Act} {Q : Exit → Act → World → Prop} (hg : o.guard = none) (m x : Operand) (hop : o.op = Op.lookup 37 m x true)
    (b n : Nat) (M : Mp) (hm : a.eval m = .map (some b)) (hI : IsM w b n M) (k : ByteArray) (hx : a.eval x = .string k) (hk : k.size ≤ maxLen)
    (hK : wpListIn F nF Tryd.prog ops Q rest (a.put o.dst (.tuple #[.string (mget M k), .bool (mhas M k)])) w) : wpListIn F nF Tryd.prog ops Q (o :: rest) a w := by
  refine wpListIn_plain hg fun K' hK' => ?_
  unfold Oper.wpIn
  refine ⟨by simp [Oper.about, hop], ?_⟩
  rw [Oper.semAt_plain F _ _ (by rw [hop]; intro c hc'; cases hc')]
  simp [execOp, hop, hm, hx, hI.lookOk k hk, Result.andThen]
  exact hK' _ _ hK
theorem wpListIn_updM {F : Fence} {nF : Nat} {w : World} {ops : Array Oper} {rest : List Oper} {o : Oper} {a : Act} {Q : Exit → Act → World → Prop} (hg : o.guard = none) (m x y : Operand) (hop : o.op = Op.mapUpdate 37 m x y)
    (b n : Nat) (M : Mp) (hm : a.eval m = .map (some b)) (hI : IsM w b n M) (k v : ByteArray) (hx : a.eval x = .string k) (hy : a.eval y = .string v) (hk : k.size ≤ maxLen) (hv : v.size ≤ maxLen) (hn : n < maxLen)
    (hK : ∀ w', IsM w' b (n + 1) (mput M k v) → w.grownBy w' (some b) → wpListIn F nF Tryd.prog ops Q rest (a.put o.dst undef) w') : wpListIn F nF Tryd.prog ops Q (o :: rest) a w := by
  refine wpListIn_plain hg fun K' hK' => ?_
  obtain ⟨w', hrun, r1, r2⟩ := hI.update k v hk hv hn
  unfold Oper.wpIn
  refine ⟨by simp [Oper.about, hop], ?_⟩
  rw [Oper.semAt_plain F _ _ (by rw [hop]; intro c hc'; cases hc')]
  simp [execOp, hop, hm, hx, hy, hrun, Result.andThen]
  exact hK' _ _ (hK w' r1 r2)
end Go.Proofs.YtmclfdonoldlpaaDoor.Own

namespace Go.Proofs.YtmclfdonoldlpaaDoor.Own
open Go.RowKit Go.Lib Go.Proofs.YtmclfdonoldlpaaDoorW.PrintWords Go.Proofs.YtmclfdonoldlpaaDoorW.PrintLast Go.Proofs.YtmclfdonoldlpaaDoorW.PrintMore Go.Proofs.YtmclfdonoldlpaaDoor.POwn
set_option linter.unusedVariables false
set_option linter.unusedSimpArgs false

abbrev ofL (l : List UInt8) : ByteArray := ⟨l.toArray⟩
theorem ofL_toList (s : ByteArray) : ofL s.data.toList = s := by
  rcases s with ⟨⟨s⟩⟩
  rfl
def splitL (c : UInt8) : List UInt8 → List (List UInt8)
  | [] => [[]]
  | x :: r => if x = c then [] :: splitL c r else match splitL c r with
    | h :: t => (x :: h) :: t
    | [] => [[x]]
theorem splitL_ne (c : UInt8) : ∀ l, splitL c l ≠ []
  | [] => by simp [splitL]
  | x :: r => by
    unfold splitL
    split
    · simp
    · split <;> simp
theorem splitL_append (c : UInt8) : ∀ a b : List UInt8, splitL c (a ++ c :: b) = splitL c a ++ splitL c b
  | [], b => by simp [splitL]
  | x :: r, b => by
    by_cases h : x = c
    · simp [splitL, h, splitL_append c r b]
    · rw [List.cons_append, splitL, splitL, if_neg h, if_neg h, splitL_append c r b]
      rcases hs : splitL c r with _ | ⟨y, t⟩
      · exact absurd hs (splitL_ne c r)
      · rfl
theorem splitL_none (c : UInt8) : ∀ l : List UInt8, c ∉ l → splitL c l = [l]
  | [], _ => rfl
  | x :: r, h => by
    have h1 : ¬ x = c := fun e => h (by simp [e])
    rw [splitL, if_neg h1, splitL_none c r (fun e => h (by simp [e]))]
theorem indexByte_none (c : UInt8) : ∀ l : List UInt8, Lib.indexByte l c = -1 → c ∉ l
  | [], _ => by simp
  | x :: r, h => by
    unfold Lib.indexByte at h
    have hr := (indexByte_lt r c).1
    split at h
    · omega
    · rename_i hx
      have := indexByte_none c r (by
        by_cases h2 : Lib.indexByte r c = -1
        · exact h2
        · rw [if_neg (by simpa using h2)] at h; omega)
      simp only [List.mem_cons, not_or]
      exact ⟨fun e => hx (by simp [e]), this⟩
theorem indexByte_some (c : UInt8) : ∀ (l : List UInt8) (n : Nat), Lib.indexByte l c = n → c ∉ l.take n ∧ l = l.take n ++ c :: l.drop (n + 1)
  | [], n, h => by unfold Lib.indexByte at h; omega
  | x :: r, n, h => by
    unfold Lib.indexByte at h
    split at h
    · rename_i hx
      have : n = 0 := by omega
      subst this
      have hx : x = c := by simpa using hx
      simp [hx]
    · rename_i hx
      have hr := (indexByte_lt r c).1
      have h2 : ¬ Lib.indexByte r c = -1 := fun h2 => by
        rw [if_pos (by simpa using h2)] at h
        omega
      rw [if_neg (by simpa using h2)] at h
      obtain ⟨k, rfl⟩ : ∃ k, n = k + 1 := ⟨n - 1, by omega⟩
      obtain ⟨h1, h2⟩ := indexByte_some c r k (by omega)
      constructor
      · simp only [List.take_succ_cons, List.mem_cons, not_or]
        exact ⟨fun e => hx (by simp [e]), h1⟩
      · simp only [List.take_succ_cons, List.drop_succ_cons, List.cons_append]
        rw [← h2]
theorem ofL_extract (s : ByteArray) (a b : Nat) : s.extract a b = ofL ((s.data.toList.take b).drop a) := by
  apply ByteArray.ext
  rw [ByteArray.data_extract]
  apply Array.ext'
  simp [List.extract_eq_take_drop, List.drop_take]
theorem splitB_list (c : UInt8) (n : Nat) : ∀ s : ByteArray, s.size ≤ n → splitB c s = (splitL c s.data.toList).map ofL := by
  induction n with
  | zero =>
    intro s hn
    have hlt := at1_lt s c
    have : at1 s c = -1 := by omega
    rw [splitB_no c s this, splitL_none c _ (indexByte_none c _ this)]
    simp [ofL_toList]
  | succ n ih =>
    intro s hn
    have hlen : s.data.toList.length = s.size := by simp
    have hlt := at1_lt s c
    by_cases h : at1 s c = -1
    · rw [splitB_no c s h, splitL_none c _ (indexByte_none c _ h)]
      simp [ofL_toList]
    · obtain ⟨k, hk⟩ : ∃ k : Nat, at1 s c = (k : Int) := ⟨(at1 s c).toNat, by omega⟩
      rw [splitB_yes c s k hk]
      obtain ⟨h1, h2⟩ := indexByte_some c s.data.toList k hk
      have hs : (s.extract (k + 1) s.size).data.toList = s.data.toList.drop (k + 1) := by
        rw [ofL_extract, List.take_of_length_le (by omega)]
      have e0 : s.extract 0 k = ofL (s.data.toList.take k) := by rw [ofL_extract, List.drop_zero]
      rw [ih _ (by rw [show (s.extract (k + 1) s.size).size = (s.extract (k + 1) s.size).data.toList.length by simp, hs, List.length_drop]; omega), hs, e0]
      conv => rhs; rw [h2]
      rw [splitL_append, splitL_none c _ h1]
      rfl
theorem splitB_eq (c : UInt8) (s : ByteArray) : splitB c s = (splitL c s.data.toList).map ofL := splitB_list c s.size s (Nat.le_refl _)
theorem append_data (a b : ByteArray) : (a ++ b).data.toList = a.data.toList ++ b.data.toList := by
  simp
theorem splitB_append (c : UInt8) (a b : ByteArray) : splitB c (a ++ (⟨#[c]⟩ ++ b)) = splitB c a ++ splitB c b := by
  rw [splitB_eq, splitB_eq, splitB_eq, append_data, append_data, ← List.map_append, ← splitL_append]
  rfl
theorem splitB_empty (c : UInt8) : splitB c ⟨#[]⟩ = [⟨#[]⟩] := by rw [splitB_eq]; rfl
/-- The lines of a text with two ends behind it. -/
theorem lines_end (a : ByteArray) : splitB 10 (a ++ ⟨#[10, 10]⟩) = splitB 10 a ++ [⟨#[]⟩, ⟨#[]⟩] := by
  have e : (⟨#[10, 10]⟩ : ByteArray) = ⟨#[10]⟩ ++ (⟨#[10]⟩ ++ ⟨#[]⟩) := by decide
  rw [e, splitB_append, show (⟨#[10]⟩ ++ ⟨#[]⟩ : ByteArray) = ⟨#[]⟩ ++ (⟨#[10]⟩ ++ ⟨#[]⟩) by decide, splitB_append, splitB_empty]
  rfl
theorem lines_join (a b : ByteArray) : splitB 10 (a ++ (⟨#[10, 10]⟩ ++ b) ++ ⟨#[10, 10]⟩) = splitB 10 a ++ ⟨#[]⟩ :: (splitB 10 b ++ [⟨#[]⟩, ⟨#[]⟩]) := by
  have e : a ++ (⟨#[10, 10]⟩ ++ b) ++ ⟨#[10, 10]⟩ = a ++ (⟨#[10]⟩ ++ (⟨#[]⟩ ++ (⟨#[10]⟩ ++ (b ++ ⟨#[10, 10]⟩)))) := by
    apply ByteArray.ext
    apply Array.ext'
    simp
  rw [e, splitB_append, splitB_append, splitB_empty, lines_end]
  rfl
end Go.Proofs.YtmclfdonoldlpaaDoor.Own

namespace Go.Proofs.YtmclfdonoldlpaaDoor.Own
open Go.RowKit Go.Lib Go.Proofs.YtmclfdonoldlpaaDoorW.PrintWords Go.Proofs.YtmclfdonoldlpaaDoorW.PrintLast Go.Proofs.YtmclfdonoldlpaaDoorW.PrintMore Go.Proofs.YtmclfdonoldlpaaDoor.POwn
set_option linter.unusedVariables false
set_option linter.unusedSimpArgs false

abbrev nPackage : ByteArray := ⟨#[80, 97, 99, 107, 97, 103, 101]⟩
abbrev nVersion : ByteArray := ⟨#[86, 101, 114, 115, 105, 111, 110]⟩
abbrev nArchitecture : ByteArray := ⟨#[65, 114, 99, 104, 105, 116, 101, 99, 116, 117, 114, 101]⟩
abbrev nOrigin : ByteArray := ⟨#[79, 114, 105, 103, 105, 110]⟩
abbrev nProvides : ByteArray := ⟨#[80, 114, 111, 118, 105, 100, 101, 115]⟩
abbrev nDepends : ByteArray := ⟨#[68, 101, 112, 101, 110, 100, 115]⟩
abbrev nPreDepends : ByteArray := ⟨#[80, 114, 101, 45, 68, 101, 112, 101, 110, 100, 115]⟩
abbrev nConflicts : ByteArray := ⟨#[67, 111, 110, 102, 108, 105, 99, 116, 115]⟩
abbrev nBreaks : ByteArray := ⟨#[66, 114, 101, 97, 107, 115]⟩
abbrev nReplaces : ByteArray := ⟨#[82, 101, 112, 108, 97, 99, 101, 115]⟩
abbrev nRecommends : ByteArray := ⟨#[82, 101, 99, 111, 109, 109, 101, 110, 100, 115]⟩
abbrev nEnhances : ByteArray := ⟨#[69, 110, 104, 97, 110, 99, 101, 115]⟩
abbrev allB : ByteArray := ⟨#[97, 108, 108]⟩
abbrev noarchB : ByteArray := ⟨#[110, 111, 97, 114, 99, 104]⟩
def archF (s : ByteArray) : ByteArray := if s = allB then noarchB else s
/-- The texts of the relations, in order. -/
def relTexts (m : Mp) : List ByteArray := [mget m nProvides, mget m nDepends, mget m nPreDepends, mget m nConflicts, mget m nBreaks, mget m nReplaces, mget m nRecommends, mget m nEnhances]
/-- The package of a stanza. -/
def pkgF (m : Mp) : S34 :=
  ⟨mget m nPackage, mget m nVersion, archF (mget m nArchitecture), mget m nOrigin, relF (mget m nProvides), relF (mget m nDepends), relF (mget m nPreDepends), relF (mget m nConflicts) ++ relF (mget m nBreaks), relF (mget m nReplaces), relF (mget m nRecommends), relF (mget m nEnhances), []⟩
/-- What debctl.made answers beside it. -/
def madeErr (m : Mp) : Int := if (relTexts m).all relOk then chkErr (pkgF m) else 120

/-- What Parse knows between two lines. -/
structure St where
  out : List S34
  x : Mp
  last : ByteArray
abbrev spB : ByteArray := ⟨#[32]⟩
def first (s : ByteArray) : UInt8 := s.get! 0
def nameF (s : ByteArray) : ByteArray := s.extract 0 (at1 s 58).toNat
def valueF (s : ByteArray) : ByteArray := trimB (s.extract ((at1 s 58).toNat + 1) s.size)
def stepF (s : St) (l : ByteArray) : Except Int St :=
  if (trimB l).toList.isEmpty then
    if s.x.isEmpty then .ok s
    else if 200 ≤ s.out.length then .error 121
    else if madeErr s.x = 0 then .ok ⟨s.out ++ [pkgF s.x], [], ⟨#[]⟩⟩ else .error (madeErr s.x)
  else if first l = 35 then .ok s
  else if first l = 32 || first l = 9 then
    if s.x.isEmpty then .error 120 else .ok ⟨s.out, mput s.x s.last (mget s.x s.last ++ (spB ++ trimB l)), s.last⟩
  else if decide (at1 l 58 < 0) || (nameF l).toList.isEmpty || mhas s.x (nameF l) || hasWs (nameF l) then .error 120
  else .ok ⟨s.out, mput s.x (nameF l) (valueF l), nameF l⟩
def runF : St → List ByteArray → Except Int St
  | s, [] => .ok s
  | s, l :: r => match stepF s l with
    | .ok s' => runF s' r
    | .error e => .error e
abbrev nl2 : ByteArray := ⟨#[10, 10]⟩
def parseF (t : ByteArray) : Except Int St := if 40000 < t.size then .error 122 else runF ⟨[], [], ⟨#[]⟩⟩ (splitB 10 (t ++ nl2))
theorem runF_nil (s : St) : runF s [] = .ok s := rfl
theorem runF_ok {s s' : St} {l : ByteArray} (r : List ByteArray) (h : stepF s l = .ok s') : runF s (l :: r) = runF s' r := by
  rw [runF, h]
theorem runF_er {s : St} {l : ByteArray} {e : Int} (r : List ByteArray) (h : stepF s l = .error e) : runF s (l :: r) = .error e := by
  rw [runF, h]
theorem runF_append : ∀ (a b : List ByteArray) (s : St), runF s (a ++ b) = match runF s a with | .ok s' => runF s' b | .error e => .error e
  | [], b, s => rfl
  | l :: r, b, s => by
    rcases h : stepF s l with e | s'
    · rw [List.cons_append, runF_er _ h, runF_er _ h]
    · rw [List.cons_append, runF_ok _ h, runF_ok _ h]
      exact runF_append r b s'
theorem runF_one (s : St) (l : ByteArray) : runF s [l] = stepF s l := by
  rcases h : stepF s l with e | s'
  · rw [runF_er _ h]
  · rw [runF_ok _ h, runF_nil]
theorem runF_snoc {a : List ByteArray} {l : ByteArray} {s s' : St} (h : runF s a = .ok s') : runF s (a ++ [l]) = stepF s' l := by
  rw [runF_append, h, ← runF_one]
theorem runF_stop {a b : List ByteArray} {l : ByteArray} {s s' : St} {e : Int} (h : runF s a = .ok s') (h2 : stepF s' l = .error e) : runF s (a ++ l :: b) = .error e := by
  rw [runF_append, h, ← runF_er b h2]
end Go.Proofs.YtmclfdonoldlpaaDoor.Own

namespace Go.Proofs.YtmclfdonoldlpaaDoor.Own
open Go.RowKit Go.Lib Go.Proofs.YtmclfdonoldlpaaDoorW.PrintWords Go.Proofs.YtmclfdonoldlpaaDoorW.PrintLast Go.Proofs.YtmclfdonoldlpaaDoorW.PrintMore Go.Proofs.YtmclfdonoldlpaaDoor.POwn
set_option linter.unusedVariables false
set_option linter.unusedSimpArgs false

def errOf : Except Int St → Int
  | .ok _ => 0
  | .error e => e
def outOf : Except Int St → List S34
  | .ok s => s.out
  | .error _ => []
/-- What holds between all lines. -/
def Inv (s : St) : Prop := s.out.length ≤ 200 ∧ (s.x = [] → s.last = ⟨#[]⟩)
theorem trimB_empty : trimB ⟨#[]⟩ = ⟨#[]⟩ := by rfl
theorem empty_list : ((⟨#[]⟩ : ByteArray).toList).isEmpty = true := by rw [ByteArray.toList_eq]; rfl

theorem step_cases (s : St) (l : ByteArray) :
    stepF s l = .ok s ∨ (∃ e, stepF s l = .error e ∧ e ≠ 0 ∧ (e = 121 → s.x ≠ [] ∧ (trimB l).toList.isEmpty = true ∨ True)) ∨
    ((trimB l).toList.isEmpty = true ∧ s.x ≠ [] ∧ s.out.length < 200 ∧ madeErr s.x = 0 ∧ stepF s l = .ok ⟨s.out ++ [pkgF s.x], [], ⟨#[]⟩⟩) ∨
    ((trimB l).toList.isEmpty = false ∧ ∃ x last, x ≠ [] ∧ stepF s l = .ok ⟨s.out, x, last⟩) := by
  unfold stepF
  split
  · rename_i ht
    split
    · exact .inl rfl
    · rename_i hx
      have hx' : s.x ≠ [] := by simpa using hx
      split
      · exact .inr (.inl ⟨121, rfl, by decide, fun _ => .inr trivial⟩)
      · rename_i hl
        split
        · rename_i hm
          exact .inr (.inr (.inl ⟨ht, hx', by omega, hm, rfl⟩))
        · rename_i hm
          exact .inr (.inl ⟨_, rfl, hm, fun _ => .inr trivial⟩)
  · rename_i ht
    have ht' : (trimB l).toList.isEmpty = false := by simpa using ht
    split
    · exact .inl rfl
    · split
      · split
        · exact .inr (.inl ⟨120, rfl, by decide, fun _ => .inr trivial⟩)
        · exact .inr (.inr (.inr ⟨ht', _, _, mput_ne _ _ _, rfl⟩))
      · split
        · exact .inr (.inl ⟨120, rfl, by decide, fun _ => .inr trivial⟩)
        · exact .inr (.inr (.inr ⟨ht', _, _, mput_ne _ _ _, rfl⟩))
theorem step_inv {s s' : St} {l : ByteArray} (h : Inv s) (e : stepF s l = .ok s') : Inv s' := by
  rcases step_cases s l with h1 | ⟨e1, h1, _⟩ | ⟨_, _, hl, _, h1⟩ | ⟨_, x, last, hx, h1⟩
  · rw [h1] at e; injection e with e; subst e; exact h
  · rw [h1] at e; cases e
  · rw [h1] at e; injection e with e; subst e
    exact ⟨by simp; omega, fun _ => rfl⟩
  · rw [h1] at e; injection e with e; subst e
    exact ⟨h.1, fun hx' => absurd hx' hx⟩
theorem run_inv : ∀ (ls : List ByteArray) {s s' : St}, Inv s → runF s ls = .ok s' → Inv s'
  | [], s, s', h, e => by unfold runF at e; injection e with e; subst e; exact h
  | l :: r, s, s', h, e => by
    unfold runF at e
    rcases hs : stepF s l with e1 | s1
    · rw [hs] at e; cases e
    · rw [hs] at e
      exact run_inv r (step_inv h hs) e
theorem step_err {s : St} {l : ByteArray} {e : Int} (h : stepF s l = .error e) : e ≠ 0 := by
  rcases step_cases s l with h1 | ⟨e1, h1, h2, _⟩ | ⟨_, _, hl, _, h1⟩ | ⟨_, x, last, hx, h1⟩
  all_goals rw [h1] at h
  · cases h
  · injection h with h; subst h; exact h2
  · cases h
  · cases h
theorem run_err : ∀ (ls : List ByteArray) {s : St} {e : Int}, runF s ls = .error e → e ≠ 0
  | [], s, e, h => by unfold runF at h; cases h
  | l :: r, s, e, h => by
    unfold runF at h
    rcases hs : stepF s l with e1 | s1
    · rw [hs] at h; injection h with h; subst h; exact step_err hs
    · rw [hs] at h; exact run_err r h
/-- Packages only come to those that are. -/
theorem run_len : ∀ (ls : List ByteArray) {s s' : St}, runF s ls = .ok s' → s.out.length ≤ s'.out.length
  | [], s, s', e => by unfold runF at e; injection e with e; subst e; exact Nat.le_refl _
  | l :: r, s, s', e => by
    unfold runF at e
    rcases hs : stepF s l with e1 | s1
    · rw [hs] at e; cases e
    · rw [hs] at e
      refine Nat.le_trans ?_ (run_len r e)
      rcases step_cases s l with h1 | ⟨e1, h1, _⟩ | ⟨_, _, hl, _, h1⟩ | ⟨_, x, last, hx, h1⟩
      all_goals rw [h1] at hs
      all_goals first | cases hs | skip
      all_goals simp

def pre (p : List S34) (s : St) : St := ⟨p ++ s.out, s.x, s.last⟩
/-- A step with packages ahead of those that are. -/
theorem step_pre (p : List S34) (s : St) (l : ByteArray) :
    stepF (pre p s) l = (match stepF s l with | .ok s' => .ok (pre p s') | .error e => .error e) ∨ (stepF (pre p s) l = .error 121 ∧ (stepF s l = .error 121 ∨ ((∃ e, stepF s l = .error e) ∨ ∃ s', stepF s l = .ok s' ∧ s'.out.length = s.out.length + 1 ∧ 200 ≤ p.length + s.out.length))) := by
  unfold stepF pre
  dsimp only
  split
  · split
    · exact .inl rfl
    · by_cases h2 : 200 ≤ s.out.length
      · left
        rw [if_pos h2, if_pos (by simp; omega)]
      · by_cases h3 : 200 ≤ (p ++ s.out).length
        · right
          rw [if_pos h3, if_neg h2]
          refine ⟨rfl, .inr ?_⟩
          split
          · exact .inr ⟨_, rfl, by simp, by simpa using h3⟩
          · exact .inl ⟨_, rfl⟩
        · left
          rw [if_neg h2, if_neg h3]
          split
          · simp
          · rfl
  · split
    · exact .inl rfl
    · split
      · split <;> exact .inl rfl
      · split <;> exact .inl rfl
theorem run_pre (p : List S34) : ∀ (ls : List ByteArray) (s : St),
    runF (pre p s) ls = (match runF s ls with | .ok s' => .ok (pre p s') | .error e => .error e) ∨ (runF (pre p s) ls = .error 121 ∧ ((∃ e, runF s ls = .error e) ∨ ∃ s', runF s ls = .ok s' ∧ 200 < p.length + s'.out.length))
  | [], s => .inl rfl
  | l :: r, s => by
    unfold runF
    rcases step_pre p s l with h | ⟨h, h2⟩
    · rw [h]
      rcases hs : stepF s l with e | s'
      · exact .inl rfl
      · exact run_pre p r s'
    · right
      rw [h]
      refine ⟨rfl, ?_⟩
      rcases h2 with h2 | ⟨e, h2⟩ | ⟨s', h2, h3, h4⟩
      · rw [h2]; exact .inl ⟨_, rfl⟩
      · rw [h2]; exact .inl ⟨_, rfl⟩
      · rw [h2]
        dsimp only
        rcases hr : runF s' r with e | s2
        · exact .inl ⟨_, rfl⟩
        · exact .inr ⟨s2, rfl, by have := run_len r hr; omega⟩
abbrev st0 : St := ⟨[], [], ⟨#[]⟩⟩
theorem inv0 : Inv st0 := ⟨by decide, fun _ => rfl⟩
/-- Behind an empty line there is no stanza. -/
theorem step_end {s s' : St} (h : Inv s) (e : stepF s ⟨#[]⟩ = .ok s') : s' = ⟨s'.out, [], ⟨#[]⟩⟩ := by
  unfold stepF at e
  rw [if_pos (by rw [trimB_empty]; exact empty_list)] at e
  split at e
  · rename_i hx
    injection e with e
    subst e
    have hx' : s.x = [] := by simpa using hx
    rcases s with ⟨o, x, l⟩
    have := h.2 hx'
    dsimp only at *
    rw [hx', this]
  · split at e
    · cases e
    · split at e
      · injection e with e
        subst e
        rfl
      · cases e
theorem step_more (o : List S34) : stepF ⟨o, [], ⟨#[]⟩⟩ ⟨#[]⟩ = .ok ⟨o, [], ⟨#[]⟩⟩ := by
  unfold stepF
  rw [if_pos (by rw [trimB_empty]; exact empty_list)]
  rfl
theorem run_end {ls : List ByteArray} {s : St} (hr : runF st0 (ls ++ [⟨#[]⟩]) = .ok s) : s = ⟨s.out, [], ⟨#[]⟩⟩ ∧ s.out.length ≤ 200 := by
  rw [runF_append] at hr
  rcases h1 : runF st0 ls with e | s1
  · rw [h1] at hr; cases hr
  · rw [h1] at hr
    have h2 : stepF s1 ⟨#[]⟩ = .ok s := by rw [← runF_one]; exact hr
    have hi := run_inv _ inv0 h1
    exact ⟨step_end hi h2, (step_inv hi h2).1⟩
/-- A text read, by its lines and one empty line. -/
theorem parse_lines {t : ByteArray} (h : t.size ≤ 40000) : parseF t = runF st0 (splitB 10 t ++ [⟨#[]⟩]) := by
  unfold parseF
  rw [if_neg (by omega), lines_end, show splitB 10 t ++ [(⟨#[]⟩ : ByteArray), ⟨#[]⟩] = (splitB 10 t ++ [⟨#[]⟩]) ++ [⟨#[]⟩] by simp, runF_append]
  rcases hr : runF st0 (splitB 10 t ++ [⟨#[]⟩]) with e | s
  · have hr' : runF ⟨[], [], ⟨#[]⟩⟩ (splitB 10 t ++ [⟨#[]⟩]) = .error e := hr
    rw [hr']
  · have hr' : runF ⟨[], [], ⟨#[]⟩⟩ (splitB 10 t ++ [⟨#[]⟩]) = .ok s := hr
    rw [hr']
    show runF s [⟨#[]⟩] = .ok s
    rw [runF_one, (run_end hr).1, step_more]
/-- .. it leaves no stanza. -/
theorem parse_end {t : ByteArray} {s : St} (h : parseF t = .ok s) : s = ⟨s.out, [], ⟨#[]⟩⟩ ∧ s.out.length ≤ 200 := by
  have ht : t.size ≤ 40000 := by
    unfold parseF at h
    split at h
    · cases h
    · omega
  rw [parse_lines ht] at h
  exact run_end h
theorem parse_long {t : ByteArray} (h : 40000 < t.size) : parseF t = .error 122 := by
  unfold parseF
  rw [if_pos h]
theorem parse_err {t : ByteArray} {e : Int} (h : parseF t = .error e) : e ≠ 0 := by
  unfold parseF at h
  split at h
  · injection h with h; omega
  · exact run_err _ h
/-- DebctlJoins, in plain words. -/
theorem parse_join {a b : ByteArray} (h : (a ++ (⟨#[10, 10]⟩ ++ b)).size ≤ 40000) :
    parseF (a ++ (⟨#[10, 10]⟩ ++ b)) = match parseF a with
      | .error e => .error e
      | .ok s => runF s (splitB 10 b ++ [⟨#[]⟩]) := by
  have hz : (a ++ (⟨#[10, 10]⟩ ++ b)).size = a.size + (2 + b.size) := by simp [ByteArray.size_append]; rfl
  rw [parse_lines h, parse_lines (t := a) (by omega)]
  have e : splitB 10 (a ++ (⟨#[10, 10]⟩ ++ b)) = splitB 10 a ++ ([⟨#[]⟩] ++ splitB 10 b) := by
    have e1 : a ++ (⟨#[10, 10]⟩ ++ b) = a ++ (⟨#[10]⟩ ++ (⟨#[]⟩ ++ (⟨#[10]⟩ ++ b))) := by
      apply ByteArray.ext
      apply Array.ext'
      simp
    rw [e1, splitB_append, splitB_append, splitB_empty]
  rw [e, show splitB 10 a ++ ([⟨#[]⟩] ++ splitB 10 b) ++ [⟨#[]⟩] = (splitB 10 a ++ [⟨#[]⟩]) ++ (splitB 10 b ++ [⟨#[]⟩]) by simp, runF_append]
  cases hq : runF st0 (splitB 10 a ++ [⟨#[]⟩]) with
  | error e => rfl
  | ok s => rfl
theorem joins {a b : ByteArray} (h : (a ++ (⟨#[10, 10]⟩ ++ b)).size ≤ 40000) :
    (errOf (parseF a) ≠ 0 → errOf (parseF (a ++ (⟨#[10, 10]⟩ ++ b))) = errOf (parseF a) ∧ outOf (parseF (a ++ (⟨#[10, 10]⟩ ++ b))) = []) ∧
    (errOf (parseF a) = 0 → 200 < (outOf (parseF a)).length + (outOf (parseF b)).length → errOf (parseF (a ++ (⟨#[10, 10]⟩ ++ b))) ≠ 0) ∧
    (errOf (parseF a) = 0 → errOf (parseF b) ≠ 0 → (errOf (parseF (a ++ (⟨#[10, 10]⟩ ++ b))) = errOf (parseF b) ∨ errOf (parseF (a ++ (⟨#[10, 10]⟩ ++ b))) = 121) ∧ outOf (parseF (a ++ (⟨#[10, 10]⟩ ++ b))) = []) ∧
    (errOf (parseF a) = 0 → errOf (parseF b) = 0 → (outOf (parseF a)).length + (outOf (parseF b)).length ≤ 200 → errOf (parseF (a ++ (⟨#[10, 10]⟩ ++ b))) = 0 ∧ outOf (parseF (a ++ (⟨#[10, 10]⟩ ++ b))) = outOf (parseF a) ++ outOf (parseF b)) := by
  have hz : (a ++ (⟨#[10, 10]⟩ ++ b)).size = a.size + (2 + b.size) := by simp [ByteArray.size_append]; rfl
  rw [parse_join h]
  have hb := parse_lines (t := b) (by omega)
  rcases ha : parseF a with e | s
  · have he := parse_err ha
    refine ⟨fun _ => ⟨rfl, rfl⟩, fun h0 => absurd h0 he, fun h0 => absurd h0 he, fun h0 => absurd h0 he⟩
  · obtain ⟨hs, hl⟩ := parse_end ha
    refine ⟨fun h0 => absurd rfl h0, fun _ => ?_, fun _ => ?_, fun _ => ?_⟩
    all_goals dsimp only
    all_goals rw [hb]
    all_goals have hp : s = pre s.out st0 := by (rw [hs]; simp [pre])
    · intro h2
      rcases run_pre s.out (splitB 10 b ++ [⟨#[]⟩]) st0 with h3 | ⟨h3, _⟩
      · rw [← hp] at h3
        rcases hr : runF st0 (splitB 10 b ++ [⟨#[]⟩]) with e | s2
        · rw [hr] at h3
          rw [h3]
          exact run_err _ hr
        · rw [hr] at h3 h2
          have : (pre s.out s2).out.length ≤ 200 := (run_inv _ ⟨hl, fun _ => by rw [hs]⟩ h3).1
          simp [pre, outOf] at this h2
          omega
      · rw [← hp] at h3
        rw [h3]
        decide
    · intro h2
      rcases run_pre s.out (splitB 10 b ++ [⟨#[]⟩]) st0 with h3 | ⟨h3, _⟩
      · rw [← hp] at h3
        rcases hr : runF st0 (splitB 10 b ++ [⟨#[]⟩]) with e | s2
        · rw [hr] at h3
          rw [h3, hr]
          exact ⟨.inl rfl, rfl⟩
        · rw [hr] at h2
          exact absurd rfl h2
      · rw [← hp] at h3
        rw [h3]
        exact ⟨.inr rfl, rfl⟩
    · intro h2 h4
      rcases run_pre s.out (splitB 10 b ++ [⟨#[]⟩]) st0 with h3 | ⟨h3, h5⟩
      · rw [← hp] at h3
        rcases hr : runF st0 (splitB 10 b ++ [⟨#[]⟩]) with e | s2
        · rw [hr] at h2
          exact absurd h2 (run_err _ hr)
        · rw [hr] at h3
          rw [h3]
          refine ⟨rfl, ?_⟩
          show s.out ++ s2.out = s.out ++ outOf (runF st0 (splitB 10 b ++ [⟨#[]⟩]))
          rw [hr]
          rfl
      · exfalso
        rcases h5 with ⟨e, h5⟩ | ⟨s', h5, h6⟩
        · rw [h5] at h2
          exact absurd h2 (run_err _ h5)
        · rw [h5] at h4
          simp [outOf] at h4
          omega

/-- A line that begins with #. -/
theorem step_note (s : St) (l : ByteArray) (h : l.data.toList.head? = some 35) : stepF s l = .ok s := by
  obtain ⟨r, hr⟩ : ∃ r, l.data.toList = 35 :: r := by
    cases hl : l.data.toList with
    | nil => rw [hl] at h; cases h
    | cons a r => rw [hl] at h; injection h with h; exact ⟨r, by rw [h]⟩
  have ht : (trimB l).toList.isEmpty = false := by
    rw [ByteArray.toList_eq]
    show (Lib.trimS l.data.toList [32, 9]).isEmpty = false
    rw [hr]
    have key : ∀ t : List UInt8, (35 : UInt8) ∈ t → (35 : UInt8) ∈ t.dropWhile (fun x => [(32 : UInt8), 9].contains x) := by
      intro t
      induction t with
      | nil => simp
      | cons a t ih =>
        intro hm
        rw [List.dropWhile_cons]
        split
        · rename_i ha
          rcases List.mem_cons.1 hm with rfl | hm
          · exact absurd ha (by decide)
          · exact ih hm
        · exact hm
    have hm : (35 : UInt8) ∈ Lib.trimS (35 :: r) [32, 9] := by
      unfold Lib.trimS Lib.trimLeftS Lib.trimRightS
      first
        | exact List.mem_reverse.1 (by simpa using key _ (List.mem_reverse.2 (key _ (List.mem_cons_self ..))))
        | exact key _ (List.mem_reverse.2 (key _ (List.mem_reverse.2 (List.mem_cons_self ..))))
    cases hq : Lib.trimS (35 :: r) [32, 9] with
    | nil => rw [hq] at hm; cases hm
    | cons a t => rfl
  have hf : first l = 35 := by
    rcases l with ⟨⟨l⟩⟩
    simp at hr
    subst hr
    rfl
  unfold stepF
  rw [if_neg (by simp [ht]), if_pos hf]
end Go.Proofs.YtmclfdonoldlpaaDoor.Own
