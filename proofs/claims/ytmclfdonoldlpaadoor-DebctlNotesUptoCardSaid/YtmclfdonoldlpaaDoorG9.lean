/- debctl.relations: the plain function; a struct that is appended to a row; what holds between two rounds. debctl.relations: the walk. -/
import Derived.Test.YtmclfdonoldlpaaDoorG8
import Derived.Deep.MidRow
namespace Go.Proofs.YtmclfdonoldlpaaDoor.Own
open Go.RowKit Go.Lib Go.Proofs.YtmclfdonoldlpaaDoorW.PrintWords Go.Proofs.YtmclfdonoldlpaaDoorW.PrintLast Go.Proofs.YtmclfdonoldlpaaDoorW.PrintMore Go.Proofs.YtmclfdonoldlpaaDoor.POwn
set_option linter.unusedVariables false
set_option linter.unusedSimpArgs false

def partL (s : ByteArray) : List S36 := (splitB 124 s).map (fun t => (pieceF t).1)
def oneOf (l : List S36) : S36 := match l with
  | [d] => d
  | l => ⟨3, ⟨#[]⟩, 0, ⟨#[]⟩, l⟩
/-- A part of a relation: one dependency, or some of which one is wanted. -/
def partF (s : ByteArray) : S36 := oneOf (partL s)
def partOk (s : ByteArray) : Bool := (splitB 124 s).all (fun t => (pieceF t).2)
/-- What debctl.relations answers. -/
def relF (s : ByteArray) : List S36 := if s.toList.isEmpty then [] else (splitB 44 s).map partF
def relOk (s : ByteArray) : Bool := s.toList.isEmpty || (splitB 44 s).all partOk

theorem pieceF_none (s : ByteArray) : (pieceF s).1.f4 = [] := by
  unfold pieceF
  dsimp only
  split
  · rfl
  · split <;> rfl
theorem splitF_len (c : UInt8) : ∀ (f : Nat) (s : ByteArray), (splitF c f s).length ≤ f + 1
  | 0, s => Nat.le_refl _
  | f + 1, s => by
    unfold splitF
    split
    · simp
    · have := splitF_len c f (s.extract ((at1 s c).toNat + 1) s.size)
      simp; omega
theorem splitB_len (c : UInt8) (s : ByteArray) : (splitB c s).length ≤ s.size + 1 := splitF_len c _ s
theorem splitF_size (c : UInt8) : ∀ (f : Nat) (s : ByteArray), ∀ x ∈ splitF c f s, x.size ≤ s.size
  | 0, s, x, h => by
    have : x = s := by simpa [splitF] using h
    rw [this]; exact Nat.le_refl _
  | f + 1, s, x, h => by
    unfold splitF at h
    split at h
    · have : x = s := by simpa using h
      rw [this]; exact Nat.le_refl _
    · rcases List.mem_cons.1 h with rfl | h
      · exact extract_size _ _ _
      · exact Nat.le_trans (splitF_size c f _ x h) (extract_size _ _ _)
theorem splitB_size (c : UInt8) (s x : ByteArray) (h : x ∈ splitB c s) : x.size ≤ s.size := splitF_size c _ s x h

/-- The last element of a row of one's own is written, whole. -/
theorem own_last {w : World} {base size n : Nat} {e : TypeId} {v : Value} {xs zs cs : List Value} (h : w.ownsRow base e size v (n + 1) (xs ++ zs)) (hx : xs.length = n * size) (hz : zs.length = size) (hc : cs.length = size) :
    ∃ g cap, v = .slice (some ⟨g, 0, none⟩) (n + 1) cap ∧ base ≤ g ∧ g < w.heap.size ∧ w.there g (n * size) size ∧
      ∀ w2 : World, w2.heap[g]? = w.heap[g]? → (w2.setCells g (n * size) cs).ownsRow base e size v (n + 1) (xs ++ cs) := by
  obtain ⟨hl, h2⟩ := h
  rcases h2 with ⟨_, h0⟩ | ⟨g, cap, cur, rfl, hb, hg, hnc, hcm, hcs, ht⟩
  · omega
  have hfit : n * size + cs.length ≤ cur.size := by
    rw [hc, hcs, ← Nat.succ_mul]; exact Nat.mul_le_mul_right _ hnc
  refine ⟨g, cap, rfl, hb, lt_of_block hg, fun j hj => ⟨?_, ?_⟩, fun w2 h2 => ?_⟩
  · have : n * size + j < cur.size := by omega
    simp [World.cell?, hg, this]
  · simp [World.frozen?, hg]
  · obtain ⟨cur', q1, q2, q3⟩ := setCells_row (g := g) (e := e) cs (n * size) w2 cur (h2.trans hg) hfit
    refine ⟨by simp [hx, hc, Nat.succ_mul], .inr ⟨g, cap, cur', rfl, hb, q1, hnc, hcm, by rw [q2, hcs], ?_⟩⟩
    rw [q3]
    have e1 : cur.toList.take (n * size) = xs := by
      have := congrArg (List.take (n * size)) ht
      rw [List.take_take, List.take_left' hx, Nat.min_eq_left (by rw [Nat.succ_mul]; omega)] at this
      exact this
    rw [e1, List.take_left' (by simp [hx, hc, Nat.succ_mul])]

/-- A dependency appended: what an append of a blank one, and then the cells, leave. -/
theorem R_put {W w1 w2 : World} {base : Nat} {ok okp : Nat → Prop} {v v1 : Value} {xs : List S36} {p : S36} {inner cs : List Value} (h0 : ∀ k, v.ownBlock = some k → ok k)
    (hr : Reps (k36.M W base (fun k => ok k ∧ some k ≠ v.ownBlock)) k36.sz xs inner) (hp : k36.M W base okp p cs) (hokp : ∀ k, okp k → ok k ∧ some k ≠ v.ownBlock) (hfresh : ∀ k, W.heap.size ≤ k → ok k)
    (hown : w2.ownsRow base 36 k36.sz v1 (xs.length + 1) (inner ++ cs)) (hg : W.grownBy w1 v.ownBlock) (hg2 : w1.grownBy w2 v1.ownBlock) (hat : v1.ownBlock = v.ownBlock ∨ ∃ b, v1.ownBlock = some b ∧ W.heap.size ≤ b) :
    k36.R 36 w2 base ok v1 (xs ++ [p]) := by
  refine Kd.R_appended h0 hr hp hokp hfresh hown ?_ hat
  rcases hat with hat | ⟨b, hb, hle⟩
  · rw [hat] at hg2; exact hg.trans hg2
  · rw [hb] at hg2
    exact ⟨hg2.os.trans hg.os, hg2.tape.trans hg.tape, hg2.output.trans hg.output, Nat.le_trans hg.size hg2.size, fun k hk hne => (hg2.block k (Nat.lt_of_lt_of_le hk hg.size) (fun e => by injection e with e; omega)).trans (hg.block k hk hne)⟩

/-- Between two rounds of the outer loop (n: the blocks when the call began; b: no row of a dependency lies there or beyond). -/
structure RelO (w : World) (b : Nat) (pre : List ByteArray) (X : World) : Prop where
  ok : ∀ x ∈ pre, partOk x = true
  r0 : Boxed X w.heap.size 32 (.slice none 0 0)
  r1 : Boxed X (w.heap.size + 1) 4 (.bool false)
  out : ∃ v, Boxed X (w.heap.size + 2) 32 v ∧ k36.R 36 X w.heap.size (fun k => w.heap.size + 8 ≤ k ∧ k < b) v (pre.map partF)
  below : Below w.heap.size w X
theorem RelO.grown {w X Y : World} {b : Nat} {pre : List ByteArray} {row : Option Nat} (h : RelO w b pre X) (hg : X.grownBy Y row) (hr : ∀ r, row = some r → w.heap.size + 3 ≤ r ∧ (r < w.heap.size + 8 ∨ b ≤ r)) : RelO w b pre Y := by
  obtain ⟨h1, h2, h3, ⟨v, h4, h5⟩, h6⟩ := h
  refine ⟨h1, h2.kept hg (fun e => by have := hr _ e.symm; omega), h3.kept hg (fun e => by have := hr _ e.symm; omega), ⟨v, h4.kept hg (fun e => by have := hr _ e.symm; omega), Kd.R_grown h5 hg (fun k hk e => by have := hr _ e.symm; omega)⟩, pw_below_grown h6 row h6.size hg (fun k e => by have := hr _ e; omega)⟩
theorem RelO.wide {w X : World} {b b' : Nat} {pre : List ByteArray} (h : RelO w b pre X) (hb : b ≤ b') : RelO w b' pre X := by
  obtain ⟨h1, h2, h3, ⟨v, h4, h5⟩, h6⟩ := h
  exact ⟨h1, h2, h3, ⟨v, h4, Kd.R_mono h5 (fun k hk => ⟨hk.1, by omega⟩)⟩, h6⟩
theorem RelO.tight {w X : World} {b : Nat} {pre : List ByteArray} (h : RelO w b pre X) : RelO w X.heap.size pre X := by
  obtain ⟨h1, h2, h3, ⟨v, h4, h5⟩, h6⟩ := h
  exact ⟨h1, h2, h3, ⟨v, h4, Kd.R_mono (Kd.R_bound h5) (fun k hk => ⟨hk.1.1, hk.2.2.1⟩)⟩, h6⟩
/-- Between two rounds of the inner one. m: the blocks when the outer round began (its world: W). -/
structure RelI (w W : World) (pre : List ByteArray) (pre2 : List ByteArray) (X : World) : Prop where
  o : RelO w W.heap.size pre X
  D : X.heap[w.heap.size + 6]? = W.heap[w.heap.size + 6]?
  l : X.heap[w.heap.size + 7]? = W.heap[w.heap.size + 7]?
  sk : SKeep (w.heap.size + 3) W X
  size : W.heap.size ≤ X.heap.size
  ok2 : ∀ x ∈ pre2, (pieceF x).2 = true
  alt : ∃ u, Boxed X W.heap.size 32 u ∧ k36.R 36 X w.heap.size (fun k => W.heap.size + 5 ≤ k) u (pre2.map (fun t => (pieceF t).1))
theorem RelI.grown {w W X Y : World} {pre pre2 : List ByteArray} {row : Option Nat} (hW : w.heap.size + 8 ≤ W.heap.size) (h : RelI w W pre pre2 X) (hg : X.grownBy Y row) (hr : ∀ r, row = some r → W.heap.size < r ∧ r < W.heap.size + 5) : RelI w W pre pre2 Y := by
  obtain ⟨h1, h2, h3, h4, h5, h6, ⟨u, h7, h8⟩⟩ := h
  refine ⟨h1.grown hg (fun r e => by have := hr r e; omega), ?_, ?_, fun k k0 k1 => (hg.block k (by omega) (fun e => by have := hr _ e.symm; omega)).trans (h4 k k0 k1), Nat.le_trans h5 hg.size, h6, ⟨u, h7.kept hg (fun e => by have := hr _ e.symm; omega), Kd.R_grown h8 hg (fun k hk e => by have := hr _ e.symm; omega)⟩⟩
  · exact (hg.block _ (by omega) (fun e => by have := hr _ e.symm; omega)).trans h2
  · exact (hg.block _ (by omega) (fun e => by have := hr _ e.symm; omega)).trans h3
/-- It has been left: no relations. -/
structure RelX (w : World) (s : ByteArray) (X : World) : Prop where
  no : relOk s = false
  r0 : Boxed X w.heap.size 32 (.slice none 0 0)
  r1 : Boxed X (w.heap.size + 1) 4 (.bool false)
  below : Below w.heap.size w X
theorem RelX.grown {w X Y : World} {s : ByteArray} {row : Option Nat} (h : RelX w s X) (hg : X.grownBy Y row) (hr : ∀ r, row = some r → w.heap.size + 2 ≤ r) : RelX w s Y :=
  ⟨h.no, h.r0.kept hg (fun e => by have := hr _ e.symm; omega), h.r1.kept hg (fun e => by have := hr _ e.symm; omega), pw_below_grown h.below row h.below.size hg (fun k e => by have := hr _ e; omega)⟩
theorem R_put2 {W w2 : World} {base : Nat} {ok okp : Nat → Prop} {v v1 : Value} {xs : List S36} {p : S36} {inner cs : List Value} (h0 : ∀ k, v.ownBlock = some k → ok k)
    (hr : Reps (k36.M W base (fun k => ok k ∧ some k ≠ v.ownBlock)) k36.sz xs inner) (hp : k36.M W base okp p cs) (hokp : ∀ k, okp k → ok k ∧ some k ≠ v.ownBlock) (hfresh : ∀ k, W.heap.size ≤ k → ok k)
    (hown : w2.ownsRow base 36 k36.sz v1 (xs.length + 1) (inner ++ cs)) (hmv : ∀ k, ok k → some k ≠ v.ownBlock → k < W.heap.size → w2.heap[k]? = W.heap[k]?) (hat : v1.ownBlock = v.ownBlock ∨ ∃ b, v1.ownBlock = some b ∧ W.heap.size ≤ b) :
    k36.R 36 w2 base ok v1 (xs ++ [p]) := by
  have hne : ∀ k, some k ≠ v.ownBlock → k < W.heap.size → some k ≠ v1.ownBlock := by
    intro k hk hlt
    rcases hat with hat | ⟨b, hb, hle⟩
    · rw [hat]; exact hk
    · rw [hb]
      intro he
      injection he with he
      omega
  have step : ∀ {q : S36} {c : List Value} {o : Nat → Prop}, k36.M W base o q c → (∀ k, o k → ok k ∧ some k ≠ v.ownBlock) → k36.M w2 base (fun k => ok k ∧ some k ≠ v1.ownBlock) q c := by
    intro q c o hq ho
    have h1 := k36.M_move (w1 := w2) (fun k hk => hmv k (ho k hk.1).1 (ho k hk.1).2 hk.2.2.1) (k36.M_bound hq)
    exact k36.M_mono (fun k hk => ⟨(ho k hk.1).1, hne k (ho k hk.1).2 hk.2.2.1⟩) h1
  refine ⟨fun k hk => ?_, inner ++ cs, by rw [List.length_append, List.length_singleton]; exact hown, ?_⟩
  · rcases hat with hat | ⟨b, hb, hle⟩
    · exact h0 k (hat ▸ hk)
    · rw [hb] at hk
      injection hk with hk
      exact hfresh k (by omega)
  · exact (hr.imp_ (fun _ _ hq => step hq (fun _ hk => hk))).snoc (step hp hokp) (k36.K_len (k36.K_of_M hp))
theorem below_cells {B b : Nat} {a : World} (hb : B ≤ b) : ∀ (vs : List Value) (o : Nat) (w : World), Below B a w → Below B a (w.setCells b o vs)
  | [], _, _, h => h
  | v :: r, o, w, h => below_cells hb r (o + 1) _ (h.setCell (p := ⟨b, o, none⟩) hb v)
theorem infoDep : (Tryd.prog.info? 36).map (fun i => (i.zero, i.size, i.bytes)) = some (some (.agg #[.int .i64 0, .string ⟨#[]⟩, .int .i64 0, .string ⟨#[]⟩, .slice none 0 0]), 5, 72) := by kernel_rfl
/-- An alternative has been appended: F is X but for the box, and the row's own block, which lies beyond. -/
theorem RelI.put {w W X F : World} {pre pre2 : List ByteArray} {y : ByteArray} {v : Value} (hW : w.heap.size + 8 ≤ W.heap.size) (h : RelI w W pre pre2 X) (hk : ∀ k, k < W.heap.size + 5 → k ≠ W.heap.size → F.heap[k]? = X.heap[k]?)
    (hz : X.heap.size ≤ F.heap.size) (hu : Boxed F W.heap.size 32 v) (hR : k36.R 36 F w.heap.size (fun k => W.heap.size + 5 ≤ k) v (pre2.map (fun t => (pieceF t).1) ++ [(pieceF y).1])) (hp : (pieceF y).2 = true) (hb : Below w.heap.size w F) : RelI w W pre (pre2 ++ [y]) F := by
  obtain ⟨⟨h1, h2, h3, ⟨o, h4, h5⟩, h6⟩, hD, hl, hs, hsz, hok, _⟩ := h
  refine ⟨⟨h1, (hk _ (by omega) (by omega)).trans h2, (hk _ (by omega) (by omega)).trans h3, ⟨o, (hk _ (by omega) (by omega)).trans h4, Kd.R_step h5 (fun k ho _ => hk k (by omega) (by omega))⟩, hb⟩, (hk _ (by omega) (by omega)).trans hD, (hk _ (by omega) (by omega)).trans hl, fun k k0 k1 => (hk k (by omega) (by omega)).trans (hs k k0 k1), Nat.le_trans hsz hz, ?_, ⟨v, hu, ?_⟩⟩
  · intro x hx
    rcases List.mem_append.1 hx with hx | hx
    · exact hok x hx
    · rw [List.mem_singleton.1 hx]; exact hp
  · rw [List.map_append]; exact hR
/-- A part has been appended. -/
theorem RelO.put {w W X F : World} {pre pre2 : List ByteArray} {x : ByteArray} {v : Value} (hW : w.heap.size + 8 ≤ W.heap.size) (h : RelI w W pre pre2 X) (hk : ∀ k, k < w.heap.size + 8 → k ≠ w.heap.size + 2 → F.heap[k]? = X.heap[k]?)
    (hu : Boxed F (w.heap.size + 2) 32 v) (hR : k36.R 36 F w.heap.size (fun k => w.heap.size + 8 ≤ k) v (pre.map partF ++ [partF x])) (hp : partOk x = true) (hb : Below w.heap.size w F) :
    F.heap[w.heap.size + 6]? = W.heap[w.heap.size + 6]? ∧ F.heap[w.heap.size + 6 + 1]? = W.heap[w.heap.size + 6 + 1]? ∧ SKeep (w.heap.size + 3) W F ∧ RelO w F.heap.size (pre ++ [x]) F := by
  obtain ⟨⟨h1, h2, h3, _, h6⟩, hD, hl, hs, hsz, hok, _⟩ := h
  refine ⟨(hk _ (by omega) (by omega)).trans hD, (hk _ (by omega) (by omega)).trans hl, fun k k0 k1 => (hk k (by omega) (by omega)).trans (hs k k0 k1), ⟨?_, (hk _ (by omega) (by omega)).trans h2, (hk _ (by omega) (by omega)).trans h3, ⟨v, hu, Kd.R_mono (Kd.R_bound (by rw [List.map_append]; exact hR)) (fun k hk => ⟨hk.1, hk.2.2.1⟩)⟩, hb⟩⟩
  intro y hy
  rcases List.mem_append.1 hy with hy | hy
  · exact h1 y hy
  · rw [List.mem_singleton.1 hy]; exact hp
theorem oneOf_many (l : List S36) (h : ¬ l.length = 1) : oneOf l = ⟨3, ⟨#[]⟩, 0, ⟨#[]⟩, l⟩ := by
  rcases l with _ | ⟨a, _ | ⟨b, l⟩⟩
  · rfl
  · exact absurd rfl h
  · rfl
/-- A row of one dependency of a name: where its cells lie. -/
theorem alt_one {X : World} {n : Nat} {ok : Nat → Prop} {A : Option Addr} {cc : Nat} {d : S36} (hR : k36.R 36 X n ok (.slice A 1 cc) [d]) (hd : d.f4 = []) :
    ∃ gA A4 c4, A = some ⟨gA, 0, none⟩ ∧ ok gA ∧ gA < X.heap.size ∧ k36.M X n ok d [.int .i64 d.f0, .string d.f1, .int .i64 d.f2, .string d.f3, .slice A4 0 c4] ∧
      X.cell? ⟨gA, 0, none⟩ = some (.int .i64 d.f0) ∧ X.cell? ⟨gA, 1, none⟩ = some (.string d.f1) ∧ X.cell? ⟨gA, 2, none⟩ = some (.int .i64 d.f2) ∧ X.cell? ⟨gA, 3, none⟩ = some (.string d.f3) ∧ X.cell? ⟨gA, 4, none⟩ = some (.slice A4 0 c4) := by
  obtain ⟨h0, inner, hown, hrep⟩ := hR
  have hM := hrep.2 0 d rfl
  have hl : inner.length = 5 := hown.1
  rw [Nat.zero_mul, List.drop_zero, List.take_of_length_le (by rw [hl]; exact Nat.le_refl _)] at hM
  obtain ⟨v4, rfl, hv⟩ := k36_openM hM
  rw [hd] at hv
  obtain ⟨A4, c4, rfl⟩ := Kd.R_slice hv
  rcases hown.2 with ⟨h1, _⟩ | ⟨g, cap, cur, h1, hb, hg, _⟩
  · cases h1
  injection h1 with h1 _ h2
  subst h1
  subst h2
  refine ⟨g, A4, c4, rfl, h0 g rfl, lt_of_block hg, k36.M_mono (fun k hk => hk.1) hM, ?_, ?_, ?_, ?_, ?_⟩
  all_goals exact World.ownsRow.cellAt hown _ (by decide)
theorem two_far {X X1 : World} {n : Nat} (hb : Below X.heap.size X X1) (u1 u2 : Value) (o : Obj) (k : Nat) (h1 : k < X.heap.size) (h2 : k ≠ n) (h3 : k ≠ n + 1) :
    (((X1.setCell ⟨n, 0, none⟩ u1).setCell ⟨n + 1, 0, none⟩ u2).alloc o).heap[k]? = X.heap[k]? :=
  (Below.heap_alloc _ _ _ (by have := hb.size; simp [World.setCell]; omega)).trans ((Below.heap_setCell _ _ _ k h3).trans ((Below.heap_setCell _ _ _ k h2).trans (hb.block k h1)))
theorem relOk_no {s x y : ByteArray} (h : s.toList.isEmpty = false) (hx : x ∈ splitB 44 s) (hy : y ∈ splitB 124 x) (hp : (pieceF y).2 = false) : relOk s = false := by
  unfold relOk
  rw [h, Bool.false_or, List.all_eq_false]
  refine ⟨x, hx, ?_⟩
  have : partOk x = false := by
    unfold partOk
    rw [List.all_eq_false]
    exact ⟨y, hy, by simp [hp]⟩
  simp [this]
theorem relOk_yes {s : ByteArray} (h : ∀ x ∈ splitB 44 s, partOk x = true) : relOk s = true := by
  unfold relOk
  rw [Bool.or_eq_true]
  exact .inr (List.all_eq_true.2 h)
end Go.Proofs.YtmclfdonoldlpaaDoor.Own

namespace Go.Proofs.YtmclfdonoldlpaaDoor.Own
open Go.RowKit Go.Lib Go.Proofs.YtmclfdonoldlpaaDoorW.PrintWords Go.Proofs.YtmclfdonoldlpaaDoorW.PrintLast Go.Proofs.YtmclfdonoldlpaaDoorW.PrintMore Go.Proofs.YtmclfdonoldlpaaDoor.POwn
set_option linter.unusedVariables false
set_option linter.unusedSimpArgs false
attribute [local go_sem] Oper.semAt_some
attribute [local go_sem ↓] isSome_setCell

def RelPost (s : ByteArray) (w : World) (e : Ending) (w' : World) : Prop :=
  Below w.heap.size w w' ∧ ((relOk s = true ∧ ∃ v, e = .returned (.tuple #[v, .bool true]) ∧ k36.R 36 w' w.heap.size (fun k => w.heap.size ≤ k) v (relF s)) ∨ (relOk s = false ∧ e = .returned (.tuple #[.slice none 0 0, .bool false])))

theorem rel_empty (s : ByteArray) (h : s.toList.isEmpty = true) (w : World) : Calls Tryd.prog 26 #[.string s] w (RelPost s w) := by
  have e : s = ⟨#[]⟩ := by
    rw [ByteArray.toList_eq] at h
    rcases s with ⟨⟨l⟩⟩
    cases l <;> simp_all
  have e1 : relOk s = true := by unfold relOk; rw [h]; rfl
  have e2 : relF s = [] := by unfold relF; rw [h]; rfl
  have E1 := Lib.hid e1
  have E2 := Lib.hid e2
  clear e1 e2 h
  subst e
  go_enter Tryd.func26, Tryd.ntmps26
  go_wp2
  go_step3
  go_wp2
  rw [Exit.noGoto_ret]
  refine bodyPost_ret (v := .tuple #[.slice none 0 0, .bool true]) ?ga ?gb ?gc
  case ga => simp [results, Tryd.results26, go_sem]
  case gb => rfl
  refine ⟨?_, .inl ⟨E1.out, _, rfl, ?_⟩⟩
  case refine_2 => rw [E2.out]; exact Kd.R_nil _ _ _ _ _
  repeat (first | (with_reducible exact Below.refl _ _) | (with_reducible apply below_alloc) | ((with_reducible refine below_set ?_ ?_); rotate_left; first | exact Nat.le_refl _ | omega))

set_option maxRecDepth 100000 in
set_option maxHeartbeats 4000000 in
theorem rel_full (s : ByteArray) (h : s.toList.isEmpty = false) (hs : s.size ≤ 1000000) (w : World) (hT : Tabs w) : Calls Tryd.prog 26 #[.string s] w (RelPost s w) := by
  have HT := Lib.hid hT
  clear hT
  refine (callsIn_wide (n := 0)).1 (callsIn_of_wp_marks Tryd.func26 rfl trivial ?_ rfl)
  simp only [Tryd.ntmps26, List.size_toArray, List.length_cons, List.length_nil, Nat.reduceAdd, Nat.reduceSub, Array.replicate_succ, Array.replicate_zero, List.push_toArray, List.append_toArray, List.nil_append, List.cons_append]
  gi_wp2
  refine wpIn_wide.2 (wp_scope_straight ((wpIn_wide (n := 0)).1 ?_))
  gi_wp2
  refine wpIn_label ?_
  gi_wp2_with (refine ⟨trivial, rfl, ?_⟩; gi_at_call 10; refine (callsIn_wide.2 (splitSeq_calls s 44 _)).mono ?_; rintro e w2 ⟨rfl, hS, hb, hz⟩)
  have q0 := (((Boxed.new w 32 (.slice none 0 0)).alloc (.cells #[.bool false] 4)).alloc (.cells #[.slice none 0 0] 32))
  have q1 := (Boxed.new (w.alloc (.cells #[.slice none 0 0] 32)) 4 (.bool false)).alloc (.cells #[.slice none 0 0] 32)
  have q2 := Boxed.new ((w.alloc (.cells #[.slice none 0 0] 32)).alloc (.cells #[.bool false] 4)) 32 (.slice none 0 0)
  have hb0 := below_then (below_alloc (below_alloc (below_alloc (Below.refl w.heap.size w) (.cells #[.slice none 0 0] 32)) (.cells #[.bool false] 4)) (.cells #[.slice none 0 0] 32)) (by simp; omega) hb
  simp only [World.size_alloc, Nat.add_assoc, Nat.reduceAdd] at q1 q2 hz hS hb
  have HO : RelO w (w.heap.size + 8) [] w2 :=
    ⟨fun x hx => by simp at hx, blk_after (by simpa [Nat.add_assoc] using hb) q0, blk_after (by simpa [Nat.add_assoc] using hb) q1, ⟨_, blk_after (by simpa [Nat.add_assoc] using hb) q2, Kd.R_nil _ _ _ _ _⟩, hb0⟩
  clear q0 q1 q2 hb hb0
  simp only [Nat.add_assoc, Nat.reduceAdd]
  refine wpIn_split (B := w.heap.size + 3) (by omega) hS rfl rfl
    (fun pre X => RelO w X.heap.size pre X) (fun c X => c = .ret ∧ RelX w s X)
    (fun pre X Y row h hg hr => (h.grown hg (fun r e => by rcases hr r e with rfl | rfl <;> omega)).tight)
    (fun c X Y row h hg hr => ⟨h.1, h.2.grown hg (fun r e => by have := hr r e; omega)⟩)
    HO.tight
    (fun x => { tmps := #[.string s, undef, .pointer (some ⟨w.heap.size, 0, none⟩), .pointer (some ⟨w.heap.size + 1, 0, none⟩), .pointer (some ⟨w.heap.size + 2, 0, none⟩), .string x, undef, undef, undef, undef, .string s, .bool false, .string s, .func (.func 34) #[] #[.pointer (some ⟨(w.heap.size + 3) + 1, 0, none⟩), .pointer (some ⟨(w.heap.size + 3), 0, none⟩), .pointer (some ⟨(w.heap.size + 3) + 2, 0, none⟩)], .string x, undef, undef, undef, undef, undef, undef, undef, undef, undef, undef, undef, undef, undef, undef, undef, undef, undef, undef, undef, undef, undef, undef, undef, undef, undef, undef, undef, undef, undef, undef, undef, undef, undef, undef, undef], defers := [] }) ?assign ?body ?done ?stop
  case assign =>
    intro x W K hK
    gi_wp2
    exact hK
  case stop =>
    rintro c X ⟨rfl, hX⟩ hD
    gi_wp2
    rw [Exit.noGoto_ret]
    have hX2 := hX.grown (grownBy_putObj' X w2.heap.size (.deferred none)) (fun r e => by cases e; omega)
    have k0 := hX2.r0.cell
    have k1 := hX2.r1.cell
    refine ⟨by simp, .inl ⟨_, _, rfl, run_takeDeferred hD, ?_⟩⟩
    refine ⟨.tuple #[.slice none 0 0, .bool false], ?ga, hX2.below, .inr ⟨hX2.no, rfl⟩⟩
    simp [results, Tryd.results26, go_sem, k0, k1]
  case done =>
    intro X hX hD
    obtain ⟨v, hou, hoR⟩ := hX.out
    obtain ⟨Ao, co, rfl⟩ := Kd.R_slice hoR
    simp only [List.length_map] at hou hoR
    have k0 := hX.r0.cell
    have k0f := hX.r0.frozen
    have k1 := hX.r1.cell
    have k1f := hX.r1.frozen
    have k2 := hou.cell
    gi_wp2
    rw [Exit.noGoto_ret]
    have f0 := (hX.r0.set (.slice Ao (splitB 44 s).length co)).other (B' := w.heap.size + 1) (by omega) (.bool true)
    have f1 := (hX.r1.other (B' := w.heap.size) (by omega) (.slice Ao (splitB 44 s).length co)).set (.bool true)
    have fR := Kd.R_far (p := ⟨w.heap.size + 1, 0, none⟩) (Kd.R_far (p := ⟨w.heap.size, 0, none⟩) hoR (fun k hk => by simp; omega) (.slice Ao (splitB 44 s).length co)) (fun k hk => by simp; omega) (.bool true)
    have fB := below_set (j := 0) (v := .bool true) (below_set (j := 0) (v := .slice Ao (splitB 44 s).length co) hX.below (Nat.le_refl _)) (Nat.le_succ w.heap.size)
    have fD : ((X.setCell ⟨w.heap.size, 0, none⟩ (.slice Ao (splitB 44 s).length co)).setCell ⟨w.heap.size + 1, 0, none⟩ (.bool true)).heap[w2.heap.size]? = some (.deferred (some [])) := (Below.heap_setCell _ _ _ _ (by simp; omega)).trans ((Below.heap_setCell _ _ _ _ (by simp; omega)).trans hD)
    generalize ((X.setCell ⟨w.heap.size, 0, none⟩ (.slice Ao (splitB 44 s).length co)).setCell ⟨w.heap.size + 1, 0, none⟩ (.bool true)) = F at *
    clear k0 k1 k0f k1f k2
    have hg := grownBy_putObj' F w2.heap.size (.deferred none)
    have k0 := (Boxed.kept (show Boxed F w.heap.size 32 _ from f0) hg (by simp; omega)).cell
    have k1 := (Boxed.kept (show Boxed F (w.heap.size + 1) 4 _ from f1) hg (by simp; omega)).cell
    refine ⟨by simp, .inl ⟨_, _, rfl, run_takeDeferred fD, ?_⟩⟩
    refine ⟨.tuple #[.slice Ao (splitB 44 s).length co, .bool true], ?gd, pw_below_grown fB _ fB.size hg (fun k e => by cases e; omega), .inl ⟨relOk_yes hX.ok, _, rfl, ?ge⟩⟩
    case gd => simp [results, Tryd.results26, go_sem, k0, k1]
    case ge =>
      unfold relF
      rw [h]
      exact Kd.R_mono (Kd.R_grown fR hg (fun k hk e => by injection e with e; omega)) (fun k hk => by omega)
  case body =>
    rintro pre x rest W hx ⟨r, hr⟩ hD hI
    have hW : w.heap.size + 8 ≤ W.heap.size := by have := lt_of_block hr; omega
    have hxs : x.size ≤ s.size := splitB_size 44 s x (by rw [hx]; simp)
    gi_wp2_with (refine ⟨trivial, rfl, ?_⟩; gi_at_call 10; refine (CallsIn.inRound _ (callsIn_wide.2 (splitSeq_calls x 124 _))).mono ?_; rintro e w3 ⟨rfl, hS3, hb3, hz3⟩)
    have hbW : Below W.heap.size W w3 := below_then (below_alloc (Below.refl _ _) _) (by simp) hb3
    have p0 := blk_after hb3 (Boxed.new W 32 (.slice none 0 0))
    simp only [World.size_alloc, Nat.add_assoc, Nat.reduceAdd] at hz3 hS3
    have hJ0 : RelI w W pre [] w3 := ⟨hI.grown (grown_of_below hbW none) (fun r e => by cases e), hbW.block _ (by omega), hbW.block _ (by omega), SKeep.below hbW (by omega), hbW.size, fun x hx => by simp at hx, ⟨_, p0, Kd.R_nil _ _ _ _ _⟩⟩
    clear hb3 p0
    simp only [Nat.add_assoc, Nat.reduceAdd]
    refine wpIn_splitN (B := W.heap.size + 1) (l₀ := w2.heap.size + 1) (r₀ := r) ((hbW.block _ (lt_of_block hr)).trans hr) (by omega) hS3 rfl rfl
      (fun pre2 X => RelI w W pre pre2 X) (fun c X => c = .ret ∧ RelX w s X ∧ X.heap[w.heap.size + 6]? = W.heap[w.heap.size + 6]? ∧ X.heap[w.heap.size + 7]? = W.heap[w.heap.size + 7]? ∧ W.heap.size ≤ X.heap.size)
      (fun pre2 X Y row h hg hr => h.grown hW hg (fun r e => by rcases hr r e with rfl | rfl <;> omega))
      (fun c X Y row h hg hr => ⟨h.1, h.2.1.grown hg (fun r e => by have := hr r e; omega), (hg.block _ (by have := h.2.2.2.2; omega) (fun e => by have := hr _ e.symm; omega)).trans h.2.2.1, (hg.block _ (by have := h.2.2.2.2; omega) (fun e => by have := hr _ e.symm; omega)).trans h.2.2.2.1, Nat.le_trans h.2.2.2.2 hg.size⟩)
      hJ0
      (fun y => { tmps := #[.string s, undef, .pointer (some ⟨w.heap.size, 0, none⟩), .pointer (some ⟨w.heap.size + 1, 0, none⟩), .pointer (some ⟨w.heap.size + 2, 0, none⟩), .string x, .pointer (some ⟨W.heap.size, 0, none⟩), .string y, undef, undef, .string s, .bool false, .string s, .func (.func 34) #[] #[.pointer (some ⟨(w.heap.size + 3) + 1, 0, none⟩), .pointer (some ⟨(w.heap.size + 3), 0, none⟩), .pointer (some ⟨(w.heap.size + 3) + 2, 0, none⟩)], .string x, .string x, .func (.func 34) #[] #[.pointer (some ⟨(W.heap.size + 1) + 1, 0, none⟩), .pointer (some ⟨(W.heap.size + 1), 0, none⟩), .pointer (some ⟨(W.heap.size + 1) + 2, 0, none⟩)], .string y, undef, undef, undef, undef, undef, undef, undef, undef, undef, undef, undef, undef, undef, undef, undef, undef, undef, undef, undef, undef, undef, undef, undef, undef, undef, undef, undef, undef, undef, undef, undef, undef], defers := [] }) ?assign2 ?body2 ?done2 ?stop2
    case assign2 =>
      intro y X K hK
      gi_wp2
      exact hK
    case stop2 =>
      rintro c X ⟨rfl, hX, hD2, hl2, hz2⟩
      gi_wp2
      exact ⟨by rw [hz]; exact hD2, by rw [hz]; exact hl2, rfl, hX⟩
    case done2 =>
      intro X hJ
      have hX5 : W.heap.size ≤ X.heap.size := hJ.size
      have hpo : partOk x = true := List.all_eq_true.2 (fun t ht => hJ.ok2 t ht)
      obtain ⟨u, hu, hR⟩ := hJ.alt
      obtain ⟨A, cc, rfl⟩ := Kd.R_slice hR
      obtain ⟨ov, hou, hoR⟩ := hJ.o.out
      obtain ⟨Ao, co, rfl⟩ := Kd.R_slice hoR
      simp only [List.length_map] at hou hoR
      have hlenO : pre.length < (splitB 44 s).length := by rw [hx]; simp
      have hlenO2 := splitB_len 44 s
      have n2 := hu.cell
      by_cases hL : (List.map (fun t => (pieceF t).1) (splitB 124 x)).length = 1
      · rw [hL] at hu hR n2
        obtain ⟨y0, hy0⟩ : ∃ y0, splitB 124 x = [y0] := List.length_eq_one_iff.1 (by simpa using hL)
        have hpx : partF x = (pieceF y0).1 := by unfold partF partL; rw [hy0]; rfl
        rw [hy0] at hR
        simp only [List.map_cons, List.map_nil] at hR
        have hd4 : (pieceF y0).1.f4 = [] := pieceF_none y0
        generalize (pieceF y0).1 = d at *
        gi_wp2
        have hu0 : Boxed X.drew W.heap.size 32 (.slice A 1 cc) := hu
        have ho0 : Boxed X.drew (w.heap.size + 2) 32 (.slice Ao pre.length co) := hou
        have hb0 : Below X.heap.size X X.drew := ⟨rfl, rfl, rfl, Nat.le_refl _, fun _ _ => rfl⟩
        have hbe : Below w.heap.size w X.drew := ⟨hJ.o.below.os, hJ.o.below.tape, hJ.o.below.output, hJ.o.below.size, hJ.o.below.block⟩
        obtain ⟨gA, A4, c4, rfl, hgA, hgA2, hM, m0, m1, m2, m3, m4⟩ := alt_one hR hd4
        refine wpIn_fact (fun F => F.heap[w.heap.size + 6]? = W.heap[w.heap.size + 6]? ∧ F.heap[w.heap.size + 6 + 1]? = W.heap[w.heap.size + 6 + 1]? ∧ SKeep (w.heap.size + 3) W F ∧ RelO w F.heap.size (pre ++ [x]) F) ?_ ?hend
        case hend =>
          rintro a F ⟨r1, r2, r3, r4⟩
          clear hJ hou hoR hu hR n2
          gi_wp2
          exact ⟨by rw [hz]; exact r1, by rw [hz]; exact r2, r3, r4⟩
        refine wpIn_region_held (fun Y => Y.heap[W.heap.size]? = some (.cells #[.slice (some ⟨gA, 0, none⟩) 1 cc] 32 (0, 0)) ∧ Y.heap[gA]? = X.heap[gA]?) (by kernel_rfl) (by kernel_rfl) ?_
        generalize X.drew = X3 at *
        have hu3 : Boxed X3 (w.heap.size + 2) 32 (.slice Ao pre.length co) := ho0
        have hR3 := Kd.R_below hR hb0
        have zb : w.heap.size + 2 < X3.heap.size := hu3.lt
        have zW : W.heap.size < X3.heap.size := hu0.lt
        obtain ⟨h0, inner, hown, hrep⟩ := Kd.R_mono (ok' := fun k => w.heap.size + 8 ≤ k) (Kd.R_below hoR hb0) (fun k hk => hk.1)
        simp only [List.length_map] at hown
        have hltW : ∀ k, (Value.slice Ao pre.length co).ownBlock = some k → k < W.heap.size := fun k hk => (hoR.1 k hk).2
        have hneb : some (w.heap.size + 2) ≠ (Value.slice Ao pre.length co).ownBlock := fun e => by have := h0 _ e.symm; omega
        have hgfar : ∀ g, ((Value.slice Ao pre.length co).ownBlock = some g ∨ X3.heap.size ≤ g) → w.heap.size + 8 ≤ g := fun g hg => by
          rcases hg with hg | hg
          · exact h0 g hg
          · omega
        have hS3 : X3.heap[W.heap.size]? = some (.cells #[.slice (some ⟨gA, 0, none⟩) 1 cc] 32 (0, 0)) ∧ X3.heap[gA]? = X.heap[gA]? := ⟨hu0, hb0.block _ hgA2⟩
        have hM3 : k36.M X3 w.heap.size (fun k => W.heap.size + 5 ≤ k) d [.int .i64 d.f0, .string d.f1, .int .i64 d.f2, .string d.f3, .slice A4 0 c4] := Kd.M_below hM hb0
        have hkeep : ∀ Y : World, (∀ k, (k = W.heap.size ∨ k = gA) → Y.heap[k]? = X3.heap[k]?) → (Y.heap[W.heap.size]? = some (.cells #[.slice (some ⟨gA, 0, none⟩) 1 cc] 32 (0, 0)) ∧ Y.heap[gA]? = X.heap[gA]?) := fun Y hY => ⟨(hY _ (.inl rfl)).trans hu0, (hY _ (.inr rfl)).trans hS3.2⟩
        have hsb : ∀ k, (k = W.heap.size ∨ k = gA) → k < X3.heap.size ∧ k ≠ w.heap.size + 2 ∧ some k ≠ (Value.slice Ao pre.length co).ownBlock := fun k hk => by
          have hX3 := hb0.size
          rcases hk with rfl | rfl
          · exact ⟨by omega, by omega, fun e => by have := hltW _ e.symm; omega⟩
          · exact ⟨by omega, by omega, fun e => by have := hltW _ e.symm; omega⟩
        have hgsb : ∀ g, ((Value.slice Ao pre.length co).ownBlock = some g ∨ X3.heap.size ≤ g) → ∀ k, (k = W.heap.size ∨ k = gA) → k ≠ g := fun g hg k hk => by
          have hX3 := hb0.size
          rcases hg with hg | hg
          · have := hltW g hg; omega
          · omega
        refine wpAnyH_take (i := 1) (v := .slice (some ⟨gA, 0, none⟩) 1 cc) rfl (by kernel_rfl) (by kernel_rfl) (by kernel_rfl) (fun _ _ _ h => h) (Or.inl ⟨by rfl, ?_⟩) hS3 ?_
        · intro Y hY
          have y0 := blk_cell hY.1 0
          go_simp
        simp only [Act.put, List.setIfInBounds_toArray, List.set_cons_zero, List.set_cons_succ]
        refine wpAnyH_take (i := 2) (v := .pointer (some ⟨gA, 0, none⟩)) rfl (by kernel_rfl) (by kernel_rfl) (by kernel_rfl) (fun _ _ _ h => h) (Or.inl ⟨by rfl, ?_⟩) hS3 ?_
        · intro Y hY
          go_simp
        simp only [Act.put, List.setIfInBounds_toArray, List.set_cons_zero, List.set_cons_succ]
        refine wpAnyH_take (i := 3) (v := .agg #[.int .i64 d.f0, .string d.f1, .int .i64 d.f2, .string d.f3, .slice A4 0 c4]) rfl (by kernel_rfl) (by kernel_rfl) (by kernel_rfl) (fun _ _ _ h => h) (Or.inl ⟨by rfl, ?_⟩) hS3 ?_
        · intro Y hY
          have y0 := (World.cell?_of_block (a := ⟨gA, 0, none⟩) hY.2).trans m0
          have y1 := (World.cell?_of_block (a := ⟨gA, 1, none⟩) hY.2).trans m1
          have y2 := (World.cell?_of_block (a := ⟨gA, 2, none⟩) hY.2).trans m2
          have y3 := (World.cell?_of_block (a := ⟨gA, 3, none⟩) hY.2).trans m3
          have y4 := (World.cell?_of_block (a := ⟨gA, 4, none⟩) hY.2).trans m4
          go_simp
        simp only [Act.put, List.setIfInBounds_toArray, List.set_cons_zero, List.set_cons_succ]
        have z1 : (0 : Int) ≤ ((pre.length : Nat) : Int) := Int.natCast_nonneg _
        have z2 : ((pre.length : Nat) : Int) ≤ (((pre.length) + 1 : Nat) : Int) := by omega
        have z3 : ((pre.length : Nat) : Int) < (((pre.length) + 1 : Nat) : Int) := by omega
        have c3 := hu3.cell
        have hS4 := hkeep (X3.alloc (.cells #[.int .i64 0, .string ⟨#[]⟩, .int .i64 0, .string ⟨#[]⟩, .slice none 0 0] 36)) (fun k hk => Below.heap_alloc _ _ _ (hsb k hk).1)
        refine wpAnyH_ready (rs := [0, 5]) (by kernel_rfl) (by simp) ?_
        refine AllReadyH.cons rfl (fun K hK => ?_) (AllReadyH.cons rfl (fun K hK => ?_) AllReadyH.nil)
        · go_simp
          refine hK.out _ _ hS3 (fun _ => ?_)
          clear hK
          refine wpAnyH_take (i := 4) (v := .int .i64 ((pre.length : Nat) : Int)) rfl (by kernel_rfl) (by kernel_rfl) (by kernel_rfl) (fun _ _ _ h => h) (Or.inl ⟨by rfl, by intro Y hY; first | (go_simp; done) | (go_simp; intro hcc; omega)⟩) hS3 ?_
          simp only [Act.put, List.setIfInBounds_toArray, List.set_cons_zero, List.set_cons_succ]
          refine wpAnyH_ready (rs := [5]) (by kernel_rfl) (by simp) ?_
          refine AllReadyH.cons rfl (fun K hK => ?_) AllReadyH.nil
          go_simp
          refine hK.out _ _ hS4 (fun _ => ?_)
          clear hK
          refine wpAnyH_ready (rs := [6]) (by kernel_rfl) (by simp) ?_
          refine AllReadyH.cons rfl (fun K hK => ?_) AllReadyH.nil
          refine step_append_cells w.heap.size (by rfl) (.tmp 34) (.tmp 39) 32 36 (.agg #[.int .i64 0, .string ⟨#[]⟩, .int .i64 0, .string ⟨#[]⟩, .slice none 0 0]) 5 72 rfl Tryd.underlying32 infoDep rfl (by decide) (by decide) _ _ inner [.int .i64 0, .string ⟨#[]⟩, .int .i64 0, .string ⟨#[]⟩, .slice none 0 0] rfl rfl rfl (by simp [Value.oneCell']) hown hbe (by omega) (by omega) ?_
          intro v1 w1 hown1 hb1' hg1 hat1
          have zz1 := hg1.size
          have hS5 := hkeep w1 (fun k hk => hg1.block k (hsb k hk).1 (hsb k hk).2.2)
          obtain ⟨g, cap, rfl, hgb, hgl, hth, hput⟩ := own_last (cs := [.int .i64 d.f0, .string d.f1, .int .i64 d.f2, .string d.f3, .slice A4 0 c4]) hown1 hown.1 rfl rfl
          have hg3 : (Value.slice Ao pre.length co).ownBlock = some g ∨ X3.heap.size ≤ g := by
            rcases hat1 with hq | ⟨b, hq, hqb⟩
            · exact .inl hq.symm
            · have hq' : g = b := by simpa [Value.ownBlock] using hq
              exact .inr (by omega)
          have hgn := hgfar g hg3
          have hgk := hgsb g hg3
          simp only [Act.put, List.setIfInBounds_toArray, List.set_cons_zero, List.set_cons_succ]
          refine hK.out _ _ hS5 (fun _ => ?_)
          clear hK
          refine wpAnyH_take (i := 7) (v := .pointer (some ⟨g, pre.length * 5, none⟩)) rfl (by kernel_rfl) (by kernel_rfl) (by kernel_rfl) (fun _ _ _ h => h) (Or.inl ⟨by rfl, by intro Y hY; first | (go_simp; done) | (go_simp; intro hcc; omega)⟩) hS5 ?_
          simp only [Act.put, List.setIfInBounds_toArray, List.set_cons_zero, List.set_cons_succ]
          have hu5 : Boxed w1 (w.heap.size + 2) 32 _ := hu3.kept hg1 hneb
          have hthE : (w1.setCell ⟨w.heap.size + 2, 0, none⟩ (.slice (some ⟨g, 0, none⟩) (pre.length + 1) cap)).there g (pre.length * 5) 5 := fun j hj => by
            rw [World.cell?_setCell_far _ _ _ _ (by simp; omega), World.frozen?_setCell]
            exact hth j hj
          refine wpAnyH_ready (rs := [8, 9]) (by kernel_rfl) (by simp) ?_
          refine AllReadyH.cons rfl (fun K hK => ?_) (AllReadyH.cons rfl (fun K hK => ?_) AllReadyH.nil)
          · rw [if_pos (by rfl)]
            refine wp_store_mid 36 (.tmp 41) (.tmp 37) rfl g (pre.length * 5) #[.int .i64 d.f0, .string d.f1, .int .i64 d.f2, .string d.f3, .slice A4 0 c4] rfl rfl hth (by kernel_rfl) (by simp [Value.oneCell']) ?_
            simp only [Act.put, List.setIfInBounds_toArray, List.set_cons_zero, List.set_cons_succ]
            have hu6 : Boxed (w1.setCells g (pre.length * 5) [.int .i64 d.f0, .string d.f1, .int .i64 d.f2, .string d.f3, .slice A4 0 c4]) (w.heap.size + 2) 32 _ := (setCells_far _ _ (w.heap.size + 2) (by omega)).trans hu5
            have hS6 := hkeep (w1.setCells g (pre.length * 5) [.int .i64 d.f0, .string d.f1, .int .i64 d.f2, .string d.f3, .slice A4 0 c4]) (fun k hk => (setCells_far _ _ k (hgk k hk)).trans (hg1.block k (hsb k hk).1 (hsb k hk).2.2))
            refine hK.out _ _ hS6 (fun _ => ?_)
            clear hK
            have c6 := hu6.cell
            have c6f := hu6.frozen
            refine wpAnyH_ready (rs := [9]) (by kernel_rfl) (by simp) ?_
            refine AllReadyH.cons rfl (fun K hK => ?_) AllReadyH.nil
            go_simp
            refine hK.out _ _ (hkeep _ (fun k hk => (Below.heap_setCell _ ⟨w.heap.size + 2, 0, none⟩ _ k (hsb k hk).2.1).trans ((setCells_far _ _ k (hgk k hk)).trans (hg1.block k (hsb k hk).1 (hsb k hk).2.2)))) (fun _ => ?_)
            refine wpAnyH_done (by kernel_rfl) (onlyOn ?_) _
            have hw2 := own_setCell (p := ⟨w.heap.size + 2, 0, none⟩) (hput w1 rfl) (by simp [Value.ownBlock]; omega) (.slice (some ⟨g, 0, none⟩) (pre.length + 1) cap)
            have hsm : ∀ k, k ≠ g → k ≠ w.heap.size + 2 → ((w1.setCells g (pre.length * 5) [.int .i64 d.f0, .string d.f1, .int .i64 d.f2, .string d.f3, .slice A4 0 c4]).setCell ⟨w.heap.size + 2, 0, none⟩ (.slice (some ⟨g, 0, none⟩) (pre.length + 1) cap)).heap[k]? = w1.heap[k]? := fun k h1 h2 => (Below.heap_setCell _ _ _ _ (by simpa using h2)).trans (setCells_far _ _ _ h1)
            have hzz : ((w1.setCells g (pre.length * 5) [.int .i64 d.f0, .string d.f1, .int .i64 d.f2, .string d.f3, .slice A4 0 c4]).setCell ⟨w.heap.size + 2, 0, none⟩ (.slice (some ⟨g, 0, none⟩) (pre.length + 1) cap)).heap.size = w1.heap.size := by
              have := (setCells_same g [.int .i64 d.f0, .string d.f1, .int .i64 d.f2, .string d.f3, .slice A4 0 c4] (pre.length * 5) w1).2.2.2
              simpa [World.setCell] using this
            have hbx := hu6.set (.slice (some ⟨g, 0, none⟩) (pre.length + 1) cap)
            have hbl := (below_cells (b := g) (by omega) [.int .i64 d.f0, .string d.f1, .int .i64 d.f2, .string d.f3, .slice A4 0 c4] (pre.length * 5) _ hb1').setCell (p := ⟨w.heap.size + 2, 0, none⟩) (by simp; try omega) (.slice (some ⟨g, 0, none⟩) (pre.length + 1) cap)
            have hown5 : World.ownsRow ((w1.setCells g (pre.length * 5) [.int .i64 d.f0, .string d.f1, .int .i64 d.f2, .string d.f3, .slice A4 0 c4]).setCell ⟨w.heap.size + 2, 0, none⟩ (.slice (some ⟨g, 0, none⟩) (pre.length + 1) cap)) w.heap.size 36 k36.sz (.slice (some ⟨g, 0, none⟩) ((pre.map partF).length + 1) cap) ((pre.map partF).length + 1) (inner ++ [.int .i64 d.f0, .string d.f1, .int .i64 d.f2, .string d.f3, .slice A4 0 c4]) := by rw [List.length_map]; exact hw2
            have hRF := R_put2 (ok := fun k => w.heap.size + 8 ≤ k) (okp := fun k => W.heap.size + 5 ≤ k) h0 hrep hM3 (fun k hk => ⟨by omega, fun e => by have := hltW k e.symm; omega⟩) (fun k hk => by omega) hown5 (fun k hk hne hlt2 => by
                by_cases hkg : k = g
                · rcases hg3 with hq | hq
                  · exact absurd (by rw [hkg, hq]) hne
                  · omega
                · exact (hsm k hkg (by omega)).trans (hg1.block k hlt2 hne)) (hg3.elim (fun hq => .inl hq.symm) (fun hq => .inr ⟨g, rfl, hq⟩))
            have hfar : ∀ k, k < w.heap.size + 8 → k ≠ w.heap.size + 2 → (World.heap ((w1.setCells g (pre.length * 5) [.int .i64 d.f0, .string d.f1, .int .i64 d.f2, .string d.f3, .slice A4 0 c4]).setCell ⟨w.heap.size + 2, 0, none⟩ (.slice (some ⟨g, 0, none⟩) (pre.length + 1) cap)))[k]? = X.heap[k]? := fun k h1 h2 => (hsm k (by omega) h2).trans ((hg1.block k (by omega) (fun e => by have := h0 k e.symm; omega)).trans (hb0.block k (by omega)))
            have hmain := RelO.put hW hJ hfar hbx (by rw [List.length_map] at hRF; rw [hpx]; exact hRF) hpo hbl
            exact hmain
          · have c5 := hu5.cell
            have c5f := hu5.frozen
            go_simp
            have hu6 : Boxed (w1.setCell ⟨w.heap.size + 2, 0, none⟩ (.slice (some ⟨g, 0, none⟩) (pre.length + 1) cap)) (w.heap.size + 2) 32 _ := hu5.set (.slice (some ⟨g, 0, none⟩) (pre.length + 1) cap)
            refine hK.out _ _ (hkeep _ (fun k hk => (Below.heap_setCell _ ⟨w.heap.size + 2, 0, none⟩ _ k (hsb k hk).2.1).trans (hg1.block k (hsb k hk).1 (hsb k hk).2.2))) (fun _ => ?_)
            clear hK
            refine wpAnyH_ready (rs := [8]) (by kernel_rfl) (by simp) ?_
            refine AllReadyH.cons rfl (fun K hK => ?_) AllReadyH.nil
            rw [if_pos (by rfl)]
            refine wp_store_mid 36 (.tmp 41) (.tmp 37) rfl g (pre.length * 5) #[.int .i64 d.f0, .string d.f1, .int .i64 d.f2, .string d.f3, .slice A4 0 c4] rfl rfl hthE (by kernel_rfl) (by simp [Value.oneCell']) ?_
            simp only [Act.put, List.setIfInBounds_toArray, List.set_cons_zero, List.set_cons_succ]
            refine hK.out _ _ (hkeep _ (fun k hk => (setCells_far _ _ k (hgk k hk)).trans ((Below.heap_setCell _ ⟨w.heap.size + 2, 0, none⟩ _ k (hsb k hk).2.1).trans (hg1.block k (hsb k hk).1 (hsb k hk).2.2)))) (fun _ => ?_)
            refine wpAnyH_done (by kernel_rfl) (onlyOn ?_) _
            have hw2 := hput (w1.setCell ⟨w.heap.size + 2, 0, none⟩ (.slice (some ⟨g, 0, none⟩) (pre.length + 1) cap)) (Below.heap_setCell _ ⟨w.heap.size + 2, 0, none⟩ _ _ (by simp; omega))
            have hsm : ∀ k, k ≠ g → k ≠ w.heap.size + 2 → ((w1.setCell ⟨w.heap.size + 2, 0, none⟩ (.slice (some ⟨g, 0, none⟩) (pre.length + 1) cap)).setCells g (pre.length * 5) [.int .i64 d.f0, .string d.f1, .int .i64 d.f2, .string d.f3, .slice A4 0 c4]).heap[k]? = w1.heap[k]? := fun k h1 h2 => (setCells_far _ _ _ h1).trans (Below.heap_setCell _ _ _ _ (by simpa using h2))
            have hzz : ((w1.setCell ⟨w.heap.size + 2, 0, none⟩ (.slice (some ⟨g, 0, none⟩) (pre.length + 1) cap)).setCells g (pre.length * 5) [.int .i64 d.f0, .string d.f1, .int .i64 d.f2, .string d.f3, .slice A4 0 c4]).heap.size = w1.heap.size := by
              have := (setCells_same g [.int .i64 d.f0, .string d.f1, .int .i64 d.f2, .string d.f3, .slice A4 0 c4] (pre.length * 5) (w1.setCell ⟨w.heap.size + 2, 0, none⟩ (.slice (some ⟨g, 0, none⟩) (pre.length + 1) cap))).2.2.2
              rw [this]; simp [World.setCell]
            have hbx : Boxed ((w1.setCell ⟨w.heap.size + 2, 0, none⟩ (.slice (some ⟨g, 0, none⟩) (pre.length + 1) cap)).setCells g (pre.length * 5) [.int .i64 d.f0, .string d.f1, .int .i64 d.f2, .string d.f3, .slice A4 0 c4]) (w.heap.size + 2) 32 _ := (setCells_far _ _ (w.heap.size + 2) (by omega)).trans hu6
            have hbl := below_cells (b := g) (by omega) [.int .i64 d.f0, .string d.f1, .int .i64 d.f2, .string d.f3, .slice A4 0 c4] (pre.length * 5) _ (hb1'.setCell (p := ⟨w.heap.size + 2, 0, none⟩) (by simp; try omega) (.slice (some ⟨g, 0, none⟩) (pre.length + 1) cap))
            have hown5 : World.ownsRow ((w1.setCell ⟨w.heap.size + 2, 0, none⟩ (.slice (some ⟨g, 0, none⟩) (pre.length + 1) cap)).setCells g (pre.length * 5) [.int .i64 d.f0, .string d.f1, .int .i64 d.f2, .string d.f3, .slice A4 0 c4]) w.heap.size 36 k36.sz (.slice (some ⟨g, 0, none⟩) ((pre.map partF).length + 1) cap) ((pre.map partF).length + 1) (inner ++ [.int .i64 d.f0, .string d.f1, .int .i64 d.f2, .string d.f3, .slice A4 0 c4]) := by rw [List.length_map]; exact hw2
            have hRF := R_put2 (ok := fun k => w.heap.size + 8 ≤ k) (okp := fun k => W.heap.size + 5 ≤ k) h0 hrep hM3 (fun k hk => ⟨by omega, fun e => by have := hltW k e.symm; omega⟩) (fun k hk => by omega) hown5 (fun k hk hne hlt2 => by
                by_cases hkg : k = g
                · rcases hg3 with hq | hq
                  · exact absurd (by rw [hkg, hq]) hne
                  · omega
                · exact (hsm k hkg (by omega)).trans (hg1.block k hlt2 hne)) (hg3.elim (fun hq => .inl hq.symm) (fun hq => .inr ⟨g, rfl, hq⟩))
            have hfar : ∀ k, k < w.heap.size + 8 → k ≠ w.heap.size + 2 → (World.heap ((w1.setCell ⟨w.heap.size + 2, 0, none⟩ (.slice (some ⟨g, 0, none⟩) (pre.length + 1) cap)).setCells g (pre.length * 5) [.int .i64 d.f0, .string d.f1, .int .i64 d.f2, .string d.f3, .slice A4 0 c4]))[k]? = X.heap[k]? := fun k h1 h2 => (hsm k (by omega) h2).trans ((hg1.block k (by omega) (fun e => by have := h0 k e.symm; omega)).trans (hb0.block k (by omega)))
            have hmain := RelO.put hW hJ hfar hbx (by rw [List.length_map] at hRF; rw [hpx]; exact hRF) hpo hbl
            exact hmain
        · go_simp
          refine hK.out _ _ hS4 (fun _ => ?_)
          clear hK
          refine wpAnyH_ready (rs := [0]) (by kernel_rfl) (by simp) ?_
          refine AllReadyH.cons rfl (fun K hK => ?_) AllReadyH.nil
          go_simp
          refine hK.out _ _ hS4 (fun _ => ?_)
          clear hK
          refine wpAnyH_take (i := 4) (v := .int .i64 ((pre.length : Nat) : Int)) rfl (by kernel_rfl) (by kernel_rfl) (by kernel_rfl) (fun _ _ _ h => h) (Or.inl ⟨by rfl, by intro Y hY; first | (go_simp; done) | (go_simp; intro hcc; omega)⟩) hS4 ?_
          simp only [Act.put, List.setIfInBounds_toArray, List.set_cons_zero, List.set_cons_succ]
          refine wpAnyH_ready (rs := [6]) (by kernel_rfl) (by simp) ?_
          refine AllReadyH.cons rfl (fun K hK => ?_) AllReadyH.nil
          refine step_append_cells w.heap.size (by rfl) (.tmp 34) (.tmp 39) 32 36 (.agg #[.int .i64 0, .string ⟨#[]⟩, .int .i64 0, .string ⟨#[]⟩, .slice none 0 0]) 5 72 rfl Tryd.underlying32 infoDep rfl (by decide) (by decide) _ _ inner [.int .i64 0, .string ⟨#[]⟩, .int .i64 0, .string ⟨#[]⟩, .slice none 0 0] rfl rfl rfl (by simp [Value.oneCell']) hown hbe (by omega) (by omega) ?_
          intro v1 w1 hown1 hb1' hg1 hat1
          have zz1 := hg1.size
          have hS5 := hkeep w1 (fun k hk => hg1.block k (hsb k hk).1 (hsb k hk).2.2)
          obtain ⟨g, cap, rfl, hgb, hgl, hth, hput⟩ := own_last (cs := [.int .i64 d.f0, .string d.f1, .int .i64 d.f2, .string d.f3, .slice A4 0 c4]) hown1 hown.1 rfl rfl
          have hg3 : (Value.slice Ao pre.length co).ownBlock = some g ∨ X3.heap.size ≤ g := by
            rcases hat1 with hq | ⟨b, hq, hqb⟩
            · exact .inl hq.symm
            · have hq' : g = b := by simpa [Value.ownBlock] using hq
              exact .inr (by omega)
          have hgn := hgfar g hg3
          have hgk := hgsb g hg3
          simp only [Act.put, List.setIfInBounds_toArray, List.set_cons_zero, List.set_cons_succ]
          refine hK.out _ _ hS5 (fun _ => ?_)
          clear hK
          refine wpAnyH_take (i := 7) (v := .pointer (some ⟨g, pre.length * 5, none⟩)) rfl (by kernel_rfl) (by kernel_rfl) (by kernel_rfl) (fun _ _ _ h => h) (Or.inl ⟨by rfl, by intro Y hY; first | (go_simp; done) | (go_simp; intro hcc; omega)⟩) hS5 ?_
          simp only [Act.put, List.setIfInBounds_toArray, List.set_cons_zero, List.set_cons_succ]
          have hu5 : Boxed w1 (w.heap.size + 2) 32 _ := hu3.kept hg1 hneb
          have hthE : (w1.setCell ⟨w.heap.size + 2, 0, none⟩ (.slice (some ⟨g, 0, none⟩) (pre.length + 1) cap)).there g (pre.length * 5) 5 := fun j hj => by
            rw [World.cell?_setCell_far _ _ _ _ (by simp; omega), World.frozen?_setCell]
            exact hth j hj
          refine wpAnyH_ready (rs := [8, 9]) (by kernel_rfl) (by simp) ?_
          refine AllReadyH.cons rfl (fun K hK => ?_) (AllReadyH.cons rfl (fun K hK => ?_) AllReadyH.nil)
          · rw [if_pos (by rfl)]
            refine wp_store_mid 36 (.tmp 41) (.tmp 37) rfl g (pre.length * 5) #[.int .i64 d.f0, .string d.f1, .int .i64 d.f2, .string d.f3, .slice A4 0 c4] rfl rfl hth (by kernel_rfl) (by simp [Value.oneCell']) ?_
            simp only [Act.put, List.setIfInBounds_toArray, List.set_cons_zero, List.set_cons_succ]
            have hu6 : Boxed (w1.setCells g (pre.length * 5) [.int .i64 d.f0, .string d.f1, .int .i64 d.f2, .string d.f3, .slice A4 0 c4]) (w.heap.size + 2) 32 _ := (setCells_far _ _ (w.heap.size + 2) (by omega)).trans hu5
            have hS6 := hkeep (w1.setCells g (pre.length * 5) [.int .i64 d.f0, .string d.f1, .int .i64 d.f2, .string d.f3, .slice A4 0 c4]) (fun k hk => (setCells_far _ _ k (hgk k hk)).trans (hg1.block k (hsb k hk).1 (hsb k hk).2.2))
            refine hK.out _ _ hS6 (fun _ => ?_)
            clear hK
            have c6 := hu6.cell
            have c6f := hu6.frozen
            refine wpAnyH_ready (rs := [9]) (by kernel_rfl) (by simp) ?_
            refine AllReadyH.cons rfl (fun K hK => ?_) AllReadyH.nil
            go_simp
            refine hK.out _ _ (hkeep _ (fun k hk => (Below.heap_setCell _ ⟨w.heap.size + 2, 0, none⟩ _ k (hsb k hk).2.1).trans ((setCells_far _ _ k (hgk k hk)).trans (hg1.block k (hsb k hk).1 (hsb k hk).2.2)))) (fun _ => ?_)
            refine wpAnyH_done (by kernel_rfl) (onlyOn ?_) _
            have hw2 := own_setCell (p := ⟨w.heap.size + 2, 0, none⟩) (hput w1 rfl) (by simp [Value.ownBlock]; omega) (.slice (some ⟨g, 0, none⟩) (pre.length + 1) cap)
            have hsm : ∀ k, k ≠ g → k ≠ w.heap.size + 2 → ((w1.setCells g (pre.length * 5) [.int .i64 d.f0, .string d.f1, .int .i64 d.f2, .string d.f3, .slice A4 0 c4]).setCell ⟨w.heap.size + 2, 0, none⟩ (.slice (some ⟨g, 0, none⟩) (pre.length + 1) cap)).heap[k]? = w1.heap[k]? := fun k h1 h2 => (Below.heap_setCell _ _ _ _ (by simpa using h2)).trans (setCells_far _ _ _ h1)
            have hzz : ((w1.setCells g (pre.length * 5) [.int .i64 d.f0, .string d.f1, .int .i64 d.f2, .string d.f3, .slice A4 0 c4]).setCell ⟨w.heap.size + 2, 0, none⟩ (.slice (some ⟨g, 0, none⟩) (pre.length + 1) cap)).heap.size = w1.heap.size := by
              have := (setCells_same g [.int .i64 d.f0, .string d.f1, .int .i64 d.f2, .string d.f3, .slice A4 0 c4] (pre.length * 5) w1).2.2.2
              simpa [World.setCell] using this
            have hbx := hu6.set (.slice (some ⟨g, 0, none⟩) (pre.length + 1) cap)
            have hbl := (below_cells (b := g) (by omega) [.int .i64 d.f0, .string d.f1, .int .i64 d.f2, .string d.f3, .slice A4 0 c4] (pre.length * 5) _ hb1').setCell (p := ⟨w.heap.size + 2, 0, none⟩) (by simp; try omega) (.slice (some ⟨g, 0, none⟩) (pre.length + 1) cap)
            have hown5 : World.ownsRow ((w1.setCells g (pre.length * 5) [.int .i64 d.f0, .string d.f1, .int .i64 d.f2, .string d.f3, .slice A4 0 c4]).setCell ⟨w.heap.size + 2, 0, none⟩ (.slice (some ⟨g, 0, none⟩) (pre.length + 1) cap)) w.heap.size 36 k36.sz (.slice (some ⟨g, 0, none⟩) ((pre.map partF).length + 1) cap) ((pre.map partF).length + 1) (inner ++ [.int .i64 d.f0, .string d.f1, .int .i64 d.f2, .string d.f3, .slice A4 0 c4]) := by rw [List.length_map]; exact hw2
            have hRF := R_put2 (ok := fun k => w.heap.size + 8 ≤ k) (okp := fun k => W.heap.size + 5 ≤ k) h0 hrep hM3 (fun k hk => ⟨by omega, fun e => by have := hltW k e.symm; omega⟩) (fun k hk => by omega) hown5 (fun k hk hne hlt2 => by
                by_cases hkg : k = g
                · rcases hg3 with hq | hq
                  · exact absurd (by rw [hkg, hq]) hne
                  · omega
                · exact (hsm k hkg (by omega)).trans (hg1.block k hlt2 hne)) (hg3.elim (fun hq => .inl hq.symm) (fun hq => .inr ⟨g, rfl, hq⟩))
            have hfar : ∀ k, k < w.heap.size + 8 → k ≠ w.heap.size + 2 → (World.heap ((w1.setCells g (pre.length * 5) [.int .i64 d.f0, .string d.f1, .int .i64 d.f2, .string d.f3, .slice A4 0 c4]).setCell ⟨w.heap.size + 2, 0, none⟩ (.slice (some ⟨g, 0, none⟩) (pre.length + 1) cap)))[k]? = X.heap[k]? := fun k h1 h2 => (hsm k (by omega) h2).trans ((hg1.block k (by omega) (fun e => by have := h0 k e.symm; omega)).trans (hb0.block k (by omega)))
            have hmain := RelO.put hW hJ hfar hbx (by rw [List.length_map] at hRF; rw [hpx]; exact hRF) hpo hbl
            exact hmain
          · have c5 := hu5.cell
            have c5f := hu5.frozen
            go_simp
            have hu6 : Boxed (w1.setCell ⟨w.heap.size + 2, 0, none⟩ (.slice (some ⟨g, 0, none⟩) (pre.length + 1) cap)) (w.heap.size + 2) 32 _ := hu5.set (.slice (some ⟨g, 0, none⟩) (pre.length + 1) cap)
            refine hK.out _ _ (hkeep _ (fun k hk => (Below.heap_setCell _ ⟨w.heap.size + 2, 0, none⟩ _ k (hsb k hk).2.1).trans (hg1.block k (hsb k hk).1 (hsb k hk).2.2))) (fun _ => ?_)
            clear hK
            refine wpAnyH_ready (rs := [8]) (by kernel_rfl) (by simp) ?_
            refine AllReadyH.cons rfl (fun K hK => ?_) AllReadyH.nil
            rw [if_pos (by rfl)]
            refine wp_store_mid 36 (.tmp 41) (.tmp 37) rfl g (pre.length * 5) #[.int .i64 d.f0, .string d.f1, .int .i64 d.f2, .string d.f3, .slice A4 0 c4] rfl rfl hthE (by kernel_rfl) (by simp [Value.oneCell']) ?_
            simp only [Act.put, List.setIfInBounds_toArray, List.set_cons_zero, List.set_cons_succ]
            refine hK.out _ _ (hkeep _ (fun k hk => (setCells_far _ _ k (hgk k hk)).trans ((Below.heap_setCell _ ⟨w.heap.size + 2, 0, none⟩ _ k (hsb k hk).2.1).trans (hg1.block k (hsb k hk).1 (hsb k hk).2.2)))) (fun _ => ?_)
            refine wpAnyH_done (by kernel_rfl) (onlyOn ?_) _
            have hw2 := hput (w1.setCell ⟨w.heap.size + 2, 0, none⟩ (.slice (some ⟨g, 0, none⟩) (pre.length + 1) cap)) (Below.heap_setCell _ ⟨w.heap.size + 2, 0, none⟩ _ _ (by simp; omega))
            have hsm : ∀ k, k ≠ g → k ≠ w.heap.size + 2 → ((w1.setCell ⟨w.heap.size + 2, 0, none⟩ (.slice (some ⟨g, 0, none⟩) (pre.length + 1) cap)).setCells g (pre.length * 5) [.int .i64 d.f0, .string d.f1, .int .i64 d.f2, .string d.f3, .slice A4 0 c4]).heap[k]? = w1.heap[k]? := fun k h1 h2 => (setCells_far _ _ _ h1).trans (Below.heap_setCell _ _ _ _ (by simpa using h2))
            have hzz : ((w1.setCell ⟨w.heap.size + 2, 0, none⟩ (.slice (some ⟨g, 0, none⟩) (pre.length + 1) cap)).setCells g (pre.length * 5) [.int .i64 d.f0, .string d.f1, .int .i64 d.f2, .string d.f3, .slice A4 0 c4]).heap.size = w1.heap.size := by
              have := (setCells_same g [.int .i64 d.f0, .string d.f1, .int .i64 d.f2, .string d.f3, .slice A4 0 c4] (pre.length * 5) (w1.setCell ⟨w.heap.size + 2, 0, none⟩ (.slice (some ⟨g, 0, none⟩) (pre.length + 1) cap))).2.2.2
              rw [this]; simp [World.setCell]
            have hbx : Boxed ((w1.setCell ⟨w.heap.size + 2, 0, none⟩ (.slice (some ⟨g, 0, none⟩) (pre.length + 1) cap)).setCells g (pre.length * 5) [.int .i64 d.f0, .string d.f1, .int .i64 d.f2, .string d.f3, .slice A4 0 c4]) (w.heap.size + 2) 32 _ := (setCells_far _ _ (w.heap.size + 2) (by omega)).trans hu6
            have hbl := below_cells (b := g) (by omega) [.int .i64 d.f0, .string d.f1, .int .i64 d.f2, .string d.f3, .slice A4 0 c4] (pre.length * 5) _ (hb1'.setCell (p := ⟨w.heap.size + 2, 0, none⟩) (by simp; try omega) (.slice (some ⟨g, 0, none⟩) (pre.length + 1) cap))
            have hown5 : World.ownsRow ((w1.setCell ⟨w.heap.size + 2, 0, none⟩ (.slice (some ⟨g, 0, none⟩) (pre.length + 1) cap)).setCells g (pre.length * 5) [.int .i64 d.f0, .string d.f1, .int .i64 d.f2, .string d.f3, .slice A4 0 c4]) w.heap.size 36 k36.sz (.slice (some ⟨g, 0, none⟩) ((pre.map partF).length + 1) cap) ((pre.map partF).length + 1) (inner ++ [.int .i64 d.f0, .string d.f1, .int .i64 d.f2, .string d.f3, .slice A4 0 c4]) := by rw [List.length_map]; exact hw2
            have hRF := R_put2 (ok := fun k => w.heap.size + 8 ≤ k) (okp := fun k => W.heap.size + 5 ≤ k) h0 hrep hM3 (fun k hk => ⟨by omega, fun e => by have := hltW k e.symm; omega⟩) (fun k hk => by omega) hown5 (fun k hk hne hlt2 => by
                by_cases hkg : k = g
                · rcases hg3 with hq | hq
                  · exact absurd (by rw [hkg, hq]) hne
                  · omega
                · exact (hsm k hkg (by omega)).trans (hg1.block k hlt2 hne)) (hg3.elim (fun hq => .inl hq.symm) (fun hq => .inr ⟨g, rfl, hq⟩))
            have hfar : ∀ k, k < w.heap.size + 8 → k ≠ w.heap.size + 2 → (World.heap ((w1.setCell ⟨w.heap.size + 2, 0, none⟩ (.slice (some ⟨g, 0, none⟩) (pre.length + 1) cap)).setCells g (pre.length * 5) [.int .i64 d.f0, .string d.f1, .int .i64 d.f2, .string d.f3, .slice A4 0 c4]))[k]? = X.heap[k]? := fun k h1 h2 => (hsm k (by omega) h2).trans ((hg1.block k (by omega) (fun e => by have := h0 k e.symm; omega)).trans (hb0.block k (by omega)))
            have hmain := RelO.put hW hJ hfar hbx (by rw [List.length_map] at hRF; rw [hpx]; exact hRF) hpo hbl
            exact hmain
      · have hpx : partF x = ⟨3, ⟨#[]⟩, 0, ⟨#[]⟩, List.map (fun t => (pieceF t).1) (splitB 124 x)⟩ := oneOf_many _ hL
        have hL2 : decide (((List.map (fun t => (pieceF t).1) (splitB 124 x)).length : Int) = 1) = false := decide_eq_false (by omega)
        generalize (List.map (fun t => (pieceF t).1) (splitB 124 x)).length = L at *
        gi_wp2
        have hu0 : Boxed X.drew W.heap.size 32 (.slice A L cc) := hu
        have ho0 : Boxed X.drew (w.heap.size + 2) 32 (.slice Ao pre.length co) := hou
        have hb0 : Below X.heap.size X X.drew := ⟨rfl, rfl, rfl, Nat.le_refl _, fun _ _ => rfl⟩
        have hbe : Below w.heap.size w X.drew := ⟨hJ.o.below.os, hJ.o.below.tape, hJ.o.below.output, hJ.o.below.size, hJ.o.below.block⟩
        refine wpIn_fact (fun F => F.heap[w.heap.size + 6]? = W.heap[w.heap.size + 6]? ∧ F.heap[w.heap.size + 6 + 1]? = W.heap[w.heap.size + 6 + 1]? ∧ SKeep (w.heap.size + 3) W F ∧ RelO w F.heap.size (pre ++ [x]) F) ?_ ?hend
        case hend =>
          rintro a F ⟨r1, r2, r3, r4⟩
          clear hJ hou hoR hu hR n2
          gi_wp2
          exact ⟨by rw [hz]; exact r1, by rw [hz]; exact r2, r3, r4⟩
        refine wpIn_region_held (fun Y => Y.heap[W.heap.size]? = some (.cells #[.slice A L cc] 32 (0, 0))) (by kernel_rfl) (by kernel_rfl) ?_
        generalize X.drew = X3 at *
        have hu3 : Boxed X3 (w.heap.size + 2) 32 (.slice Ao pre.length co) := ho0
        have hR3 := Kd.R_below hR hb0
        have zb : w.heap.size + 2 < X3.heap.size := hu3.lt
        have zW : W.heap.size < X3.heap.size := hu0.lt
        obtain ⟨h0, inner, hown, hrep⟩ := Kd.R_mono (ok' := fun k => w.heap.size + 8 ≤ k) (Kd.R_below hoR hb0) (fun k hk => hk.1)
        simp only [List.length_map] at hown
        have hltW : ∀ k, (Value.slice Ao pre.length co).ownBlock = some k → k < W.heap.size := fun k hk => (hoR.1 k hk).2
        have hneb : some (w.heap.size + 2) ≠ (Value.slice Ao pre.length co).ownBlock := fun e => by have := h0 _ e.symm; omega
        have hgfar : ∀ g, ((Value.slice Ao pre.length co).ownBlock = some g ∨ X3.heap.size ≤ g) → w.heap.size + 8 ≤ g := fun g hg => by
          rcases hg with hg | hg
          · exact h0 g hg
          · omega
        have hS3 : X3.heap[W.heap.size]? = some (.cells #[.slice A L cc] 32 (0, 0)) := hu0
        have hM3 : k36.M X3 w.heap.size (fun k => W.heap.size + 5 ≤ k) ⟨3, ⟨#[]⟩, 0, ⟨#[]⟩, List.map (fun t => (pieceF t).1) (splitB 124 x)⟩ [.int .i64 3, .string ⟨#[]⟩, .int .i64 0, .string ⟨#[]⟩, .slice A L cc] := k36_mkM X3 w.heap.size _ ⟨3, ⟨#[]⟩, 0, ⟨#[]⟩, List.map (fun t => (pieceF t).1) (splitB 124 x)⟩ hR3
        have hkeep : ∀ Y : World, (∀ k, k = W.heap.size → Y.heap[k]? = X3.heap[k]?) → Y.heap[W.heap.size]? = some (.cells #[.slice A L cc] 32 (0, 0)) := fun Y hY => (hY _ rfl).trans hu0
        have hsb : ∀ k, k = W.heap.size → k < X3.heap.size ∧ k ≠ w.heap.size + 2 ∧ some k ≠ (Value.slice Ao pre.length co).ownBlock := fun k hk => ⟨by omega, by omega, fun e => by have := hltW _ e.symm; omega⟩
        have hgsb : ∀ g, ((Value.slice Ao pre.length co).ownBlock = some g ∨ X3.heap.size ≤ g) → ∀ k, k = W.heap.size → k ≠ g := fun g hg k hk => by
          rcases hg with hg | hg
          · have := hltW g hg; omega
          · omega
        refine wpAnyH_take (i := 1) (v := .slice A L cc) rfl (by kernel_rfl) (by kernel_rfl) (by kernel_rfl) (fun _ _ _ h => h) (Or.inl ⟨by rfl, ?_⟩) hS3 ?_
        · intro Y hY
          have y0 := blk_cell hY 0
          go_simp
        simp only [Act.put, List.setIfInBounds_toArray, List.set_cons_zero, List.set_cons_succ]
        refine wpAnyH_take (i := 2) (v := .agg #[.int .i64 3, .string ⟨#[]⟩, .int .i64 0, .string ⟨#[]⟩, .slice A L cc]) rfl (by kernel_rfl) (by kernel_rfl) (by kernel_rfl) (fun _ _ _ h => h) (Or.inl ⟨by rfl, ?_⟩) hS3 ?_
        · intro Y hY
          go_simp
        simp only [Act.put, List.setIfInBounds_toArray, List.set_cons_zero, List.set_cons_succ]
        have z1 : (0 : Int) ≤ ((pre.length : Nat) : Int) := Int.natCast_nonneg _
        have z2 : ((pre.length : Nat) : Int) ≤ (((pre.length) + 1 : Nat) : Int) := by omega
        have z3 : ((pre.length : Nat) : Int) < (((pre.length) + 1 : Nat) : Int) := by omega
        have c3 := hu3.cell
        have hS4 := hkeep (X3.alloc (.cells #[.int .i64 0, .string ⟨#[]⟩, .int .i64 0, .string ⟨#[]⟩, .slice none 0 0] 36)) (fun k hk => Below.heap_alloc _ _ _ (hsb k hk).1)
        refine wpAnyH_ready (rs := [0, 4]) (by kernel_rfl) (by simp) ?_
        refine AllReadyH.cons rfl (fun K hK => ?_) (AllReadyH.cons rfl (fun K hK => ?_) AllReadyH.nil)
        · go_simp
          refine hK.out _ _ hS3 (fun _ => ?_)
          clear hK
          refine wpAnyH_take (i := 3) (v := .int .i64 ((pre.length : Nat) : Int)) rfl (by kernel_rfl) (by kernel_rfl) (by kernel_rfl) (fun _ _ _ h => h) (Or.inl ⟨by rfl, by intro Y hY; first | (go_simp; done) | (go_simp; intro hcc; omega)⟩) hS3 ?_
          simp only [Act.put, List.setIfInBounds_toArray, List.set_cons_zero, List.set_cons_succ]
          refine wpAnyH_ready (rs := [4]) (by kernel_rfl) (by simp) ?_
          refine AllReadyH.cons rfl (fun K hK => ?_) AllReadyH.nil
          go_simp
          refine hK.out _ _ hS4 (fun _ => ?_)
          clear hK
          refine wpAnyH_ready (rs := [5]) (by kernel_rfl) (by simp) ?_
          refine AllReadyH.cons rfl (fun K hK => ?_) AllReadyH.nil
          refine step_append_cells w.heap.size (by rfl) (.tmp 42) (.tmp 46) 32 36 (.agg #[.int .i64 0, .string ⟨#[]⟩, .int .i64 0, .string ⟨#[]⟩, .slice none 0 0]) 5 72 rfl Tryd.underlying32 infoDep rfl (by decide) (by decide) _ _ inner [.int .i64 0, .string ⟨#[]⟩, .int .i64 0, .string ⟨#[]⟩, .slice none 0 0] rfl rfl rfl (by simp [Value.oneCell']) hown hbe (by omega) (by omega) ?_
          intro v1 w1 hown1 hb1' hg1 hat1
          have zz1 := hg1.size
          have hS5 := hkeep w1 (fun k hk => hg1.block k (hsb k hk).1 (hsb k hk).2.2)
          obtain ⟨g, cap, rfl, hgb, hgl, hth, hput⟩ := own_last (cs := [.int .i64 3, .string ⟨#[]⟩, .int .i64 0, .string ⟨#[]⟩, .slice A L cc]) hown1 hown.1 rfl rfl
          have hg3 : (Value.slice Ao pre.length co).ownBlock = some g ∨ X3.heap.size ≤ g := by
            rcases hat1 with hq | ⟨b, hq, hqb⟩
            · exact .inl hq.symm
            · have hq' : g = b := by simpa [Value.ownBlock] using hq
              exact .inr (by omega)
          have hgn := hgfar g hg3
          have hgk := hgsb g hg3
          simp only [Act.put, List.setIfInBounds_toArray, List.set_cons_zero, List.set_cons_succ]
          refine hK.out _ _ hS5 (fun _ => ?_)
          clear hK
          refine wpAnyH_take (i := 6) (v := .pointer (some ⟨g, pre.length * 5, none⟩)) rfl (by kernel_rfl) (by kernel_rfl) (by kernel_rfl) (fun _ _ _ h => h) (Or.inl ⟨by rfl, by intro Y hY; first | (go_simp; done) | (go_simp; intro hcc; omega)⟩) hS5 ?_
          simp only [Act.put, List.setIfInBounds_toArray, List.set_cons_zero, List.set_cons_succ]
          have hu5 : Boxed w1 (w.heap.size + 2) 32 _ := hu3.kept hg1 hneb
          have hthE : (w1.setCell ⟨w.heap.size + 2, 0, none⟩ (.slice (some ⟨g, 0, none⟩) (pre.length + 1) cap)).there g (pre.length * 5) 5 := fun j hj => by
            rw [World.cell?_setCell_far _ _ _ _ (by simp; omega), World.frozen?_setCell]
            exact hth j hj
          refine wpAnyH_ready (rs := [7, 8]) (by kernel_rfl) (by simp) ?_
          refine AllReadyH.cons rfl (fun K hK => ?_) (AllReadyH.cons rfl (fun K hK => ?_) AllReadyH.nil)
          · rw [if_pos (by rfl)]
            refine wp_store_mid 36 (.tmp 48) (.tmp 44) rfl g (pre.length * 5) #[.int .i64 3, .string ⟨#[]⟩, .int .i64 0, .string ⟨#[]⟩, .slice A L cc] rfl rfl hth (by kernel_rfl) (by simp [Value.oneCell']) ?_
            simp only [Act.put, List.setIfInBounds_toArray, List.set_cons_zero, List.set_cons_succ]
            have hu6 : Boxed (w1.setCells g (pre.length * 5) [.int .i64 3, .string ⟨#[]⟩, .int .i64 0, .string ⟨#[]⟩, .slice A L cc]) (w.heap.size + 2) 32 _ := (setCells_far _ _ (w.heap.size + 2) (by omega)).trans hu5
            have hS6 := hkeep (w1.setCells g (pre.length * 5) [.int .i64 3, .string ⟨#[]⟩, .int .i64 0, .string ⟨#[]⟩, .slice A L cc]) (fun k hk => (setCells_far _ _ k (hgk k hk)).trans (hg1.block k (hsb k hk).1 (hsb k hk).2.2))
            refine hK.out _ _ hS6 (fun _ => ?_)
            clear hK
            have c6 := hu6.cell
            have c6f := hu6.frozen
            refine wpAnyH_ready (rs := [8]) (by kernel_rfl) (by simp) ?_
            refine AllReadyH.cons rfl (fun K hK => ?_) AllReadyH.nil
            go_simp
            refine hK.out _ _ (hkeep _ (fun k hk => (Below.heap_setCell _ ⟨w.heap.size + 2, 0, none⟩ _ k (hsb k hk).2.1).trans ((setCells_far _ _ k (hgk k hk)).trans (hg1.block k (hsb k hk).1 (hsb k hk).2.2)))) (fun _ => ?_)
            refine wpAnyH_done (by kernel_rfl) (onlyOn ?_) _
            have hw2 := own_setCell (p := ⟨w.heap.size + 2, 0, none⟩) (hput w1 rfl) (by simp [Value.ownBlock]; omega) (.slice (some ⟨g, 0, none⟩) (pre.length + 1) cap)
            have hsm : ∀ k, k ≠ g → k ≠ w.heap.size + 2 → ((w1.setCells g (pre.length * 5) [.int .i64 3, .string ⟨#[]⟩, .int .i64 0, .string ⟨#[]⟩, .slice A L cc]).setCell ⟨w.heap.size + 2, 0, none⟩ (.slice (some ⟨g, 0, none⟩) (pre.length + 1) cap)).heap[k]? = w1.heap[k]? := fun k h1 h2 => (Below.heap_setCell _ _ _ _ (by simpa using h2)).trans (setCells_far _ _ _ h1)
            have hzz : ((w1.setCells g (pre.length * 5) [.int .i64 3, .string ⟨#[]⟩, .int .i64 0, .string ⟨#[]⟩, .slice A L cc]).setCell ⟨w.heap.size + 2, 0, none⟩ (.slice (some ⟨g, 0, none⟩) (pre.length + 1) cap)).heap.size = w1.heap.size := by
              have := (setCells_same g [.int .i64 3, .string ⟨#[]⟩, .int .i64 0, .string ⟨#[]⟩, .slice A L cc] (pre.length * 5) w1).2.2.2
              simpa [World.setCell] using this
            have hbx := hu6.set (.slice (some ⟨g, 0, none⟩) (pre.length + 1) cap)
            have hbl := (below_cells (b := g) (by omega) [.int .i64 3, .string ⟨#[]⟩, .int .i64 0, .string ⟨#[]⟩, .slice A L cc] (pre.length * 5) _ hb1').setCell (p := ⟨w.heap.size + 2, 0, none⟩) (by simp; try omega) (.slice (some ⟨g, 0, none⟩) (pre.length + 1) cap)
            have hown5 : World.ownsRow ((w1.setCells g (pre.length * 5) [.int .i64 3, .string ⟨#[]⟩, .int .i64 0, .string ⟨#[]⟩, .slice A L cc]).setCell ⟨w.heap.size + 2, 0, none⟩ (.slice (some ⟨g, 0, none⟩) (pre.length + 1) cap)) w.heap.size 36 k36.sz (.slice (some ⟨g, 0, none⟩) ((pre.map partF).length + 1) cap) ((pre.map partF).length + 1) (inner ++ [.int .i64 3, .string ⟨#[]⟩, .int .i64 0, .string ⟨#[]⟩, .slice A L cc]) := by rw [List.length_map]; exact hw2
            have hRF := R_put2 (ok := fun k => w.heap.size + 8 ≤ k) (okp := fun k => W.heap.size + 5 ≤ k) h0 hrep hM3 (fun k hk => ⟨by omega, fun e => by have := hltW k e.symm; omega⟩) (fun k hk => by omega) hown5 (fun k hk hne hlt2 => by
                by_cases hkg : k = g
                · rcases hg3 with hq | hq
                  · exact absurd (by rw [hkg, hq]) hne
                  · omega
                · exact (hsm k hkg (by omega)).trans (hg1.block k hlt2 hne)) (hg3.elim (fun hq => .inl hq.symm) (fun hq => .inr ⟨g, rfl, hq⟩))
            have hfar : ∀ k, k < w.heap.size + 8 → k ≠ w.heap.size + 2 → (World.heap ((w1.setCells g (pre.length * 5) [.int .i64 3, .string ⟨#[]⟩, .int .i64 0, .string ⟨#[]⟩, .slice A L cc]).setCell ⟨w.heap.size + 2, 0, none⟩ (.slice (some ⟨g, 0, none⟩) (pre.length + 1) cap)))[k]? = X.heap[k]? := fun k h1 h2 => (hsm k (by omega) h2).trans ((hg1.block k (by omega) (fun e => by have := h0 k e.symm; omega)).trans (hb0.block k (by omega)))
            have hmain := RelO.put hW hJ hfar hbx (by rw [List.length_map] at hRF; rw [hpx]; exact hRF) hpo hbl
            exact hmain
          · have c5 := hu5.cell
            have c5f := hu5.frozen
            go_simp
            have hu6 : Boxed (w1.setCell ⟨w.heap.size + 2, 0, none⟩ (.slice (some ⟨g, 0, none⟩) (pre.length + 1) cap)) (w.heap.size + 2) 32 _ := hu5.set (.slice (some ⟨g, 0, none⟩) (pre.length + 1) cap)
            refine hK.out _ _ (hkeep _ (fun k hk => (Below.heap_setCell _ ⟨w.heap.size + 2, 0, none⟩ _ k (hsb k hk).2.1).trans (hg1.block k (hsb k hk).1 (hsb k hk).2.2))) (fun _ => ?_)
            clear hK
            refine wpAnyH_ready (rs := [7]) (by kernel_rfl) (by simp) ?_
            refine AllReadyH.cons rfl (fun K hK => ?_) AllReadyH.nil
            rw [if_pos (by rfl)]
            refine wp_store_mid 36 (.tmp 48) (.tmp 44) rfl g (pre.length * 5) #[.int .i64 3, .string ⟨#[]⟩, .int .i64 0, .string ⟨#[]⟩, .slice A L cc] rfl rfl hthE (by kernel_rfl) (by simp [Value.oneCell']) ?_
            simp only [Act.put, List.setIfInBounds_toArray, List.set_cons_zero, List.set_cons_succ]
            refine hK.out _ _ (hkeep _ (fun k hk => (setCells_far _ _ k (hgk k hk)).trans ((Below.heap_setCell _ ⟨w.heap.size + 2, 0, none⟩ _ k (hsb k hk).2.1).trans (hg1.block k (hsb k hk).1 (hsb k hk).2.2)))) (fun _ => ?_)
            refine wpAnyH_done (by kernel_rfl) (onlyOn ?_) _
            have hw2 := hput (w1.setCell ⟨w.heap.size + 2, 0, none⟩ (.slice (some ⟨g, 0, none⟩) (pre.length + 1) cap)) (Below.heap_setCell _ ⟨w.heap.size + 2, 0, none⟩ _ _ (by simp; omega))
            have hsm : ∀ k, k ≠ g → k ≠ w.heap.size + 2 → ((w1.setCell ⟨w.heap.size + 2, 0, none⟩ (.slice (some ⟨g, 0, none⟩) (pre.length + 1) cap)).setCells g (pre.length * 5) [.int .i64 3, .string ⟨#[]⟩, .int .i64 0, .string ⟨#[]⟩, .slice A L cc]).heap[k]? = w1.heap[k]? := fun k h1 h2 => (setCells_far _ _ _ h1).trans (Below.heap_setCell _ _ _ _ (by simpa using h2))
            have hzz : ((w1.setCell ⟨w.heap.size + 2, 0, none⟩ (.slice (some ⟨g, 0, none⟩) (pre.length + 1) cap)).setCells g (pre.length * 5) [.int .i64 3, .string ⟨#[]⟩, .int .i64 0, .string ⟨#[]⟩, .slice A L cc]).heap.size = w1.heap.size := by
              have := (setCells_same g [.int .i64 3, .string ⟨#[]⟩, .int .i64 0, .string ⟨#[]⟩, .slice A L cc] (pre.length * 5) (w1.setCell ⟨w.heap.size + 2, 0, none⟩ (.slice (some ⟨g, 0, none⟩) (pre.length + 1) cap))).2.2.2
              rw [this]; simp [World.setCell]
            have hbx : Boxed ((w1.setCell ⟨w.heap.size + 2, 0, none⟩ (.slice (some ⟨g, 0, none⟩) (pre.length + 1) cap)).setCells g (pre.length * 5) [.int .i64 3, .string ⟨#[]⟩, .int .i64 0, .string ⟨#[]⟩, .slice A L cc]) (w.heap.size + 2) 32 _ := (setCells_far _ _ (w.heap.size + 2) (by omega)).trans hu6
            have hbl := below_cells (b := g) (by omega) [.int .i64 3, .string ⟨#[]⟩, .int .i64 0, .string ⟨#[]⟩, .slice A L cc] (pre.length * 5) _ (hb1'.setCell (p := ⟨w.heap.size + 2, 0, none⟩) (by simp; try omega) (.slice (some ⟨g, 0, none⟩) (pre.length + 1) cap))
            have hown5 : World.ownsRow ((w1.setCell ⟨w.heap.size + 2, 0, none⟩ (.slice (some ⟨g, 0, none⟩) (pre.length + 1) cap)).setCells g (pre.length * 5) [.int .i64 3, .string ⟨#[]⟩, .int .i64 0, .string ⟨#[]⟩, .slice A L cc]) w.heap.size 36 k36.sz (.slice (some ⟨g, 0, none⟩) ((pre.map partF).length + 1) cap) ((pre.map partF).length + 1) (inner ++ [.int .i64 3, .string ⟨#[]⟩, .int .i64 0, .string ⟨#[]⟩, .slice A L cc]) := by rw [List.length_map]; exact hw2
            have hRF := R_put2 (ok := fun k => w.heap.size + 8 ≤ k) (okp := fun k => W.heap.size + 5 ≤ k) h0 hrep hM3 (fun k hk => ⟨by omega, fun e => by have := hltW k e.symm; omega⟩) (fun k hk => by omega) hown5 (fun k hk hne hlt2 => by
                by_cases hkg : k = g
                · rcases hg3 with hq | hq
                  · exact absurd (by rw [hkg, hq]) hne
                  · omega
                · exact (hsm k hkg (by omega)).trans (hg1.block k hlt2 hne)) (hg3.elim (fun hq => .inl hq.symm) (fun hq => .inr ⟨g, rfl, hq⟩))
            have hfar : ∀ k, k < w.heap.size + 8 → k ≠ w.heap.size + 2 → (World.heap ((w1.setCell ⟨w.heap.size + 2, 0, none⟩ (.slice (some ⟨g, 0, none⟩) (pre.length + 1) cap)).setCells g (pre.length * 5) [.int .i64 3, .string ⟨#[]⟩, .int .i64 0, .string ⟨#[]⟩, .slice A L cc]))[k]? = X.heap[k]? := fun k h1 h2 => (hsm k (by omega) h2).trans ((hg1.block k (by omega) (fun e => by have := h0 k e.symm; omega)).trans (hb0.block k (by omega)))
            have hmain := RelO.put hW hJ hfar hbx (by rw [List.length_map] at hRF; rw [hpx]; exact hRF) hpo hbl
            exact hmain
        · go_simp
          refine hK.out _ _ hS4 (fun _ => ?_)
          clear hK
          refine wpAnyH_ready (rs := [0]) (by kernel_rfl) (by simp) ?_
          refine AllReadyH.cons rfl (fun K hK => ?_) AllReadyH.nil
          go_simp
          refine hK.out _ _ hS4 (fun _ => ?_)
          clear hK
          refine wpAnyH_take (i := 3) (v := .int .i64 ((pre.length : Nat) : Int)) rfl (by kernel_rfl) (by kernel_rfl) (by kernel_rfl) (fun _ _ _ h => h) (Or.inl ⟨by rfl, by intro Y hY; first | (go_simp; done) | (go_simp; intro hcc; omega)⟩) hS4 ?_
          simp only [Act.put, List.setIfInBounds_toArray, List.set_cons_zero, List.set_cons_succ]
          refine wpAnyH_ready (rs := [5]) (by kernel_rfl) (by simp) ?_
          refine AllReadyH.cons rfl (fun K hK => ?_) AllReadyH.nil
          refine step_append_cells w.heap.size (by rfl) (.tmp 42) (.tmp 46) 32 36 (.agg #[.int .i64 0, .string ⟨#[]⟩, .int .i64 0, .string ⟨#[]⟩, .slice none 0 0]) 5 72 rfl Tryd.underlying32 infoDep rfl (by decide) (by decide) _ _ inner [.int .i64 0, .string ⟨#[]⟩, .int .i64 0, .string ⟨#[]⟩, .slice none 0 0] rfl rfl rfl (by simp [Value.oneCell']) hown hbe (by omega) (by omega) ?_
          intro v1 w1 hown1 hb1' hg1 hat1
          have zz1 := hg1.size
          have hS5 := hkeep w1 (fun k hk => hg1.block k (hsb k hk).1 (hsb k hk).2.2)
          obtain ⟨g, cap, rfl, hgb, hgl, hth, hput⟩ := own_last (cs := [.int .i64 3, .string ⟨#[]⟩, .int .i64 0, .string ⟨#[]⟩, .slice A L cc]) hown1 hown.1 rfl rfl
          have hg3 : (Value.slice Ao pre.length co).ownBlock = some g ∨ X3.heap.size ≤ g := by
            rcases hat1 with hq | ⟨b, hq, hqb⟩
            · exact .inl hq.symm
            · have hq' : g = b := by simpa [Value.ownBlock] using hq
              exact .inr (by omega)
          have hgn := hgfar g hg3
          have hgk := hgsb g hg3
          simp only [Act.put, List.setIfInBounds_toArray, List.set_cons_zero, List.set_cons_succ]
          refine hK.out _ _ hS5 (fun _ => ?_)
          clear hK
          refine wpAnyH_take (i := 6) (v := .pointer (some ⟨g, pre.length * 5, none⟩)) rfl (by kernel_rfl) (by kernel_rfl) (by kernel_rfl) (fun _ _ _ h => h) (Or.inl ⟨by rfl, by intro Y hY; first | (go_simp; done) | (go_simp; intro hcc; omega)⟩) hS5 ?_
          simp only [Act.put, List.setIfInBounds_toArray, List.set_cons_zero, List.set_cons_succ]
          have hu5 : Boxed w1 (w.heap.size + 2) 32 _ := hu3.kept hg1 hneb
          have hthE : (w1.setCell ⟨w.heap.size + 2, 0, none⟩ (.slice (some ⟨g, 0, none⟩) (pre.length + 1) cap)).there g (pre.length * 5) 5 := fun j hj => by
            rw [World.cell?_setCell_far _ _ _ _ (by simp; omega), World.frozen?_setCell]
            exact hth j hj
          refine wpAnyH_ready (rs := [7, 8]) (by kernel_rfl) (by simp) ?_
          refine AllReadyH.cons rfl (fun K hK => ?_) (AllReadyH.cons rfl (fun K hK => ?_) AllReadyH.nil)
          · rw [if_pos (by rfl)]
            refine wp_store_mid 36 (.tmp 48) (.tmp 44) rfl g (pre.length * 5) #[.int .i64 3, .string ⟨#[]⟩, .int .i64 0, .string ⟨#[]⟩, .slice A L cc] rfl rfl hth (by kernel_rfl) (by simp [Value.oneCell']) ?_
            simp only [Act.put, List.setIfInBounds_toArray, List.set_cons_zero, List.set_cons_succ]
            have hu6 : Boxed (w1.setCells g (pre.length * 5) [.int .i64 3, .string ⟨#[]⟩, .int .i64 0, .string ⟨#[]⟩, .slice A L cc]) (w.heap.size + 2) 32 _ := (setCells_far _ _ (w.heap.size + 2) (by omega)).trans hu5
            have hS6 := hkeep (w1.setCells g (pre.length * 5) [.int .i64 3, .string ⟨#[]⟩, .int .i64 0, .string ⟨#[]⟩, .slice A L cc]) (fun k hk => (setCells_far _ _ k (hgk k hk)).trans (hg1.block k (hsb k hk).1 (hsb k hk).2.2))
            refine hK.out _ _ hS6 (fun _ => ?_)
            clear hK
            have c6 := hu6.cell
            have c6f := hu6.frozen
            refine wpAnyH_ready (rs := [8]) (by kernel_rfl) (by simp) ?_
            refine AllReadyH.cons rfl (fun K hK => ?_) AllReadyH.nil
            go_simp
            refine hK.out _ _ (hkeep _ (fun k hk => (Below.heap_setCell _ ⟨w.heap.size + 2, 0, none⟩ _ k (hsb k hk).2.1).trans ((setCells_far _ _ k (hgk k hk)).trans (hg1.block k (hsb k hk).1 (hsb k hk).2.2)))) (fun _ => ?_)
            refine wpAnyH_done (by kernel_rfl) (onlyOn ?_) _
            have hw2 := own_setCell (p := ⟨w.heap.size + 2, 0, none⟩) (hput w1 rfl) (by simp [Value.ownBlock]; omega) (.slice (some ⟨g, 0, none⟩) (pre.length + 1) cap)
            have hsm : ∀ k, k ≠ g → k ≠ w.heap.size + 2 → ((w1.setCells g (pre.length * 5) [.int .i64 3, .string ⟨#[]⟩, .int .i64 0, .string ⟨#[]⟩, .slice A L cc]).setCell ⟨w.heap.size + 2, 0, none⟩ (.slice (some ⟨g, 0, none⟩) (pre.length + 1) cap)).heap[k]? = w1.heap[k]? := fun k h1 h2 => (Below.heap_setCell _ _ _ _ (by simpa using h2)).trans (setCells_far _ _ _ h1)
            have hzz : ((w1.setCells g (pre.length * 5) [.int .i64 3, .string ⟨#[]⟩, .int .i64 0, .string ⟨#[]⟩, .slice A L cc]).setCell ⟨w.heap.size + 2, 0, none⟩ (.slice (some ⟨g, 0, none⟩) (pre.length + 1) cap)).heap.size = w1.heap.size := by
              have := (setCells_same g [.int .i64 3, .string ⟨#[]⟩, .int .i64 0, .string ⟨#[]⟩, .slice A L cc] (pre.length * 5) w1).2.2.2
              simpa [World.setCell] using this
            have hbx := hu6.set (.slice (some ⟨g, 0, none⟩) (pre.length + 1) cap)
            have hbl := (below_cells (b := g) (by omega) [.int .i64 3, .string ⟨#[]⟩, .int .i64 0, .string ⟨#[]⟩, .slice A L cc] (pre.length * 5) _ hb1').setCell (p := ⟨w.heap.size + 2, 0, none⟩) (by simp; try omega) (.slice (some ⟨g, 0, none⟩) (pre.length + 1) cap)
            have hown5 : World.ownsRow ((w1.setCells g (pre.length * 5) [.int .i64 3, .string ⟨#[]⟩, .int .i64 0, .string ⟨#[]⟩, .slice A L cc]).setCell ⟨w.heap.size + 2, 0, none⟩ (.slice (some ⟨g, 0, none⟩) (pre.length + 1) cap)) w.heap.size 36 k36.sz (.slice (some ⟨g, 0, none⟩) ((pre.map partF).length + 1) cap) ((pre.map partF).length + 1) (inner ++ [.int .i64 3, .string ⟨#[]⟩, .int .i64 0, .string ⟨#[]⟩, .slice A L cc]) := by rw [List.length_map]; exact hw2
            have hRF := R_put2 (ok := fun k => w.heap.size + 8 ≤ k) (okp := fun k => W.heap.size + 5 ≤ k) h0 hrep hM3 (fun k hk => ⟨by omega, fun e => by have := hltW k e.symm; omega⟩) (fun k hk => by omega) hown5 (fun k hk hne hlt2 => by
                by_cases hkg : k = g
                · rcases hg3 with hq | hq
                  · exact absurd (by rw [hkg, hq]) hne
                  · omega
                · exact (hsm k hkg (by omega)).trans (hg1.block k hlt2 hne)) (hg3.elim (fun hq => .inl hq.symm) (fun hq => .inr ⟨g, rfl, hq⟩))
            have hfar : ∀ k, k < w.heap.size + 8 → k ≠ w.heap.size + 2 → (World.heap ((w1.setCells g (pre.length * 5) [.int .i64 3, .string ⟨#[]⟩, .int .i64 0, .string ⟨#[]⟩, .slice A L cc]).setCell ⟨w.heap.size + 2, 0, none⟩ (.slice (some ⟨g, 0, none⟩) (pre.length + 1) cap)))[k]? = X.heap[k]? := fun k h1 h2 => (hsm k (by omega) h2).trans ((hg1.block k (by omega) (fun e => by have := h0 k e.symm; omega)).trans (hb0.block k (by omega)))
            have hmain := RelO.put hW hJ hfar hbx (by rw [List.length_map] at hRF; rw [hpx]; exact hRF) hpo hbl
            exact hmain
          · have c5 := hu5.cell
            have c5f := hu5.frozen
            go_simp
            have hu6 : Boxed (w1.setCell ⟨w.heap.size + 2, 0, none⟩ (.slice (some ⟨g, 0, none⟩) (pre.length + 1) cap)) (w.heap.size + 2) 32 _ := hu5.set (.slice (some ⟨g, 0, none⟩) (pre.length + 1) cap)
            refine hK.out _ _ (hkeep _ (fun k hk => (Below.heap_setCell _ ⟨w.heap.size + 2, 0, none⟩ _ k (hsb k hk).2.1).trans (hg1.block k (hsb k hk).1 (hsb k hk).2.2))) (fun _ => ?_)
            clear hK
            refine wpAnyH_ready (rs := [7]) (by kernel_rfl) (by simp) ?_
            refine AllReadyH.cons rfl (fun K hK => ?_) AllReadyH.nil
            rw [if_pos (by rfl)]
            refine wp_store_mid 36 (.tmp 48) (.tmp 44) rfl g (pre.length * 5) #[.int .i64 3, .string ⟨#[]⟩, .int .i64 0, .string ⟨#[]⟩, .slice A L cc] rfl rfl hthE (by kernel_rfl) (by simp [Value.oneCell']) ?_
            simp only [Act.put, List.setIfInBounds_toArray, List.set_cons_zero, List.set_cons_succ]
            refine hK.out _ _ (hkeep _ (fun k hk => (setCells_far _ _ k (hgk k hk)).trans ((Below.heap_setCell _ ⟨w.heap.size + 2, 0, none⟩ _ k (hsb k hk).2.1).trans (hg1.block k (hsb k hk).1 (hsb k hk).2.2)))) (fun _ => ?_)
            refine wpAnyH_done (by kernel_rfl) (onlyOn ?_) _
            have hw2 := hput (w1.setCell ⟨w.heap.size + 2, 0, none⟩ (.slice (some ⟨g, 0, none⟩) (pre.length + 1) cap)) (Below.heap_setCell _ ⟨w.heap.size + 2, 0, none⟩ _ _ (by simp; omega))
            have hsm : ∀ k, k ≠ g → k ≠ w.heap.size + 2 → ((w1.setCell ⟨w.heap.size + 2, 0, none⟩ (.slice (some ⟨g, 0, none⟩) (pre.length + 1) cap)).setCells g (pre.length * 5) [.int .i64 3, .string ⟨#[]⟩, .int .i64 0, .string ⟨#[]⟩, .slice A L cc]).heap[k]? = w1.heap[k]? := fun k h1 h2 => (setCells_far _ _ _ h1).trans (Below.heap_setCell _ _ _ _ (by simpa using h2))
            have hzz : ((w1.setCell ⟨w.heap.size + 2, 0, none⟩ (.slice (some ⟨g, 0, none⟩) (pre.length + 1) cap)).setCells g (pre.length * 5) [.int .i64 3, .string ⟨#[]⟩, .int .i64 0, .string ⟨#[]⟩, .slice A L cc]).heap.size = w1.heap.size := by
              have := (setCells_same g [.int .i64 3, .string ⟨#[]⟩, .int .i64 0, .string ⟨#[]⟩, .slice A L cc] (pre.length * 5) (w1.setCell ⟨w.heap.size + 2, 0, none⟩ (.slice (some ⟨g, 0, none⟩) (pre.length + 1) cap))).2.2.2
              rw [this]; simp [World.setCell]
            have hbx : Boxed ((w1.setCell ⟨w.heap.size + 2, 0, none⟩ (.slice (some ⟨g, 0, none⟩) (pre.length + 1) cap)).setCells g (pre.length * 5) [.int .i64 3, .string ⟨#[]⟩, .int .i64 0, .string ⟨#[]⟩, .slice A L cc]) (w.heap.size + 2) 32 _ := (setCells_far _ _ (w.heap.size + 2) (by omega)).trans hu6
            have hbl := below_cells (b := g) (by omega) [.int .i64 3, .string ⟨#[]⟩, .int .i64 0, .string ⟨#[]⟩, .slice A L cc] (pre.length * 5) _ (hb1'.setCell (p := ⟨w.heap.size + 2, 0, none⟩) (by simp; try omega) (.slice (some ⟨g, 0, none⟩) (pre.length + 1) cap))
            have hown5 : World.ownsRow ((w1.setCell ⟨w.heap.size + 2, 0, none⟩ (.slice (some ⟨g, 0, none⟩) (pre.length + 1) cap)).setCells g (pre.length * 5) [.int .i64 3, .string ⟨#[]⟩, .int .i64 0, .string ⟨#[]⟩, .slice A L cc]) w.heap.size 36 k36.sz (.slice (some ⟨g, 0, none⟩) ((pre.map partF).length + 1) cap) ((pre.map partF).length + 1) (inner ++ [.int .i64 3, .string ⟨#[]⟩, .int .i64 0, .string ⟨#[]⟩, .slice A L cc]) := by rw [List.length_map]; exact hw2
            have hRF := R_put2 (ok := fun k => w.heap.size + 8 ≤ k) (okp := fun k => W.heap.size + 5 ≤ k) h0 hrep hM3 (fun k hk => ⟨by omega, fun e => by have := hltW k e.symm; omega⟩) (fun k hk => by omega) hown5 (fun k hk hne hlt2 => by
                by_cases hkg : k = g
                · rcases hg3 with hq | hq
                  · exact absurd (by rw [hkg, hq]) hne
                  · omega
                · exact (hsm k hkg (by omega)).trans (hg1.block k hlt2 hne)) (hg3.elim (fun hq => .inl hq.symm) (fun hq => .inr ⟨g, rfl, hq⟩))
            have hfar : ∀ k, k < w.heap.size + 8 → k ≠ w.heap.size + 2 → (World.heap ((w1.setCell ⟨w.heap.size + 2, 0, none⟩ (.slice (some ⟨g, 0, none⟩) (pre.length + 1) cap)).setCells g (pre.length * 5) [.int .i64 3, .string ⟨#[]⟩, .int .i64 0, .string ⟨#[]⟩, .slice A L cc]))[k]? = X.heap[k]? := fun k h1 h2 => (hsm k (by omega) h2).trans ((hg1.block k (by omega) (fun e => by have := h0 k e.symm; omega)).trans (hb0.block k (by omega)))
            have hmain := RelO.put hW hJ hfar hbx (by rw [List.length_map] at hRF; rw [hpx]; exact hRF) hpo hbl
            exact hmain
    case body2 =>
      rintro pre2 y rest2 X hy ⟨r2, hr2⟩ hJ
      have hys : y.size ≤ x.size := splitB_size 124 x y (by rw [hy]; simp)
      have hTX := Lib.hid (HT.out.below hJ.o.below)
      rcases hpc : pieceF y with ⟨d, b⟩
      have hd4 : d.f4 = [] := by have := pieceF_none y; rw [hpc] at this; exact this
      have HP := Lib.hid (piece_calls y (by omega) X hTX.out)
      rw [hpc] at HP
      unfold depV at HP
      have n0 := hJ.o.r0.cell
      have n0f := hJ.o.r0.frozen
      have n1 := hJ.o.r1.cell
      have n1f := hJ.o.r1.frozen
      have hXs := hJ.size
      cases b with
      | false =>
        gi_wp2_with (refine ⟨trivial, rfl, ?_⟩; gi_at_call 47; refine (CallsIn.inRound _ (callsIn_wide.2 HP.out)).mono ?_; rintro e X1 ⟨rfl, hb1⟩; have m0 := cell_after hb1 n0; have m0f := ((bcell hb1).2 w.heap.size 0 (by omega)).trans n0f; have m1 := cell_after hb1 n1; have m1f := ((bcell hb1).2 (w.heap.size + 1) 0 (by omega)).trans n1f; have z1 : w.heap.size < X1.heap.size := (by have := hb1.size; omega); have z2 : w.heap.size + 1 < X1.heap.size := (by have := hb1.size; omega); have HB1 := Lib.hid hb1; clear hb1)
        have HBW := below_then hJ.o.below hJ.o.below.size HB1.out
        refine ⟨two_far HB1.out _ _ _ _ (lt_of_block hr2) (by omega) (by omega), two_far HB1.out _ _ _ _ (lt_of_block hr2) (by omega) (by omega), rfl, ⟨relOk_no h (x := x) (y := y) (by rw [hx]; simp) (by rw [hy]; simp) (by rw [hpc]), ?_, ?_, ?_⟩, (two_far HB1.out _ _ _ _ (by omega) (by omega) (by omega)).trans hJ.D, (two_far HB1.out _ _ _ _ (by omega) (by omega) (by omega)).trans hJ.l, ?_⟩
        · exact (((show Boxed X1 w.heap.size 32 (.slice none 0 0) from blk_after HB1.out hJ.o.r0).set _).other (by omega) _).alloc _
        · exact (((show Boxed X1 (w.heap.size + 1) 4 (.bool false) from blk_after HB1.out hJ.o.r1).other (by omega) _).set _).alloc _
        · repeat (first | (with_reducible exact HBW) | (with_reducible apply below_alloc) | ((with_reducible refine below_set ?_ ?_); rotate_left; first | exact Nat.le_refl _ | omega))
        · have := HB1.out.size
          simp [World.setCell]; omega
      | true =>
        obtain ⟨u, hu, hR⟩ := hJ.alt
        obtain ⟨A, cc, rfl⟩ := Kd.R_slice hR
        simp only [List.length_map] at hu hR
        have hlen : pre2.length < (splitB 124 x).length := by rw [hy]; simp
        have hlen2 := splitB_len 124 x
        gi_wp2_with (refine ⟨trivial, rfl, ?_⟩; gi_at_call 47; refine (CallsIn.inRound _ (callsIn_wide.2 HP.out)).mono ?_; rintro e X1 ⟨rfl, hb1⟩; have HB1 := Lib.hid hb1; clear hb1)
        have z0 : X.heap.size ≤ X1.heap.size := HB1.out.size
        have hX5 : W.heap.size + 5 ≤ X.heap.size := by have := lt_of_block hr2; omega
        have e5 : (pre2.map (fun t => (pieceF t).1)).length = pre2.length := by simp
        have hb2 : Below X.heap.size X (X1.alloc (.cells #[.int .i64 d.f0, .string d.f1, .int .i64 d.f2, .string d.f3, .slice none 0 0] 36)) := HB1.out.alloc z0 _
        have hd2 := heap_alloc_new X1 (.cells #[.int .i64 d.f0, .string d.f1, .int .i64 d.f2, .string d.f3, .slice none 0 0] 36)
        have hz2 := World.size_alloc X1 (.cells #[.int .i64 d.f0, .string d.f1, .int .i64 d.f2, .string d.f3, .slice none 0 0] 36)
        generalize X1.alloc (.cells #[.int .i64 d.f0, .string d.f1, .int .i64 d.f2, .string d.f3, .slice none 0 0] 36) = X2 at *
        have hbe0 := below_then hJ.o.below hJ.o.below.size hb2
        have hu00 := blk_after hb2 hu
        have hu0 : Boxed X2.drew W.heap.size 32 (.slice A pre2.length cc) := hu00
        clear hu00
        have hd0 : X2.drew.heap[X1.heap.size]? = some (.cells #[.int .i64 d.f0, .string d.f1, .int .i64 d.f2, .string d.f3, .slice none 0 0] 36 (0, 0)) := hd2
        have hz0 : X1.heap.size < X2.drew.heap.size := (show X1.heap.size < X2.heap.size by omega)
        have hb0 : Below X.heap.size X X2.drew := ⟨hb2.os, hb2.tape, hb2.output, hb2.size, hb2.block⟩
        have hbe1 : Below w.heap.size w X2.drew := ⟨hbe0.os, hbe0.tape, hbe0.output, hbe0.size, hbe0.block⟩
        refine wpIn_region_held (fun Y => Y.heap[X1.heap.size]? = some (.cells #[.int .i64 d.f0, .string d.f1, .int .i64 d.f2, .string d.f3, .slice none 0 0] 36 (0, 0))) (by kernel_rfl) (by kernel_rfl) ?_
        clear hb2 hd2 hz2 hbe0
        generalize X2.drew = X3 at *
        have hu3 : Boxed X3 W.heap.size 32 (.slice A pre2.length cc) := hu0
        have hS3 := hd0
        have hbe := hbe1
        have hR3 := Kd.R_below hR hb0
        have zb : W.heap.size < X3.heap.size := hu3.lt
        obtain ⟨h0, inner, hown, hrep⟩ := hR3
        simp only [List.length_map] at hown
        have hlt := own_lt hown
        have hltX : ∀ k, (Value.slice A pre2.length cc).ownBlock = some k → k < X.heap.size := fun k hk => by
          obtain ⟨i2, h2⟩ := Kd.R_own hR
          exact own_lt h2 k hk
        have hkeep : ∀ Y : World, (∀ k, k = X1.heap.size → Y.heap[k]? = X3.heap[k]?) → Y.heap[X1.heap.size]? = some (.cells #[.int .i64 d.f0, .string d.f1, .int .i64 d.f2, .string d.f3, .slice none 0 0] 36 (0, 0)) := fun Y hY => (hY _ rfl).trans hS3
        have hsb : ∀ k, k = X1.heap.size → k < X3.heap.size ∧ k ≠ W.heap.size ∧ some k ≠ (Value.slice A pre2.length cc).ownBlock := fun k hk => ⟨by omega, by omega, fun e => by have := hltX _ e.symm; omega⟩
        have hgsb : ∀ g, ((Value.slice A pre2.length cc).ownBlock = some g ∨ X3.heap.size ≤ g) → ∀ k, k = X1.heap.size → k ≠ g := fun g hg k hk => by
          rcases hg with hg | hg
          · have := hltX g hg; omega
          · omega
        have hneb : some W.heap.size ≠ (Value.slice A pre2.length cc).ownBlock := fun e => by have := h0 _ e.symm; omega
        have hgfar : ∀ g, ((Value.slice A pre2.length cc).ownBlock = some g ∨ X3.heap.size ≤ g) → W.heap.size + 5 ≤ g ∧ g ≠ X1.heap.size := fun g hg => by
          rcases hg with hg | hg
          · have q1 := h0 g hg
            have q2 := hltX g hg
            exact ⟨q1, by omega⟩
          · have := lt_of_block hr2
            exact ⟨by omega, by omega⟩
        refine wpAnyH_take (i := 1) (v := .agg #[.int .i64 d.f0, .string d.f1, .int .i64 d.f2, .string d.f3, .slice none 0 0]) rfl (by kernel_rfl) (by kernel_rfl) (by kernel_rfl) (fun _ _ _ h => h) (Or.inl ⟨by rfl, ?_⟩) hS3 ?_
        · intro Y hY
          have y0 := blk_cell hY 0
          have y1 := blk_cell hY 1
          have y2 := blk_cell hY 2
          have y3 := blk_cell hY 3
          have y4 := blk_cell hY 4
          go_simp
        simp only [Act.put, List.setIfInBounds_toArray, List.set_cons_zero, List.set_cons_succ]
        have z1 : (0 : Int) ≤ ((pre2.length : Nat) : Int) := Int.natCast_nonneg _
        have z2 : ((pre2.length : Nat) : Int) ≤ (((pre2.length) + 1 : Nat) : Int) := by omega
        have z3 : ((pre2.length : Nat) : Int) < (((pre2.length) + 1 : Nat) : Int) := by omega
        have c3 := hu3.cell
        have hS4 := hkeep (X3.alloc (.cells #[.int .i64 0, .string ⟨#[]⟩, .int .i64 0, .string ⟨#[]⟩, .slice none 0 0] 36)) (fun k hk => Below.heap_alloc _ _ _ (hsb k hk).1)
        refine wpAnyH_ready (rs := [0, 3]) (by kernel_rfl) (by simp) ?_
        refine AllReadyH.cons rfl (fun K hK => ?_) (AllReadyH.cons rfl (fun K hK => ?_) AllReadyH.nil)
        · go_simp
          refine hK.out _ _ hS3 (fun _ => ?_)
          clear hK
          refine wpAnyH_take (i := 2) (v := .int .i64 ((pre2.length : Nat) : Int)) rfl (by kernel_rfl) (by kernel_rfl) (by kernel_rfl) (fun _ _ _ h => h) (Or.inl ⟨by rfl, by intro Y hY; first | (go_simp; done) | (go_simp; intro hcc; omega)⟩) hS3 ?_
          simp only [Act.put, List.setIfInBounds_toArray, List.set_cons_zero, List.set_cons_succ]
          refine wpAnyH_ready (rs := [3]) (by kernel_rfl) (by simp) ?_
          refine AllReadyH.cons rfl (fun K hK => ?_) AllReadyH.nil
          go_simp
          refine hK.out _ _ hS4 (fun _ => ?_)
          clear hK
          refine wpAnyH_ready (rs := [4]) (by kernel_rfl) (by simp) ?_
          refine AllReadyH.cons rfl (fun K hK => ?_) AllReadyH.nil
          refine step_append_cells w.heap.size (by rfl) (.tmp 25) (.tmp 28) 32 36 (.agg #[.int .i64 0, .string ⟨#[]⟩, .int .i64 0, .string ⟨#[]⟩, .slice none 0 0]) 5 72 rfl Tryd.underlying32 infoDep rfl (by decide) (by decide) _ _ inner [.int .i64 0, .string ⟨#[]⟩, .int .i64 0, .string ⟨#[]⟩, .slice none 0 0] rfl rfl rfl (by simp [Value.oneCell']) hown hbe (by omega) (by omega) ?_
          intro v1 w1 hown1 hb1' hg1 hat1
          have zz1 := hg1.size
          have hS5 := hkeep w1 (fun k hk => hg1.block k (hsb k hk).1 (hsb k hk).2.2)
          obtain ⟨g, cap, rfl, hgb, hgl, hth, hput⟩ := own_last (cs := [.int .i64 d.f0, .string d.f1, .int .i64 d.f2, .string d.f3, .slice none 0 0]) hown1 hown.1 rfl rfl
          have hg3 : (Value.slice A pre2.length cc).ownBlock = some g ∨ X3.heap.size ≤ g := by
            rcases hat1 with hq | ⟨b, hq, hqb⟩
            · exact .inl hq.symm
            · have hq' : g = b := by simpa [Value.ownBlock] using hq
              exact .inr (by omega)
          have hgn := hgfar g hg3
          have hgk := hgsb g hg3
          simp only [Act.put, List.setIfInBounds_toArray, List.set_cons_zero, List.set_cons_succ]
          refine hK.out _ _ hS5 (fun _ => ?_)
          clear hK
          refine wpAnyH_take (i := 5) (v := .pointer (some ⟨g, pre2.length * 5, none⟩)) rfl (by kernel_rfl) (by kernel_rfl) (by kernel_rfl) (fun _ _ _ h => h) (Or.inl ⟨by rfl, by intro Y hY; first | (go_simp; done) | (go_simp; intro hcc; omega)⟩) hS5 ?_
          simp only [Act.put, List.setIfInBounds_toArray, List.set_cons_zero, List.set_cons_succ]
          have hu5 : Boxed w1 (W.heap.size) 32 _ := hu3.kept hg1 hneb
          have hthE : (w1.setCell ⟨W.heap.size, 0, none⟩ (.slice (some ⟨g, 0, none⟩) (pre2.length + 1) cap)).there g (pre2.length * 5) 5 := fun j hj => by
            rw [World.cell?_setCell_far _ _ _ _ (by simp; omega), World.frozen?_setCell]
            exact hth j hj
          refine wpAnyH_ready (rs := [6, 7]) (by kernel_rfl) (by simp) ?_
          refine AllReadyH.cons rfl (fun K hK => ?_) (AllReadyH.cons rfl (fun K hK => ?_) AllReadyH.nil)
          · rw [if_pos (by rfl)]
            refine wp_store_mid 36 (.tmp 30) (.tmp 26) rfl g (pre2.length * 5) #[.int .i64 d.f0, .string d.f1, .int .i64 d.f2, .string d.f3, .slice none 0 0] rfl rfl hth (by kernel_rfl) (by simp [Value.oneCell']) ?_
            simp only [Act.put, List.setIfInBounds_toArray, List.set_cons_zero, List.set_cons_succ]
            have hu6 : Boxed (w1.setCells g (pre2.length * 5) [.int .i64 d.f0, .string d.f1, .int .i64 d.f2, .string d.f3, .slice none 0 0]) (W.heap.size) 32 _ := (setCells_far _ _ (W.heap.size) (by omega)).trans hu5
            have hS6 := hkeep (w1.setCells g (pre2.length * 5) [.int .i64 d.f0, .string d.f1, .int .i64 d.f2, .string d.f3, .slice none 0 0]) (fun k hk => (setCells_far _ _ k (hgk k hk)).trans (hg1.block k (hsb k hk).1 (hsb k hk).2.2))
            refine hK.out _ _ hS6 (fun _ => ?_)
            clear hK
            have c6 := hu6.cell
            have c6f := hu6.frozen
            refine wpAnyH_ready (rs := [7]) (by kernel_rfl) (by simp) ?_
            refine AllReadyH.cons rfl (fun K hK => ?_) AllReadyH.nil
            go_simp
            refine hK.out _ _ (hkeep _ (fun k hk => (Below.heap_setCell _ ⟨W.heap.size, 0, none⟩ _ k (hsb k hk).2.1).trans ((setCells_far _ _ k (hgk k hk)).trans (hg1.block k (hsb k hk).1 (hsb k hk).2.2)))) (fun _ => ?_)
            refine wpAnyH_done (by kernel_rfl) (onlyOn ?_) _
            have hw2 := own_setCell (p := ⟨W.heap.size, 0, none⟩) (hput w1 rfl) (by simp [Value.ownBlock]; omega) (.slice (some ⟨g, 0, none⟩) (pre2.length + 1) cap)
            have hsm : ∀ k, k ≠ g → k ≠ W.heap.size → ((w1.setCells g (pre2.length * 5) [.int .i64 d.f0, .string d.f1, .int .i64 d.f2, .string d.f3, .slice none 0 0]).setCell ⟨W.heap.size, 0, none⟩ (.slice (some ⟨g, 0, none⟩) (pre2.length + 1) cap)).heap[k]? = w1.heap[k]? := fun k h1 h2 => (Below.heap_setCell _ _ _ _ (by simpa using h2)).trans (setCells_far _ _ _ h1)
            have hzz : ((w1.setCells g (pre2.length * 5) [.int .i64 d.f0, .string d.f1, .int .i64 d.f2, .string d.f3, .slice none 0 0]).setCell ⟨W.heap.size, 0, none⟩ (.slice (some ⟨g, 0, none⟩) (pre2.length + 1) cap)).heap.size = w1.heap.size := by
              have := (setCells_same g [.int .i64 d.f0, .string d.f1, .int .i64 d.f2, .string d.f3, .slice none 0 0] (pre2.length * 5) w1).2.2.2
              simpa [World.setCell] using this
            have hbx := hu6.set (.slice (some ⟨g, 0, none⟩) (pre2.length + 1) cap)
            have hbl := (below_cells (b := g) (by omega) [.int .i64 d.f0, .string d.f1, .int .i64 d.f2, .string d.f3, .slice none 0 0] (pre2.length * 5) _ hb1').setCell (p := ⟨W.heap.size, 0, none⟩) (by simp; try omega) (.slice (some ⟨g, 0, none⟩) (pre2.length + 1) cap)
            have hown5 : World.ownsRow ((w1.setCells g (pre2.length * 5) [.int .i64 d.f0, .string d.f1, .int .i64 d.f2, .string d.f3, .slice none 0 0]).setCell ⟨W.heap.size, 0, none⟩ (.slice (some ⟨g, 0, none⟩) (pre2.length + 1) cap)) w.heap.size 36 k36.sz (.slice (some ⟨g, 0, none⟩) ((pre2.map (fun t => (pieceF t).1)).length + 1) cap) ((pre2.map (fun t => (pieceF t).1)).length + 1) (inner ++ [.int .i64 d.f0, .string d.f1, .int .i64 d.f2, .string d.f3, .slice none 0 0]) := by rw [e5]; exact hw2
            have hRF := R_put2 (ok := fun k => W.heap.size + 5 ≤ k) (okp := fun _ => False) h0 hrep (k36_mkM X3 w.heap.size (fun _ => False) d (by rw [hd4]; exact Kd.R_nil _ _ _ _ _)) (fun _ h => h.elim) (fun k hk => by omega) hown5 (fun k hk hne hlt2 => by
                by_cases hkg : k = g
                · rcases hg3 with hq | hq
                  · exact absurd (by rw [hkg, hq]) hne
                  · omega
                · exact (hsm k hkg (by omega)).trans (hg1.block k hlt2 hne)) (hg3.elim (fun hq => .inl hq.symm) (fun hq => .inr ⟨g, rfl, hq⟩))
            have hfar : ∀ k, k < W.heap.size + 5 → k ≠ W.heap.size → (World.heap ((w1.setCells g (pre2.length * 5) [.int .i64 d.f0, .string d.f1, .int .i64 d.f2, .string d.f3, .slice none 0 0]).setCell ⟨W.heap.size, 0, none⟩ (.slice (some ⟨g, 0, none⟩) (pre2.length + 1) cap)))[k]? = X.heap[k]? := fun k h1 h2 => (hsm k (by omega) h2).trans ((hg1.block k (by omega) (fun e => by have := h0 k e.symm; omega)).trans (hb0.block k (by omega)))
            have hmain := RelI.put hW hJ hfar (by have := hb0.size; omega) hbx (by rw [e5] at hRF; rw [hpc]; exact hRF) (by rw [hpc]) hbl
            exact ⟨by rw [hz3]; exact hfar _ (by omega) (by omega), by rw [hz3]; exact hfar _ (by omega) (by omega), fun k k0 k1 => hfar k (by omega) (by omega), hmain⟩
          · have c5 := hu5.cell
            have c5f := hu5.frozen
            go_simp
            have hu6 : Boxed (w1.setCell ⟨W.heap.size, 0, none⟩ (.slice (some ⟨g, 0, none⟩) (pre2.length + 1) cap)) (W.heap.size) 32 _ := hu5.set (.slice (some ⟨g, 0, none⟩) (pre2.length + 1) cap)
            refine hK.out _ _ (hkeep _ (fun k hk => (Below.heap_setCell _ ⟨W.heap.size, 0, none⟩ _ k (hsb k hk).2.1).trans (hg1.block k (hsb k hk).1 (hsb k hk).2.2))) (fun _ => ?_)
            clear hK
            refine wpAnyH_ready (rs := [6]) (by kernel_rfl) (by simp) ?_
            refine AllReadyH.cons rfl (fun K hK => ?_) AllReadyH.nil
            rw [if_pos (by rfl)]
            refine wp_store_mid 36 (.tmp 30) (.tmp 26) rfl g (pre2.length * 5) #[.int .i64 d.f0, .string d.f1, .int .i64 d.f2, .string d.f3, .slice none 0 0] rfl rfl hthE (by kernel_rfl) (by simp [Value.oneCell']) ?_
            simp only [Act.put, List.setIfInBounds_toArray, List.set_cons_zero, List.set_cons_succ]
            refine hK.out _ _ (hkeep _ (fun k hk => (setCells_far _ _ k (hgk k hk)).trans ((Below.heap_setCell _ ⟨W.heap.size, 0, none⟩ _ k (hsb k hk).2.1).trans (hg1.block k (hsb k hk).1 (hsb k hk).2.2)))) (fun _ => ?_)
            refine wpAnyH_done (by kernel_rfl) (onlyOn ?_) _
            have hw2 := hput (w1.setCell ⟨W.heap.size, 0, none⟩ (.slice (some ⟨g, 0, none⟩) (pre2.length + 1) cap)) (Below.heap_setCell _ ⟨W.heap.size, 0, none⟩ _ _ (by simp; omega))
            have hsm : ∀ k, k ≠ g → k ≠ W.heap.size → ((w1.setCell ⟨W.heap.size, 0, none⟩ (.slice (some ⟨g, 0, none⟩) (pre2.length + 1) cap)).setCells g (pre2.length * 5) [.int .i64 d.f0, .string d.f1, .int .i64 d.f2, .string d.f3, .slice none 0 0]).heap[k]? = w1.heap[k]? := fun k h1 h2 => (setCells_far _ _ _ h1).trans (Below.heap_setCell _ _ _ _ (by simpa using h2))
            have hzz : ((w1.setCell ⟨W.heap.size, 0, none⟩ (.slice (some ⟨g, 0, none⟩) (pre2.length + 1) cap)).setCells g (pre2.length * 5) [.int .i64 d.f0, .string d.f1, .int .i64 d.f2, .string d.f3, .slice none 0 0]).heap.size = w1.heap.size := by
              have := (setCells_same g [.int .i64 d.f0, .string d.f1, .int .i64 d.f2, .string d.f3, .slice none 0 0] (pre2.length * 5) (w1.setCell ⟨W.heap.size, 0, none⟩ (.slice (some ⟨g, 0, none⟩) (pre2.length + 1) cap))).2.2.2
              rw [this]; simp [World.setCell]
            have hbx : Boxed ((w1.setCell ⟨W.heap.size, 0, none⟩ (.slice (some ⟨g, 0, none⟩) (pre2.length + 1) cap)).setCells g (pre2.length * 5) [.int .i64 d.f0, .string d.f1, .int .i64 d.f2, .string d.f3, .slice none 0 0]) (W.heap.size) 32 _ := (setCells_far _ _ (W.heap.size) (by omega)).trans hu6
            have hbl := below_cells (b := g) (by omega) [.int .i64 d.f0, .string d.f1, .int .i64 d.f2, .string d.f3, .slice none 0 0] (pre2.length * 5) _ (hb1'.setCell (p := ⟨W.heap.size, 0, none⟩) (by simp; try omega) (.slice (some ⟨g, 0, none⟩) (pre2.length + 1) cap))
            have hown5 : World.ownsRow ((w1.setCell ⟨W.heap.size, 0, none⟩ (.slice (some ⟨g, 0, none⟩) (pre2.length + 1) cap)).setCells g (pre2.length * 5) [.int .i64 d.f0, .string d.f1, .int .i64 d.f2, .string d.f3, .slice none 0 0]) w.heap.size 36 k36.sz (.slice (some ⟨g, 0, none⟩) ((pre2.map (fun t => (pieceF t).1)).length + 1) cap) ((pre2.map (fun t => (pieceF t).1)).length + 1) (inner ++ [.int .i64 d.f0, .string d.f1, .int .i64 d.f2, .string d.f3, .slice none 0 0]) := by rw [e5]; exact hw2
            have hRF := R_put2 (ok := fun k => W.heap.size + 5 ≤ k) (okp := fun _ => False) h0 hrep (k36_mkM X3 w.heap.size (fun _ => False) d (by rw [hd4]; exact Kd.R_nil _ _ _ _ _)) (fun _ h => h.elim) (fun k hk => by omega) hown5 (fun k hk hne hlt2 => by
                by_cases hkg : k = g
                · rcases hg3 with hq | hq
                  · exact absurd (by rw [hkg, hq]) hne
                  · omega
                · exact (hsm k hkg (by omega)).trans (hg1.block k hlt2 hne)) (hg3.elim (fun hq => .inl hq.symm) (fun hq => .inr ⟨g, rfl, hq⟩))
            have hfar : ∀ k, k < W.heap.size + 5 → k ≠ W.heap.size → (World.heap ((w1.setCell ⟨W.heap.size, 0, none⟩ (.slice (some ⟨g, 0, none⟩) (pre2.length + 1) cap)).setCells g (pre2.length * 5) [.int .i64 d.f0, .string d.f1, .int .i64 d.f2, .string d.f3, .slice none 0 0]))[k]? = X.heap[k]? := fun k h1 h2 => (hsm k (by omega) h2).trans ((hg1.block k (by omega) (fun e => by have := h0 k e.symm; omega)).trans (hb0.block k (by omega)))
            have hmain := RelI.put hW hJ hfar (by have := hb0.size; omega) hbx (by rw [e5] at hRF; rw [hpc]; exact hRF) (by rw [hpc]) hbl
            exact ⟨by rw [hz3]; exact hfar _ (by omega) (by omega), by rw [hz3]; exact hfar _ (by omega) (by omega), fun k k0 k1 => hfar k (by omega) (by omega), hmain⟩
        · go_simp
          refine hK.out _ _ hS4 (fun _ => ?_)
          clear hK
          refine wpAnyH_ready (rs := [0]) (by kernel_rfl) (by simp) ?_
          refine AllReadyH.cons rfl (fun K hK => ?_) AllReadyH.nil
          go_simp
          refine hK.out _ _ hS4 (fun _ => ?_)
          clear hK
          refine wpAnyH_take (i := 2) (v := .int .i64 ((pre2.length : Nat) : Int)) rfl (by kernel_rfl) (by kernel_rfl) (by kernel_rfl) (fun _ _ _ h => h) (Or.inl ⟨by rfl, by intro Y hY; first | (go_simp; done) | (go_simp; intro hcc; omega)⟩) hS4 ?_
          simp only [Act.put, List.setIfInBounds_toArray, List.set_cons_zero, List.set_cons_succ]
          refine wpAnyH_ready (rs := [4]) (by kernel_rfl) (by simp) ?_
          refine AllReadyH.cons rfl (fun K hK => ?_) AllReadyH.nil
          refine step_append_cells w.heap.size (by rfl) (.tmp 25) (.tmp 28) 32 36 (.agg #[.int .i64 0, .string ⟨#[]⟩, .int .i64 0, .string ⟨#[]⟩, .slice none 0 0]) 5 72 rfl Tryd.underlying32 infoDep rfl (by decide) (by decide) _ _ inner [.int .i64 0, .string ⟨#[]⟩, .int .i64 0, .string ⟨#[]⟩, .slice none 0 0] rfl rfl rfl (by simp [Value.oneCell']) hown hbe (by omega) (by omega) ?_
          intro v1 w1 hown1 hb1' hg1 hat1
          have zz1 := hg1.size
          have hS5 := hkeep w1 (fun k hk => hg1.block k (hsb k hk).1 (hsb k hk).2.2)
          obtain ⟨g, cap, rfl, hgb, hgl, hth, hput⟩ := own_last (cs := [.int .i64 d.f0, .string d.f1, .int .i64 d.f2, .string d.f3, .slice none 0 0]) hown1 hown.1 rfl rfl
          have hg3 : (Value.slice A pre2.length cc).ownBlock = some g ∨ X3.heap.size ≤ g := by
            rcases hat1 with hq | ⟨b, hq, hqb⟩
            · exact .inl hq.symm
            · have hq' : g = b := by simpa [Value.ownBlock] using hq
              exact .inr (by omega)
          have hgn := hgfar g hg3
          have hgk := hgsb g hg3
          simp only [Act.put, List.setIfInBounds_toArray, List.set_cons_zero, List.set_cons_succ]
          refine hK.out _ _ hS5 (fun _ => ?_)
          clear hK
          refine wpAnyH_take (i := 5) (v := .pointer (some ⟨g, pre2.length * 5, none⟩)) rfl (by kernel_rfl) (by kernel_rfl) (by kernel_rfl) (fun _ _ _ h => h) (Or.inl ⟨by rfl, by intro Y hY; first | (go_simp; done) | (go_simp; intro hcc; omega)⟩) hS5 ?_
          simp only [Act.put, List.setIfInBounds_toArray, List.set_cons_zero, List.set_cons_succ]
          have hu5 : Boxed w1 (W.heap.size) 32 _ := hu3.kept hg1 hneb
          have hthE : (w1.setCell ⟨W.heap.size, 0, none⟩ (.slice (some ⟨g, 0, none⟩) (pre2.length + 1) cap)).there g (pre2.length * 5) 5 := fun j hj => by
            rw [World.cell?_setCell_far _ _ _ _ (by simp; omega), World.frozen?_setCell]
            exact hth j hj
          refine wpAnyH_ready (rs := [6, 7]) (by kernel_rfl) (by simp) ?_
          refine AllReadyH.cons rfl (fun K hK => ?_) (AllReadyH.cons rfl (fun K hK => ?_) AllReadyH.nil)
          · rw [if_pos (by rfl)]
            refine wp_store_mid 36 (.tmp 30) (.tmp 26) rfl g (pre2.length * 5) #[.int .i64 d.f0, .string d.f1, .int .i64 d.f2, .string d.f3, .slice none 0 0] rfl rfl hth (by kernel_rfl) (by simp [Value.oneCell']) ?_
            simp only [Act.put, List.setIfInBounds_toArray, List.set_cons_zero, List.set_cons_succ]
            have hu6 : Boxed (w1.setCells g (pre2.length * 5) [.int .i64 d.f0, .string d.f1, .int .i64 d.f2, .string d.f3, .slice none 0 0]) (W.heap.size) 32 _ := (setCells_far _ _ (W.heap.size) (by omega)).trans hu5
            have hS6 := hkeep (w1.setCells g (pre2.length * 5) [.int .i64 d.f0, .string d.f1, .int .i64 d.f2, .string d.f3, .slice none 0 0]) (fun k hk => (setCells_far _ _ k (hgk k hk)).trans (hg1.block k (hsb k hk).1 (hsb k hk).2.2))
            refine hK.out _ _ hS6 (fun _ => ?_)
            clear hK
            have c6 := hu6.cell
            have c6f := hu6.frozen
            refine wpAnyH_ready (rs := [7]) (by kernel_rfl) (by simp) ?_
            refine AllReadyH.cons rfl (fun K hK => ?_) AllReadyH.nil
            go_simp
            refine hK.out _ _ (hkeep _ (fun k hk => (Below.heap_setCell _ ⟨W.heap.size, 0, none⟩ _ k (hsb k hk).2.1).trans ((setCells_far _ _ k (hgk k hk)).trans (hg1.block k (hsb k hk).1 (hsb k hk).2.2)))) (fun _ => ?_)
            refine wpAnyH_done (by kernel_rfl) (onlyOn ?_) _
            have hw2 := own_setCell (p := ⟨W.heap.size, 0, none⟩) (hput w1 rfl) (by simp [Value.ownBlock]; omega) (.slice (some ⟨g, 0, none⟩) (pre2.length + 1) cap)
            have hsm : ∀ k, k ≠ g → k ≠ W.heap.size → ((w1.setCells g (pre2.length * 5) [.int .i64 d.f0, .string d.f1, .int .i64 d.f2, .string d.f3, .slice none 0 0]).setCell ⟨W.heap.size, 0, none⟩ (.slice (some ⟨g, 0, none⟩) (pre2.length + 1) cap)).heap[k]? = w1.heap[k]? := fun k h1 h2 => (Below.heap_setCell _ _ _ _ (by simpa using h2)).trans (setCells_far _ _ _ h1)
            have hzz : ((w1.setCells g (pre2.length * 5) [.int .i64 d.f0, .string d.f1, .int .i64 d.f2, .string d.f3, .slice none 0 0]).setCell ⟨W.heap.size, 0, none⟩ (.slice (some ⟨g, 0, none⟩) (pre2.length + 1) cap)).heap.size = w1.heap.size := by
              have := (setCells_same g [.int .i64 d.f0, .string d.f1, .int .i64 d.f2, .string d.f3, .slice none 0 0] (pre2.length * 5) w1).2.2.2
              simpa [World.setCell] using this
            have hbx := hu6.set (.slice (some ⟨g, 0, none⟩) (pre2.length + 1) cap)
            have hbl := (below_cells (b := g) (by omega) [.int .i64 d.f0, .string d.f1, .int .i64 d.f2, .string d.f3, .slice none 0 0] (pre2.length * 5) _ hb1').setCell (p := ⟨W.heap.size, 0, none⟩) (by simp; try omega) (.slice (some ⟨g, 0, none⟩) (pre2.length + 1) cap)
            have hown5 : World.ownsRow ((w1.setCells g (pre2.length * 5) [.int .i64 d.f0, .string d.f1, .int .i64 d.f2, .string d.f3, .slice none 0 0]).setCell ⟨W.heap.size, 0, none⟩ (.slice (some ⟨g, 0, none⟩) (pre2.length + 1) cap)) w.heap.size 36 k36.sz (.slice (some ⟨g, 0, none⟩) ((pre2.map (fun t => (pieceF t).1)).length + 1) cap) ((pre2.map (fun t => (pieceF t).1)).length + 1) (inner ++ [.int .i64 d.f0, .string d.f1, .int .i64 d.f2, .string d.f3, .slice none 0 0]) := by rw [e5]; exact hw2
            have hRF := R_put2 (ok := fun k => W.heap.size + 5 ≤ k) (okp := fun _ => False) h0 hrep (k36_mkM X3 w.heap.size (fun _ => False) d (by rw [hd4]; exact Kd.R_nil _ _ _ _ _)) (fun _ h => h.elim) (fun k hk => by omega) hown5 (fun k hk hne hlt2 => by
                by_cases hkg : k = g
                · rcases hg3 with hq | hq
                  · exact absurd (by rw [hkg, hq]) hne
                  · omega
                · exact (hsm k hkg (by omega)).trans (hg1.block k hlt2 hne)) (hg3.elim (fun hq => .inl hq.symm) (fun hq => .inr ⟨g, rfl, hq⟩))
            have hfar : ∀ k, k < W.heap.size + 5 → k ≠ W.heap.size → (World.heap ((w1.setCells g (pre2.length * 5) [.int .i64 d.f0, .string d.f1, .int .i64 d.f2, .string d.f3, .slice none 0 0]).setCell ⟨W.heap.size, 0, none⟩ (.slice (some ⟨g, 0, none⟩) (pre2.length + 1) cap)))[k]? = X.heap[k]? := fun k h1 h2 => (hsm k (by omega) h2).trans ((hg1.block k (by omega) (fun e => by have := h0 k e.symm; omega)).trans (hb0.block k (by omega)))
            have hmain := RelI.put hW hJ hfar (by have := hb0.size; omega) hbx (by rw [e5] at hRF; rw [hpc]; exact hRF) (by rw [hpc]) hbl
            exact ⟨by rw [hz3]; exact hfar _ (by omega) (by omega), by rw [hz3]; exact hfar _ (by omega) (by omega), fun k k0 k1 => hfar k (by omega) (by omega), hmain⟩
          · have c5 := hu5.cell
            have c5f := hu5.frozen
            go_simp
            have hu6 : Boxed (w1.setCell ⟨W.heap.size, 0, none⟩ (.slice (some ⟨g, 0, none⟩) (pre2.length + 1) cap)) (W.heap.size) 32 _ := hu5.set (.slice (some ⟨g, 0, none⟩) (pre2.length + 1) cap)
            refine hK.out _ _ (hkeep _ (fun k hk => (Below.heap_setCell _ ⟨W.heap.size, 0, none⟩ _ k (hsb k hk).2.1).trans (hg1.block k (hsb k hk).1 (hsb k hk).2.2))) (fun _ => ?_)
            clear hK
            refine wpAnyH_ready (rs := [6]) (by kernel_rfl) (by simp) ?_
            refine AllReadyH.cons rfl (fun K hK => ?_) AllReadyH.nil
            rw [if_pos (by rfl)]
            refine wp_store_mid 36 (.tmp 30) (.tmp 26) rfl g (pre2.length * 5) #[.int .i64 d.f0, .string d.f1, .int .i64 d.f2, .string d.f3, .slice none 0 0] rfl rfl hthE (by kernel_rfl) (by simp [Value.oneCell']) ?_
            simp only [Act.put, List.setIfInBounds_toArray, List.set_cons_zero, List.set_cons_succ]
            refine hK.out _ _ (hkeep _ (fun k hk => (setCells_far _ _ k (hgk k hk)).trans ((Below.heap_setCell _ ⟨W.heap.size, 0, none⟩ _ k (hsb k hk).2.1).trans (hg1.block k (hsb k hk).1 (hsb k hk).2.2)))) (fun _ => ?_)
            refine wpAnyH_done (by kernel_rfl) (onlyOn ?_) _
            have hw2 := hput (w1.setCell ⟨W.heap.size, 0, none⟩ (.slice (some ⟨g, 0, none⟩) (pre2.length + 1) cap)) (Below.heap_setCell _ ⟨W.heap.size, 0, none⟩ _ _ (by simp; omega))
            have hsm : ∀ k, k ≠ g → k ≠ W.heap.size → ((w1.setCell ⟨W.heap.size, 0, none⟩ (.slice (some ⟨g, 0, none⟩) (pre2.length + 1) cap)).setCells g (pre2.length * 5) [.int .i64 d.f0, .string d.f1, .int .i64 d.f2, .string d.f3, .slice none 0 0]).heap[k]? = w1.heap[k]? := fun k h1 h2 => (setCells_far _ _ _ h1).trans (Below.heap_setCell _ _ _ _ (by simpa using h2))
            have hzz : ((w1.setCell ⟨W.heap.size, 0, none⟩ (.slice (some ⟨g, 0, none⟩) (pre2.length + 1) cap)).setCells g (pre2.length * 5) [.int .i64 d.f0, .string d.f1, .int .i64 d.f2, .string d.f3, .slice none 0 0]).heap.size = w1.heap.size := by
              have := (setCells_same g [.int .i64 d.f0, .string d.f1, .int .i64 d.f2, .string d.f3, .slice none 0 0] (pre2.length * 5) (w1.setCell ⟨W.heap.size, 0, none⟩ (.slice (some ⟨g, 0, none⟩) (pre2.length + 1) cap))).2.2.2
              rw [this]; simp [World.setCell]
            have hbx : Boxed ((w1.setCell ⟨W.heap.size, 0, none⟩ (.slice (some ⟨g, 0, none⟩) (pre2.length + 1) cap)).setCells g (pre2.length * 5) [.int .i64 d.f0, .string d.f1, .int .i64 d.f2, .string d.f3, .slice none 0 0]) (W.heap.size) 32 _ := (setCells_far _ _ (W.heap.size) (by omega)).trans hu6
            have hbl := below_cells (b := g) (by omega) [.int .i64 d.f0, .string d.f1, .int .i64 d.f2, .string d.f3, .slice none 0 0] (pre2.length * 5) _ (hb1'.setCell (p := ⟨W.heap.size, 0, none⟩) (by simp; try omega) (.slice (some ⟨g, 0, none⟩) (pre2.length + 1) cap))
            have hown5 : World.ownsRow ((w1.setCell ⟨W.heap.size, 0, none⟩ (.slice (some ⟨g, 0, none⟩) (pre2.length + 1) cap)).setCells g (pre2.length * 5) [.int .i64 d.f0, .string d.f1, .int .i64 d.f2, .string d.f3, .slice none 0 0]) w.heap.size 36 k36.sz (.slice (some ⟨g, 0, none⟩) ((pre2.map (fun t => (pieceF t).1)).length + 1) cap) ((pre2.map (fun t => (pieceF t).1)).length + 1) (inner ++ [.int .i64 d.f0, .string d.f1, .int .i64 d.f2, .string d.f3, .slice none 0 0]) := by rw [e5]; exact hw2
            have hRF := R_put2 (ok := fun k => W.heap.size + 5 ≤ k) (okp := fun _ => False) h0 hrep (k36_mkM X3 w.heap.size (fun _ => False) d (by rw [hd4]; exact Kd.R_nil _ _ _ _ _)) (fun _ h => h.elim) (fun k hk => by omega) hown5 (fun k hk hne hlt2 => by
                by_cases hkg : k = g
                · rcases hg3 with hq | hq
                  · exact absurd (by rw [hkg, hq]) hne
                  · omega
                · exact (hsm k hkg (by omega)).trans (hg1.block k hlt2 hne)) (hg3.elim (fun hq => .inl hq.symm) (fun hq => .inr ⟨g, rfl, hq⟩))
            have hfar : ∀ k, k < W.heap.size + 5 → k ≠ W.heap.size → (World.heap ((w1.setCell ⟨W.heap.size, 0, none⟩ (.slice (some ⟨g, 0, none⟩) (pre2.length + 1) cap)).setCells g (pre2.length * 5) [.int .i64 d.f0, .string d.f1, .int .i64 d.f2, .string d.f3, .slice none 0 0]))[k]? = X.heap[k]? := fun k h1 h2 => (hsm k (by omega) h2).trans ((hg1.block k (by omega) (fun e => by have := h0 k e.symm; omega)).trans (hb0.block k (by omega)))
            have hmain := RelI.put hW hJ hfar (by have := hb0.size; omega) hbx (by rw [e5] at hRF; rw [hpc]; exact hRF) (by rw [hpc]) hbl
            exact ⟨by rw [hz3]; exact hfar _ (by omega) (by omega), by rw [hz3]; exact hfar _ (by omega) (by omega), fun k k0 k1 => hfar k (by omega) (by omega), hmain⟩

theorem relations_calls (s : ByteArray) (hs : s.size ≤ 1000000) (w : World) (hT : Tabs w) : Calls Tryd.prog 26 #[.string s] w (RelPost s w) := by
  rcases h : s.toList.isEmpty with _ | _
  · exact rel_full s h hs w hT
  · exact rel_empty s h w
end Go.Proofs.YtmclfdonoldlpaaDoor.Own
