/- debctl.Parse: what holds between two lines. debctl.Parse: the walk. -/
import Derived.Test.YtmclfdonoldlpaaDoorG11
import Derived.Test.YtmclfdonoldlpaaDoorG10
import Derived.WideKeyEntry
namespace Go.Proofs.YtmclfdonoldlpaaDoor.Own
open Go.RowKit Go.Lib Go.Proofs.YtmclfdonoldlpaaDoorW.PrintWords Go.Proofs.YtmclfdonoldlpaaDoorW.PrintLast Go.Proofs.YtmclfdonoldlpaaDoorW.PrintMore Go.Proofs.YtmclfdonoldlpaaDoor.POwn
set_option linter.unusedVariables false
set_option linter.unusedSimpArgs false

/-- How many bytes some lines take, an end behind each. -/
def tot : List ByteArray → Nat
  | [] => 0
  | x :: r => x.size + 1 + tot r
theorem tot_append : ∀ a b : List ByteArray, tot (a ++ b) = tot a + tot b
  | [], b => by simp [tot]
  | x :: r, b => by rw [List.cons_append, tot, tot, tot_append r b]; omega
theorem tot_ofL (c : UInt8) : ∀ l : List UInt8, tot ((splitL c l).map ofL) = l.length + 1
  | [] => rfl
  | x :: r => by
    have ih := tot_ofL c r
    unfold splitL
    split
    · rw [List.map_cons, tot, ih]
      show 0 + 1 + _ = _
      simp; omega
    · rcases hs : splitL c r with _ | ⟨h, t⟩
      · exact absurd hs (splitL_ne c r)
      · rw [hs] at ih
        dsimp only
        rw [List.map_cons, tot] at ih ⊢
        have e1 : (ofL (x :: h)).size = h.length + 1 := by show (x :: h).toArray.size = _; simp
        have e2 : (ofL h).size = h.length := by show h.toArray.size = _; simp
        rw [e1]
        rw [e2] at ih
        simp; omega
theorem tot_split (c : UInt8) (s : ByteArray) : tot (splitB c s) = s.size + 1 := by
  rw [splitB_eq, tot_ofL]
  simp

structure PI (w : World) (pre : List ByteArray) (X : World) : Prop where
  r0 : Boxed X w.heap.size 23 (.slice none 0 0)
  r1 : Boxed X (w.heap.size + 1) 24 (.int .i64 0)
  st : ∃ (out : List S34) (xm : Mp) (last : ByteArray) (v : Value) (mb : Nat), runF ⟨[], [], ⟨#[]⟩⟩ pre = .ok ⟨out, xm, last⟩ ∧
    Boxed X (w.heap.size + 2) 23 v ∧ k34.R 34 X w.heap.size (fun k => w.heap.size + 11 ≤ k ∧ k ≠ mb) v out ∧
    Boxed X (w.heap.size + 4) 37 (.map (some mb)) ∧ (mb = w.heap.size + 3 ∨ w.heap.size + 11 ≤ mb) ∧ IsM X mb pre.length xm ∧
    Boxed X (w.heap.size + 5) 9 (.string last) ∧ (∀ k, (mget xm k).size ≤ tot pre) ∧ last.size ≤ tot pre ∧ out.length ≤ 200
  below : Below w.heap.size w X
theorem PI.grown {w X Y : World} {pre : List ByteArray} {row : Option Nat} (h : PI w pre X) (hg : X.grownBy Y row) (hr : ∀ r, row = some r → w.heap.size + 6 ≤ r ∧ r < w.heap.size + 11) : PI w pre Y := by
  obtain ⟨r0, r1, ⟨out, xm, last, v, mb, h1, h2, h3, h4, h5, h6, h7, h8⟩, hb⟩ := h
  refine ⟨r0.kept hg (fun e => by have := hr _ e.symm; omega), r1.kept hg (fun e => by have := hr _ e.symm; omega), ⟨out, xm, last, v, mb, h1, h2.kept hg (fun e => by have := hr _ e.symm; omega), Kd.R_grown h3 hg (fun k hk e => by have := hr _ e.symm; omega), h4.kept hg (fun e => by have := hr _ e.symm; omega), h5, h6.kept hg (fun e => by have := hr _ e.symm; omega), h7.kept hg (fun e => by have := hr _ e.symm; omega), h8⟩, pw_below_grown hb row hb.size hg (fun k e => by have := hr _ e; omega)⟩
structure PX (w : World) (s : ByteArray) (X : World) : Prop where
  er : ∃ e : Int, runF ⟨[], [], ⟨#[]⟩⟩ (splitB 10 s) = .error e ∧ Boxed X (w.heap.size + 1) 24 (.int .i64 e)
  r0 : Boxed X w.heap.size 23 (.slice none 0 0)
  below : Below w.heap.size w X
theorem PX.grown {w X Y : World} {s : ByteArray} {row : Option Nat} (h : PX w s X) (hg : X.grownBy Y row) (hr : ∀ r, row = some r → w.heap.size + 2 ≤ r) : PX w s Y := by
  obtain ⟨⟨e, h1, h2⟩, h3, h4⟩ := h
  exact ⟨⟨e, h1, h2.kept hg (fun e => by have := hr _ e.symm; omega)⟩, h3.kept hg (fun e => by have := hr _ e.symm; omega), pw_below_grown h4 row h4.size hg (fun k e => by have := hr _ e; omega)⟩
/-- A line has been read: the boxes are as they were. -/
theorem PI.same {w X Y : World} {pre : List ByteArray} {x : ByteArray} (h : PI w pre X) (hs : ∀ st, runF ⟨[], [], ⟨#[]⟩⟩ pre = .ok st → stepF st x = .ok st) (hb : Below X.heap.size X Y) : PI w (pre ++ [x]) Y := by
  obtain ⟨r0, r1, ⟨out, xm, last, v, mb, h1, h2, h3, h4, h5, h6, h7, h8, h9, h10⟩, hbl⟩ := h.grown (grown_of_below hb none) (fun r e => by cases e)
  refine ⟨r0, r1, ⟨out, xm, last, v, mb, by rw [runF_snoc h1, hs _ h1], h2, h3, h4, h5, h6.mono (by simp), h7, fun k => ?_, ?_, h10⟩, hbl⟩
  · rw [tot_append]; have := h8 k; omega
  · rw [tot_append]; omega
/-- A row of packages lies in no map. -/
theorem row_off_map {X : World} {n b mb m : Nat} {v : Value} {out : List S34} {xm : Mp} (h : k34.R 34 X n (fun k => b ≤ k) v out) (hM : IsM X mb m xm) : k34.R 34 X n (fun k => b ≤ k ∧ k ≠ mb) v out := by
  obtain ⟨D, ⟨es, c, hb, _⟩, _⟩ := hM
  refine Kd.R_mono (Kd.R_bound h) (fun k hk => ⟨hk.1, fun e => ?_⟩)
  obtain ⟨q, _, cells, hc⟩ := hk.2.2.2
  rw [e, hb] at hc
  cases hc
/-- The same, what is known spelled out. -/
structure PS (w : World) (m : Nat) (out : List S34) (xm : Mp) (last : ByteArray) (v : Value) (mb : Nat) (X : World) : Prop where
  r0 : Boxed X w.heap.size 23 (.slice none 0 0)
  r1 : Boxed X (w.heap.size + 1) 24 (.int .i64 0)
  ho : Boxed X (w.heap.size + 2) 23 v
  hR : k34.R 34 X w.heap.size (fun k => w.heap.size + 11 ≤ k ∧ k ≠ mb) v out
  h5 : Boxed X (w.heap.size + 4) 37 (.map (some mb))
  hmb : mb = w.heap.size + 3 ∨ w.heap.size + 11 ≤ mb
  hM : IsM X mb m xm
  h6 : Boxed X (w.heap.size + 5) 9 (.string last)
  below : Below w.heap.size w X
theorem PI.open {w X : World} {pre : List ByteArray} (h : PI w pre X) : ∃ out xm last A c mb, runF ⟨[], [], ⟨#[]⟩⟩ pre = .ok ⟨out, xm, last⟩ ∧ PS w pre.length out xm last (.slice A out.length c) mb X ∧ (∀ k, (mget xm k).size ≤ tot pre) ∧ last.size ≤ tot pre ∧ out.length ≤ 200 := by
  obtain ⟨r0, r1, ⟨out, xm, last, v, mb, h1, h2, h3, h4, h5, h6, h7, h8, h9, h10⟩, hbl⟩ := h
  obtain ⟨A, c, rfl⟩ := Kd.R_slice h3
  exact ⟨out, xm, last, A, c, mb, h1, ⟨r0, r1, h2, h3, h4, h5, h6, h7, hbl⟩, h8, h9, h10⟩
theorem PS.mk' {w X : World} {pre : List ByteArray} {out : List S34} {xm : Mp} {last : ByteArray} {v : Value} {mb : Nat} (h : PS w pre.length out xm last v mb X) (hrun : runF ⟨[], [], ⟨#[]⟩⟩ pre = .ok ⟨out, xm, last⟩) (h8 : ∀ k, (mget xm k).size ≤ tot pre) (h9 : last.size ≤ tot pre) (h10 : out.length ≤ 200) : PI w pre X :=
  ⟨h.r0, h.r1, ⟨out, xm, last, v, mb, hrun, h.ho, h.hR, h.h5, h.hmb, h.hM, h.h6, h8, h9, h10⟩, h.below⟩
theorem PS.grown {w X Y : World} {m : Nat} {out : List S34} {xm : Mp} {last : ByteArray} {v : Value} {mb : Nat} {row : Option Nat} (h : PS w m out xm last v mb X) (hg : X.grownBy Y row) (hr : ∀ r, row = some r → w.heap.size + 6 ≤ r ∧ r < w.heap.size + 11) : PS w m out xm last v mb Y := by
  obtain ⟨r0, r1, h2, h3, h4, h5, h6, h7, hb⟩ := h
  exact ⟨r0.kept hg (fun e => by have := hr _ e.symm; omega), r1.kept hg (fun e => by have := hr _ e.symm; omega), h2.kept hg (fun e => by have := hr _ e.symm; omega), Kd.R_grown h3 hg (fun k hk e => by have := hr _ e.symm; omega), h4.kept hg (fun e => by have := hr _ e.symm; omega), h5, h6.kept hg (fun e => by have := hr _ e.symm; omega), h7.kept hg (fun e => by have := hr _ e.symm; omega), pw_below_grown hb row hb.size hg (fun k e => by have := hr _ e; omega)⟩
theorem PS.after {w X Y : World} {m : Nat} {out : List S34} {xm : Mp} {last : ByteArray} {v : Value} {mb : Nat} (h : PS w m out xm last v mb X) (hb : Below X.heap.size X Y) : PS w m out xm last v mb Y := h.grown (grown_of_below hb none) (fun r e => by cases e)
theorem PS.cells {w X : World} {m : Nat} {out : List S34} {xm : Mp} {last : ByteArray} {v : Value} {mb : Nat} (h : PS w m out xm last v mb X) :
    X.cell? ⟨w.heap.size, 0, none⟩ = some (.slice none 0 0) ∧ X.frozen? ⟨w.heap.size, 0, none⟩ = false ∧ X.cell? ⟨w.heap.size + 1, 0, none⟩ = some (.int .i64 0) ∧ X.frozen? ⟨w.heap.size + 1, 0, none⟩ = false ∧
    X.cell? ⟨w.heap.size + 2, 0, none⟩ = some v ∧ X.frozen? ⟨w.heap.size + 2, 0, none⟩ = false ∧ X.cell? ⟨w.heap.size + 4, 0, none⟩ = some (.map (some mb)) ∧ X.frozen? ⟨w.heap.size + 4, 0, none⟩ = false ∧
    X.cell? ⟨w.heap.size + 5, 0, none⟩ = some (.string last) ∧ X.frozen? ⟨w.heap.size + 5, 0, none⟩ = false ∧ ∀ ty, (Builtin.len_ #[37] ty #[.map (some mb)]).run Tryd.prog X = .ok (.int .i64 xm.length) X :=
  ⟨h.r0.cell, h.r0.frozen, h.r1.cell, h.r1.frozen, h.ho.cell, h.ho.frozen, h.h5.cell, h.h5.frozen, h.h6.cell, h.h6.frozen, fun ty => h.hM.len ty⟩
/-- A line has been read, and nothing is turned. -/
theorem PS.round {w W Y : World} {pre : List ByteArray} {x : ByteArray} {d : Nat} (hd : d + 1 < W.heap.size) (hI : PI w pre W) (hW : w.heap.size + 11 ≤ W.heap.size) (hb : Below W.heap.size W Y) (hs : ∀ st, runF ⟨[], [], ⟨#[]⟩⟩ pre = .ok st → stepF st x = .ok st) :
    Y.heap[d]? = W.heap[d]? ∧ Y.heap[d + 1]? = W.heap[d + 1]? ∧ SKeep (w.heap.size + 6) W Y ∧ PI w (pre ++ [x]) Y :=
  ⟨hb.block _ (by omega), hb.block _ hd, SKeep.below hb (by omega), hI.same hs hb⟩
theorem PS.leave {w W X : World} {m : Nat} {out : List S34} {xm : Mp} {last : ByteArray} {v : Value} {mb d : Nat} {s : ByteArray} (h : PS w m out xm last v mb X) (hd : d = w.heap.size + 9) (hW : w.heap.size + 11 ≤ W.heap.size) (hb : Below W.heap.size W X) {e : Int} (hs : runF ⟨[], [], ⟨#[]⟩⟩ (splitB 10 s) = .error e) :
    ((X.setCell ⟨w.heap.size, 0, none⟩ (.slice none 0 0)).setCell ⟨w.heap.size + 1, 0, none⟩ (.int .i64 e)).heap[d]? = W.heap[d]? ∧ ((X.setCell ⟨w.heap.size, 0, none⟩ (.slice none 0 0)).setCell ⟨w.heap.size + 1, 0, none⟩ (.int .i64 e)).heap[d + 1]? = W.heap[d + 1]? ∧
    (Code.ret = Code.ret ∧ PX w s ((X.setCell ⟨w.heap.size, 0, none⟩ (.slice none 0 0)).setCell ⟨w.heap.size + 1, 0, none⟩ (.int .i64 e))) := by
  subst hd
  have hf : ∀ k, k ≠ w.heap.size → k ≠ w.heap.size + 1 → ((X.setCell ⟨w.heap.size, 0, none⟩ (.slice none 0 0)).setCell ⟨w.heap.size + 1, 0, none⟩ (.int .i64 e)).heap[k]? = X.heap[k]? := fun k h1 h2 => (Below.heap_setCell _ _ _ _ h2).trans (Below.heap_setCell _ _ _ _ h1)
  refine ⟨(hf _ (by omega) (by omega)).trans (hb.block _ (by omega)), (hf _ (by omega) (by omega)).trans (hb.block _ (by omega)), rfl, ⟨e, hs, ?_⟩, ?_, ?_⟩
  · exact (h.r1.other (B' := w.heap.size) (by omega) _).set _
  · exact (h.r0.set _).other (B' := w.heap.size + 1) (by omega) _
  · exact below_set (j := 0) (below_set (j := 0) h.below (Nat.le_refl _)) (Nat.le_succ w.heap.size)
theorem PS.leave_alloc {w W X : World} {m : Nat} {out : List S34} {xm : Mp} {last : ByteArray} {v : Value} {mb d : Nat} {s : ByteArray} (h : PS w m out xm last v mb X) (hd : d = w.heap.size + 9) (hW : w.heap.size + 11 ≤ W.heap.size) (hb : Below W.heap.size W X) {e : Int} (o : Obj) (hs : runF ⟨[], [], ⟨#[]⟩⟩ (splitB 10 s) = .error e) :
    (((X.setCell ⟨w.heap.size, 0, none⟩ (.slice none 0 0)).setCell ⟨w.heap.size + 1, 0, none⟩ (.int .i64 e)).alloc o).heap[d]? = W.heap[d]? ∧ (((X.setCell ⟨w.heap.size, 0, none⟩ (.slice none 0 0)).setCell ⟨w.heap.size + 1, 0, none⟩ (.int .i64 e)).alloc o).heap[d + 1]? = W.heap[d + 1]? ∧
    (Code.ret = Code.ret ∧ PX w s (((X.setCell ⟨w.heap.size, 0, none⟩ (.slice none 0 0)).setCell ⟨w.heap.size + 1, 0, none⟩ (.int .i64 e)).alloc o)) := by
  obtain ⟨h1, h2, h3, h4⟩ := h.leave hd hW hb hs
  have hz := hb.size
  exact ⟨(Below.heap_alloc _ _ _ (by rw [World.size_setCell, World.size_setCell]; omega)).trans h1, (Below.heap_alloc _ _ _ (by rw [World.size_setCell, World.size_setCell]; omega)).trans h2, h3, h4.grown (World.grownBy_alloc _ _ none) (fun r e => by cases e)⟩
theorem infoPkg : (Tryd.prog.info? 34).map (fun i => (i.zero, i.size, i.bytes)) = some (some (.agg #[.string ⟨#[]⟩, .string ⟨#[]⟩, .string ⟨#[]⟩, .string ⟨#[]⟩, .slice none 0 0, .slice none 0 0, .slice none 0 0, .slice none 0 0, .slice none 0 0, .slice none 0 0, .slice none 0 0, .slice none 0 0]), 12, 256) := by kernel_rfl
/-- A package is appended (the operation, in a fenced walk). -/
theorem wpListIn_putPkg {F : Fence} {nF : Nat} {W : World} {base : Nat} {ops : Array Oper} {rest : List Oper} {o : Oper} {a : Act} {Q : Exit → Act → World → Prop} (hgd : o.guard = none) (s x : Operand)
    (ho : o.op = .call { callee := .builtin .append, args := #[s, x], argTypes := #[23, 23] })
    (v : Value) (xs : List S34) (p : S34) (cs : Array Value) (ok okp : Nat → Prop) (hs : a.eval s = v) (hx : a.eval x = .slice (some ⟨W.heap.size, 0, none⟩) 1 1) (hp : k34.M W base okp p cs.toList) (hokp : ∀ k, okp k → ok k ∧ some k ≠ v.ownBlock) (hfresh : ∀ k, W.heap.size ≤ k → ok k)
    (HO : k34.R 34 W base ok v xs) (hbase : base ≤ W.heap.size) (hl : xs.length ≤ 1000)
    (h : ∀ v1 w1, k34.R 34 w1 base ok v1 (xs ++ [p]) → W.grownBy w1 v.ownBlock → wpListIn F nF Tryd.prog ops Q rest (a.put o.dst v1) w1) :
    wpListIn F nF Tryd.prog ops Q (o :: rest) a (W.alloc (.cells cs 34)) := by
  obtain ⟨i0, hi, hzz⟩ := Option.map_eq_some_iff.1 infoPkg
  simp only [Prod.mk.injEq] at hzz
  obtain ⟨hz0, hz1, hz2⟩ := hzz
  obtain ⟨h0, inner, hown, hr⟩ := HO
  have hlen := k34.K_len (k34.K_of_M hp)
  have hsz : k34.sz = 12 := rfl
  rw [hsz] at hlen hown
  refine wpListIn_append_own_at _ hgd s x 23 ho base 34 i0 _ 12 256 Tryd.underlying23 hi hz0 hz1 hz2 rfl (by decide) v xs.length inner hs (hown.alloc _) ⟨W.heap.size, 0, none⟩ 1 1 cs.toList hx (by rw [hlen]) (fun j u hu => World.news_of_block (cs := cs) (t := 34) (fr := (0, 0)) (heap_alloc_new W (.cells cs 34)) j u hu)
    (k34.K_one (k34.K_of_M hp)) (by simp only [maxLen]; omega) (by omega) (by simp; omega) ?_
  intro v1 w1 hown1 hg1 _ hat1
  have hg2 : W.grownBy w1 v.ownBlock := World.grownBy.trans (World.grownBy_alloc W _ _) hg1
  refine h v1 w1 (Kd.R_appended h0 hr hp hokp hfresh (by rw [hsz]; exact hown1) hg2 (hat1.imp id (fun e => ⟨_, e, by simp⟩))) hg2
/-- A stanza has been read. -/
theorem PS.stanza {w W X X1 : World} {m : Nat} {out : List S34} {xm : Mp} {last : ByteArray} {v v1 : Value} {mb d : Nat} {pre : List ByteArray} {x : ByteArray} {p : S34} (h : PS w m out xm last v mb X) (hd : d = w.heap.size + 9) (hW : w.heap.size + 11 ≤ W.heap.size) (hb : Below W.heap.size W X)
    (hR : k34.R 34 X1 w.heap.size (fun k => w.heap.size + 11 ≤ k) v1 (out ++ [p])) (hg : X.grownBy X1 v.ownBlock) (hs : runF ⟨[], [], ⟨#[]⟩⟩ (pre ++ [x]) = .ok ⟨out ++ [p], [], ⟨#[]⟩⟩) (hl : out.length < 200) :
    ((((X1.setCell ⟨w.heap.size + 2, 0, none⟩ v1).setCell ⟨w.heap.size + 4, 0, none⟩ (.map (some X1.heap.size))).setCell ⟨w.heap.size + 5, 0, none⟩ (.string ⟨#[]⟩)).alloc (.map #[] 0)).heap[d]? = W.heap[d]? ∧
    ((((X1.setCell ⟨w.heap.size + 2, 0, none⟩ v1).setCell ⟨w.heap.size + 4, 0, none⟩ (.map (some X1.heap.size))).setCell ⟨w.heap.size + 5, 0, none⟩ (.string ⟨#[]⟩)).alloc (.map #[] 0)).heap[d + 1]? = W.heap[d + 1]? ∧
    SKeep (w.heap.size + 6) W ((((X1.setCell ⟨w.heap.size + 2, 0, none⟩ v1).setCell ⟨w.heap.size + 4, 0, none⟩ (.map (some X1.heap.size))).setCell ⟨w.heap.size + 5, 0, none⟩ (.string ⟨#[]⟩)).alloc (.map #[] 0)) ∧
    PI w (pre ++ [x]) ((((X1.setCell ⟨w.heap.size + 2, 0, none⟩ v1).setCell ⟨w.heap.size + 4, 0, none⟩ (.map (some X1.heap.size))).setCell ⟨w.heap.size + 5, 0, none⟩ (.string ⟨#[]⟩)).alloc (.map #[] 0)) := by
  subst hd
  have hown : ∀ k, some k = v.ownBlock → w.heap.size + 11 ≤ k := fun k e => (h.hR.1 k e.symm).1
  have hzX := hg.size
  have hzW := hb.size
  have hY : ((((X1.setCell ⟨w.heap.size + 2, 0, none⟩ v1).setCell ⟨w.heap.size + 4, 0, none⟩ (.map (some X1.heap.size))).setCell ⟨w.heap.size + 5, 0, none⟩ (.string ⟨#[]⟩)).alloc (.map #[] 0)).heap.size = X1.heap.size + 1 := by simp
  have hf : ∀ k, k < X1.heap.size → k ≠ w.heap.size + 2 → k ≠ w.heap.size + 4 → k ≠ w.heap.size + 5 → ((((X1.setCell ⟨w.heap.size + 2, 0, none⟩ v1).setCell ⟨w.heap.size + 4, 0, none⟩ (.map (some X1.heap.size))).setCell ⟨w.heap.size + 5, 0, none⟩ (.string ⟨#[]⟩)).alloc (.map #[] 0)).heap[k]? = X1.heap[k]? := fun k h0 h1 h2 h3 =>
    (Below.heap_alloc _ _ _ (by simpa using h0)).trans ((Below.heap_setCell _ _ _ _ h3).trans ((Below.heap_setCell _ _ _ _ h2).trans (Below.heap_setCell _ _ _ _ h1)))
  have hf2 : ∀ k, k < w.heap.size + 11 → k ≠ w.heap.size + 2 → k ≠ w.heap.size + 4 → k ≠ w.heap.size + 5 → ((((X1.setCell ⟨w.heap.size + 2, 0, none⟩ v1).setCell ⟨w.heap.size + 4, 0, none⟩ (.map (some X1.heap.size))).setCell ⟨w.heap.size + 5, 0, none⟩ (.string ⟨#[]⟩)).alloc (.map #[] 0)).heap[k]? = X.heap[k]? := fun k h0 h1 h2 h3 =>
    (hf k (by omega) h1 h2 h3).trans (hg.block k (by omega) (fun e => by have := hown k e; omega))
  have hX1 : Below w.heap.size w X1 := pw_below_grown h.below v.ownBlock h.below.size hg (fun k e => by have := hown k e.symm; omega)
  have hBl : Below w.heap.size w ((((X1.setCell ⟨w.heap.size + 2, 0, none⟩ v1).setCell ⟨w.heap.size + 4, 0, none⟩ (.map (some X1.heap.size))).setCell ⟨w.heap.size + 5, 0, none⟩ (.string ⟨#[]⟩)).alloc (.map #[] 0)) := by
    refine below_alloc (below_set (j := 0) (below_set (j := 0) (below_set (j := 0) hX1 ?_) ?_) ?_) _ <;> omega
  have hM : IsM ((((X1.setCell ⟨w.heap.size + 2, 0, none⟩ v1).setCell ⟨w.heap.size + 4, 0, none⟩ (.map (some X1.heap.size))).setCell ⟨w.heap.size + 5, 0, none⟩ (.string ⟨#[]⟩)).alloc (.map #[] 0)) X1.heap.size (pre ++ [x]).length [] := by
    have h1 := IsM.made (((X1.setCell ⟨w.heap.size + 2, 0, none⟩ v1).setCell ⟨w.heap.size + 4, 0, none⟩ (.map (some X1.heap.size))).setCell ⟨w.heap.size + 5, 0, none⟩ (.string ⟨#[]⟩))
    rw [World.size_setCell, World.size_setCell, World.size_setCell] at h1
    exact h1.mono (Nat.zero_le _)
  refine ⟨(hf2 _ (by omega) (by omega) (by omega) (by omega)).trans (hb.block _ (by omega)), (hf2 _ (by omega) (by omega) (by omega) (by omega)).trans (hb.block _ (by omega)), fun k k0 k1 => (hf2 _ (by omega) (by omega) (by omega) (by omega)).trans (hb.block _ (by omega)), ?_⟩
  refine PS.mk' (v := v1) (mb := X1.heap.size) ⟨(hf2 _ (by omega) (by omega) (by omega) (by omega)).trans h.r0, (hf2 _ (by omega) (by omega) (by omega) (by omega)).trans h.r1, ?_, ?_, ?_, .inr (by omega), hM, ?_, hBl⟩ hs (fun k => Nat.zero_le _) (Nat.zero_le _) (by rw [List.length_append, List.length_singleton]; omega)
  · have h2 : Boxed X1 (w.heap.size + 2) 23 v := (hg.block _ (by omega) (fun e => by have := hown _ e; omega)).trans h.ho
    exact (((h2.set v1).other (B' := w.heap.size + 4) (by omega) (.map (some X1.heap.size))).other (B' := w.heap.size + 5) (by omega) (.string ⟨#[]⟩)).alloc (.map #[] 0)
  · refine row_off_map ?_ hM
    refine Kd.R_step hR (fun k hk hlt => hf k hlt (by omega) (by omega) (by omega))
  · have h2 : Boxed X1 (w.heap.size + 4) 37 _ := (hg.block _ (by omega) (fun e => by have := hown _ e; omega)).trans h.h5
    exact (((h2.other (B' := w.heap.size + 2) (by omega) v1).set (.map (some X1.heap.size))).other (B' := w.heap.size + 5) (by omega) (.string ⟨#[]⟩)).alloc (.map #[] 0)
  · have h2 : Boxed X1 (w.heap.size + 5) 9 _ := (hg.block _ (by omega) (fun e => by have := hown _ e; omega)).trans h.h6
    exact (((h2.other (B' := w.heap.size + 2) (by omega) v1).other (B' := w.heap.size + 4) (by omega) (.map (some X1.heap.size))).set (.string ⟨#[]⟩)).alloc (.map #[] 0)
/-- A field has been laid into the map. -/
theorem PS.field {w W X X1 : World} {out : List S34} {xm : Mp} {last : ByteArray} {v : Value} {mb d : Nat} {pre : List ByteArray} {x k u : ByteArray} (h : PS w pre.length out xm last v mb X) (hd : d = w.heap.size + 9) (hW : w.heap.size + 11 ≤ W.heap.size) (hb : Below W.heap.size W X)
    (hM : IsM X1 mb (pre.length + 1) (mput xm k u)) (hg : X.grownBy X1 (some mb)) (hlt : mb < W.heap.size) (hs : runF ⟨[], [], ⟨#[]⟩⟩ (pre ++ [x]) = .ok ⟨out, mput xm k u, k⟩) (h8 : ∀ k, (mget xm k).size ≤ tot pre) (hk : k.size ≤ tot (pre ++ [x])) (hu : u.size ≤ tot (pre ++ [x])) (hl : out.length ≤ 200) :
    (X1.setCell ⟨w.heap.size + 5, 0, none⟩ (.string k)).heap[d]? = W.heap[d]? ∧ (X1.setCell ⟨w.heap.size + 5, 0, none⟩ (.string k)).heap[d + 1]? = W.heap[d + 1]? ∧ SKeep (w.heap.size + 6) W (X1.setCell ⟨w.heap.size + 5, 0, none⟩ (.string k)) ∧ PI w (pre ++ [x]) (X1.setCell ⟨w.heap.size + 5, 0, none⟩ (.string k)) := by
  subst hd
  have hmb := h.hmb
  have hzX := hg.size
  have hzW := hb.size
  have hf : ∀ j, j < X.heap.size → j ≠ mb → j ≠ w.heap.size + 5 → (X1.setCell ⟨w.heap.size + 5, 0, none⟩ (.string k)).heap[j]? = X.heap[j]? := fun j h0 h1 h2 => (Below.heap_setCell _ _ _ _ h2).trans (hg.block j h0 (fun e => h1 (by injection e)))
  refine ⟨(hf _ (by omega) (by omega) (by omega)).trans (hb.block _ (by omega)), (hf _ (by omega) (by omega) (by omega)).trans (hb.block _ (by omega)), fun j j0 j1 => (hf _ (by omega) (by omega) (by omega)).trans (hb.block _ (by omega)), ?_⟩
  refine PS.mk' (v := v) (mb := mb) ⟨(hf _ (by omega) (by omega) (by omega)).trans h.r0, (hf _ (by omega) (by omega) (by omega)).trans h.r1, (hf _ (by omega) (by omega) (by omega)).trans h.ho, Kd.R_step h.hR (fun j hj hlt => hf j hlt hj.2 (by omega)), (hf _ (by omega) (by omega) (by omega)).trans h.h5, hmb, ?_, ?_, ?_⟩ hs (fun j => ?_) hk hl
  · rw [List.length_append, List.length_singleton]
    exact hM.block (Below.heap_setCell _ _ _ _ (by show ¬ mb = w.heap.size + 5; omega))
  · have h2 : Boxed X1 (w.heap.size + 5) 9 _ := (hg.block _ (by omega) (fun e => by injection e with e; omega)).trans h.h6
    exact h2.set _
  · exact below_set (j := 0) (pw_below_grown h.below (some mb) h.below.size hg (fun j e => by injection e with e; omega)) (by omega)
  · rw [mget_put]
    split
    · exact hu
    · rw [tot_append]; have := h8 j; omega
/-- A field has been made longer. -/
theorem PS.more {w W X X1 : World} {out : List S34} {xm : Mp} {last : ByteArray} {v : Value} {mb d : Nat} {pre : List ByteArray} {x u : ByteArray} (h : PS w pre.length out xm last v mb X) (hd : d = w.heap.size + 9) (hW : w.heap.size + 11 ≤ W.heap.size) (hb : Below W.heap.size W X)
    (hM : IsM X1 mb (pre.length + 1) (mput xm last u)) (hg : X.grownBy X1 (some mb)) (hs : runF ⟨[], [], ⟨#[]⟩⟩ (pre ++ [x]) = .ok ⟨out, mput xm last u, last⟩) (h8 : ∀ k, (mget xm k).size ≤ tot pre) (hk : last.size ≤ tot pre) (hu : u.size ≤ tot (pre ++ [x])) (hl : out.length ≤ 200) :
    X1.heap[d]? = W.heap[d]? ∧ X1.heap[d + 1]? = W.heap[d + 1]? ∧ SKeep (w.heap.size + 6) W X1 ∧ PI w (pre ++ [x]) X1 := by
  subst hd
  have hmb := h.hmb
  have hzX := hg.size
  have hzW := hb.size
  have hf : ∀ j, j < X.heap.size → j ≠ mb → X1.heap[j]? = X.heap[j]? := fun j h0 h1 => hg.block j h0 (fun e => h1 (by injection e))
  refine ⟨(hf _ (by omega) (by omega)).trans (hb.block _ (by omega)), (hf _ (by omega) (by omega)).trans (hb.block _ (by omega)), fun j j0 j1 => (hf _ (by omega) (by omega)).trans (hb.block _ (by omega)), ?_⟩
  refine PS.mk' (v := v) (mb := mb) ⟨(hf _ (by omega) (by omega)).trans h.r0, (hf _ (by omega) (by omega)).trans h.r1, (hf _ (by omega) (by omega)).trans h.ho, Kd.R_step h.hR (fun j hj hlt => hf j hlt hj.2), (hf _ (by omega) (by omega)).trans h.h5, hmb, ?_, (hf _ (by omega) (by omega)).trans h.h6, pw_below_grown h.below (some mb) h.below.size hg (fun j e => by injection e with e; omega)⟩ hs (fun j => ?_) (by rw [tot_append]; omega) hl
  · rw [List.length_append, List.length_singleton]
    exact hM
  · rw [mget_put]
    split
    · exact hu
    · rw [tot_append]; have := h8 j; omega
open Go.ChangeMaps (setBlock) in
/-- An entry laid, and then stored into. -/
theorem IsM.entry {W : World} {b n : Nat} {m : Mp} (h : IsM W b n m) (k : ByteArray) (hk : k.size ≤ maxLen) (hn : n < maxLen) (val : ByteArray) (hv : val.size ≤ maxLen) :
    ∃ (v0 : Value) (st : Nat) (es1 : Array MapEntry) (c1 : Nat) (es2 : Array MapEntry) (c2 : Nat), (Instr.mapEntry 37 (.map (some b)) (.string k)).run Tryd.prog W = .ok (.tuple #[v0, .int .i64 st]) (setBlock W b (.map es1 c1)) ∧
      (Instr.entryStore 37 (.map (some b)) (.int .i64 st) (.string val)).run Tryd.prog (setBlock W b (.map es1 c1)) = .ok () (setBlock (setBlock W b (.map es1 c1)) b (.map es2 c2)) ∧
      IsM (setBlock (setBlock W b (.map es1 c1)) b (.map es2 c2)) b (n + 1) (mput m k val) ∧ (∀ j, j ≠ b → (setBlock W b (.map es1 c1)).heap[j]? = W.heap[j]?) ∧ (∀ j, j ≠ b → (setBlock (setBlock W b (.map es1 c1)) b (.map es2 c2)).heap[j]? = W.heap[j]?) ∧
      W.grownBy (setBlock (setBlock W b (.map es1 c1)) b (.map es2 c2)) (some b) := by
  obtain ⟨W', hrun, hM', _⟩ := h.update k val hk hv hn
  obtain ⟨D, ⟨es, c, hb, F, _⟩, _⟩ := h
  obtain ⟨v0, st, es1, c1, h1, _, h2⟩ := WideElems.entry_then_store (WideMaps.string_law Tryd.underlying9) Tryd.underlying37 (fun u => zeroS u) hb F (WideMaps.keyOf_string_mk Tryd.underlying9 hk)
  have hs1 := ChangeMaps.heap_setBlock_same hb (.map es1 c1)
  obtain ⟨es2, c2, h3, h4⟩ := h2 (setBlock W b (.map es1 c1)) (.string val) hs1
  have e : W' = setBlock W b (.map es2 c2) := by
    have := hrun.symm.trans h4
    injection this
  have hs2 := ChangeMaps.heap_setBlock_same hs1 (.map es2 c2)
  have o1 : ∀ j, j ≠ b → (setBlock W b (.map es1 c1)).heap[j]? = W.heap[j]? := fun j hj => ChangeMaps.heap_setBlock_other hb _ hj
  have o2 : ∀ j, j ≠ b → (setBlock (setBlock W b (.map es1 c1)) b (.map es2 c2)).heap[j]? = W.heap[j]? := fun j hj => (ChangeMaps.heap_setBlock_other hs1 _ hj).trans (o1 j hj)
  refine ⟨v0, st, es1, c1, es2, c2, h1, h3, ?_, o1, o2, ⟨rfl, rfl, rfl, by simp [setBlock], fun j _ hj => o2 j (fun e => hj (by rw [e]))⟩⟩
  rw [e] at hM'
  exact hM'.block (hs2.trans (ChangeMaps.heap_setBlock_same hb (.map es2 c2)).symm)

/-! ### a line's first byte -/
theorem first_eq (x : ByteArray) (h : 0 < x.size) : first x = x[0] := by
  rcases x with ⟨⟨l⟩⟩
  cases l with
  | nil => exact absurd h (by decide)
  | cons a l => rfl
theorem first_is (x : ByteArray) (h : 0 < x.size) (n : UInt8) : ((x[0].toNat : Int) == (n.toNat : Int)) = decide (first x = n) := by
  rw [first_eq x h]
  by_cases e : x[0] = n
  · rw [e]; simp
  · have : ¬ (x[0].toNat : Int) = n.toNat := fun h2 => e (UInt8.toNat_inj.1 (by omega))
    simp [e, this]
def wsI (c : Int) : Bool := c == 32 || c == 9
theorem ws_index (c : Int) (h0 : 0 ≤ c) (h1 : c ≤ 255) : decide (0 ≤ Lib.indexByte [32, 9] c.toNat.toUInt8) = wsI c := by
  obtain ⟨n, rfl⟩ := Int.eq_ofNat_of_zero_le h0
  have hn : n < 256 := by omega
  clear h0 h1
  revert n hn
  decide +kernel
theorem ws_calls (c : Int) (h0 : 0 ≤ c) (h1 : c ≤ 255) (b : Bool) (hb : wsI c = b) (w : World) : Calls Tryd.prog 13 #[.string ⟨#[32, 9]⟩, .int .u8 c] w fun e w' => (∃ i : Int, e = .returned (.int .i64 i) ∧ decide (0 ≤ i) = b) ∧ w' = w :=
  (Tryd.strings_IndexByte _ c w).mono fun e w' h => ⟨⟨_, h.1, (ws_index c h0 h1).trans hb⟩, h.2⟩
theorem first_ws (x : ByteArray) (h : 0 < x.size) : wsI (x[0].toNat : Int) = (first x = 32 || first x = 9) := by
  unfold wsI
  have e1 := first_is x h 32
  have e2 := first_is x h 9
  rw [show ((32 : UInt8).toNat : Int) = 32 from rfl] at e1
  rw [show ((9 : UInt8).toNat : Int) = 9 from rfl] at e2
  rw [e1, e2]

/-! ### the steps, case by case -/
section
variable {out : List S34} {xm : Mp} {last x : ByteArray}
theorem step_e0 (h : (trimB x).toList.isEmpty = true) : stepF ⟨out, [], last⟩ x = .ok ⟨out, [], last⟩ := by
  unfold stepF
  rw [if_pos h]
  rfl
theorem step_e1 (h : (trimB x).toList.isEmpty = true) (hx : xm ≠ []) (hl : 200 ≤ out.length) : stepF ⟨out, xm, last⟩ x = .error 121 := by
  unfold stepF
  rw [if_pos h, if_neg (by simpa using hx), if_pos hl]
theorem step_e2 (h : (trimB x).toList.isEmpty = true) (hx : xm ≠ []) (hl : ¬ 200 ≤ out.length) (hm : madeErr xm ≠ 0) : stepF ⟨out, xm, last⟩ x = .error (madeErr xm) := by
  unfold stepF
  rw [if_pos h, if_neg (by simpa using hx), if_neg hl, if_neg hm]
theorem step_e3 (h : (trimB x).toList.isEmpty = true) (hx : xm ≠ []) (hl : ¬ 200 ≤ out.length) (hm : madeErr xm = 0) : stepF ⟨out, xm, last⟩ x = .ok ⟨out ++ [pkgF xm], [], ⟨#[]⟩⟩ := by
  unfold stepF
  rw [if_pos h, if_neg (by simpa using hx), if_neg hl, if_pos hm]
theorem step_n (s : St) (h : (trimB x).toList.isEmpty = false) (hf : first x = 35) : stepF s x = .ok s := by
  unfold stepF
  rw [if_neg (by simp [h]), if_pos hf]
theorem step_g0 (h : (trimB x).toList.isEmpty = false) (hn : ¬ first x = 35) (hf : (first x = 32 || first x = 9) = true) : stepF ⟨out, [], last⟩ x = .error 120 := by
  unfold stepF
  rw [if_neg (by simp [h]), if_neg hn, if_pos hf]
  rfl
theorem step_g1 (h : (trimB x).toList.isEmpty = false) (hn : ¬ first x = 35) (hf : (first x = 32 || first x = 9) = true) (hx : xm ≠ []) : stepF ⟨out, xm, last⟩ x = .ok ⟨out, mput xm last (mget xm last ++ (spB ++ trimB x)), last⟩ := by
  unfold stepF
  rw [if_neg (by simp [h]), if_neg hn, if_pos hf, if_neg (by simpa using hx)]
theorem step_b (h : (trimB x).toList.isEmpty = false) (hn : ¬ first x = 35) (hf : (first x = 32 || first x = 9) = false) (hb : (decide (at1 x 58 < 0) || (nameF x).toList.isEmpty || mhas xm (nameF x) || hasWs (nameF x)) = true) : stepF ⟨out, xm, last⟩ x = .error 120 := by
  unfold stepF
  rw [if_neg (by simp [h]), if_neg hn, if_neg (by simp [hf]), if_pos hb]
theorem step_f (h : (trimB x).toList.isEmpty = false) (hn : ¬ first x = 35) (hf : (first x = 32 || first x = 9) = false) (hb : (decide (at1 x 58 < 0) || (nameF x).toList.isEmpty || mhas xm (nameF x) || hasWs (nameF x)) = false) : stepF ⟨out, xm, last⟩ x = .ok ⟨out, mput xm (nameF x) (valueF x), nameF x⟩ := by
  unfold stepF
  rw [if_neg (by simp [h]), if_neg hn, if_neg (by simp [hf]), if_neg (by simp [hb])]
end
end Go.Proofs.YtmclfdonoldlpaaDoor.Own

namespace Go.Proofs.YtmclfdonoldlpaaDoor.Own
open Go.RowKit Go.Lib Go.Proofs.YtmclfdonoldlpaaDoorW.PrintWords Go.Proofs.YtmclfdonoldlpaaDoorW.PrintLast Go.Proofs.YtmclfdonoldlpaaDoorW.PrintMore Go.Proofs.YtmclfdonoldlpaaDoor.POwn
set_option linter.unusedVariables false
set_option linter.unusedSimpArgs false
attribute [local go_sem] Oper.semAt_some
attribute [local go_sem ↓] isSome_setCell

def ParsePost (t : ByteArray) (w : World) (e : Ending) (w' : World) : Prop :=
  Below w.heap.size w w' ∧ ((∃ s v, parseF t = .ok s ∧ e = .returned (.tuple #[v, .int .i64 0]) ∧ k34.R 34 w' w.heap.size (fun k => w.heap.size ≤ k) v s.out) ∨
    (∃ er, parseF t = .error er ∧ e = .returned (.tuple #[.slice none 0 0, .int .i64 er])))

set_option maxRecDepth 100000 in
set_option maxHeartbeats 1000000 in
theorem parse_over (t : ByteArray) (h : 40000 < t.size) (w : World) : Calls Tryd.prog 7 #[.string t] w (ParsePost t w) := by
  have h' : decide ((40000 : Int) < t.size) = true := by simp; omega
  have hp : parseF t = .error 122 := by
    unfold parseF
    rw [if_pos h]
  have HP := Lib.hid hp
  clear hp
  go_enter Tryd.func7, Tryd.ntmps7
  go_wp2
  go_step3
  go_wp2
  rw [Exit.noGoto_ret]
  refine bodyPost_ret (v := .tuple #[.slice none 0 0, .int .i64 122]) ?ga ?gb ?gc
  case ga => simp [results, Tryd.results7, go_sem]
  case gb => rfl
  refine ⟨?_, .inr ⟨122, HP.out, rfl⟩⟩
  repeat (first | (with_reducible exact Below.refl _ _) | (with_reducible apply below_alloc) | ((with_reducible refine below_set ?_ ?_); rotate_left; first | exact Nat.le_refl _ | omega))

theorem mk_map (W : World) : (Instr.makeMap 37 none).run Tryd.prog W = .ok (.map (some W.heap.size)) (W.alloc (.map #[] 0)) := run_makeMap _ W
attribute [local go_sem] mk_map
set_option maxRecDepth 100000 in
set_option maxHeartbeats 4000000 in
theorem parse_full (t : ByteArray) (ht : t.size ≤ 40000) (w : World) (hT : Tabs w) : Calls Tryd.prog 7 #[.string t] w (ParsePost t w) := by
  have HT := Lib.hid hT
  clear hT
  have h' : decide ((40000 : Int) < t.size) = false := by simp; omega
  refine (callsIn_wide (n := 0)).1 (callsIn_of_wp_marks Tryd.func7 rfl trivial ?_ rfl)
  simp only [Tryd.ntmps7, List.size_toArray, List.length_cons, List.length_nil, Nat.reduceAdd, Nat.reduceSub, Array.replicate_succ, Array.replicate_zero, List.push_toArray, List.append_toArray, List.nil_append, List.cons_append]
  gi_wp2
  refine wpIn_wide.2 (wp_scope_straight ((wpIn_wide (n := 0)).1 ?_))
  gi_wp2
  refine wpIn_label ?_
  gi_wp2_with (refine ⟨trivial, rfl, ?_⟩; gi_at_call 10; refine (callsIn_wide.2 (splitSeq_calls (t ++ nl2) 10 _)).mono ?_; rintro e w2 ⟨rfl, hS, hb, hz⟩)
  have hb' := hb
  clear hb
  simp only [World.size_alloc, Nat.add_assoc, Nat.reduceAdd] at hz hS ⊢
  have hM0 := IsM.made (((w.alloc (.cells #[.slice none 0 0] 23)).alloc (.cells #[.int .i64 0] 24)).alloc (.cells #[.slice none 0 0] 23))
  simp only [World.size_alloc, Nat.add_assoc, Nat.reduceAdd] at hM0
  have hI0 : PI w [] w2 := ⟨blk_below (blk_alloc (blk_alloc (blk_alloc (blk_alloc (blk_alloc (blk_new w _) _) _) _) _) _) hb', blk_below (blk_alloc (blk_alloc (blk_alloc (blk_alloc (new_at (by simp)) _) _) _) _) hb',
    ⟨[], [], ⟨#[]⟩, _, w.heap.size + 3, rfl, blk_below (blk_alloc (blk_alloc (blk_alloc (new_at (by simp)) _) _) _) hb', Kd.R_nil _ _ _ _ _, blk_below (blk_alloc (new_at (by simp)) _) hb', .inl rfl,
      ((hM0.kept (World.grownBy_alloc _ _ none) (by simp)).kept (World.grownBy_alloc _ _ none) (by simp)).kept (grown_of_below hb' none) (by simp), blk_below (new_at (by simp)) hb', fun k => Nat.zero_le _, by decide, by decide⟩,
    below_then (below_alloc (below_alloc (below_alloc (below_alloc (below_alloc (below_alloc (Below.refl _ _) _) _) _) _) _) _) (by simp; omega) hb'⟩
  clear hM0 hb'
  have hts : (t ++ nl2).size = t.size + 2 := by simp [ByteArray.size_append]; rfl
  refine wpIn_split (B := w.heap.size + 6) (s := t ++ nl2) (by omega) hS rfl rfl
    (fun pre X => PI w pre X) (fun c X => c = .ret ∧ PX w (t ++ nl2) X)
    (fun pre X Y row h hg hr => h.grown hg (fun r e => by rcases hr r e with rfl | rfl <;> omega))
    (fun c X Y row h hg hr => ⟨h.1, h.2.grown hg (fun r e => by have := hr r e; omega)⟩)
    hI0
    (fun x => { tmps := #[.string t, undef, .pointer (some ⟨w.heap.size, 0, none⟩), .pointer (some ⟨w.heap.size + 1, 0, none⟩), .pointer (some ⟨w.heap.size + 2, 0, none⟩), .pointer (some ⟨w.heap.size + 4, 0, none⟩), .pointer (some ⟨w.heap.size + 5, 0, none⟩), .string x, undef, undef, undef, undef, undef, undef, undef, undef, .string t, .int .i64 t.size, .bool false, .map (some (w.heap.size + 3)), .string t, .string (t ++ nl2), .func (.func 34) #[] #[.pointer (some ⟨w.heap.size + 7, 0, none⟩), .pointer (some ⟨w.heap.size + 6, 0, none⟩), .pointer (some ⟨w.heap.size + 8, 0, none⟩)], .string x, undef, undef, undef, undef, undef, undef, undef, undef, undef, undef, undef, undef, undef, undef, undef, undef, undef, undef, undef, undef, undef, undef, undef, undef, undef, undef, undef, undef, undef, undef, undef, undef, undef, undef, undef, undef, undef, undef, undef, undef, undef, undef, undef, undef, undef, undef, undef, undef, undef, undef, undef, undef, undef, undef, undef, undef, undef, undef, undef, undef, undef, undef, undef, undef, undef, undef, undef, undef, undef, undef, undef, undef, undef, undef, undef, undef, undef, undef, undef, undef], defers := [] }) ?assign ?body ?done ?stop
  case assign =>
    intro x W K hK
    gi_wp2
    exact hK
  case stop =>
    rintro c X ⟨rfl, hX⟩ hD
    gi_wp2
    rw [Exit.noGoto_ret]
    have hX2 := hX.grown (grownBy_putObj' X w2.heap.size (.deferred none)) (fun r e => by cases e; omega)
    obtain ⟨er, her, hbx⟩ := hX2.er
    have k0 := hX2.r0.cell
    have k1 := hbx.cell
    refine ⟨by simp, .inl ⟨_, _, rfl, run_takeDeferred hD, ?_⟩⟩
    refine ⟨.tuple #[.slice none 0 0, .int .i64 er], ?ga, hX2.below, .inr ⟨er, ?_, rfl⟩⟩
    case ga => simp [results, Tryd.results7, go_sem, k0, k1]
    unfold parseF
    rw [if_neg (by omega)]
    exact her
  case done =>
    intro X hX hD
    obtain ⟨out, xm, last, v, mb, hrun, ho, hR, _⟩ := hX.st
    obtain ⟨Ao, co, rfl⟩ := Kd.R_slice hR
    have k0 := hX.r0.cell
    have k0f := hX.r0.frozen
    have k1 := hX.r1.cell
    have k1f := hX.r1.frozen
    have k2 := ho.cell
    gi_wp2
    rw [Exit.noGoto_ret]
    have f0 := (hX.r0.set (.slice Ao out.length co)).other (B' := w.heap.size + 1) (by omega) (.int .i64 0)
    have f1 := (hX.r1.other (B' := w.heap.size) (by omega) (.slice Ao out.length co)).set (.int .i64 0)
    have fR := Kd.R_far (p := ⟨w.heap.size + 1, 0, none⟩) (Kd.R_far (p := ⟨w.heap.size, 0, none⟩) hR (fun k hk => by simp; omega) (.slice Ao out.length co)) (fun k hk => by simp; omega) (.int .i64 0)
    have fB := below_set (j := 0) (v := .int .i64 0) (below_set (j := 0) (v := .slice Ao out.length co) hX.below (Nat.le_refl _)) (Nat.le_succ w.heap.size)
    have fD : ((X.setCell ⟨w.heap.size, 0, none⟩ (.slice Ao out.length co)).setCell ⟨w.heap.size + 1, 0, none⟩ (.int .i64 0)).heap[w2.heap.size]? = some (.deferred (some [])) := (Below.heap_setCell _ _ _ _ (by simp; omega)).trans ((Below.heap_setCell _ _ _ _ (by simp; omega)).trans hD)
    generalize ((X.setCell ⟨w.heap.size, 0, none⟩ (.slice Ao out.length co)).setCell ⟨w.heap.size + 1, 0, none⟩ (.int .i64 0)) = F at *
    clear k0 k1 k0f k1f k2
    have hg := grownBy_putObj' F w2.heap.size (.deferred none)
    have k0 := (Boxed.kept (show Boxed F w.heap.size 23 _ from f0) hg (by simp; omega)).cell
    have k1 := (Boxed.kept (show Boxed F (w.heap.size + 1) 24 _ from f1) hg (by simp; omega)).cell
    refine ⟨by simp, .inl ⟨_, _, rfl, run_takeDeferred fD, ?_⟩⟩
    refine ⟨.tuple #[.slice Ao out.length co, .int .i64 0], ?gd, pw_below_grown fB _ fB.size hg (fun k e => by cases e; omega), .inl ⟨⟨out, xm, last⟩, _, ?gf, rfl, ?ge⟩⟩
    case gd => simp [results, Tryd.results7, go_sem, k0, k1]
    case gf =>
      unfold parseF
      rw [if_neg (by omega)]
      exact hrun
    case ge => exact Kd.R_mono (Kd.R_grown fR hg (fun k hk e => by injection e with e; omega)) (fun k hk => by omega)
  case body =>
    rintro pre x rest W hx ⟨r, hr⟩ hD hI
    have htot : tot pre + (x.size + 1) ≤ t.size + 3 := by
      have h1 := tot_split 10 (t ++ nl2)
      rw [hx, tot_append, tot] at h1
      omega
    have hplen : pre.length ≤ 40002 := by
      have h1 := splitB_len 10 (t ++ nl2)
      rw [hx, List.length_append, List.length_cons] at h1
      omega
    have hlt10 : w2.heap.size + 1 < W.heap.size := lt_of_block hr
    have hW : w.heap.size + 11 ≤ W.heap.size := by omega
    obtain ⟨out, xm, last, A, c, mb, hrun, hP, hsz, hls, hol⟩ := hI.open
    have HP := Lib.hid hP
    have hxz : x.size ≤ 9223372036854775807 := by omega
    obtain ⟨tx, htx⟩ : ∃ tx, trimB x = tx := ⟨_, rfl⟩
    have HX := Lib.hid htx
    have HXX := Lib.hid hx
    clear htx hP hx hr hI0 hS
    have hm6 : ∀ k, (mget xm k).size ≤ 1000000 := fun k => by have := hsz k; omega
    rcases hte : tx.toList.isEmpty with _ | _
    case true =>
      have hte' : (trimB x).toList.isEmpty = true := by rw [HX.out]; exact hte
      have HTE := Lib.hid hte'
      clear hte'
      by_cases hx0 : xm = []
      · subst hx0
        gi_wp2_with (refine ⟨trivial, rfl, ?_⟩; gi_at_call 11; refine (CallsIn.inRound _ (callsIn_wide.2 (trim_calls x hxz _ HX.out _))).mono ?_; rintro e w3 ⟨rfl, hb3⟩; obtain ⟨k0, f0, k1, f1, k2, f2, k4, f4, k5, f5, hln⟩ := (HP.out.after hb3).cells)
        exact PS.round hlt10 hI hW hb3 (fun st hst => by
          rw [hrun] at hst
          injection hst with hst
          subst hst
          exact step_e0 HTE.out)
      · have HX0 := Lib.hid hx0
        have hl0 : ¬ ((xm.length : Int) = 0) := fun e => hx0 (List.eq_nil_of_length_eq_zero (by omega))
        clear hx0
        by_cases h200 : 200 ≤ out.length
        · have h200' : (200 : Int) ≤ (out.length : Int) := by omega
          gi_wp2_with (refine ⟨trivial, rfl, ?_⟩; gi_at_call 11; refine (CallsIn.inRound _ (callsIn_wide.2 (trim_calls x hxz _ HX.out _))).mono ?_; rintro e w3 ⟨rfl, hb3⟩; obtain ⟨k0, f0, k1, f1, k2, f2, k4, f4, k5, f5, hln⟩ := (HP.out.after hb3).cells)
          exact PS.leave (HP.out.after hb3) hz hW hb3 (by rw [HXX.out]; exact runF_stop hrun (step_e1 HTE.out HX0.out h200))
        · have h200' : (out.length : Int) < 200 := by omega
          obtain ⟨er, her⟩ : ∃ er, madeErr xm = er := ⟨_, rfl⟩
          by_cases he0 : er = 0
          · have HE := Lib.hid (her.trans he0)
            have HER := Lib.hid her
            clear her he0
            have hHb := HP.out.hR
            gi_wp2_with (first
              | (refine ⟨trivial, rfl, ?_⟩; gi_at_call 11; refine (CallsIn.inRound _ (callsIn_wide.2 (trim_calls x hxz _ HX.out _))).mono ?_; rintro e w3 ⟨rfl, hb3⟩; obtain ⟨k0, f0, k1, f1, k2, f2, k4, f4, k5, f5, hln⟩ := (HP.out.after hb3).cells)
              | (refine ⟨trivial, rfl, ?_⟩; gi_at_call 12; refine (CallsIn.inRound _ (callsIn_wide.2 (made_ok xm mb _ HE.out hm6 _ (HP.out.after hb3).hM (HT.out.below (HP.out.after hb3).below)))).mono ?_; rintro e w4 ⟨⟨cs, ⟨s0, s1, s2, s3, A4, l4, c4, A5, l5, c5, A6, l6, c6, A7, l7, c7, A8, l8, c8, A9, l9, c9, A10, l10, c10, A11, l11, c11, rfl⟩, rfl, hM4⟩, hb4⟩; have hb34 := below_then hb3 hb3.size hb4; clear k0 f0 k1 f1 k2 f2 k4 f4 k5 f5 hln; obtain ⟨k0, f0, k1, f1, k2, f2, k4, f4, k5, f5, hln⟩ := (HP.out.after hb34).cells; have hz34 := hb34.size; have z0 : w.heap.size < w4.heap.size := (by omega); have z1 : w.heap.size + 1 < w4.heap.size := (by omega); have z2 : w.heap.size + 2 < w4.heap.size := (by omega); have z4 : w.heap.size + 4 < w4.heap.size := (by omega); have z5 : w.heap.size + 5 < w4.heap.size := (by omega); clear hz34)
              | (gi_at_builtin; refine wpListIn_putPkg (base := w.heap.size) rfl (.tmp 48) (.tmp 50) rfl (.slice A out.length c) out (pkgF xm) #[.string s0, .string s1, .string s2, .string s3, .slice A4 l4 c4, .slice A5 l5 c5, .slice A6 l6 c6, .slice A7 l7 c7, .slice A8 l8 c8, .slice A9 l9 c9, .slice A10 l10 c10, .slice A11 l11 c11] (fun k => w.heap.size + 11 ≤ k) (fun k => w3.heap.size ≤ k ∧ k < w4.heap.size) rfl (by rw [World.size_alloc]; rfl) ?hp ?hokp ?hfresh ?hHO ?hbase ?hlen ?hgo; rotate_right; intro v1 w5 hR5 hg5; obtain ⟨A', c', rfl⟩ := Kd.R_slice hR5; have hX5 : ∀ k, k < w.heap.size + 11 → w5.heap[k]? = w4.heap[k]? := (fun k hk => (hg5.block k (by have := hb34.size; simp; omega) (fun e => by have := (HP.out.hR.1 k e.symm).1; omega)).trans (Below.heap_alloc _ _ _ (by have := hb34.size; omega))); clear k0 f0 k1 f1 k2 f2 k4 f4 k5 f5 hln; have k2 : w5.cell? ⟨w.heap.size + 2, 0, none⟩ = some _ := (Boxed.cell (show Boxed w5 _ _ _ from (hX5 _ (by omega)).trans (HP.out.after hb34).ho)); have f2 := (Boxed.frozen (show Boxed w5 _ _ _ from (hX5 _ (by omega)).trans (HP.out.after hb34).ho)); have k4 : w5.cell? ⟨w.heap.size + 4, 0, none⟩ = some _ := (Boxed.cell (show Boxed w5 _ _ _ from (hX5 _ (by omega)).trans (HP.out.after hb34).h5)); have f4 := (Boxed.frozen (show Boxed w5 _ _ _ from (hX5 _ (by omega)).trans (HP.out.after hb34).h5)); have k5 : w5.cell? ⟨w.heap.size + 5, 0, none⟩ = some _ := (Boxed.cell (show Boxed w5 _ _ _ from (hX5 _ (by omega)).trans (HP.out.after hb34).h6)); have f5 := (Boxed.frozen (show Boxed w5 _ _ _ from (hX5 _ (by omega)).trans (HP.out.after hb34).h6)); have hz5 := hg5.size; rw [World.size_alloc] at hz5; have y0 : w.heap.size < w5.heap.size := (by omega); have y1 : w.heap.size + 1 < w5.heap.size := (by omega); have y2 : w.heap.size + 2 < w5.heap.size := (by omega); have y4 : w.heap.size + 4 < w5.heap.size := (by omega); have y5 : w.heap.size + 5 < w5.heap.size := (by omega); clear hz5))
            case hp =>
              have h1 := Kd.M_bound k34 (Kd.M_lower _ (show w.heap.size ≤ w3.heap.size by have := hb3.size; omega) hM4)
              exact Kd.M_mono _ (fun k hk => ⟨hk.1, hk.2.2.1⟩) (Kd.M_below h1 (below_alloc (Below.refl _ _) _))
            case hokp =>
              intro k hk
              have := hb3.size
              refine ⟨by omega, fun e => ?_⟩
              have h2 := (Kd.R_bound hHb).1 k e.symm
              have := h2.2.2.1
              omega
            case hfresh => intro k hk; have := hb34.size; simp at hk; omega
            case hHO => exact Kd.R_mono (Kd.R_below (Kd.R_below hHb hb34) (below_alloc (Below.refl _ _) _)) (fun k hk => hk.1)
            case hbase => have := hb34.size; simp; omega
            case hlen => omega
            rw [List.length_append, List.length_singleton] at hR5
            exact PS.stanza ((HP.out.after hb34).after (below_alloc (Below.refl _ _) _)) hz hW (below_alloc hb34 _) hR5 hg5 (by rw [runF_snoc hrun, step_e3 HTE.out HX0.out h200 HE.out]) (by omega)
          · have HE := Lib.hid (show madeErr xm ≠ 0 by rw [her]; exact he0)
            have HER := Lib.hid her
            rw [her] at HE
            gi_wp2_with (first
              | (refine ⟨trivial, rfl, ?_⟩; gi_at_call 11; refine (CallsIn.inRound _ (callsIn_wide.2 (trim_calls x hxz _ HX.out _))).mono ?_; rintro e w3 ⟨rfl, hb3⟩; obtain ⟨k0, f0, k1, f1, k2, f2, k4, f4, k5, f5, hln⟩ := (HP.out.after hb3).cells)
              | (refine ⟨trivial, rfl, ?_⟩; gi_at_call 12; refine (CallsIn.inRound _ (callsIn_wide.2 (made_bad xm mb _ (HER.out ▸ HE.out) hm6 _ (HP.out.after hb3).hM (HT.out.below (HP.out.after hb3).below)))).mono ?_; rintro e w4 ⟨⟨cs, ⟨s0, s1, s2, s3, A4, l4, c4, A5, l5, c5, A6, l6, c6, A7, l7, c7, A8, l8, c8, A9, l9, c9, A10, l10, c10, A11, l11, c11, rfl⟩, rfl⟩, hb4⟩; have hb34 := below_then hb3 hb3.size hb4; clear k0 f0 k1 f1 k2 f2 k4 f4 k5 f5 hln; obtain ⟨k0, f0, k1, f1, k2, f2, k4, f4, k5, f5, hln⟩ := (HP.out.after hb34).cells; have hz34 := hb34.size; have z0 : w.heap.size < w4.heap.size := (by omega); have z1 : w.heap.size + 1 < w4.heap.size := (by omega); have z2 : w.heap.size + 2 < w4.heap.size := (by omega); have z4 : w.heap.size + 4 < w4.heap.size := (by omega); have z5 : w.heap.size + 5 < w4.heap.size := (by omega); clear hz34))
            exact PS.leave_alloc (HP.out.after hb34) hz hW hb34 _ (by rw [HXX.out]; exact runF_stop hrun ((step_e2 HTE.out HX0.out h200 (by rw [HER.out]; exact he0)).trans (by rw [HER.out])))
    case false =>
      have hte' : (trimB x).toList.isEmpty = false := by rw [HX.out]; exact hte
      have HTE := Lib.hid hte'
      clear hte'
      have hxp : 0 < x.size := by
        have h1 := trimB_size x
        rw [HX.out] at h1
        have h2 : 0 < tx.size := by
          rw [ByteArray.toList_eq] at hte
          rcases tx with ⟨⟨l⟩⟩
          cases l with
          | nil => cases hte
          | cons a l => exact Nat.succ_pos _
        omega
      rcases h35 : ((x[0].toNat : Int) == 35) with _ | _
      case true =>
        have hf : first x = 35 := by
          have := first_is x hxp 35
          rw [show ((35 : UInt8).toNat : Int) = 35 from rfl, h35] at this
          simpa using this.symm
        have HF := Lib.hid hf
        clear hf
        gi_wp2_with (refine ⟨trivial, rfl, ?_⟩; gi_at_call 11; refine (CallsIn.inRound _ (callsIn_wide.2 (trim_calls x hxz _ HX.out _))).mono ?_; rintro e w3 ⟨rfl, hb3⟩; obtain ⟨k0, f0, k1, f1, k2, f2, k4, f4, k5, f5, hln⟩ := (HP.out.after hb3).cells)
        exact PS.round hlt10 hI hW hb3 (fun st _ => step_n st HTE.out HF.out)
      case false =>
      have hn : ¬ first x = 35 := by
        have := first_is x hxp 35
        rw [show ((35 : UInt8).toNat : Int) = 35 from rfl, h35] at this
        simpa using this.symm
      have HN := Lib.hid hn
      clear hn
      have hb0 : x[0].toNat < 256 := UInt8.toNat_lt _
      rcases hws : wsI (x[0].toNat : Int) with _ | _
      case true =>
        have hf := first_ws x hxp
        rw [hws] at hf
        have HF := Lib.hid hf.symm
        have HWS := Lib.hid hws
        clear hf hws
        by_cases hx0 : xm = []
        · subst hx0
          gi_wp2_with (first
            | (refine ⟨trivial, rfl, ?_⟩; gi_at_call 11; refine (CallsIn.inRound _ (callsIn_wide.2 (trim_calls x hxz _ HX.out _))).mono ?_; rintro e w3 ⟨rfl, hb3⟩; obtain ⟨k0, f0, k1, f1, k2, f2, k4, f4, k5, f5, hln⟩ := (HP.out.after hb3).cells)
            | (refine ⟨trivial, rfl, ?_⟩; gi_at_call 13; refine (CallsIn.inRound _ (callsIn_wide.2 (ws_calls _ (by omega) (by omega) _ HWS.out _))).mono ?_; rintro e w4 ⟨⟨i, rfl, hi⟩, e4⟩; subst w4))
          exact PS.leave (HP.out.after hb3) hz hW hb3 (by rw [HXX.out]; exact runF_stop hrun (step_g0 HTE.out HN.out HF.out))
        · have HX0 := Lib.hid hx0
          have hl0 : ¬ ((xm.length : Int) = 0) := fun e => hx0 (List.eq_nil_of_length_eq_zero (by omega))
          clear hx0
          have htz : tx.size ≤ x.size := by have := trimB_size x; rwa [HX.out] at this
          have hus : (mget xm last ++ (spB ++ tx)).size = (mget xm last).size + (1 + tx.size) := by simp [ByteArray.size_append]; rfl
          have hml := hsz last
          gi_wp2_with (first
            | (refine ⟨trivial, rfl, ?_⟩; gi_at_call 11; refine (CallsIn.inRound _ (callsIn_wide.2 (trim_calls x hxz _ HX.out _))).mono ?_; rintro e w3 ⟨rfl, hb3⟩; obtain ⟨k0, f0, k1, f1, k2, f2, k4, f4, k5, f5, hln⟩ := (HP.out.after hb3).cells)
            | (refine ⟨trivial, rfl, ?_⟩; gi_at_call 13; refine (CallsIn.inRound _ (callsIn_wide.2 (ws_calls _ (by omega) (by omega) _ HWS.out _))).mono ?_; rintro e w4 ⟨⟨i, rfl, hi⟩, e4⟩; subst w4)
            | (gi_at_lookup; refine wpListIn_lookM rfl _ _ rfl mb pre.length xm rfl (HP.out.after hb3).hM last rfl (by simp only [maxLen]; omega) ?_)
            | (gi_at_mapUpdate; refine wpListIn_updM rfl _ _ _ rfl mb pre.length xm rfl (HP.out.after hb3).hM last (mget xm last ++ (spB ++ tx)) rfl rfl (by simp only [maxLen]; omega) (by simp only [maxLen]; omega) (by simp only [maxLen]; omega) ?_; intro w6 hM6 hg6))
          exact PS.more (HP.out.after hb3) hz hW hb3 hM6 hg6 (by rw [runF_snoc hrun, step_g1 HTE.out HN.out HF.out HX0.out, HX.out]) hsz hls (by rw [tot_append, tot, tot]; omega) hol
      case false =>
      have hf := first_ws x hxp
      rw [hws] at hf
      have HF := Lib.hid hf.symm
      have HWS := Lib.hid hws
      clear hf hws
      have hat := at1_lt x 58
      by_cases hk : at1 x 58 = -1
      · have HK := Lib.hid hk
        have HBAD := Lib.hid (show (decide (at1 x 58 < 0) || (nameF x).toList.isEmpty || mhas xm (nameF x) || hasWs (nameF x)) = true by rw [hk]; rfl)
        clear hk hat
        gi_wp2_with (first
          | (refine ⟨trivial, rfl, ?_⟩; gi_at_call 11; refine (CallsIn.inRound _ (callsIn_wide.2 (trim_calls x hxz _ HX.out _))).mono ?_; rintro e w3 ⟨rfl, hb3⟩; obtain ⟨k0, f0, k1, f1, k2, f2, k4, f4, k5, f5, hln⟩ := (HP.out.after hb3).cells)
          | (refine ⟨trivial, rfl, ?_⟩; gi_at_call 13; refine (CallsIn.inRound _ (callsIn_wide.2 (ws_calls _ (by omega) (by omega) _ HWS.out _))).mono ?_; rintro e w4 ⟨⟨i, rfl, hi⟩, e4⟩; subst w4)
          | (refine ⟨trivial, rfl, ?_⟩; gi_at_call 14; refine (CallsIn.inRound _ (callsIn_wide.2 (cut_no x 58 HK.out _))).mono ?_; rintro e w5 ⟨rfl, ⟨n5, rfl⟩⟩; have hb5 := pw_below_drewN hb3 n5; clear k0 f0 k1 f1 k2 f2 k4 f4 k5 f5 hln; obtain ⟨k0, f0, k1, f1, k2, f2, k4, f4, k5, f5, hln⟩ := (HP.out.after hb5).cells)
          | (gi_at_lookup; refine wpListIn_lookOkM rfl _ _ rfl mb pre.length xm rfl (HP.out.after hb5).hM x rfl (by simp only [maxLen]; omega) ?_)
          | (refine ⟨trivial, ?_⟩))
        exact PS.leave (HP.out.after hb5) hz hW hb5 (by rw [HXX.out]; exact runF_stop hrun (step_b HTE.out HN.out HF.out HBAD.out))
      · obtain ⟨kc, hkc⟩ : ∃ k : Nat, at1 x 58 = (k : Int) := ⟨(at1 x 58).toNat, by omega⟩
        have HK := Lib.hid hkc
        obtain ⟨nx, hnx⟩ : ∃ nx, x.extract 0 kc = nx := ⟨_, rfl⟩
        have hnF : nameF x = nx := by unfold nameF; rw [hkc, ← hnx]; rfl
        have hnz : nx.size ≤ x.size := by rw [← hnx]; exact extract_size _ _ _
        have hpos : decide (at1 x 58 < 0) = false := by rw [hkc]; simp
        clear hk hat
        have HNF := Lib.hid hnF
        have HPOS := Lib.hid hpos
        clear hnF hpos hkc
        rcases hne : nx.toList.isEmpty with _ | _
        case true =>
          have HBAD := Lib.hid (show (decide (at1 x 58 < 0) || (nameF x).toList.isEmpty || mhas xm (nameF x) || hasWs (nameF x)) = true by rw [HPOS.out, HNF.out, hne]; rfl)
          gi_wp2_with (first
            | (refine ⟨trivial, rfl, ?_⟩; gi_at_call 11; refine (CallsIn.inRound _ (callsIn_wide.2 (trim_calls x hxz _ HX.out _))).mono ?_; rintro e w3 ⟨rfl, hb3⟩; obtain ⟨k0, f0, k1, f1, k2, f2, k4, f4, k5, f5, hln⟩ := (HP.out.after hb3).cells)
            | (refine ⟨trivial, rfl, ?_⟩; gi_at_call 13; refine (CallsIn.inRound _ (callsIn_wide.2 (ws_calls _ (by omega) (by omega) _ HWS.out _))).mono ?_; rintro e w4 ⟨⟨i, rfl, hi⟩, e4⟩; subst w4)
            | (refine ⟨trivial, rfl, ?_⟩; gi_at_call 14; refine (CallsIn.inRound _ (callsIn_wide.2 (cut_yes x 58 kc HK.out (by simp only [maxLen]; omega) _))).mono ?_; rintro e w5 ⟨rfl, ⟨n5, rfl⟩⟩; have hb5 := pw_below_drewN hb3 n5; clear k0 f0 k1 f1 k2 f2 k4 f4 k5 f5 hln; obtain ⟨k0, f0, k1, f1, k2, f2, k4, f4, k5, f5, hln⟩ := (HP.out.after hb5).cells)
            | (gi_at_lookup; refine wpListIn_lookOkM rfl _ _ rfl mb pre.length xm rfl (HP.out.after hb5).hM nx rfl (by simp only [maxLen]; omega) ?_)
            | (refine ⟨trivial, ?_⟩))
          exact PS.leave (HP.out.after hb5) hz hW hb5 (by rw [HXX.out]; exact runF_stop hrun (step_b HTE.out HN.out HF.out HBAD.out))
        case false =>
        rcases hhas : mhas xm nx with _ | _
        case true =>
          have HBAD := Lib.hid (show (decide (at1 x 58 < 0) || (nameF x).toList.isEmpty || mhas xm (nameF x) || hasWs (nameF x)) = true by rw [HPOS.out, HNF.out, hne, hhas]; rfl)
          gi_wp2_with (first
            | (refine ⟨trivial, rfl, ?_⟩; gi_at_call 11; refine (CallsIn.inRound _ (callsIn_wide.2 (trim_calls x hxz _ HX.out _))).mono ?_; rintro e w3 ⟨rfl, hb3⟩; obtain ⟨k0, f0, k1, f1, k2, f2, k4, f4, k5, f5, hln⟩ := (HP.out.after hb3).cells)
            | (refine ⟨trivial, rfl, ?_⟩; gi_at_call 13; refine (CallsIn.inRound _ (callsIn_wide.2 (ws_calls _ (by omega) (by omega) _ HWS.out _))).mono ?_; rintro e w4 ⟨⟨i, rfl, hi⟩, e4⟩; subst w4)
            | (refine ⟨trivial, rfl, ?_⟩; gi_at_call 14; refine (CallsIn.inRound _ (callsIn_wide.2 (cut_yes x 58 kc HK.out (by simp only [maxLen]; omega) _))).mono ?_; rintro e w5 ⟨rfl, ⟨n5, rfl⟩⟩; have hb5 := pw_below_drewN hb3 n5; clear k0 f0 k1 f1 k2 f2 k4 f4 k5 f5 hln; obtain ⟨k0, f0, k1, f1, k2, f2, k4, f4, k5, f5, hln⟩ := (HP.out.after hb5).cells)
            | (gi_at_lookup; refine wpListIn_lookOkM rfl _ _ rfl mb pre.length xm rfl (HP.out.after hb5).hM nx rfl (by simp only [maxLen]; omega) ?_)
            | (refine ⟨trivial, ?_⟩))
          exact PS.leave (HP.out.after hb5) hz hW hb5 (by rw [HXX.out]; exact runF_stop hrun (step_b HTE.out HN.out HF.out HBAD.out))
        case false =>
        rcases hhw : hasWs nx with _ | _
        case true =>
          have HBAD := Lib.hid (show (decide (at1 x 58 < 0) || (nameF x).toList.isEmpty || mhas xm (nameF x) || hasWs (nameF x)) = true by rw [HPOS.out, HNF.out, hne, hhas, hhw]; rfl)
          have HH := Lib.hid hhw
          clear hhw
          gi_wp2_with (first
            | (refine ⟨trivial, rfl, ?_⟩; gi_at_call 11; refine (CallsIn.inRound _ (callsIn_wide.2 (trim_calls x hxz _ HX.out _))).mono ?_; rintro e w3 ⟨rfl, hb3⟩; obtain ⟨k0, f0, k1, f1, k2, f2, k4, f4, k5, f5, hln⟩ := (HP.out.after hb3).cells)
            | (refine ⟨trivial, rfl, ?_⟩; gi_at_call 13; refine (CallsIn.inRound _ (callsIn_wide.2 (ws_calls _ (by omega) (by omega) _ HWS.out _))).mono ?_; rintro e w4 ⟨⟨i, rfl, hi⟩, e4⟩; subst w4)
            | (refine ⟨trivial, rfl, ?_⟩; gi_at_call 14; refine (CallsIn.inRound _ (callsIn_wide.2 (cut_yes x 58 kc HK.out (by simp only [maxLen]; omega) _))).mono ?_; rintro e w5 ⟨rfl, ⟨n5, rfl⟩⟩; have hb5 := pw_below_drewN hb3 n5; clear k0 f0 k1 f1 k2 f2 k4 f4 k5 f5 hln; obtain ⟨k0, f0, k1, f1, k2, f2, k4, f4, k5, f5, hln⟩ := (HP.out.after hb5).cells)
            | (gi_at_lookup; refine wpListIn_lookOkM rfl _ _ rfl mb pre.length xm rfl (HP.out.after hb5).hM nx rfl (by simp only [maxLen]; omega) ?_)
            | (refine ⟨trivial, rfl, ?_⟩; gi_at_call 15; refine (CallsIn.inRound _ (callsIn_wide.2 (hasWs_calls nx (by omega) _ HH.out _))).mono ?_; rintro e w6 ⟨rfl, hb6⟩; have hb36 := below_then hb5 hb5.size hb6; clear k0 f0 k1 f1 k2 f2 k4 f4 k5 f5 hln; obtain ⟨k0, f0, k1, f1, k2, f2, k4, f4, k5, f5, hln⟩ := (HP.out.after hb36).cells))
          exact PS.leave (HP.out.after hb36) hz hW hb36 (by rw [HXX.out]; exact runF_stop hrun (step_b HTE.out HN.out HF.out HBAD.out))
        case false =>
          have HGOOD := Lib.hid (show (decide (at1 x 58 < 0) || (nameF x).toList.isEmpty || mhas xm (nameF x) || hasWs (nameF x)) = false by rw [HPOS.out, HNF.out, hne, hhas, hhw]; rfl)
          have HH := Lib.hid hhw
          clear hhw
          obtain ⟨vx, hvx⟩ : ∃ vx, x.extract (kc + 1) x.size = vx := ⟨_, rfl⟩
          have hvz : vx.size ≤ x.size := by rw [← hvx]; exact extract_size _ _ _
          have hvF : valueF x = trimB vx := by unfold valueF; rw [HK.out, ← hvx]; rfl
          have HVF := Lib.hid hvF
          clear hvF
          gi_wp2_with (first
            | (refine ⟨trivial, rfl, ?_⟩; gi_at_call 11; refine (CallsIn.inRound _ (callsIn_wide.2 (trim_calls x hxz _ HX.out _))).mono ?_; rintro e w3 ⟨rfl, hb3⟩; obtain ⟨k0, f0, k1, f1, k2, f2, k4, f4, k5, f5, hln⟩ := (HP.out.after hb3).cells)
            | (refine ⟨trivial, rfl, ?_⟩; gi_at_call 13; refine (CallsIn.inRound _ (callsIn_wide.2 (ws_calls _ (by omega) (by omega) _ HWS.out _))).mono ?_; rintro e w4 ⟨⟨i, rfl, hi⟩, e4⟩; subst w4)
            | (refine ⟨trivial, rfl, ?_⟩; gi_at_call 14; refine (CallsIn.inRound _ (callsIn_wide.2 (cut_yes x 58 kc HK.out (by simp only [maxLen]; omega) _))).mono ?_; rintro e w5 ⟨rfl, ⟨n5, rfl⟩⟩; have hb5 := pw_below_drewN hb3 n5; clear k0 f0 k1 f1 k2 f2 k4 f4 k5 f5 hln; obtain ⟨k0, f0, k1, f1, k2, f2, k4, f4, k5, f5, hln⟩ := (HP.out.after hb5).cells)
            | (gi_at_lookup; refine wpListIn_lookOkM rfl _ _ rfl mb pre.length xm rfl (HP.out.after hb5).hM nx rfl (by simp only [maxLen]; omega) ?_)
            | (refine ⟨trivial, rfl, ?_⟩; gi_at_call 15; refine (CallsIn.inRound _ (callsIn_wide.2 (hasWs_calls nx (by omega) _ HH.out _))).mono ?_; rintro e w6 ⟨rfl, hb6⟩; have hb36 := below_then hb5 hb5.size hb6; clear k0 f0 k1 f1 k2 f2 k4 f4 k5 f5 hln; obtain ⟨k0, f0, k1, f1, k2, f2, k4, f4, k5, f5, hln⟩ := (HP.out.after hb36).cells))
          refine wpIn_fact (fun F => F.heap[w2.heap.size]? = W.heap[w2.heap.size]? ∧ F.heap[w2.heap.size + 1]? = W.heap[w2.heap.size + 1]? ∧ SKeep (w.heap.size + 6) W F ∧ PI w (pre ++ [x]) F) ?_ ?hend
          case hend =>
            rintro a F hF
            clear k0 f0 k1 f1 k2 f2 k4 f4 k5 f5 hln
            gi_wp2
            exact hF
          have hd6 : Below w6.heap.size w6 w6.drew := below_drew (Below.refl _ _)
          have hP7 := (HP.out.after hb36).after hd6
          have hb37 : Below W.heap.size W w6.drew := below_drew hb36
          clear k0 f0 k1 f1 k2 f2 k4 f4 k5 f5 hln hd6
          refine wpIn_region_held (fun Y => Y.cell? ⟨w.heap.size + 4, 0, none⟩ = some (.map (some mb))) (by kernel_rfl) (by kernel_rfl) ?_
          generalize w6.drew = X3 at *
          have hS3 := hP7.h5.cell
          refine wpAnyH_take (i := 0) (v := .map (some mb)) rfl (by kernel_rfl) (by kernel_rfl) (by kernel_rfl) (fun _ _ _ h => h) (Or.inl ⟨by rfl, by intro Y hY; first | (go_simp; done) | (go_simp)⟩) hS3 ?_
          simp only [Act.put, List.setIfInBounds_toArray, List.set_cons_zero, List.set_cons_succ]
          refine wpAnyH_take (i := 1) (v := .string nx) rfl (by kernel_rfl) (by kernel_rfl) (by kernel_rfl) (fun _ _ _ h => h) (Or.inl ⟨by rfl, by intro Y hY; first | (go_simp; done) | (go_simp)⟩) hS3 ?_
          simp only [Act.put, List.setIfInBounds_toArray, List.set_cons_zero, List.set_cons_succ]
          refine wpAnyH_take (i := 2) (v := .string vx) rfl (by kernel_rfl) (by kernel_rfl) (by kernel_rfl) (fun _ _ _ h => h) (Or.inl ⟨by rfl, by intro Y hY; first | (go_simp; done) | (go_simp)⟩) hS3 ?_
          simp only [Act.put, List.setIfInBounds_toArray, List.set_cons_zero, List.set_cons_succ]
          refine wpAnyH_take (i := 4) (v := .string nx) rfl (by kernel_rfl) (by kernel_rfl) (by kernel_rfl) (fun _ _ _ h => h) (Or.inl ⟨by rfl, by intro Y hY; first | (go_simp; done) | (go_simp)⟩) hS3 ?_
          simp only [Act.put, List.setIfInBounds_toArray, List.set_cons_zero, List.set_cons_succ]
          refine wpAnyH_ready (rs := [3]) (by kernel_rfl) (by simp) ?_
          refine AllReadyH.cons rfl (fun K hK => ?_) AllReadyH.nil
          go_simp
          refine (trim_calls vx (by omega) _ rfl _).mono ?_
          rintro e X4 ⟨rfl, hb4⟩
          go_simp
          have hP8 := hP7.after hb4
          have hb38 := below_then hb37 hb37.size hb4
          have hS4 := hP8.h5.cell
          have htz := trimB_size vx
          obtain ⟨v0, st, es1, c1, es2, c2, hE1, hE2, hM5, o1, o2, hg5⟩ := hP8.hM.entry nx (by simp only [maxLen]; omega) (by simp only [maxLen]; omega) (trimB vx) (by simp only [maxLen]; omega)
          have hmb4 : w.heap.size + 4 ≠ mb := by have := hP8.hmb; omega
          have hmb5 : w.heap.size + 5 ≠ mb := by have := hP8.hmb; omega
          have hS5 : (ChangeMaps.setBlock X4 mb (.map es1 c1)).cell? ⟨w.heap.size + 4, 0, none⟩ = some (.map (some mb)) := (World.cell?_of_block (o1 _ hmb4)).trans hS4
          have hS6 : (ChangeMaps.setBlock (ChangeMaps.setBlock X4 mb (.map es1 c1)) mb (.map es2 c2)).cell? ⟨w.heap.size + 4, 0, none⟩ = some (.map (some mb)) := (World.cell?_of_block (o2 _ hmb4)).trans hS4
          have k5 : (ChangeMaps.setBlock (ChangeMaps.setBlock X4 mb (.map es1 c1)) mb (.map es2 c2)).cell? ⟨w.heap.size + 5, 0, none⟩ = some (.string last) := (World.cell?_of_block (o2 _ hmb5)).trans hP8.h6.cell
          have f5 : (ChangeMaps.setBlock (ChangeMaps.setBlock X4 mb (.map es1 c1)) mb (.map es2 c2)).frozen? ⟨w.heap.size + 5, 0, none⟩ = false := (World.frozen?_of_block (o2 _ hmb5)).trans hP8.h6.frozen
          refine hK.out _ _ hS4 (fun _ => ?_)
          clear hK
          refine wpAnyH_ready (rs := [5]) (by kernel_rfl) (by simp) ?_
          refine AllReadyH.cons rfl (fun K hK => ?_) AllReadyH.nil
          go_simp
          refine hK.out _ _ hS5 (fun _ => ?_)
          clear hK
          refine wpAnyH_take (i := 6) (v := .int .i64 st) rfl (by kernel_rfl) (by kernel_rfl) (by kernel_rfl) (fun _ _ _ h => h) (Or.inl ⟨by rfl, by intro Y hY; first | (go_simp; done) | (go_simp)⟩) hS5 ?_
          simp only [Act.put, List.setIfInBounds_toArray, List.set_cons_zero, List.set_cons_succ]
          refine wpAnyH_ready (rs := [7]) (by kernel_rfl) (by simp) ?_
          refine AllReadyH.cons rfl (fun K hK => ?_) AllReadyH.nil
          go_simp
          refine hK.out _ _ hS6 (fun _ => ?_)
          clear hK
          refine wpAnyH_ready (rs := [8]) (by kernel_rfl) (by simp) ?_
          refine AllReadyH.cons rfl (fun K hK => ?_) AllReadyH.nil
          go_simp
          refine hK.out _ _ ?hS7 (fun _ => ?_)
          case hS7 =>
            rw [World.cell?_setCell_far _ _ _ _ (by simp)]
            exact hS6
          clear hK
          refine wpAnyH_done (by kernel_rfl) (onlyOn ?_) _
          have hmW : mb < W.heap.size := HP.out.hM.lt
          exact PS.field hP8 hz hW hb38 hM5 hg5 hmW (by rw [runF_snoc hrun, step_f HTE.out HN.out HF.out HGOOD.out, HNF.out, HVF.out]) hsz (by rw [tot_append, tot, tot]; omega) (by rw [tot_append, tot, tot]; omega) hol
/-- debctl.Parse answers what its plain function says. -/
theorem parse_calls (t : ByteArray) (w : World) (hT : Tabs w) : Calls Tryd.prog 7 #[.string t] w (ParsePost t w) := by
  by_cases h : 40000 < t.size
  · exact parse_over t h w
  · exact parse_full t (by omega) w hT
end Go.Proofs.YtmclfdonoldlpaaDoor.Own
