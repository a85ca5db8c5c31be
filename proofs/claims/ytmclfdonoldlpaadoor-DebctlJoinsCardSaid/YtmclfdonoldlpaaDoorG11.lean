/- debctl.made: the package between two rounds. debctl.made: the walk. -/
import Derived.Test.YtmclfdonoldlpaaDoorG9
import Derived.Test.YtmclfdonoldlpaaDoorG5
import Derived.Test.YtmclfdonoldlpaaDoorG10
import Derived.Laws.EntriesVeiled
import Derived.Laws.CopyOwn
namespace Go.Proofs.YtmclfdonoldlpaaDoor.Own
open Go.RowKit Go.Lib Go.Proofs.YtmclfdonoldlpaaDoorW.PrintWords Go.Proofs.YtmclfdonoldlpaaDoorW.PrintLast Go.Proofs.YtmclfdonoldlpaaDoorW.PrintMore Go.Proofs.YtmclfdonoldlpaaDoor.POwn
set_option linter.unusedVariables false
set_option linter.unusedSimpArgs false

/-- What list j holds behind k fields. -/
def cont (m : Mp) : Nat → Nat → List S36
  | 0, _ => []
  | k + 1, j => if fOff k = j then cont m k j ++ relF (mget m (fName k)) else cont m k j
theorem cont_end (m : Mp) : cont m 8 4 = relF (mget m nProvides) ∧ cont m 8 5 = relF (mget m nDepends) ∧ cont m 8 6 = relF (mget m nPreDepends) ∧ cont m 8 7 = relF (mget m nConflicts) ++ relF (mget m nBreaks) ∧
    cont m 8 8 = relF (mget m nReplaces) ∧ cont m 8 9 = relF (mget m nRecommends) ∧ cont m 8 10 = relF (mget m nEnhances) := by
  refine ⟨?_, ?_, ?_, ?_, ?_, ?_, ?_⟩ <;> simp [cont, fOff, fName]
theorem relF_len (s : ByteArray) : (relF s).length ≤ s.size + 1 := by
  unfold relF
  split
  · simp
  · rw [List.length_map]
    exact splitB_len 44 s
theorem cont_len (m : Mp) (hm : ∀ k, (mget m k).size ≤ 1000000) : ∀ (k j : Nat), (cont m k j).length ≤ k * 1000001
  | 0, j => by simp [cont]
  | k + 1, j => by
    have h1 := cont_len m hm k j
    have h2 := relF_len (mget m (fName k))
    have h3 := hm (fName k)
    unfold cont
    split
    · rw [List.length_append, Nat.succ_mul]; exact Nat.add_le_add h1 (Nat.le_trans h2 (Nat.succ_le_succ h3))
    · rw [Nat.succ_mul]; exact Nat.le_trans h1 (Nat.le_add_right _ _)
theorem relTexts_all (m : Mp) : (relTexts m).all relOk = (relOk (mget m (fName 0)) && (relOk (mget m (fName 1)) && (relOk (mget m (fName 2)) && (relOk (mget m (fName 3)) && (relOk (mget m (fName 4)) && (relOk (mget m (fName 5)) && (relOk (mget m (fName 6)) && relOk (mget m (fName 7))))))))) := by
  simp [relTexts, fName]
theorem and8 : ∀ a b c d e f g h : Bool, (∀ k, k < 8 → [a, b, c, d, e, f, g, h].getD k false = true) → (a && (b && (c && (d && (e && (f && (g && h))))))) = true := by
  intro a b c d e f g h H
  have h0 := H 0 (by decide)
  have h1 := H 1 (by decide)
  have h2 := H 2 (by decide)
  have h3 := H 3 (by decide)
  have h4 := H 4 (by decide)
  have h5 := H 5 (by decide)
  have h6 := H 6 (by decide)
  have h7 := H 7 (by decide)
  simp at h0 h1 h2 h3 h4 h5 h6 h7
  subst h0 h1 h2 h3 h4 h5 h6 h7
  rfl
theorem not8 : ∀ (a b c d e f g h : Bool) (k : Nat), k < 8 → [a, b, c, d, e, f, g, h].getD k true = false → (a && (b && (c && (d && (e && (f && (g && h))))))) = false := by
  intro a b c d e f g h k hk H
  rcases k with _ | _ | _ | _ | _ | _ | _ | _ | k
  all_goals first | omega | skip
  all_goals simp at H
  all_goals subst H
  all_goals simp
theorem made_yes (m : Mp) (h : ∀ k, k < 8 → relOk (mget m (fName k)) = true) : (relTexts m).all relOk = true := by
  rw [relTexts_all]
  refine and8 _ _ _ _ _ _ _ _ (fun k hk => ?_)
  have h1 := h k hk
  rcases k with _ | _ | _ | _ | _ | _ | _ | _ | k
  all_goals first | omega | exact h1
theorem made_no (m : Mp) (k : Nat) (hk : k < 8) (h : relOk (mget m (fName k)) = false) : (relTexts m).all relOk = false := by
  rw [relTexts_all]
  refine not8 _ _ _ _ _ _ _ _ k hk ?_
  rcases k with _ | _ | _ | _ | _ | _ | _ | _ | k
  all_goals first | omega | exact h

abbrev pkCells (s0 s1 s2 s3 : ByteArray) (vs : Nat → Value) : Array Value := #[.string s0, .string s1, .string s2, .string s3, vs 4, vs 5, vs 6, vs 7, vs 8, vs 9, vs 10, .slice none 0 0]
/-- Where list j's rows may lie: in no other list's own block, nor in the package's. -/
def okAt (n B : Nat) (vs : Nat → Value) (j : Nat) (k : Nat) : Prop := n ≤ k ∧ k ≠ B ∧ ∀ i, 4 ≤ i → i ≤ 10 → i ≠ j → some k ≠ (vs i).ownBlock
/-- The package behind k fields, in block B. -/
def PkSt (n B : Nat) (m : Mp) (s0 s1 s2 s3 : ByteArray) (k : Nat) (vs : Nat → Value) (X : World) : Prop :=
  X.heap[B]? = some (.cells (pkCells s0 s1 s2 s3 vs) 34 (0, 0)) ∧ ∀ j, 4 ≤ j → j ≤ 10 → k36.R 36 X n (okAt n B vs j) (vs j) (cont m k j)
theorem pk_start {n B : Nat} {m : Mp} {s0 s1 s2 s3 : ByteArray} {X : World} (h : X.heap[B]? = some (.cells (pkCells s0 s1 s2 s3 (fun _ => .slice none 0 0)) 34 (0, 0))) : PkSt n B m s0 s1 s2 s3 0 (fun _ => .slice none 0 0) X :=
  ⟨h, fun j _ _ => Kd.R_nil _ _ _ _ _⟩
theorem PkSt.below {n B : Nat} {m : Mp} {s0 s1 s2 s3 : ByteArray} {k : Nat} {vs : Nat → Value} {X Y : World} (h : PkSt n B m s0 s1 s2 s3 k vs X) (hb : Below X.heap.size X Y) : PkSt n B m s0 s1 s2 s3 k vs Y :=
  ⟨blk_below h.1 hb, fun j h4 h10 => Kd.R_below (h.2 j h4 h10) hb⟩
theorem PkSt.lt {n B : Nat} {m : Mp} {s0 s1 s2 s3 : ByteArray} {k : Nat} {vs : Nat → Value} {X : World} (h : PkSt n B m s0 s1 s2 s3 k vs X) : B < X.heap.size := blk_lt h.1
/-- An own block is none of a list's. -/
theorem PkSt.own {n B : Nat} {m : Mp} {s0 s1 s2 s3 : ByteArray} {k : Nat} {vs : Nat → Value} {X : World} (h : PkSt n B m s0 s1 s2 s3 k vs X) (j : Nat) (h4 : 4 ≤ j) (h10 : j ≤ 10) (b : Nat) (hb : (vs j).ownBlock = some b) : n ≤ b ∧ b ≠ B ∧ b < X.heap.size := by
  have h1 := (Kd.R_bound (h.2 j h4 h10)).1 b hb
  exact ⟨h1.1.1, h1.1.2.1, h1.2.2.1⟩
/-- A list has been appended to. -/
theorem PkSt.put {n B : Nat} {m : Mp} {s0 s1 s2 s3 : ByteArray} {k : Nat} {vs : Nat → Value} {X X2 Y : World} {v : Value} (h : PkSt n B m s0 s1 s2 s3 k vs X) (hg : X.grownBy X2 (vs (fOff k)).ownBlock)
    (hY : ∀ i, i ≠ B → Y.heap[i]? = X2.heap[i]?) (hYB : ∀ cs, X2.heap[B]? = some (.cells cs 34 (0, 0)) → Y.heap[B]? = some (.cells (cs.setIfInBounds (fOff k) v) 34 (0, 0)))
    (hv : k36.R 36 X2 n (okAt n B vs (fOff k)) v (cont m k (fOff k) ++ relF (mget m (fName k)))) (hat : v.ownBlock = (vs (fOff k)).ownBlock ∨ ∃ b, v.ownBlock = some b ∧ X.heap.size ≤ b) :
    PkSt n B m s0 s1 s2 s3 (k + 1) (fun j => if j = fOff k then v else vs j) Y := by
  have hr := fOff_range k
  refine ⟨?_, fun j h4 h10 => ?_⟩
  · have e2 := hYB _ ((hg.block B h.lt (fun e => (h.own _ hr.1 hr.2 B e.symm).2.1 rfl)).trans h.1)
    rw [e2]
    obtain ⟨h4, h10⟩ := hr
    generalize fOff k = j at *
    have : j = 4 ∨ j = 5 ∨ j = 6 ∨ j = 7 ∨ j = 8 ∨ j = 9 ∨ j = 10 := by omega
    rcases this with rfl | rfl | rfl | rfl | rfl | rfl | rfl <;> rfl
  · by_cases hj : j = fOff k
    · subst hj
      dsimp only
      rw [if_pos rfl, show cont m (k + 1) (fOff k) = cont m k (fOff k) ++ relF (mget m (fName k)) by simp [cont]]
      refine Kd.R_mono (Kd.R_step hv (fun i hi _ => hY i hi.2.1)) (fun i hi => ⟨hi.1, hi.2.1, fun j hj4 hj10 hne => ?_⟩)
      simp only [if_neg hne]
      exact hi.2.2 j hj4 hj10 hne
    · dsimp only
      have hj' : ¬ fOff k = j := fun e => hj e.symm
      rw [if_neg hj, show cont m (k + 1) j = cont m k j by simp [cont, hj']]
      have h1 := Kd.R_bound (h.2 j h4 h10)
      refine Kd.R_mono (Kd.R_step h1 (fun i hi _ => ?_)) (fun i hi => ⟨hi.1.1, hi.1.2.1, fun j' hj4 hj10 hne => ?_⟩)
      · exact (hY i hi.1.2.1).trans (hg.block i hi.2.2.1 (hi.1.2.2 _ hr.1 hr.2 (fun e => hj e.symm)))
      · by_cases hq : j' = fOff k
        · simp only [if_pos hq]
          rcases hat with hat | ⟨b, hat, hle⟩
          · rw [hat]; exact hi.1.2.2 _ hr.1 hr.2 (fun e => hj e.symm)
          · rw [hat]
            intro e
            injection e with e
            have h2 : i < X.heap.size := hi.2.2.1
            omega
        · simp only [if_neg hq]
          exact hi.1.2.2 j' hj4 hj10 hne
/-- The package, when all fields are read. -/
theorem PkSt.made {n B : Nat} {m : Mp} {vs : Nat → Value} {X : World} (h : PkSt n B m (mget m nPackage) (mget m nVersion) (archF (mget m nArchitecture)) (mget m nOrigin) 8 vs X) :
    k34.M X n (fun k => n ≤ k ∧ k ≠ B) (pkgF m) (pkCells (mget m nPackage) (mget m nVersion) (archF (mget m nArchitecture)) (mget m nOrigin) vs).toList := by
  obtain ⟨c4, c5, c6, c7, c8, c9, c10⟩ := cont_end m
  have f : ∀ j, 4 ≤ j → j ≤ 10 → k36.R 36 X n (fun k => n ≤ k ∧ k ≠ B) (vs j) (cont m 8 j) := fun j h4 h10 => Kd.R_mono (h.2 j h4 h10) (fun i hi => ⟨hi.1, hi.2.1⟩)
  have q : ∀ j (l : List S36), 4 ≤ j → j ≤ 10 → cont m 8 j = l → k36.R 36 X n (fun k => n ≤ k ∧ k ≠ B) (vs j) l := fun j l h4 h10 e => by rw [← e]; exact f j h4 h10
  exact k34_mkM X n _ (pkgF m) (q 4 _ (by decide) (by decide) c4) (q 5 _ (by decide) (by decide) c5) (q 6 _ (by decide) (by decide) c6) (q 7 _ (by decide) (by decide) c7) (q 8 _ (by decide) (by decide) c8) (q 9 _ (by decide) (by decide) c9) (q 10 _ (by decide) (by decide) c10) (Kd.R_nil _ _ _ _ _)
/-! ### what is read has kinds of 64 bits -/
theorem wfL_all : ∀ {l : List S36}, (∀ x ∈ l, wfD x) → wfL l
  | [], _ => by rw [wfL]; trivial
  | a :: r, h => by
    rw [wfL]
    exact ⟨h a (by simp), wfL_all (fun x hx => h x (by simp [hx]))⟩
theorem wfD_mk (k : Int) (n : ByteArray) (o : Int) (v : ByteArray) (l : List S36) (hk : wfI k) (hl : wfL l) : wfD ⟨k, n, o, v, l⟩ := by
  rw [wfD]
  exact ⟨hk, hl⟩
theorem piece_wf (s : ByteArray) : wfD (pieceF s).1 := by
  unfold pieceF
  dsimp only
  split
  · exact wfD_mk _ _ _ _ _ (by unfold wfI; decide) (by rw [wfL]; trivial)
  · split
    · exact wfD_mk _ _ _ _ _ (by unfold wfI; decide) (by rw [wfL]; trivial)
    · exact wfD_mk _ _ _ _ _ (by unfold wfI; decide) (by rw [wfL]; trivial)
theorem part_wf (s : ByteArray) : wfD (partF s) := by
  unfold partF
  have h : wfL (partL s) := wfL_all (fun x hx => by
    obtain ⟨t, _, rfl⟩ := List.mem_map.1 hx
    exact piece_wf t)
  by_cases h1 : (partL s).length = 1
  · obtain ⟨d, hd⟩ := List.length_eq_one_iff.1 h1
    rw [hd] at h ⊢
    rw [wfL] at h
    exact h.1
  · rw [oneOf_many _ h1]
    exact wfD_mk _ _ _ _ _ (by unfold wfI; decide) h
theorem rel_wf (s : ByteArray) : wfL (relF s) := by
  unfold relF
  split
  · rw [wfL]; trivial
  · exact wfL_all (fun x hx => by
      obtain ⟨t, _, rfl⟩ := List.mem_map.1 hx
      exact part_wf t)
theorem pkg_wf (m : Mp) : wfP (pkgF m) := by
  intro j hj
  have h7 : wfL (relF (mget m nConflicts) ++ relF (mget m nBreaks)) := wfL_all (fun x hx => by
    rcases List.mem_append.1 hx with h | h
    · exact wfL_mem (rel_wf _) x h
    · exact wfL_mem (rel_wf _) x h)
  rcases j with _ | _ | _ | _ | _ | _ | _ | j
  · exact rel_wf _
  · exact rel_wf _
  · exact rel_wf _
  · exact h7
  · exact rel_wf _
  · exact rel_wf _
  · exact rel_wf _
  · omega
theorem pkg_v {W : World} {base : Nat} {ok : Nat → Prop} {p : S34} {cs : Array Value} (h : k34.M W base ok p cs.toList) : PkgV W p (.agg cs) := by
  obtain ⟨A4, c4, A5, c5, A6, c6, A7, c7, A8, c8, A9, c9, A10, c10, A11, c11, he, l4, g4, l5, g5, l6, g6, l7, g7, l8, g8, l9, g9, l10, g10, l11, g11⟩ := k34_open (k34.K_of_M h)
  have e : cs = _ := Array.toList_inj.1 (he.trans (List.toList_toArray).symm)
  exact ⟨A4, A5, A6, A7, A8, A9, A10, A11, c4, c5, c6, c7, c8, c9, c10, c11, by rw [e], ⟨l4, g4⟩, ⟨l5, g5⟩, ⟨l6, g6⟩, ⟨l7, g7⟩, ⟨l8, g8⟩, ⟨l9, g9⟩, ⟨l10, g10⟩, ⟨l11, g11⟩⟩
end Go.Proofs.YtmclfdonoldlpaaDoor.Own

namespace Go.Proofs.YtmclfdonoldlpaaDoor.Own
open Go.RowKit Go.Lib Go.Proofs.YtmclfdonoldlpaaDoorW.PrintWords Go.Proofs.YtmclfdonoldlpaaDoorW.PrintLast Go.Proofs.YtmclfdonoldlpaaDoorW.PrintMore Go.Proofs.YtmclfdonoldlpaaDoor.POwn
set_option linter.unusedVariables false
set_option linter.unusedSimpArgs false

theorem rel_yes (s : ByteArray) (h : relOk s = true) (hs : s.size ≤ 1000000) (w : World) (hT : Tabs w) : Calls Tryd.prog 26 #[.string s] w fun e w' =>
    (∃ A c, e = .returned (.tuple #[.slice A (relF s).length c, .bool true]) ∧ k36.R 36 w' w.heap.size (fun k => w.heap.size ≤ k) (.slice A (relF s).length c) (relF s)) ∧ Below w.heap.size w w' := by
  refine (relations_calls s hs w hT).mono ?_
  rintro e w' ⟨hb, ⟨h1, v, rfl, hR⟩ | ⟨h1, _⟩⟩
  · obtain ⟨A, c, rfl⟩ := Kd.R_slice hR
    exact ⟨⟨A, c, rfl, hR⟩, hb⟩
  · rw [h] at h1; cases h1
theorem rel_no (s : ByteArray) (h : relOk s = false) (hs : s.size ≤ 1000000) (w : World) (hT : Tabs w) : Calls Tryd.prog 26 #[.string s] w fun e w' =>
    e = .returned (.tuple #[.slice none 0 0, .bool false]) ∧ Below w.heap.size w w' := by
  refine (relations_calls s hs w hT).mono ?_
  rintro e w' ⟨hb, ⟨h1, v, rfl, hR⟩ | ⟨h1, e1⟩⟩
  · rw [h] at h1; cases h1
  · exact ⟨e1, hb⟩

theorem beq_list (s : ByteArray) (l : List UInt8) : (s.toList == l) = decide (s = ⟨l.toArray⟩) := by
  rw [ByteArray.toList_eq]
  rcases s with ⟨⟨s⟩⟩
  by_cases h : s = l
  · subst h
    simp
  · have h2 : ¬ (⟨⟨s⟩⟩ : ByteArray) = ⟨⟨l⟩⟩ := fun e => h (by injection e with e; injection e)
    show (s == l) = decide ((⟨⟨s⟩⟩ : ByteArray) = ⟨⟨l⟩⟩)
    rw [decide_eq_false h2]
    simpa using h
theorem fName_le (k : Nat) : (fName k).size ≤ maxLen := by
  unfold fName
  split <;> decide
theorem new_at {Y : World} {o : Obj} {k : Nat} (h : Y.heap.size = k) : (Y.alloc o).heap[k]? = some o := h ▸ blk_new Y o
/-- The cells of a package, whatever they are. -/
def PkShape (cs : Array Value) : Prop := ∃ (s0 s1 s2 s3 : ByteArray) (A4 : Option Addr) (l4 c4 : Nat) (A5 : Option Addr) (l5 c5 : Nat) (A6 : Option Addr) (l6 c6 : Nat) (A7 : Option Addr) (l7 c7 : Nat) (A8 : Option Addr) (l8 c8 : Nat) (A9 : Option Addr) (l9 c9 : Nat) (A10 : Option Addr) (l10 c10 : Nat) (A11 : Option Addr) (l11 c11 : Nat), cs = #[.string s0, .string s1, .string s2, .string s3, .slice A4 l4 c4, .slice A5 l5 c5, .slice A6 l6 c6, .slice A7 l7 c7, .slice A8 l8 c8, .slice A9 l9 c9, .slice A10 l10 c10, .slice A11 l11 c11]
theorem shape_of {W : World} {base : Nat} {ok : Nat → Prop} {p : S34} {cs : Array Value} (h : k34.M W base ok p cs.toList) : PkShape cs := by
  obtain ⟨A4, c4, A5, c5, A6, c6, A7, c7, A8, c8, A9, c9, A10, c10, A11, c11, he, _⟩ := k34_open (k34.K_of_M h)
  exact ⟨_, _, _, _, A4, _, c4, A5, _, c5, A6, _, c6, A7, _, c7, A8, _, c8, A9, _, c9, A10, _, c10, A11, _, c11, Array.toList_inj.1 (he.trans (List.toList_toArray).symm)⟩
/-- What debctl.made leaves. -/
def MadePost (m : Mp) (w : World) (e : Ending) (w' : World) : Prop :=
  Below w.heap.size w w' ∧ ((madeErr m = 0 ∧ ∃ cs : Array Value, e = .returned (.tuple #[.agg cs, .int .i64 0]) ∧ k34.M w' w.heap.size (fun k => w.heap.size ≤ k) (pkgF m) cs.toList) ∨
    (madeErr m ≠ 0 ∧ ∃ cs : Array Value, PkShape cs ∧ e = .returned (.tuple #[.agg cs, .int .i64 (madeErr m)])))

abbrev zPk : Array Value := #[.string ⟨#[]⟩, .string ⟨#[]⟩, .string ⟨#[]⟩, .string ⟨#[]⟩, .slice none 0 0, .slice none 0 0, .slice none 0 0, .slice none 0 0, .slice none 0 0, .slice none 0 0, .slice none 0 0, .slice none 0 0]
/-- Between two rounds. -/
structure MadeI (w : World) (m : Mp) (s2 : ByteArray) (k : Nat) (vs : Nat → Value) (X : World) : Prop where
  ok : ∀ i, i < k → relOk (mget m (fName i)) = true
  res : X.heap[w.heap.size]? = some (.cells zPk 34 (0, 0))
  fs : X.heap[w.heap.size + 2]? = some (.cells fCells 61 (0, 0))
  pk : PkSt (w.heap.size + 3) (w.heap.size + 1) m (mget m nPackage) (mget m nVersion) s2 (mget m nOrigin) k vs X
  below : Below w.heap.size w X

set_option maxRecDepth 100000 in
set_option maxHeartbeats 2000000 in
theorem made_calls (m : Mp) (b n : Nat) (hm : ∀ k, (mget m k).size ≤ 1000000) (w : World) (hI : IsM w b n m) (hT : Tabs w) : Calls Tryd.prog 12 #[.map (some b)] w (MadePost m w) := by
  obtain ⟨s2, hs2⟩ : ∃ s, archF (mget m nArchitecture) = s := ⟨_, rfl⟩
  have HS2 := Lib.hid hs2
  have hbl := hI.lt
  have HI := Lib.hid hI
  have HT := Lib.hid hT
  have HM := Lib.hid hm
  clear hI hT hm
  rcases hd : ((mget m nArchitecture).toList == [97, 108, 108]) with _ | _
  all_goals
    have hE : s2 = if ((mget m nArchitecture).toList == [97, 108, 108]) then noarchB else mget m nArchitecture := by
      rw [← HS2.out, archF, beq_list]
      simp
    rw [hd] at hE
    simp only [if_true, if_false, Bool.false_eq_true] at hE
    subst hE
    go_enter Tryd.func12, Tryd.ntmps12
    go_wp2_with (first
      | (at_lookup; refine wpList_lookM rfl _ _ rfl b n m rfl (HI.out.kept (World.grownBy_alloc w _ none) (by simp)) _ rfl (by decide) ?_)
      | (go_at_call 25; refine (fields_calls _).mono ?_; rintro e w1 ⟨rfl, rfl⟩))
    clear hd hs2
    simp only [World.size_alloc, World.size_setCell, Nat.add_assoc, Nat.reduceAdd]
    go_loopw [24] (fun i wr => ∃ (k : Nat) (vs : Nat → Value), k ≤ 8 ∧ i = .int .i64 k ∧ Hid (MadeI w m _ k vs wr)) (fun i _ => 8 - (intOf i).toNat)
    case atStart =>
      refine ⟨0, fun _ => .slice none 0 0, by omega, rfl, Lib.hid ⟨fun i hi => by omega, ?_, ?_, pk_start ?_, ?_⟩⟩
      · first
          | exact blk_alloc (blk_alloc (blk_new w _) _) _
          | exact blk_alloc (blk_far (blk_alloc (blk_new w _) _) (by simp) _) _
      · exact new_at (by simp)
      · first
          | exact blk_alloc (new_at (by simp)) _
          | exact blk_alloc (blk_set (new_at (by simp)) 2 _) _
      · first
          | exact below_alloc (below_alloc (below_alloc (Below.refl _ _) _) _) _
          | exact below_alloc (Below.setCell (below_alloc (below_alloc (Below.refl _ _) _) _) (by simp) _) _
    case round =>
      obtain ⟨k, vs, hk, rfl, hJ⟩ := hrel
      by_cases hlt : k < 8
      · obtain ⟨q0, q1⟩ := fCells_at hJ.out.fs k hlt
        have hbX : IsM wr b n m := HI.out.block (hJ.out.below.block b hbl)
        have HB := Lib.hid hbX
        have hms := HM.out (fName k)
        have hXs : w.heap.size + 3 ≤ wr.heap.size := by have := blk_lt hJ.out.fs; omega
        clear hbX
        rcases hro : relOk (mget m (fName k)) with _ | _
        · have HR := Lib.hid hro
          clear hro
          go_wp2_with (first
            | (at_lookup; refine wpList_lookM rfl _ _ rfl b n m rfl (HB.out.kept (World.grownBy_alloc wr _ none) (by simp)) _ rfl (fName_le k) ?_)
            | (go_at_call 26; refine (rel_no _ HR.out hms _ (HT.out.below (below_alloc hJ.out.below _))).mono ?_; rintro e w2 ⟨rfl, hb⟩; have r2 := blk_below (blk_alloc hJ.out.res _) hb; have HB2 := Lib.hid hb; clear hb; have y0 : w2.cell? ⟨w.heap.size, 0, none⟩ = some (.string ⟨#[]⟩) := blk_cell r2 0; have g0 := blk_frozen r2 0; have y1 : w2.cell? ⟨w.heap.size, 1, none⟩ = some (.string ⟨#[]⟩) := blk_cell r2 1; have g1 := blk_frozen r2 1; have y2 : w2.cell? ⟨w.heap.size, 2, none⟩ = some (.string ⟨#[]⟩) := blk_cell r2 2; have g2 := blk_frozen r2 2; have y3 : w2.cell? ⟨w.heap.size, 3, none⟩ = some (.string ⟨#[]⟩) := blk_cell r2 3; have g3 := blk_frozen r2 3; have y4 : w2.cell? ⟨w.heap.size, 4, none⟩ = some (.slice none 0 0) := blk_cell r2 4; have g4 := blk_frozen r2 4; have y5 : w2.cell? ⟨w.heap.size, 5, none⟩ = some (.slice none 0 0) := blk_cell r2 5; have g5 := blk_frozen r2 5; have y6 : w2.cell? ⟨w.heap.size, 6, none⟩ = some (.slice none 0 0) := blk_cell r2 6; have g6 := blk_frozen r2 6; have y7 : w2.cell? ⟨w.heap.size, 7, none⟩ = some (.slice none 0 0) := blk_cell r2 7; have g7 := blk_frozen r2 7; have y8 : w2.cell? ⟨w.heap.size, 8, none⟩ = some (.slice none 0 0) := blk_cell r2 8; have g8 := blk_frozen r2 8; have y9 : w2.cell? ⟨w.heap.size, 9, none⟩ = some (.slice none 0 0) := blk_cell r2 9; have g9 := blk_frozen r2 9; have y10 : w2.cell? ⟨w.heap.size, 10, none⟩ = some (.slice none 0 0) := blk_cell r2 10; have g10 := blk_frozen r2 10; have y11 : w2.cell? ⟨w.heap.size, 11, none⟩ = some (.slice none 0 0) := blk_cell r2 11; have g11 := blk_frozen r2 11))
          refine bodyPost_ret (v := .tuple #[.agg zPk, .int .i64 120]) ?ga ?gb ?gc
          case ga => exact results_ct Tryd.results12 _ _ w.heap.size 34 zPk (0, 0) _ rfl (blk_set (blk_set (blk_set (blk_set (blk_set (blk_set (blk_set (blk_set (blk_set (blk_set (blk_set (blk_set r2 0 _) 1 _) 2 _) 3 _) 4 _) 5 _) 6 _) 7 _) 8 _) 9 _) 10 _) 11 _) Tryd.underlying34 rfl (by kernel_rfl)
          case gb => rfl
          case gc =>
            have hz : madeErr m = 120 := by
              unfold madeErr
              rw [made_no m k hlt HR.out]
              rfl
            refine ⟨?_, .inr ⟨by rw [hz]; decide, zPk, ⟨_, _, _, _, _, _, _, _, _, _, _, _, _, _, _, _, _, _, _, _, _, _, _, _, _, _, _, _, rfl⟩, by rw [hz]⟩⟩
            have HBW := Lib.hid (below_then (below_alloc hJ.out.below _) (by simp; omega) HB2.out)
            repeat (first | (with_reducible exact HBW.out) | ((with_reducible refine below_set ?_ ?_); rotate_left; first | exact Nat.le_refl _ | omega))
        · have HR := Lib.hid hro
          clear hro
          go_wp2_with (first
            | (at_lookup; refine wpList_lookM rfl _ _ rfl b n m rfl (HB.out.kept (World.grownBy_alloc wr _ none) (by simp)) _ rfl (fName_le k) ?_)
            | (go_at_call 26; refine (rel_yes _ HR.out hms _ (HT.out.below (below_alloc hJ.out.below _))).mono ?_; rintro e w2 ⟨⟨A, c, rfl, hR⟩, hb⟩))
          have f0 : w2.heap[wr.heap.size]? = some (.cells #[.string (fName k), .func (.func (fFun k)) #[] #[]] 61 (0, 0)) := blk_below (blk_new _ _) hb
          have hPk := (hJ.out.pk.below (below_alloc (Below.refl _ _) (.cells #[.string (fName k), .func (.func (fFun k)) #[] #[]] 61))).below hb
          have hB2 := below_then (below_alloc hJ.out.below (.cells #[.string (fName k), .func (.func (fFun k)) #[] #[]] 61)) (by simp; omega) hb
          have hres := blk_below (blk_alloc hJ.out.res _) hb
          have hfs := blk_below (blk_alloc hJ.out.fs _) hb
          have hz2 : wr.heap.size + 1 ≤ w2.heap.size := by have := hb.size; simpa using this
          refine wp_region_held_drew (S := fun Y => Y.cell? ⟨wr.heap.size, 1, none⟩ = some (.func (.func (fFun k)) #[] #[])) (by kernel_rfl) (blk_cell f0 1) (fun hS => ?_)
          have hd := below_drew (Below.refl w2.heap.size w2)
          replace f0 := blk_drew f0
          replace hPk := hPk.below hd
          replace hB2 := below_drew hB2
          replace hres := blk_drew hres
          replace hfs := blk_drew hfs
          replace hR := Kd.R_below hR hd
          replace hz2 : wr.heap.size + 1 ≤ w2.drew.heap.size := hz2
          clear hb hd q0 q1
          generalize w2.drew = X3 at *
          refine wpAnyH_take (i := 0) (v := .pointer (some ⟨wr.heap.size, 1, none⟩)) rfl (by kernel_rfl) (by kernel_rfl) (by kernel_rfl) (fun _ _ _ h => h) (Or.inl ⟨by rfl, by intro Y hY; go_simp⟩) hS ?_
          simp only [Act.put, List.setIfInBounds_toArray, List.set_cons_zero, List.set_cons_succ]
          refine wpAnyH_take (i := 1) (v := .func (.func (fFun k)) #[] #[]) rfl (by kernel_rfl) (by kernel_rfl) (by kernel_rfl) (fun _ _ _ h => h) (Or.inl ⟨by rfl, by intro Y hY; go_simp⟩) hS ?_
          simp only [Act.put, List.setIfInBounds_toArray, List.set_cons_zero, List.set_cons_succ]
          refine wpAnyH_take (i := 3) (v := .pointer (some ⟨wr.heap.size, 1, none⟩)) rfl (by kernel_rfl) (by kernel_rfl) (by kernel_rfl) (fun _ _ _ h => h) (Or.inl ⟨by rfl, by intro Y hY; go_simp⟩) hS ?_
          simp only [Act.put, List.setIfInBounds_toArray, List.set_cons_zero, List.set_cons_succ]
          refine wpAnyH_take (i := 4) (v := .func (.func (fFun k)) #[] #[]) rfl (by kernel_rfl) (by kernel_rfl) (by kernel_rfl) (fun _ _ _ h => h) (Or.inl ⟨by rfl, by intro Y hY; go_simp⟩) hS ?_
          simp only [Act.put, List.setIfInBounds_toArray, List.set_cons_zero, List.set_cons_succ]
          refine wpAnyH_take (i := 8) (v := .slice A (relF (mget m (fName k))).length c) rfl (by kernel_rfl) (by kernel_rfl) (by kernel_rfl) (fun _ _ _ h => h) (Or.inl ⟨by rfl, by intro Y hY; go_simp⟩) hS ?_
          simp only [Act.put, List.setIfInBounds_toArray, List.set_cons_zero, List.set_cons_succ]
          refine wpAnyH_ready (rs := [2]) (by kernel_rfl) (by simp) ?_
          refine AllReadyH.cons rfl (fun K hK => ?_) AllReadyH.nil
          have eg := fFun_enter k hlt
          go_simp
          refine (fFun_calls k hlt _ _).mono ?_
          rintro e w4 ⟨rfl, e4⟩
          subst w4
          go_simp
          refine hK.out _ _ hS (fun _ => ?_)
          clear hK
          refine wpAnyH_ready (rs := [5]) (by kernel_rfl) (by simp) ?_
          refine AllReadyH.cons rfl (fun K hK => ?_) AllReadyH.nil
          go_simp
          refine (fFun_calls k hlt _ _).mono ?_
          rintro e w4 ⟨rfl, e4⟩
          subst w4
          go_simp
          refine hK.out _ _ hS (fun _ => ?_)
          clear hK
          refine wpAnyH_take (i := 6) (v := .pointer (some ⟨w.heap.size + 1, fOff k, none⟩)) rfl (by kernel_rfl) (by kernel_rfl) (by kernel_rfl) (fun _ _ _ h => h) (Or.inl ⟨by rfl, by intro Y hY; go_simp⟩) hS ?_
          simp only [Act.put, List.setIfInBounds_toArray, List.set_cons_zero, List.set_cons_succ]
          obtain ⟨r4, r10⟩ := fOff_range k
          have hvR := hPk.2 _ r4 r10
          obtain ⟨Ao, co, hvs⟩ := Kd.R_slice hvR
          have cj : X3.cell? ⟨w.heap.size + 1, fOff k, none⟩ = some (vs (fOff k)) := by
            rw [blk_cell hPk.1]
            have : fOff k = 4 ∨ fOff k = 5 ∨ fOff k = 6 ∨ fOff k = 7 ∨ fOff k = 8 ∨ fOff k = 9 ∨ fOff k = 10 := by omega
            rcases this with e | e | e | e | e | e | e <;> rw [e] <;> rfl
          have cjf := blk_frozen hPk.1 (fOff k)
          rw [hvs] at cj hvR
          refine wpAnyH_ready (rs := [7]) (by kernel_rfl) (by simp) ?_
          refine AllReadyH.cons rfl (fun K hK => ?_) AllReadyH.nil
          go_simp
          refine hK.out _ _ hS (fun _ => ?_)
          clear hK
          refine wpAnyH_ready (rs := [9]) (by kernel_rfl) (by simp) ?_
          refine AllReadyH.cons rfl (fun K hK => ?_) AllReadyH.nil
          have hRb := Kd.R_bound (Kd.R_lower hR (show w.heap.size + 3 ≤ _ by simp; omega))
          obtain ⟨A', c', he', _, hrd⟩ := OwnRow.reads hRb.2
          injection he' with h1 h2 h3
          subst h1
          subst h3
          have hcl := cont_len m HM.out k (fOff k)
          have hrl := relF_len (mget m (fName k))
          have hown : some wr.heap.size ≠ (Value.slice Ao (cont m k (fOff k)).length co).ownBlock := by
            obtain ⟨inner, ho⟩ := Kd.R_own hvR
            exact own_ne ho f0 (by decide)
          have hownB : some (w.heap.size + 1) ≠ (Value.slice Ao (cont m k (fOff k)).length co).ownBlock := by
            rw [← hvs]
            exact fun e => (hPk.own _ r4 r10 _ e.symm).2.1 rfl
          have hownL : ∀ j, j < w.heap.size + 3 → some j ≠ (Value.slice Ao (cont m k (fOff k)).length co).ownBlock := by
            rw [← hvs]
            exact fun j hj e => by have := (hPk.own _ r4 r10 _ e.symm).1; omega
          refine Kd.R_append_rows_step (w0 := X3) k36 (w.heap.size + 3) (by rfl) (.tmp 46) (.tmp 47) 32 36 (.agg #[.int .i64 0, .string ⟨#[]⟩, .int .i64 0, .string ⟨#[]⟩, .slice none 0 0]) 72 rfl Tryd.underlying32 infoDep rfl (by decide) (by decide)
            (.slice Ao (cont m k (fOff k)).length co) (cont m k (fOff k)) (relF (mget m (fName k))) A (relF (mget m (fName k))).length c (okAt (w.heap.size + 3) (w.heap.size + 1) vs (fOff k)) (fun i => wr.heap.size + 1 ≤ i ∧ i < X3.heap.size) rfl rfl hvR hrd
            (fun x cs h => Kd.M_mono _ (fun i hi => ?hq) h) ?hokp ?hfresh (Below.refl _ _) (by omega) (by omega) ?_
          case hq => exact ⟨by have := hi.1.1; simpa using this, hi.1.2.2.1⟩
          case hokp =>
            rintro i ⟨h1, h2⟩
            refine ⟨⟨by omega, by omega, fun j h4 h10 _ e => ?_⟩, fun e => ?_⟩
            · have := (hJ.out.pk.own j h4 h10 _ e.symm).2.2; omega
            · rw [← hvs] at e
              have := (hJ.out.pk.own _ r4 r10 _ e.symm).2.2; omega
          case hfresh =>
            intro i h1
            exact ⟨by omega, by omega, fun j h4 h10 _ e => by have := (hJ.out.pk.own j h4 h10 _ e.symm).2.2; omega⟩
          intro v1 w1 hv1 hb1 hg1 hat1
          obtain ⟨A1, c1, rfl⟩ := Kd.R_slice hv1
          simp only [List.length_append] at hv1 hat1 ⊢
          have f1 := blk_grown f0 hg1 hown
          have p1 := blk_grown hPk.1 hg1 hownB
          have hS1 : w1.cell? ⟨wr.heap.size, 1, none⟩ = some (.func (.func (fFun k)) #[] #[]) := blk_cell f1 1
          have cj1 : (w1.cell? ⟨w.heap.size + 1, fOff k, none⟩).isSome = true := by
            rw [blk_cell p1]
            have : fOff k = 4 ∨ fOff k = 5 ∨ fOff k = 6 ∨ fOff k = 7 ∨ fOff k = 8 ∨ fOff k = 9 ∨ fOff k = 10 := by omega
            rcases this with e | e | e | e | e | e | e <;> rw [e] <;> rfl
          obtain ⟨ov, cj2⟩ := Option.isSome_iff_exists.1 cj1
          have cj2f := blk_frozen p1 (fOff k)
          simp only [Act.put, List.setIfInBounds_toArray, List.set_cons_zero, List.set_cons_succ]
          refine hK.out _ _ hS1 (fun _ => ?_)
          clear hK cj cjf cj1 hS
          refine wpAnyH_take (i := 10) (v := .pointer (some ⟨w.heap.size + 1, fOff k, none⟩)) rfl (by kernel_rfl) (by kernel_rfl) (by kernel_rfl) (fun _ _ _ h => h) (Or.inl ⟨by rfl, by intro Y hY; go_simp⟩) hS1 ?_
          simp only [Act.put, List.setIfInBounds_toArray, List.set_cons_zero, List.set_cons_succ]
          refine wpAnyH_ready (rs := [11]) (by kernel_rfl) (by simp) ?_
          refine AllReadyH.cons rfl (fun K hK => ?_) AllReadyH.nil
          go_simp
          refine hK.out _ _ ?hS2 (fun _ => ?_)
          case hS2 =>
            rw [World.cell?_setCell_far _ _ _ _ (by simp; omega)]
            exact hS1
          clear hK
          refine wpAnyH_done (by kernel_rfl) ?_ _
          have hPk2 := PkSt.put (v := .slice A1 ((cont m k (fOff k)).length + (relF (mget m (fName k))).length) c1) (Y := w1.setCell ⟨w.heap.size + 1, fOff k, none⟩ (.slice A1 ((cont m k (fOff k)).length + (relF (mget m (fName k))).length) c1)) hPk (by rw [hvs]; exact hg1) (fun i hi => Below.heap_setCell _ _ _ i hi) (fun cs h => blk_set h _ _) hv1 (by rw [hvs]; exact hat1)
          have hI2 := Lib.hid (MadeI.mk (s2 := _) (fun i hi => by
              rcases Nat.lt_succ_iff_lt_or_eq.1 hi with h | h
              · exact hJ.out.ok i h
              · rw [h]; exact HR.out) ((Below.heap_setCell _ _ _ _ (by show ¬ w.heap.size = w.heap.size + 1; omega)).trans (blk_grown hres hg1 (hownL _ (by omega)))) ((Below.heap_setCell _ _ _ _ (by show ¬ w.heap.size + 2 = w.heap.size + 1; omega)).trans (blk_grown hfs hg1 (hownL _ (by omega)))) hPk2 ((hB2.grown hg1 (Nat.le_trans (by omega) hz2) (fun j e => by
                rcases Nat.lt_or_ge j (w.heap.size + 3) with h | h
                · exact absurd e.symm (hownL j h)
                · omega)).setCell (by show w.heap.size ≤ w.heap.size + 1; omega) _))
          clear hPk hPk2 hv1 hvR hres hfs hB2 hRb hrd hat1 hg1 hb1 p1 f1 f0 hR
          go_wp2
          go_roundw
          case rel => exact ⟨k + 1, _, by omega, by go_num, hI2⟩
          case measure => simp [intOf]; omega
      · obtain rfl : k = 8 := by omega
        have hpk : PkSt (w.heap.size + 3) (w.heap.size + 1) m (mget m nPackage) (mget m nVersion) (archF (mget m nArchitecture)) (mget m nOrigin) 8 vs wr := by
          rw [HS2.out]
          exact hJ.out.pk
        have hM8 := hpk.made
        obtain ⟨CS, hCS⟩ : ∃ CS, CS = (pkCells (mget m nPackage) (mget m nVersion) (archF (mget m nArchitecture)) (mget m nOrigin) vs) := ⟨_, rfl⟩
        have hrow := hpk.1
        have hsz : CS.size = 12 := by rw [hCS]; rfl
        have hone : CS.all (·.oneCell') = true := by
          have hall := k34.K_one (k34.K_of_M hM8)
          rw [hCS]
          exact all_oneCell_toArray (cs := (pkCells (mget m nPackage) (mget m nVersion) (archF (mget m nArchitecture)) (mget m nOrigin) vs).toList) hall
        rw [← hCS] at hM8 hrow
        clear hCS
        have hPV := pkg_v hM8
        have hShape := shape_of hM8
        have hok := hJ.out.ok
        have hres := hJ.out.res
        have hB := hJ.out.below
        go_wp2
        refine wp_region_held_drew (S := fun Y => Y.heap[w.heap.size + 1]? = some (.cells CS 34 (0, 0))) (by kernel_rfl) hrow (fun hS => ?_)
        have hd := below_drew (Below.refl wr.heap.size wr)
        replace hres := blk_drew hres
        replace hB := below_drew hB
        replace hM8 := Kd.M_below hM8 hd
        have hPV2 := pkg_v hM8
        clear hrow hd hpk hPV hJ
        have hrng : ∀ Y : World, Y.heap[w.heap.size + 1]? = some (.cells CS 34 (0, 0)) → Y.rangeAt (w.heap.size + 1) 0 CS.toList := fun Y hY j v hv => by
          rw [Nat.zero_add, blk_cell hY]
          simpa using hv
        have hi34 : (Tryd.prog.info? 34).map (·.size) = some CS.toList.length := by
          rw [Array.length_toList, hsz]
          kernel_rfl
        generalize wr.drew = X3 at *
        refine wpAnyH_take (i := 0) (v := .agg CS) rfl (by kernel_rfl) (by kernel_rfl) (by kernel_rfl) (fun _ _ _ h => h) ?_ hS ?_
        · exact yieldsIf_load_mid (by rfl) 34 (.tmp 4) rfl (w.heap.size + 1) 0 rfl CS.toList _ hrng Tryd.underlying34 rfl hi34
        simp only [Act.put, List.setIfInBounds_toArray, List.set_cons_zero, List.set_cons_succ]
        refine wpAnyH_take (i := 1) (v := .agg CS) rfl (by kernel_rfl) (by kernel_rfl) (by kernel_rfl) (fun _ _ _ h => h) ?_ hS ?_
        · exact yieldsIf_load_mid (by rfl) 34 (.tmp 4) rfl (w.heap.size + 1) 0 rfl CS.toList _ hrng Tryd.underlying34 rfl hi34
        simp only [Act.put, List.setIfInBounds_toArray, List.set_cons_zero, List.set_cons_succ]
        refine wpAnyH_ready (rs := [2]) (by kernel_rfl) (by simp) ?_
        refine AllReadyH.cons rfl (fun K hK => ?_) AllReadyH.nil
        go_simp
        refine (pool_check (pkgF m) (pkg_wf m) (.agg CS) X3 hPV2).mono ?_
        rintro e w5 ⟨rfl, hb5⟩
        go_simp
        have hS5 := blk_below hS hb5
        have hres5 := blk_below hres hb5
        refine hK.out _ _ hS5 (fun _ => ?_)
        clear hK
        refine wpAnyH_ready (rs := [3]) (by kernel_rfl) (by simp) ?_
        refine AllReadyH.cons rfl (fun K hK => ?_) AllReadyH.nil
        rw [if_pos (by rfl)]
        refine wp_store_row 34 (.tmp 2) (.tmp 51) rfl w.heap.size CS rfl rfl 34 zPk hres5 (by rw [hsz]; kernel_rfl) (by rw [hsz]; rfl) hone ?_
        simp only [Act.put, List.setIfInBounds_toArray, List.set_cons_zero, List.set_cons_succ]
        have hres6 := setRow_heap w5 w.heap.size _ CS _ _ hres5
        refine hK.out _ _ ((setRow_other w5 w.heap.size _ CS (by omega)).trans hS5) (fun _ => ?_)
        clear hK
        refine wpAnyH_take (i := 4) (v := .int .i64 (chkErr (pkgF m))) rfl (by kernel_rfl) (by kernel_rfl) (by kernel_rfl) (fun _ _ _ h => h) (Or.inl ⟨by rfl, by intro Y hY; go_simp⟩) ((setRow_other w5 w.heap.size _ CS (by omega)).trans hS5) ?_
        simp only [Act.put, List.setIfInBounds_toArray, List.set_cons_zero, List.set_cons_succ]
        refine wpAnyH_done (by kernel_rfl) ?_ _
        simp only [Act.put, List.getElem_toArray, List.getElem_cons_succ, List.getElem_cons_zero, List.setIfInBounds_toArray, List.set_cons_zero, List.set_cons_succ]
        go_wp2
        refine bodyPost_ret (v := .tuple #[.agg CS, .int .i64 (chkErr (pkgF m))]) ?ga ?gb ?gc
        case ga => exact results_ct Tryd.results12 _ _ w.heap.size 34 CS (0, 0) _ (by rfl) hres6 Tryd.underlying34 rfl (by rw [hsz]; kernel_rfl)
        case gb => rfl
        case gc =>
          have hme : madeErr m = chkErr (pkgF m) := by
            unfold madeErr
            rw [made_yes m hok]
            rfl
          have hM5 := Kd.M_below hM8 hb5
          have hM6 := Kd.M_step (w1 := w5.setRow w.heap.size CS) hM5 (fun j hj _ => setRow_other w5 w.heap.size j CS (by omega))
          have hM7 := k34.M_mono (ok' := fun j => w.heap.size ≤ j) (fun j hj => by omega) (k34.M_lower (show w.heap.size ≤ w.heap.size + 3 by omega) hM6)
          refine ⟨below_setRow (below_then hB hB.size hb5) (Nat.le_refl _) _, ?_⟩
          by_cases h0 : chkErr (pkgF m) = 0
          · exact .inl ⟨hme.trans h0, CS, by rw [h0], hM7⟩
          · exact .inr ⟨by rw [hme]; exact h0, CS, hShape, by rw [hme]⟩
theorem made_ok (m : Mp) (b n : Nat) (h : madeErr m = 0) (hm : ∀ k, (mget m k).size ≤ 1000000) (w : World) (hI : IsM w b n m) (hT : Tabs w) : Calls Tryd.prog 12 #[.map (some b)] w fun e w' =>
    (∃ cs : Array Value, PkShape cs ∧ e = .returned (.tuple #[.agg cs, .int .i64 0]) ∧ k34.M w' w.heap.size (fun k => w.heap.size ≤ k) (pkgF m) cs.toList) ∧ Below w.heap.size w w' := by
  refine (made_calls m b n hm w hI hT).mono ?_
  rintro e w' ⟨hb, ⟨_, cs, rfl, hM⟩ | ⟨h1, _⟩⟩
  · exact ⟨⟨cs, shape_of hM, rfl, hM⟩, hb⟩
  · exact absurd h h1
theorem made_bad (m : Mp) (b n : Nat) (h : madeErr m ≠ 0) (hm : ∀ k, (mget m k).size ≤ 1000000) (w : World) (hI : IsM w b n m) (hT : Tabs w) : Calls Tryd.prog 12 #[.map (some b)] w fun e w' =>
    (∃ cs : Array Value, PkShape cs ∧ e = .returned (.tuple #[.agg cs, .int .i64 (madeErr m)])) ∧ Below w.heap.size w w' := by
  refine (made_calls m b n hm w hI hT).mono ?_
  rintro e w' ⟨hb, ⟨h1, _⟩ | ⟨_, cs, hs, rfl⟩⟩
  · exact absurd h1 h
  · exact ⟨⟨cs, hs, rfl⟩, hb⟩
end Go.Proofs.YtmclfdonoldlpaaDoor.Own
