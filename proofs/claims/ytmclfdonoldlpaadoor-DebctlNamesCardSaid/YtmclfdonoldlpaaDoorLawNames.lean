/- DebctlNames: the call answers true, whatever the input; the variables unicode/utf8.first and acceptRanges as the program's text lays them. -/
import Derived.Test.YtmclfdonoldlpaaDoorRowBase
import Derived.Test.YtmclfdonoldlpaaDoorCards
import Derived.Test.YtmclfdonoldlpaaDoorTie
namespace Go.Proofs.YtmclfdonoldlpaaDoor
open Go.ChangeShapes Go.WideShapes Go.ChangeAt Go.RowKit Go.Lib
open Go.Proofs.YtmclfdonoldlpaaDoor.Own
open Go.ChangeMaps (open_string shut_string)
set_option linter.unusedVariables false

theorem names_calls (w : World) (hT : Tabs w) : Calls Tryd.prog 3 #[] w fun e w' => e = .returned (.bool true) ∧ Below w.heap.size w w' := by
  have HT := Lib.hid hT
  clear hT
  go_enter Tryd.func3, Tryd.ntmps3
  go_wp2_with (go_at_call 6; refine (awake_calls w HT.out).mono ?_; rintro e w1 ⟨rfl, hb1⟩)
  go_ret
  exact ⟨rfl, hb1⟩

theorem names_witness (os : Os) {H : Type} (enc : TypeId × Value → H) :
    (OpenSpec.ofChange Rows.debctlNamesSpec).preRow enc Tryd.prog Tryd.f3 Rows.debctlNamesRow.domain false Rows.debctlNamesRow.laid ((laidWorld os).forCall (fun _ _ => 0) ⟨#[], #[], []⟩).memory #[] := by
  have hw : (DataW.whole enc Tryd.prog ((laidWorld os).forCall (fun _ _ => 0) ⟨#[], #[], []⟩).memory Tryd.f3.params.toList (OpenSpec.ofChange Rows.debctlNamesSpec).vars false (#[] : Array Value).toList 8).map (fun x => (x.1, x.2.1)) =
      some ([], []) := by kernel_rfl
  obtain ⟨⟨x1, x2, x3⟩, hx, hx1⟩ := Option.map_eq_some_iff.1 hw
  simp only [Prod.mk.injEq] at hx1
  obtain ⟨rfl, rfl⟩ := hx1
  exact OpenSpec.preRow_of_cond 8 hx (by kernel_rfl) (fun k hk => by cases hk) (by kernel_rfl) (laid_met os _)

set_option maxRecDepth 100000 in
set_option maxHeartbeats 2000000 in
theorem names_lifted (os : Os) (started : os.Started) (H : Type) (enc : TypeId × Value → H) (F : Stop.Interp) :
    ReturnsInHanded {} Tryd.checked os 3 .any ((OpenSpec.ofChange Rows.debctlNamesSpec).preRow enc Tryd.prog Tryd.f3 Rows.debctlNamesRow.domain false Rows.debctlNamesRow.laid) (((OpenSpec.ofChange Rows.debctlNamesSpec).at F).post enc Tryd.prog Tryd.f3 false true false false) := by
  refine returnsInHanded_of_row (C := Tryd.checked) (s := OpenSpec.ofChange Rows.debctlNamesSpec) ownNone started (by kernel_rfl) Tryd.func3
    (witness_row_atRef (enc := enc) (C := Tryd.checked) false (laidWorld os) #[] rfl (by kernel_rfl) (by kernel_rfl) (by kernel_rfl) (names_witness os enc)) ?_
  intro W base args ds gs before hval0 hW _ _ _ hL _ _
  have hW' := hW
  obtain ⟨p, q, hA0, hV0, rfl, _, _⟩ := hW
  have hA : DataW.TrodAll enc Tryd.prog W 0 (fun _ => true) true Tryd.f3.params.toList args.toList ds p := hA0
  rw [Tryd.params3] at hA
  obtain ⟨rfl, rfl, rfl⟩ : args = #[] ∧ ds = [] ∧ p = [] := by
    rcases args with ⟨args⟩
    cases args with
    | nil => cases ds with
      | nil => exact ⟨rfl, rfl, by simpa [DataW.TrodAll] using hA⟩
      | cons d r => simp [DataW.TrodAll] at hA
    | cons v r => simp [DataW.TrodAll] at hA
  obtain ⟨rfl, rfl⟩ := trodVars_none hV0
  clear hA0 hV0
  have htab : Tabs W := tabs_of hL
  refine (names_calls W htab).mono ?_
  rintro e W' ⟨rfl, bel⟩
  refine ⟨_, rfl, _, _, _, [], [], [], hW', ?_, ?_, ?_, bel.frame _, fun h => by cases h⟩
  · exact trodAll_mk1 (shut_bool Tryd.underlying4 _)
  · rw [show Tryd.f3.params = #[] from Tryd.params3]
    first
      | rfl
      | exact trivial
      | simp [DataW.TrodAll, OpenSpec.ofChange, OpenSpec.at, Rows.debctlNamesSpec]
  · rfl

theorem names_row : Rows.DebctlNamesSaid :=
  OpenClaim.holds_of_cond 3 Tryd.f3 rfl rfl rfl rfl rfl rfl rfl ⟨rfl, rfl, rfl, rfl, rfl⟩ rfl rfl rfl rfl rfl (by kernel_rfl) Tryd.func3 (by kernel_rfl)
    (of_decide_eq_true (by kernel_rfl)) (by unfold Func.isWrapper; rw [if_neg (of_decide_eq_false (by kernel_rfl))]; exact ⟨rfl, rfl⟩)
    (fun os started H enc _ F0 => by rw [OpenClaim.pre_eq_preRow]; exact names_lifted os started H enc F0)
/-- THE TIED CARD. -/
theorem names_card : Rows.DebctlNamesCardSaid :=
  Claim7.holds_tied_plain_at .later [] [.data, .pinned] true (true, "946ea47ef1ddae858c6895542ee08f5260b155228c2927d4d17f4a8784a61b6f") false
    names_row (fun _ h => by cases h) (by kernel_rfl) (fun _ h => by cases h) debctlNames_row_tie rfl ⟨rfl, rfl⟩ (by kernel_rfl) rfl
    (fun f fn hf hfn => by
      obtain rfl : f = 3 := Option.some.inj ((show Tryd.prog.funcNamed "chandler/chandlerlaw12.DebctlNames" = some 3 by kernel_rfl).symm.trans hf) |>.symm
      obtain rfl : fn = Tryd.f3 := (Option.some.inj (Tryd.func3.symm.trans hfn)).symm
      exact ⟨by kernel_rfl, fun j t ht => by
        rw [Tryd.params3] at ht
        simp at ht⟩)
    (by kernel_rfl)
#print axioms names_card
end Go.Proofs.YtmclfdonoldlpaaDoor
