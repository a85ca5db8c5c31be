/- DebctlNotes: the call answers true, whatever the input of bulk at most 1048576; the variables unicode/utf8.first and acceptRanges as the program's text lays them. -/
import Derived.Test.YtmclfdonoldlpaaDoorRowBase
import Derived.Test.YtmclfdonoldlpaaDoorNotes
import Derived.Test.YtmclfdonoldlpaaDoorCards
import Derived.Test.YtmclfdonoldlpaaDoorTie
namespace Go.Proofs.YtmclfdonoldlpaaDoor
open Go.ChangeShapes Go.WideShapes Go.ChangeAt Go.RowKit Go.Lib
open Go.Proofs.YtmclfdonoldlpaaDoor.Own
open Go.ChangeMaps (open_string shut_string)
set_option linter.unusedVariables false

theorem notes_witness (os : Os) {H : Type} (enc : TypeId × Value → H) :
    (Rows.OpenSpec.upto Rows.debctlNotesSpec).preRow enc Tryd.prog Tryd.f5 Rows.debctlNotesUptoRow.domain false Rows.debctlNotesUptoRow.laid ((laidWorld os).forCall (fun _ _ => 0) ⟨#[], #[.string ⟨#[]⟩, .string ⟨#[]⟩, .int .i64 0], []⟩).memory #[.string ⟨#[]⟩, .string ⟨#[]⟩, .int .i64 0] := by
  have hw : (DataW.whole enc Tryd.prog ((laidWorld os).forCall (fun _ _ => 0) ⟨#[], #[.string ⟨#[]⟩, .string ⟨#[]⟩, .int .i64 0], []⟩).memory Tryd.f5.params.toList (Rows.OpenSpec.upto Rows.debctlNotesSpec).vars false (#[.string ⟨#[]⟩, .string ⟨#[]⟩, .int .i64 0] : Array Value).toList 8).map (fun x => (x.1, x.2.1)) =
      some ([.lit (.string []), .lit (.string []), .lit (.int .i64 0)], []) := by kernel_rfl
  obtain ⟨⟨x1, x2, x3⟩, hx, hx1⟩ := Option.map_eq_some_iff.1 hw
  simp only [Prod.mk.injEq] at hx1
  obtain ⟨rfl, rfl⟩ := hx1
  exact OpenSpec.preRow_of_cond 8 hx (by kernel_rfl) (fun k hk => by cases hk; kernel_rfl) (by kernel_rfl) (laid_met os _)

set_option maxRecDepth 100000 in
set_option maxHeartbeats 2000000 in
theorem notes_lifted (os : Os) (started : os.Started) (H : Type) (enc : TypeId × Value → H) (F : Stop.Interp) :
    ReturnsInHanded {} Tryd.checked os 5 .any ((Rows.OpenSpec.upto Rows.debctlNotesSpec).preRow enc Tryd.prog Tryd.f5 Rows.debctlNotesUptoRow.domain false Rows.debctlNotesUptoRow.laid) (((Rows.OpenSpec.upto Rows.debctlNotesSpec).at F).post enc Tryd.prog Tryd.f5 false true false false) := by
  refine returnsInHanded_of_row (C := Tryd.checked) (s := Rows.OpenSpec.upto Rows.debctlNotesSpec) ownNone started (by kernel_rfl) Tryd.func5
    (witness_row_atRef (enc := enc) (C := Tryd.checked) false (laidWorld os) #[.string ⟨#[]⟩, .string ⟨#[]⟩, .int .i64 0] rfl (by kernel_rfl) (by kernel_rfl) (by kernel_rfl) (notes_witness os enc)) ?_
  intro W base args ds gs before hval0 hW _ hcond hsz hL _ _
  have hval : ∀ (j : Nat) t v, Tryd.f5.params[j]? = some t → args[j]? = some v → Value.okWide Tryd.prog W .any base t v := hval0
  have hW' := hW
  obtain ⟨p, q, hA0, hV0, rfl, _, _⟩ := hW
  have hA : DataW.TrodAll enc Tryd.prog W 0 (fun _ => true) true Tryd.f5.params.toList args.toList ds p := hA0
  rw [Tryd.params5] at hA hval
  obtain ⟨v0, v1, v2, d0, d1, d2, p0, p1, p2, rfl, rfl, rfl, h0, h1, h2⟩ := trodAll_three hA
  obtain ⟨rfl, rfl⟩ := trodVars_none hV0
  obtain ⟨s, rfl, rfl, rfl, ws⟩ := open_string Tryd.underlying9 (hval 0 9 v0 rfl rfl) h0
  obtain ⟨u, rfl, rfl, rfl, wu⟩ := open_string Tryd.underlying9 (hval 1 9 v1 rfl rfl) h1
  obtain ⟨n, rfl, rfl, rfl, wn⟩ := open_int Tryd.underlying3 (hval 2 3 v2 rfl rfl) h2
  clear hA0 hV0 hval0
  have hpar : Tryd.f5.params = #[9, 9, 3] := Tryd.params5
  have hbk := of_decide_eq_true (hcond _ rfl)
  simp only [Rows.uptoBulkAll, Rows.uptoBulk, List.append_nil] at hbk
  have e0 : s.data.toList.length = s.size := by simp
  have e1 : u.data.toList.length = u.size := by simp
  have htab : Tabs W := tabs_of hL
  have hr : -9223372036854775808 ≤ n ∧ n ≤ 9223372036854775807 := by
    have hmn : IntKind.i64.min = -9223372036854775808 := by kernel_rfl
    simpa [Lit.wf, hmn] using wn
  refine (notes_calls s u n (by omega) (by omega) hr.1 hr.2 W htab).mono ?_
  rintro e W' ⟨rfl, bel⟩
  refine ⟨_, rfl, _, _, _, [], [], [], hW', ?_, ?_, ?_, bel.frame _, fun h => by cases h⟩
  · exact trodAll_mk1 (shut_bool Tryd.underlying4 _)
  · rw [hpar]
    exact trodAll_mk3 (shut_string Tryd.underlying9 ws) (shut_string Tryd.underlying9 wu) (shut_int Tryd.underlying3 wn)
  · rfl

theorem notes_row : Rows.DebctlNotesUptoSaid :=
  OpenClaim.holds_of_cond 5 Tryd.f5 rfl rfl rfl rfl rfl rfl rfl ⟨rfl, rfl, rfl, rfl, rfl⟩ rfl rfl rfl rfl rfl (by kernel_rfl) Tryd.func5 (by kernel_rfl)
    (of_decide_eq_true (by kernel_rfl)) (by unfold Func.isWrapper; rw [if_neg (of_decide_eq_false (by kernel_rfl))]; exact ⟨rfl, rfl⟩)
    (fun os started H enc _ F0 => by rw [OpenClaim.pre_eq_preRow]; exact notes_lifted os started H enc F0)
/-- THE TIED CARD. -/
theorem notes_card : Rows.DebctlNotesUptoCardSaid :=
  Claim7.holds_tied_plain_at .later [] [.data, .pinned] true (true, "946ea47ef1ddae858c6895542ee08f5260b155228c2927d4d17f4a8784a61b6f") false
    notes_row (fun _ h => by cases h) (by kernel_rfl) (fun _ h => by cases h) debctlNotesUpto_row_tie rfl ⟨rfl, rfl⟩ (by kernel_rfl) rfl
    (fun f fn hf hfn => by
      obtain rfl : f = 5 := Option.some.inj ((show Tryd.prog.funcNamed "chandler/chandlerlaw12.DebctlNotes" = some 5 by kernel_rfl).symm.trans hf) |>.symm
      obtain rfl : fn = Tryd.f5 := (Option.some.inj (Tryd.func5.symm.trans hfn)).symm
      exact ⟨by kernel_rfl, fun j t ht => by
        rw [Tryd.params5] at ht
        have h9 : t = 9 ∨ t = 3 := by
          rcases j with _ | _ | _ | j
          · left; simpa using ht.symm
          · left; simpa using ht.symm
          · right; simpa using ht.symm
          · simp at ht
        rcases h9 with rfl | rfl
        · exact (show Tryd.prog.wantsStandIn 9 = false by kernel_rfl)
        · exact (show Tryd.prog.wantsStandIn 3 = false by kernel_rfl)⟩)
    (by kernel_rfl)
#print axioms notes_card
end Go.Proofs.YtmclfdonoldlpaaDoor
