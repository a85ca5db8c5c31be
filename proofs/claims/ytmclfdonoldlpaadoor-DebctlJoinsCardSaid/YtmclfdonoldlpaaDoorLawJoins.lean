/- DebctlJoins: the call answers true, whatever the input; the variables unicode/utf8.first and acceptRanges as the program's text lays them. -/
import Derived.Test.YtmclfdonoldlpaaDoorRowBase
import Derived.Test.YtmclfdonoldlpaaDoorJoins
import Derived.Test.YtmclfdonoldlpaaDoorCards
import Derived.Test.YtmclfdonoldlpaaDoorTie
namespace Go.Proofs.YtmclfdonoldlpaaDoor
open Go.ChangeShapes Go.WideShapes Go.ChangeAt Go.RowKit Go.Lib
open Go.Proofs.YtmclfdonoldlpaaDoor.Own
open Go.ChangeMaps (open_string shut_string)
set_option linter.unusedVariables false

theorem joins_witness (os : Os) {H : Type} (enc : TypeId × Value → H) :
    (OpenSpec.ofChange Rows.debctlJoinsSpec).preRow enc Tryd.prog Tryd.f4 Rows.debctlJoinsRow.domain false Rows.debctlJoinsRow.laid ((laidWorld os).forCall (fun _ _ => 0) ⟨#[], #[.string ⟨#[]⟩, .string ⟨#[]⟩], []⟩).memory #[.string ⟨#[]⟩, .string ⟨#[]⟩] := by
  have hw : (DataW.whole enc Tryd.prog ((laidWorld os).forCall (fun _ _ => 0) ⟨#[], #[.string ⟨#[]⟩, .string ⟨#[]⟩], []⟩).memory Tryd.f4.params.toList (OpenSpec.ofChange Rows.debctlJoinsSpec).vars false (#[.string ⟨#[]⟩, .string ⟨#[]⟩] : Array Value).toList 8).map (fun x => (x.1, x.2.1)) =
      some ([.lit (.string []), .lit (.string [])], []) := by kernel_rfl
  obtain ⟨⟨x1, x2, x3⟩, hx, hx1⟩ := Option.map_eq_some_iff.1 hw
  simp only [Prod.mk.injEq] at hx1
  obtain ⟨rfl, rfl⟩ := hx1
  exact OpenSpec.preRow_of_cond 8 hx (by kernel_rfl) (fun k hk => by cases hk) (by kernel_rfl) (laid_met os _)

set_option maxRecDepth 100000 in
set_option maxHeartbeats 2000000 in
theorem joins_lifted (os : Os) (started : os.Started) (H : Type) (enc : TypeId × Value → H) (F : Stop.Interp) :
    ReturnsInHanded {} Tryd.checked os 4 .any ((OpenSpec.ofChange Rows.debctlJoinsSpec).preRow enc Tryd.prog Tryd.f4 Rows.debctlJoinsRow.domain false Rows.debctlJoinsRow.laid) (((OpenSpec.ofChange Rows.debctlJoinsSpec).at F).post enc Tryd.prog Tryd.f4 false true false false) := by
  refine returnsInHanded_of_row (C := Tryd.checked) (s := OpenSpec.ofChange Rows.debctlJoinsSpec) ownNone started (by kernel_rfl) Tryd.func4
    (witness_row_atRef (enc := enc) (C := Tryd.checked) false (laidWorld os) #[.string ⟨#[]⟩, .string ⟨#[]⟩] rfl (by kernel_rfl) (by kernel_rfl) (by kernel_rfl) (joins_witness os enc)) ?_
  intro W base args ds gs before hval0 hW _ _ hsz hL _ _
  have hval : ∀ (j : Nat) t v, Tryd.f4.params[j]? = some t → args[j]? = some v → Value.okWide Tryd.prog W .any base t v := hval0
  have hW' := hW
  obtain ⟨p, q, hA0, hV0, rfl, _, _⟩ := hW
  have hA : DataW.TrodAll enc Tryd.prog W 0 (fun _ => true) true Tryd.f4.params.toList args.toList ds p := hA0
  rw [Tryd.params4] at hA hval
  obtain ⟨v0, v1, d0, d1, p0, p1, rfl, rfl, rfl, h0, h1⟩ := trodAll_two hA
  obtain ⟨rfl, rfl⟩ := trodVars_none hV0
  obtain ⟨s, rfl, rfl, rfl, ws⟩ := open_string Tryd.underlying9 (hval 0 9 v0 rfl rfl) h0
  obtain ⟨u, rfl, rfl, rfl, wu⟩ := open_string Tryd.underlying9 (hval 1 9 v1 rfl rfl) h1
  clear hA0 hV0 hval0
  have hpar : Tryd.f4.params = #[9, 9] := Tryd.params4
  have z0 : s.data.toList.length ≤ reachBytes := sized_string hsz (j := 0) (t := 9) (by rw [hpar]; rfl) rfl
  have z1 : u.data.toList.length ≤ reachBytes := sized_string hsz (j := 1) (t := 9) (by rw [hpar]; rfl) rfl
  have hrb := reachBytes_lt
  have e0 : s.data.toList.length = s.size := by simp
  have e1 : u.data.toList.length = u.size := by simp
  have htab : Tabs W := tabs_of hL
  refine (joins_calls s u (by omega) (by omega) W htab).mono ?_
  rintro e W' ⟨rfl, bel⟩
  refine ⟨_, rfl, _, _, _, [], [], [], hW', ?_, ?_, ?_, bel.frame _, fun h => by cases h⟩
  · exact trodAll_mk1 (shut_bool Tryd.underlying4 _)
  · rw [hpar]
    exact trodAll_mk2 (shut_string Tryd.underlying9 ws) (shut_string Tryd.underlying9 wu)
  · rfl

theorem joins_row : Rows.DebctlJoinsSaid :=
  OpenClaim.holds_of_cond 4 Tryd.f4 rfl rfl rfl rfl rfl rfl rfl ⟨rfl, rfl, rfl, rfl, rfl⟩ rfl rfl rfl rfl rfl (by kernel_rfl) Tryd.func4 (by kernel_rfl)
    (of_decide_eq_true (by kernel_rfl)) (by unfold Func.isWrapper; rw [if_neg (of_decide_eq_false (by kernel_rfl))]; exact ⟨rfl, rfl⟩)
    (fun os started H enc _ F0 => by rw [OpenClaim.pre_eq_preRow]; exact joins_lifted os started H enc F0)
/-- THE TIED CARD. -/
theorem joins_card : Rows.DebctlJoinsCardSaid :=
  Claim7.holds_tied_plain_at .later [] [.data, .pinned] true (true, "946ea47ef1ddae858c6895542ee08f5260b155228c2927d4d17f4a8784a61b6f") false
    joins_row (fun _ h => by cases h) (by kernel_rfl) (fun _ h => by cases h) debctlJoins_row_tie rfl ⟨rfl, rfl⟩ (by kernel_rfl) rfl
    (fun f fn hf hfn => by
      obtain rfl : f = 4 := Option.some.inj ((show Tryd.prog.funcNamed "chandler/chandlerlaw12.DebctlJoins" = some 4 by kernel_rfl).symm.trans hf) |>.symm
      obtain rfl : fn = Tryd.f4 := (Option.some.inj (Tryd.func4.symm.trans hfn)).symm
      exact ⟨by kernel_rfl, fun j t ht => by
        rw [Tryd.params4] at ht
        have h9 : t = 9 := by
          rcases j with _ | _ | j
          · simpa using ht.symm
          · simpa using ht.symm
          · simp at ht
        subst h9
        exact (show Tryd.prog.wantsStandIn 9 = false by kernel_rfl)⟩)
    (by kernel_rfl)
#print axioms joins_card
end Go.Proofs.YtmclfdonoldlpaaDoor
