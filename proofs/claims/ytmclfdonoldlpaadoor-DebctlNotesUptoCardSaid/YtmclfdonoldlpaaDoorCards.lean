/-
  DERIVED. GIVEN WITH THE SEED: THE CARDS: each row of YtmclfdonoldlpaaDoorRows.lean that lists a variable, with what it lists TIED to the program's text (the seventh form; the later family's looks); each row that meets fmt, with fmt's text TOLD by the authors' own Lean function (tested against real Go, not proved from fmt's source: count such statements apart). THE CARD IS WHAT COUNTS. Prove the row's statement (the work); the ties are given (YtmclfdonoldlpaaDoorTie.lean); close each card by the builder's one call (the guide's Derived/Test/ToyasCard.lean, 'card_holds'). Laid BY PROGRAM, IN A SANDBOX (cutbox-door.mjs). By AI agents, Wed Nov 11 2026. No macro, syntax, notation, axiom, sorry.
-/
import Derived.Test.YtmclfdonoldlpaaDoorRows
import GoSem.ClaimSeven
namespace Go.Proofs.YtmclfdonoldlpaaDoor
namespace Rows

/-- THE TIED CARD OF 'chandlerlaw12.DebctlNames'. -/
def debctlNamesCard : Claim7 := { stood := { row := debctlNamesRow, standIns := [], harness := (true, "946ea47ef1ddae858c6895542ee08f5260b155228c2927d4d17f4a8784a61b6f"), looks := false }, kinds := [], alts := [], laidByText := true, laidKinds := [.data, .pinned], laidTests := true, laidLooks := .later }
def DebctlNamesCardSaid : Prop := Claim7.holds Tryd.pinned (.plain (OpenSpec.ofChange debctlNamesSpec)) debctlNamesCard

/-- THE TIED CARD OF 'chandlerlaw12.DebctlJoins'. -/
def debctlJoinsCard : Claim7 := { stood := { row := debctlJoinsRow, standIns := [], harness := (true, "946ea47ef1ddae858c6895542ee08f5260b155228c2927d4d17f4a8784a61b6f"), looks := false }, kinds := [], alts := [], laidByText := true, laidKinds := [.data, .pinned], laidTests := true, laidLooks := .later }
def DebctlJoinsCardSaid : Prop := Claim7.holds Tryd.pinned (.plain (OpenSpec.ofChange debctlJoinsSpec)) debctlJoinsCard

/-- THE TIED CARD OF 'chandlerlaw12.DebctlNotes'. -/
def debctlNotesCard : Claim7 := { stood := { row := debctlNotesRow, standIns := [], harness := (true, "946ea47ef1ddae858c6895542ee08f5260b155228c2927d4d17f4a8784a61b6f"), looks := false }, kinds := [], alts := [], laidByText := true, laidKinds := [.data, .pinned], laidTests := true, laidLooks := .later }
def DebctlNotesCardSaid : Prop := Claim7.holds Tryd.pinned (.plain (OpenSpec.ofChange debctlNotesSpec)) debctlNotesCard

/-- THE SECOND FORM's CARD OF 'chandlerlaw12.DebctlNames'. -/
def debctlNamesUptoCard : Claim7 := { stood := { row := debctlNamesUptoRow, standIns := [], harness := (true, "946ea47ef1ddae858c6895542ee08f5260b155228c2927d4d17f4a8784a61b6f"), looks := false }, kinds := [], alts := [], laidByText := true, laidKinds := [.data, .pinned], laidTests := true, laidLooks := .later }
def DebctlNamesUptoCardSaid : Prop := Claim7.holds Tryd.pinned (.plain (OpenSpec.upto debctlNamesSpec)) debctlNamesUptoCard

/-- THE SECOND FORM's CARD OF 'chandlerlaw12.DebctlJoins'. -/
def debctlJoinsUptoCard : Claim7 := { stood := { row := debctlJoinsUptoRow, standIns := [], harness := (true, "946ea47ef1ddae858c6895542ee08f5260b155228c2927d4d17f4a8784a61b6f"), looks := false }, kinds := [], alts := [], laidByText := true, laidKinds := [.data, .pinned], laidTests := true, laidLooks := .later }
def DebctlJoinsUptoCardSaid : Prop := Claim7.holds Tryd.pinned (.plain (OpenSpec.upto debctlJoinsSpec)) debctlJoinsUptoCard

/-- THE SECOND FORM's CARD OF 'chandlerlaw12.DebctlNotes'. -/
def debctlNotesUptoCard : Claim7 := { stood := { row := debctlNotesUptoRow, standIns := [], harness := (true, "946ea47ef1ddae858c6895542ee08f5260b155228c2927d4d17f4a8784a61b6f"), looks := false }, kinds := [], alts := [], laidByText := true, laidKinds := [.data, .pinned], laidTests := true, laidLooks := .later }
def DebctlNotesUptoCardSaid : Prop := Claim7.holds Tryd.pinned (.plain (OpenSpec.upto debctlNotesSpec)) debctlNotesUptoCard
end Rows
end Go.Proofs.YtmclfdonoldlpaaDoor
