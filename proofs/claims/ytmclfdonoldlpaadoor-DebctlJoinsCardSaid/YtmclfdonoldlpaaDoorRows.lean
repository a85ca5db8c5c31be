/-
  NARROWER THAN 'FOR EVERY INPUT', by the rows' own cells (each row's printed sentence says how): DebctlNames: laid · DebctlJoins: laid · DebctlNotes: laid.
  DERIVED. THE GIVEN ROWS OF THIS SEAT. 3 by the template 'for every input the law returns true; each argument reads behind the call as it read before'; 0 by the template 'total and deterministic' (their statements: YtmclfdonoldlpaaDoorTotals.lean).
  GIVEN WITH THE SEED: the statements are not yours to turn. If you find one false, say at which input.
  Laid BY PROGRAM, IN A SANDBOX (cutbox-rows.mjs): the forced cells as the released guide's own fill.sh prints them over the translation 1b1866d26accef11… (all of the seat's roots in one cut). By AI agents, Wed Nov 11 2026. No macro, syntax, notation, axiom, sorry.
-/
import Derived.Test.YtmclfdonoldlpaaDoorChecked
import GoSem.PinnedTables
import GoSem.Claim
import GoSem.ClaimJoined
import GoSem.ClaimMapViews
import Derived.JoinedTies
import Derived.KernelRfl
namespace Go.Proofs.YtmclfdonoldlpaaDoor
/- THE CELL 'sum', in the pinned program and in every row, IS THE sha256 OF THE DUMP (.gsa) THAT YtmclfdonoldlpaaDoorProg.lean LOADS. Nothing in Lean hashes anything: it is a label: what it is worth is what the hold of that sum in a sandbox is worth. -/
noncomputable def Tryd.pinned : Pinned := { name := "ytmclfdonoldlpaadoor", sum := "1b1866d26accef115010ba385ba2c58338f88faab69f0770fcf097b580c63e01", checked := Tryd.checked }
namespace Rows
def none {H : Type} : Left H := { results := [], args := [] }

/- WHAT THE LISTED PACKAGE-LEVEL VARIABLES READ AS WHEN THE CALL BEGINS. Each datum BY PROGRAM (the guide's laid-datum.mjs) off the statement by which the dump's own 'gosem.cut.vars' lays the variable. In a bare row this is a premise. The card (YtmclfdonoldlpaaDoorCards.lean) ties it to the program's text. -/
def laid_unicode_utf8_acceptRanges {H : Type} : DataW H := .agg [.agg [.lit (.int .u8 128), .lit (.int .u8 191)], .agg [.lit (.int .u8 160), .lit (.int .u8 191)], .agg [.lit (.int .u8 128), .lit (.int .u8 159)], .agg [.lit (.int .u8 144), .lit (.int .u8 191)], .agg [.lit (.int .u8 128), .lit (.int .u8 143)], .agg [.lit (.int .u8 0), .lit (.int .u8 0)], .agg [.lit (.int .u8 0), .lit (.int .u8 0)], .agg [.lit (.int .u8 0), .lit (.int .u8 0)], .agg [.lit (.int .u8 0), .lit (.int .u8 0)], .agg [.lit (.int .u8 0), .lit (.int .u8 0)], .agg [.lit (.int .u8 0), .lit (.int .u8 0)], .agg [.lit (.int .u8 0), .lit (.int .u8 0)], .agg [.lit (.int .u8 0), .lit (.int .u8 0)], .agg [.lit (.int .u8 0), .lit (.int .u8 0)], .agg [.lit (.int .u8 0), .lit (.int .u8 0)], .agg [.lit (.int .u8 0), .lit (.int .u8 0)]]
/-- One of Go's own tables, pinned by name: the form's constant. -/
def laid_unicode_utf8_first : DataW Unit := Go.Pinned.utf8First

/-- 'chandlerlaw12.DebctlNames': WHATEVER THE INPUT: true; the input reads as it did. -/
def debctlNamesSpec : ChangeSpec := { name := "debctlNames", fn := fun _ => fun
  | [] => { results := [.lit (.bool true)], args := [] }
  | _ => none }
def debctlNamesRow : OpenClaim := { program := "ytmclfdonoldlpaadoor", sum := "1b1866d26accef115010ba385ba2c58338f88faab69f0770fcf097b580c63e01", func := "chandler/chandlerlaw12.DebctlNames", spec := "debctlNames", inPlace := ["internal/bytealg.IndexByteString", "internal/bytealg.IndexString"], unfollowed := true, recurses := true, named := ["unicode/utf8.first", "unicode/utf8.acceptRanges", "internal/bytealg.MaxLen"], apart := false, laid := [("unicode/utf8.acceptRanges", laid_unicode_utf8_acceptRanges), ("unicode/utf8.first", laid_unicode_utf8_first)] }
def DebctlNamesSaid : Prop := debctlNamesRow.holds Tryd.pinned (OpenSpec.ofChange debctlNamesSpec)

/-- ITS FALSE NEIGHBOUR: 'it returns false'. Refute it at one input. -/
def debctlNamesWrong : ChangeSpec := { name := "debctlNames", fn := fun _ => fun
  | [] => { results := [.lit (.bool false)], args := [] }
  | _ => none }
def DebctlNamesWrongFalsely : Prop := debctlNamesRow.holds Tryd.pinned (OpenSpec.ofChange debctlNamesWrong)

/-- 'chandlerlaw12.DebctlJoins': WHATEVER THE INPUT: true; the input reads as it did. -/
def debctlJoinsSpec : ChangeSpec := { name := "debctlJoins", fn := fun _ => fun
  | [d1, d2] => { results := [.lit (.bool true)], args := [d1, d2] }
  | _ => none }
def debctlJoinsRow : OpenClaim := { program := "ytmclfdonoldlpaadoor", sum := "1b1866d26accef115010ba385ba2c58338f88faab69f0770fcf097b580c63e01", func := "chandler/chandlerlaw12.DebctlJoins", spec := "debctlJoins", inPlace := ["internal/bytealg.IndexByteString", "internal/bytealg.IndexString"], unfollowed := true, recurses := true, named := ["unicode/utf8.first", "unicode/utf8.acceptRanges", "internal/bytealg.MaxLen"], apart := false, laid := [("unicode/utf8.acceptRanges", laid_unicode_utf8_acceptRanges), ("unicode/utf8.first", laid_unicode_utf8_first)] }
def DebctlJoinsSaid : Prop := debctlJoinsRow.holds Tryd.pinned (OpenSpec.ofChange debctlJoinsSpec)

/-- ITS FALSE NEIGHBOUR: 'it returns false'. Refute it at one input. -/
def debctlJoinsWrong : ChangeSpec := { name := "debctlJoins", fn := fun _ => fun
  | [d1, d2] => { results := [.lit (.bool false)], args := [d1, d2] }
  | _ => none }
def DebctlJoinsWrongFalsely : Prop := debctlJoinsRow.holds Tryd.pinned (OpenSpec.ofChange debctlJoinsWrong)

/-- 'chandlerlaw12.DebctlNotes': WHATEVER THE INPUT: true; the input reads as it did. -/
def debctlNotesSpec : ChangeSpec := { name := "debctlNotes", fn := fun _ => fun
  | [d1, d2, d3] => { results := [.lit (.bool true)], args := [d1, d2, d3] }
  | _ => none }
def debctlNotesRow : OpenClaim := { program := "ytmclfdonoldlpaadoor", sum := "1b1866d26accef115010ba385ba2c58338f88faab69f0770fcf097b580c63e01", func := "chandler/chandlerlaw12.DebctlNotes", spec := "debctlNotes", inPlace := ["internal/bytealg.IndexByteString", "internal/bytealg.IndexString"], unfollowed := true, recurses := true, named := ["unicode/utf8.first", "unicode/utf8.acceptRanges", "internal/bytealg.MaxLen"], apart := false, laid := [("unicode/utf8.acceptRanges", laid_unicode_utf8_acceptRanges), ("unicode/utf8.first", laid_unicode_utf8_first)] }
def DebctlNotesSaid : Prop := debctlNotesRow.holds Tryd.pinned (OpenSpec.ofChange debctlNotesSpec)

/-- ITS FALSE NEIGHBOUR: 'it returns false'. Refute it at one input. -/
def debctlNotesWrong : ChangeSpec := { name := "debctlNotes", fn := fun _ => fun
  | [d1, d2, d3] => { results := [.lit (.bool false)], args := [d1, d2, d3] }
  | _ => none }
def DebctlNotesWrongFalsely : Prop := debctlNotesRow.holds Tryd.pinned (OpenSpec.ofChange debctlNotesWrong)

/- THE SECOND FORM. 'bulk': how many values and letters a reading holds, each counted each time it is reached (what is shared counts as often as it is met; a slice's spare places count too). A statement '..UptoSaid' is the law's where the arguments, and the package variables that the reading takes, are together of bulk at most 1048576: NARROWER than '..Said'. Prove '..Said' where nothing that the law and all that it calls make is longer than what came in: it says more and counts as full. Else prove '..UptoSaid'. A law counts once. -/
mutual
def uptoBulk {H : Type} : DataW H → Nat
  | .lit (.string bytes) => bytes.length + 1
  | .lit _ => 1
  | .nil => 1
  | .ptr d => uptoBulk d + 1
  | .slice elems spare => uptoBulkAll elems + uptoBulkAll spare + 1
  | .agg parts => uptoBulkAll parts + 1
  | .iface _ d => uptoBulk d + 1
  | .map entries => uptoBulkEntries entries + 1
  | .held _ => 1
def uptoBulkAll {H : Type} : List (DataW H) → Nat
  | [] => 0
  | d :: r => uptoBulk d + uptoBulkAll r
def uptoBulkEntries {H : Type} : List (Lit × DataW H) → Nat
  | [] => 0
  | x :: r => uptoBulkEntry x + uptoBulkEntries r
def uptoBulkEntry {H : Type} : Lit × DataW H → Nat
  | (.string bytes, d) => bytes.length + uptoBulk d + 1
  | (_, d) => uptoBulk d + 1
 end
def uptoSmall : (H : Type) → List (DataW H) → Bool := fun _ ds => decide (uptoBulkAll ds ≤ 1048576)
def OpenSpec.upto (s : _root_.Go.ChangeSpec) : _root_.Go.OpenSpec := { _root_.Go.OpenSpec.ofChange s with cond := some uptoSmall }

/-- 'chandlerlaw12.DebctlNames', WHERE WHAT IT READS IS OF BULK AT MOST 1048576: true; the input reads as it did. -/
def debctlNamesUptoRow : OpenClaim := { program := "ytmclfdonoldlpaadoor", sum := "1b1866d26accef115010ba385ba2c58338f88faab69f0770fcf097b580c63e01", func := "chandler/chandlerlaw12.DebctlNames", spec := "debctlNames", inPlace := ["internal/bytealg.IndexByteString", "internal/bytealg.IndexString"], unfollowed := true, recurses := true, named := ["unicode/utf8.first", "unicode/utf8.acceptRanges", "internal/bytealg.MaxLen"], apart := false, laid := [("unicode/utf8.acceptRanges", laid_unicode_utf8_acceptRanges), ("unicode/utf8.first", laid_unicode_utf8_first)], narrowed := true }
def DebctlNamesUptoSaid : Prop := debctlNamesUptoRow.holds Tryd.pinned (OpenSpec.upto debctlNamesSpec)

/-- 'chandlerlaw12.DebctlJoins', WHERE WHAT IT READS IS OF BULK AT MOST 1048576: true; the input reads as it did. -/
def debctlJoinsUptoRow : OpenClaim := { program := "ytmclfdonoldlpaadoor", sum := "1b1866d26accef115010ba385ba2c58338f88faab69f0770fcf097b580c63e01", func := "chandler/chandlerlaw12.DebctlJoins", spec := "debctlJoins", inPlace := ["internal/bytealg.IndexByteString", "internal/bytealg.IndexString"], unfollowed := true, recurses := true, named := ["unicode/utf8.first", "unicode/utf8.acceptRanges", "internal/bytealg.MaxLen"], apart := false, laid := [("unicode/utf8.acceptRanges", laid_unicode_utf8_acceptRanges), ("unicode/utf8.first", laid_unicode_utf8_first)], narrowed := true }
def DebctlJoinsUptoSaid : Prop := debctlJoinsUptoRow.holds Tryd.pinned (OpenSpec.upto debctlJoinsSpec)

/-- 'chandlerlaw12.DebctlNotes', WHERE WHAT IT READS IS OF BULK AT MOST 1048576: true; the input reads as it did. -/
def debctlNotesUptoRow : OpenClaim := { program := "ytmclfdonoldlpaadoor", sum := "1b1866d26accef115010ba385ba2c58338f88faab69f0770fcf097b580c63e01", func := "chandler/chandlerlaw12.DebctlNotes", spec := "debctlNotes", inPlace := ["internal/bytealg.IndexByteString", "internal/bytealg.IndexString"], unfollowed := true, recurses := true, named := ["unicode/utf8.first", "unicode/utf8.acceptRanges", "internal/bytealg.MaxLen"], apart := false, laid := [("unicode/utf8.acceptRanges", laid_unicode_utf8_acceptRanges), ("unicode/utf8.first", laid_unicode_utf8_first)], narrowed := true }
def DebctlNotesUptoSaid : Prop := debctlNotesUptoRow.holds Tryd.pinned (OpenSpec.upto debctlNotesSpec)

end Rows
end Go.Proofs.YtmclfdonoldlpaaDoor
