/-
  DERIVED. GIVEN WITH THE SEED: THE CARDS: each row of YtjamaamkmfdnaaaDoorRows.lean that lists a variable, with what it lists TIED to the program's text (the seventh form; the later family's looks); each row that meets fmt, with fmt's text TOLD by the authors' own Lean function (tested against real Go, not proved from fmt's source: count such statements apart). THE CARD IS WHAT COUNTS. Prove the row's statement (the work); the ties are given (YtjamaamkmfdnaaaDoorTie.lean); close each card by the builder's one call (the guide's Derived/Test/ToyasCard.lean, 'card_holds'). Laid BY PROGRAM, IN A SANDBOX (cutbox-door.mjs). By AI agents, Wed Nov 11 2026. No macro, syntax, notation, axiom, sorry.
-/
import Derived.Test.YtjamaamkmfdnaaaDoorRows
import GoSem.ClaimSeven
namespace Go.Proofs.YtjamaamkmfdnaaaDoor
namespace Rows

/-- THE TIED CARD OF 'weirgatelaw24.ShowPorts'. -/
def showPortsCard : Claim7 := { stood := { row := showPortsRow, standIns := [], harness := (true, "df9fc33592d90b3aab89ce2683786228ed2f7fe3f39fc2985c09f7bc1255e0b0"), looks := true }, kinds := [], alts := [], laidByText := true, laidKinds := [.data, .data, .data, .data, .sentinel, .sentinel, .pinned], laidTests := true, laidLooks := .later }
def ShowPortsCardSaid : Prop := Claim7.holds Tryd.pinned (.plain (OpenSpec.ofChange showPortsSpec)) showPortsCard

/-- THE SECOND FORM's CARD OF 'weirgatelaw24.ShowPorts'. -/
def showPortsUptoCard : Claim7 := { stood := { row := showPortsUptoRow, standIns := [], harness := (true, "df9fc33592d90b3aab89ce2683786228ed2f7fe3f39fc2985c09f7bc1255e0b0"), looks := true }, kinds := [], alts := [], laidByText := true, laidKinds := [.data, .data, .data, .data, .sentinel, .sentinel, .pinned], laidTests := true, laidLooks := .later }
def ShowPortsUptoCardSaid : Prop := Claim7.holds Tryd.pinned (.plain (OpenSpec.upto showPortsSpec)) showPortsUptoCard
end Rows
end Go.Proofs.YtjamaamkmfdnaaaDoor
