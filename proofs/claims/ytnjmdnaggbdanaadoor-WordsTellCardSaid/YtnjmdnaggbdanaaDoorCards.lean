/-
  DERIVED. GIVEN WITH THE SEED: THE CARDS: each row of YtnjmdnaggbdanaaDoorRows.lean that lists a variable, with what it lists TIED to the program's text (the seventh form; the later family's looks); each row that meets fmt, with fmt's text TOLD by the authors' own Lean function (tested against real Go, not proved from fmt's source: count such statements apart). THE CARD IS WHAT COUNTS. Prove the row's statement (the work); the ties are given (YtnjmdnaggbdanaaDoorTie.lean); close each card by the builder's one call (the guide's Derived/Test/ToyasCard.lean, 'card_holds'). Laid BY PROGRAM, IN A SANDBOX (cutbox-door.mjs). By AI agents, Wed Nov 11 2026. No macro, syntax, notation, axiom, sorry.
-/
import Derived.Test.YtnjmdnaggbdanaaDoorRows
import GoSem.ClaimSeven
namespace Go.Proofs.YtnjmdnaggbdanaaDoor
namespace Rows

/-- THE TIED CARD OF 'weirgatelaw21.WordsTell'. -/
def wordsTellCard : Claim7 := { stood := { row := wordsTellRow, standIns := [], harness := (true, "d8d3f9cd118543c65248437aef8e5299fcb64c9afd4960a7dc44c4621e7524fd"), looks := true }, kinds := [], alts := [], laidByText := true, laidKinds := [.data, .data, .data, .data, .sentinel, .sentinel, .pinned], laidTests := true, laidLooks := .later }
def WordsTellCardSaid : Prop := Claim7.holds Tryd.pinned (.plain (OpenSpec.ofChange wordsTellSpec)) wordsTellCard

/-- THE TIED CARD OF 'weirgatelaw21.WordsBack'. -/
def wordsBackCard : Claim7 := { stood := { row := wordsBackRow, standIns := [], harness := (true, "d8d3f9cd118543c65248437aef8e5299fcb64c9afd4960a7dc44c4621e7524fd"), looks := true }, kinds := [], alts := [], laidByText := true, laidKinds := [.data, .data, .data, .data, .sentinel, .sentinel, .pinned], laidTests := true, laidLooks := .later }
def WordsBackCardSaid : Prop := Claim7.holds Tryd.pinned (.plain (OpenSpec.ofChange wordsBackSpec)) wordsBackCard

/-- THE TIED CARD OF 'weirgatelaw21.WordsNums'. -/
def wordsNumsCard : Claim7 := { stood := { row := wordsNumsRow, standIns := [], harness := (true, "d8d3f9cd118543c65248437aef8e5299fcb64c9afd4960a7dc44c4621e7524fd"), looks := true }, kinds := [], alts := [], laidByText := true, laidKinds := [.data, .data, .data, .data, .sentinel, .sentinel, .pinned], laidTests := true, laidLooks := .later }
def WordsNumsCardSaid : Prop := Claim7.holds Tryd.pinned (.plain (OpenSpec.ofChange wordsNumsSpec)) wordsNumsCard

/-- THE SECOND FORM's CARD OF 'weirgatelaw21.WordsTell'. -/
def wordsTellUptoCard : Claim7 := { stood := { row := wordsTellUptoRow, standIns := [], harness := (true, "d8d3f9cd118543c65248437aef8e5299fcb64c9afd4960a7dc44c4621e7524fd"), looks := true }, kinds := [], alts := [], laidByText := true, laidKinds := [.data, .data, .data, .data, .sentinel, .sentinel, .pinned], laidTests := true, laidLooks := .later }
def WordsTellUptoCardSaid : Prop := Claim7.holds Tryd.pinned (.plain (OpenSpec.upto wordsTellSpec)) wordsTellUptoCard

/-- THE SECOND FORM's CARD OF 'weirgatelaw21.WordsBack'. -/
def wordsBackUptoCard : Claim7 := { stood := { row := wordsBackUptoRow, standIns := [], harness := (true, "d8d3f9cd118543c65248437aef8e5299fcb64c9afd4960a7dc44c4621e7524fd"), looks := true }, kinds := [], alts := [], laidByText := true, laidKinds := [.data, .data, .data, .data, .sentinel, .sentinel, .pinned], laidTests := true, laidLooks := .later }
def WordsBackUptoCardSaid : Prop := Claim7.holds Tryd.pinned (.plain (OpenSpec.upto wordsBackSpec)) wordsBackUptoCard

/-- THE SECOND FORM's CARD OF 'weirgatelaw21.WordsNums'. -/
def wordsNumsUptoCard : Claim7 := { stood := { row := wordsNumsUptoRow, standIns := [], harness := (true, "d8d3f9cd118543c65248437aef8e5299fcb64c9afd4960a7dc44c4621e7524fd"), looks := true }, kinds := [], alts := [], laidByText := true, laidKinds := [.data, .data, .data, .data, .sentinel, .sentinel, .pinned], laidTests := true, laidLooks := .later }
def WordsNumsUptoCardSaid : Prop := Claim7.holds Tryd.pinned (.plain (OpenSpec.upto wordsNumsSpec)) wordsNumsUptoCard
end Rows
end Go.Proofs.YtnjmdnaggbdanaaDoor
