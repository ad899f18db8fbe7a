/-
  DERIVED. GIVEN WITH THE SEED: THE CARDS: each row of YtagnoecfdefmjaaDoorRows.lean that lists a variable, with what it lists TIED to the program's text (the seventh form; the later family's looks); each row that meets fmt, with fmt's text TOLD by the authors' own Lean function (tested against real Go, not proved from fmt's source: count such statements apart). THE CARD IS WHAT COUNTS. Prove the row's statement (the work); the ties are given (YtagnoecfdefmjaaDoorTie.lean); close each card by the builder's one call (the guide's Derived/Test/ToyasCard.lean, 'card_holds'). Laid BY PROGRAM, IN A SANDBOX (cutbox-door.mjs). By AI agents, Wed Nov 11 2026. No macro, syntax, notation, axiom, sorry.
-/
import Derived.Test.YtagnoecfdefmjaaDoorRows
import GoSem.ClaimSeven
namespace Go.Proofs.YtagnoecfdefmjaaDoor
namespace Rows

/-- THE TIED CARD OF 'weirgatelaw22.ParseLines'. -/
def parseLinesCard : Claim7 := { stood := { row := parseLinesRow, standIns := [], harness := (true, "43b23a2894e8081ab037520de390e0d5ed5e97216d2205a517ba4cd53a05e910"), looks := true }, kinds := [], alts := [], laidByText := true, laidKinds := [.data, .data, .data, .data, .sentinel, .sentinel, .pinned], laidTests := true, laidLooks := .later }
def ParseLinesCardSaid : Prop := Claim7.holds Tryd.pinned (.plain (OpenSpec.ofChange parseLinesSpec)) parseLinesCard

/-- THE TIED CARD OF 'weirgatelaw22.ParseTexts'. -/
def parseTextsCard : Claim7 := { stood := { row := parseTextsRow, standIns := [], harness := (true, "43b23a2894e8081ab037520de390e0d5ed5e97216d2205a517ba4cd53a05e910"), looks := true }, kinds := [], alts := [], laidByText := true, laidKinds := [.data, .data, .data, .data, .sentinel, .sentinel, .pinned], laidTests := true, laidLooks := .later }
def ParseTextsCardSaid : Prop := Claim7.holds Tryd.pinned (.plain (OpenSpec.ofChange parseTextsSpec)) parseTextsCard

/-- THE TIED CARD OF 'weirgatelaw22.ParseBack'. -/
def parseBackCard : Claim7 := { stood := { row := parseBackRow, standIns := [], harness := (true, "43b23a2894e8081ab037520de390e0d5ed5e97216d2205a517ba4cd53a05e910"), looks := true }, kinds := [], alts := [], laidByText := true, laidKinds := [.data, .data, .data, .data, .sentinel, .sentinel, .pinned], laidTests := true, laidLooks := .later }
def ParseBackCardSaid : Prop := Claim7.holds Tryd.pinned (.plain (OpenSpec.ofChange parseBackSpec)) parseBackCard

/-- THE TIED CARD OF 'weirgatelaw22.ParseBlanks'. -/
def parseBlanksCard : Claim7 := { stood := { row := parseBlanksRow, standIns := [], harness := (true, "43b23a2894e8081ab037520de390e0d5ed5e97216d2205a517ba4cd53a05e910"), looks := true }, kinds := [], alts := [], laidByText := true, laidKinds := [.data, .data, .data, .data, .sentinel, .sentinel, .pinned], laidTests := true, laidLooks := .later }
def ParseBlanksCardSaid : Prop := Claim7.holds Tryd.pinned (.plain (OpenSpec.ofChange parseBlanksSpec)) parseBlanksCard

/-- THE SECOND FORM's CARD OF 'weirgatelaw22.ParseLines'. -/
def parseLinesUptoCard : Claim7 := { stood := { row := parseLinesUptoRow, standIns := [], harness := (true, "43b23a2894e8081ab037520de390e0d5ed5e97216d2205a517ba4cd53a05e910"), looks := true }, kinds := [], alts := [], laidByText := true, laidKinds := [.data, .data, .data, .data, .sentinel, .sentinel, .pinned], laidTests := true, laidLooks := .later }
def ParseLinesUptoCardSaid : Prop := Claim7.holds Tryd.pinned (.plain (OpenSpec.upto parseLinesSpec)) parseLinesUptoCard

/-- THE SECOND FORM's CARD OF 'weirgatelaw22.ParseTexts'. -/
def parseTextsUptoCard : Claim7 := { stood := { row := parseTextsUptoRow, standIns := [], harness := (true, "43b23a2894e8081ab037520de390e0d5ed5e97216d2205a517ba4cd53a05e910"), looks := true }, kinds := [], alts := [], laidByText := true, laidKinds := [.data, .data, .data, .data, .sentinel, .sentinel, .pinned], laidTests := true, laidLooks := .later }
def ParseTextsUptoCardSaid : Prop := Claim7.holds Tryd.pinned (.plain (OpenSpec.upto parseTextsSpec)) parseTextsUptoCard

/-- THE SECOND FORM's CARD OF 'weirgatelaw22.ParseBack'. -/
def parseBackUptoCard : Claim7 := { stood := { row := parseBackUptoRow, standIns := [], harness := (true, "43b23a2894e8081ab037520de390e0d5ed5e97216d2205a517ba4cd53a05e910"), looks := true }, kinds := [], alts := [], laidByText := true, laidKinds := [.data, .data, .data, .data, .sentinel, .sentinel, .pinned], laidTests := true, laidLooks := .later }
def ParseBackUptoCardSaid : Prop := Claim7.holds Tryd.pinned (.plain (OpenSpec.upto parseBackSpec)) parseBackUptoCard

/-- THE SECOND FORM's CARD OF 'weirgatelaw22.ParseBlanks'. -/
def parseBlanksUptoCard : Claim7 := { stood := { row := parseBlanksUptoRow, standIns := [], harness := (true, "43b23a2894e8081ab037520de390e0d5ed5e97216d2205a517ba4cd53a05e910"), looks := true }, kinds := [], alts := [], laidByText := true, laidKinds := [.data, .data, .data, .data, .sentinel, .sentinel, .pinned], laidTests := true, laidLooks := .later }
def ParseBlanksUptoCardSaid : Prop := Claim7.holds Tryd.pinned (.plain (OpenSpec.upto parseBlanksSpec)) parseBlanksUptoCard
end Rows
end Go.Proofs.YtagnoecfdefmjaaDoor
