/-
  NARROWER THAN 'FOR EVERY INPUT', by the rows' own cells (each row's printed sentence says how): MacTells: laid · MacBack: laid · MacKinds: laid · MacOrder: laid.
  DERIVED. THE GIVEN ROWS OF THIS SEAT. 4 by the template 'for every input the law returns true; each argument reads behind the call as it read before'; 0 by the template 'total and deterministic' (their statements: YtdelhnpolibjmaaDoorTotals.lean).
  GIVEN WITH THE SEED: the statements are not yours to turn. If you find one false, say at which input.
  Laid BY PROGRAM, IN A SANDBOX (cutbox-rows.mjs): the forced cells as the released guide's own fill.sh prints them over the translation 668ce2dfc075beca… (all of the seat's roots in one cut). By AI agents, Wed Nov 11 2026. No macro, syntax, notation, axiom, sorry.
-/
import Derived.Test.YtdelhnpolibjmaaDoorChecked
import GoSem.PinnedTables
import GoSem.Claim
import GoSem.ClaimJoined
import GoSem.ClaimMapViews
import Derived.JoinedTies
import Derived.KernelRfl
namespace Go.Proofs.YtdelhnpolibjmaaDoor
/- THE CELL 'sum', in the pinned program and in every row, IS THE sha256 OF THE DUMP (.gsa) THAT YtdelhnpolibjmaaDoorProg.lean LOADS. Nothing in Lean hashes anything: it is a label: what it is worth is what the hold of that sum in a sandbox is worth. -/
noncomputable def Tryd.pinned : Pinned := { name := "ytdelhnpolibjmaadoor", sum := "668ce2dfc075becac3606c1a57879fd3d346b942302b74a62796033ce3e5fed8", checked := Tryd.checked }
namespace Rows
def none {H : Type} : Left H := { results := [], args := [] }

/- WHAT THE LISTED PACKAGE-LEVEL VARIABLES READ AS WHEN THE CALL BEGINS. Each datum BY PROGRAM (the guide's laid-datum.mjs) off the statement by which the dump's own 'gosem.cut.vars' lays the variable. In a bare row this is a premise. The card (YtdelhnpolibjmaaDoorCards.lean) ties it to the program's text. -/
def laid_unicode_utf8_acceptRanges {H : Type} : DataW H := .agg [.agg [.lit (.int .u8 128), .lit (.int .u8 191)], .agg [.lit (.int .u8 160), .lit (.int .u8 191)], .agg [.lit (.int .u8 128), .lit (.int .u8 159)], .agg [.lit (.int .u8 144), .lit (.int .u8 191)], .agg [.lit (.int .u8 128), .lit (.int .u8 143)], .agg [.lit (.int .u8 0), .lit (.int .u8 0)], .agg [.lit (.int .u8 0), .lit (.int .u8 0)], .agg [.lit (.int .u8 0), .lit (.int .u8 0)], .agg [.lit (.int .u8 0), .lit (.int .u8 0)], .agg [.lit (.int .u8 0), .lit (.int .u8 0)], .agg [.lit (.int .u8 0), .lit (.int .u8 0)], .agg [.lit (.int .u8 0), .lit (.int .u8 0)], .agg [.lit (.int .u8 0), .lit (.int .u8 0)], .agg [.lit (.int .u8 0), .lit (.int .u8 0)], .agg [.lit (.int .u8 0), .lit (.int .u8 0)], .agg [.lit (.int .u8 0), .lit (.int .u8 0)]]
/-- One of Go's own tables, pinned by name: the form's constant. -/
def laid_unicode_utf8_first : DataW Unit := Go.Pinned.utf8First

/-- 'weirgatelaw09.MacTells': WHATEVER THE INPUT: true; the input reads as it did. -/
def macTellsSpec : ChangeSpec := { name := "macTells", fn := fun _ => fun
  | [d1, d2, d3] => { results := [.lit (.bool true)], args := [d1, d2, d3] }
  | _ => none }
def macTellsRow : OpenClaim := { program := "ytdelhnpolibjmaadoor", sum := "668ce2dfc075becac3606c1a57879fd3d346b942302b74a62796033ce3e5fed8", func := "weirgate/weirgatelaw09.MacTells", spec := "macTells", inPlace := ["internal/bytealg.CountString", "internal/bytealg.IndexByteString", "internal/bytealg.IndexString", "internal/abi.NoEscape", "internal/bytealg.MakeNoZero"], named := ["unicode/utf8.first", "unicode/utf8.acceptRanges", "internal/bytealg.MaxLen"], apart := false, laid := [("unicode/utf8.acceptRanges", laid_unicode_utf8_acceptRanges), ("unicode/utf8.first", laid_unicode_utf8_first)] }
def MacTellsSaid : Prop := macTellsRow.holds Tryd.pinned (OpenSpec.ofChange macTellsSpec)

/-- ITS FALSE NEIGHBOUR: 'it returns false'. Refute it at one input. -/
def macTellsWrong : ChangeSpec := { name := "macTells", fn := fun _ => fun
  | [d1, d2, d3] => { results := [.lit (.bool false)], args := [d1, d2, d3] }
  | _ => none }
def MacTellsWrongFalsely : Prop := macTellsRow.holds Tryd.pinned (OpenSpec.ofChange macTellsWrong)

/-- 'weirgatelaw09.MacBack': WHATEVER THE INPUT: true; the input reads as it did. -/
def macBackSpec : ChangeSpec := { name := "macBack", fn := fun _ => fun
  | [d1, d2, d3] => { results := [.lit (.bool true)], args := [d1, d2, d3] }
  | _ => none }
def macBackRow : OpenClaim := { program := "ytdelhnpolibjmaadoor", sum := "668ce2dfc075becac3606c1a57879fd3d346b942302b74a62796033ce3e5fed8", func := "weirgate/weirgatelaw09.MacBack", spec := "macBack", inPlace := ["internal/bytealg.CountString", "internal/bytealg.IndexByteString", "internal/bytealg.IndexString", "internal/abi.NoEscape", "internal/bytealg.MakeNoZero"], named := ["unicode/utf8.first", "unicode/utf8.acceptRanges", "internal/bytealg.MaxLen"], apart := false, laid := [("unicode/utf8.acceptRanges", laid_unicode_utf8_acceptRanges), ("unicode/utf8.first", laid_unicode_utf8_first)] }
def MacBackSaid : Prop := macBackRow.holds Tryd.pinned (OpenSpec.ofChange macBackSpec)

/-- ITS FALSE NEIGHBOUR: 'it returns false'. Refute it at one input. -/
def macBackWrong : ChangeSpec := { name := "macBack", fn := fun _ => fun
  | [d1, d2, d3] => { results := [.lit (.bool false)], args := [d1, d2, d3] }
  | _ => none }
def MacBackWrongFalsely : Prop := macBackRow.holds Tryd.pinned (OpenSpec.ofChange macBackWrong)

/-- 'weirgatelaw09.MacKinds': WHATEVER THE INPUT: true; the input reads as it did. -/
def macKindsSpec : ChangeSpec := { name := "macKinds", fn := fun _ => fun
  | [d] => { results := [.lit (.bool true)], args := [d] }
  | _ => none }
def macKindsRow : OpenClaim := { program := "ytdelhnpolibjmaadoor", sum := "668ce2dfc075becac3606c1a57879fd3d346b942302b74a62796033ce3e5fed8", func := "weirgate/weirgatelaw09.MacKinds", spec := "macKinds", inPlace := ["internal/abi.NoEscape", "internal/bytealg.MakeNoZero", "internal/bytealg.CountString", "internal/bytealg.IndexByteString", "internal/bytealg.IndexString"], named := ["unicode/utf8.first", "unicode/utf8.acceptRanges", "internal/bytealg.MaxLen"], apart := false, laid := [("unicode/utf8.acceptRanges", laid_unicode_utf8_acceptRanges), ("unicode/utf8.first", laid_unicode_utf8_first)] }
def MacKindsSaid : Prop := macKindsRow.holds Tryd.pinned (OpenSpec.ofChange macKindsSpec)

/-- ITS FALSE NEIGHBOUR: 'it returns false'. Refute it at one input. -/
def macKindsWrong : ChangeSpec := { name := "macKinds", fn := fun _ => fun
  | [d] => { results := [.lit (.bool false)], args := [d] }
  | _ => none }
def MacKindsWrongFalsely : Prop := macKindsRow.holds Tryd.pinned (OpenSpec.ofChange macKindsWrong)

/-- 'weirgatelaw09.MacOrder': WHATEVER THE INPUT: true; the input reads as it did. -/
def macOrderSpec : ChangeSpec := { name := "macOrder", fn := fun _ => fun
  | [d1, d2] => { results := [.lit (.bool true)], args := [d1, d2] }
  | _ => none }
def macOrderRow : OpenClaim := { program := "ytdelhnpolibjmaadoor", sum := "668ce2dfc075becac3606c1a57879fd3d346b942302b74a62796033ce3e5fed8", func := "weirgate/weirgatelaw09.MacOrder", spec := "macOrder", inPlace := ["internal/abi.NoEscape", "internal/bytealg.MakeNoZero", "internal/bytealg.CountString", "internal/bytealg.IndexByteString", "internal/bytealg.IndexString"], named := ["unicode/utf8.first", "unicode/utf8.acceptRanges", "internal/bytealg.MaxLen"], apart := false, laid := [("unicode/utf8.acceptRanges", laid_unicode_utf8_acceptRanges), ("unicode/utf8.first", laid_unicode_utf8_first)] }
def MacOrderSaid : Prop := macOrderRow.holds Tryd.pinned (OpenSpec.ofChange macOrderSpec)

/-- ITS FALSE NEIGHBOUR: 'it returns false'. Refute it at one input. -/
def macOrderWrong : ChangeSpec := { name := "macOrder", fn := fun _ => fun
  | [d1, d2] => { results := [.lit (.bool false)], args := [d1, d2] }
  | _ => none }
def MacOrderWrongFalsely : Prop := macOrderRow.holds Tryd.pinned (OpenSpec.ofChange macOrderWrong)

/- THE SECOND FORM. 'bulk': how many values and letters a reading holds, each counted each time it is reached (what is shared counts as often as it is met; a slice's spare places count too). A statement '..UptoSaid' is the law's where the arguments, and the package variables that the reading takes, are together of bulk at most 1048576: NARROWER than '..Said'. Prove '..Said' where nothing that the law and all that it calls make is longer than what came in: it says more and counts as full. Else prove '..UptoSaid'. A law counts once. -/
mutual
def uptoBulk {H : Type} : DataW H → Nat
  | .lit (.string bytes) => bytes.length + 1
  | .lit _ => 1
  | .nil => 1
  | .ptr d => uptoBulk d + 1
  | .slice elems spare => uptoBulkAll elems + uptoBulkAll spare + 1
  | .agg parts => uptoBulkAll parts + 1
  | .iface _ d => uptoBulk d + 1
  | .map entries => uptoBulkEntries entries + 1
  | .held _ => 1
def uptoBulkAll {H : Type} : List (DataW H) → Nat
  | [] => 0
  | d :: r => uptoBulk d + uptoBulkAll r
def uptoBulkEntries {H : Type} : List (Lit × DataW H) → Nat
  | [] => 0
  | x :: r => uptoBulkEntry x + uptoBulkEntries r
def uptoBulkEntry {H : Type} : Lit × DataW H → Nat
  | (.string bytes, d) => bytes.length + uptoBulk d + 1
  | (_, d) => uptoBulk d + 1
 end
def uptoSmall : (H : Type) → List (DataW H) → Bool := fun _ ds => decide (uptoBulkAll ds ≤ 1048576)
def OpenSpec.upto (s : _root_.Go.ChangeSpec) : _root_.Go.OpenSpec := { _root_.Go.OpenSpec.ofChange s with cond := some uptoSmall }

/-- 'weirgatelaw09.MacTells', WHERE WHAT IT READS IS OF BULK AT MOST 1048576: true; the input reads as it did. -/
def macTellsUptoRow : OpenClaim := { program := "ytdelhnpolibjmaadoor", sum := "668ce2dfc075becac3606c1a57879fd3d346b942302b74a62796033ce3e5fed8", func := "weirgate/weirgatelaw09.MacTells", spec := "macTells", inPlace := ["internal/bytealg.CountString", "internal/bytealg.IndexByteString", "internal/bytealg.IndexString", "internal/abi.NoEscape", "internal/bytealg.MakeNoZero"], named := ["unicode/utf8.first", "unicode/utf8.acceptRanges", "internal/bytealg.MaxLen"], apart := false, laid := [("unicode/utf8.acceptRanges", laid_unicode_utf8_acceptRanges), ("unicode/utf8.first", laid_unicode_utf8_first)], narrowed := true }
def MacTellsUptoSaid : Prop := macTellsUptoRow.holds Tryd.pinned (OpenSpec.upto macTellsSpec)

/-- 'weirgatelaw09.MacBack', WHERE WHAT IT READS IS OF BULK AT MOST 1048576: true; the input reads as it did. -/
def macBackUptoRow : OpenClaim := { program := "ytdelhnpolibjmaadoor", sum := "668ce2dfc075becac3606c1a57879fd3d346b942302b74a62796033ce3e5fed8", func := "weirgate/weirgatelaw09.MacBack", spec := "macBack", inPlace := ["internal/bytealg.CountString", "internal/bytealg.IndexByteString", "internal/bytealg.IndexString", "internal/abi.NoEscape", "internal/bytealg.MakeNoZero"], named := ["unicode/utf8.first", "unicode/utf8.acceptRanges", "internal/bytealg.MaxLen"], apart := false, laid := [("unicode/utf8.acceptRanges", laid_unicode_utf8_acceptRanges), ("unicode/utf8.first", laid_unicode_utf8_first)], narrowed := true }
def MacBackUptoSaid : Prop := macBackUptoRow.holds Tryd.pinned (OpenSpec.upto macBackSpec)

/-- 'weirgatelaw09.MacKinds', WHERE WHAT IT READS IS OF BULK AT MOST 1048576: true; the input reads as it did. -/
def macKindsUptoRow : OpenClaim := { program := "ytdelhnpolibjmaadoor", sum := "668ce2dfc075becac3606c1a57879fd3d346b942302b74a62796033ce3e5fed8", func := "weirgate/weirgatelaw09.MacKinds", spec := "macKinds", inPlace := ["internal/abi.NoEscape", "internal/bytealg.MakeNoZero", "internal/bytealg.CountString", "internal/bytealg.IndexByteString", "internal/bytealg.IndexString"], named := ["unicode/utf8.first", "unicode/utf8.acceptRanges", "internal/bytealg.MaxLen"], apart := false, laid := [("unicode/utf8.acceptRanges", laid_unicode_utf8_acceptRanges), ("unicode/utf8.first", laid_unicode_utf8_first)], narrowed := true }
def MacKindsUptoSaid : Prop := macKindsUptoRow.holds Tryd.pinned (OpenSpec.upto macKindsSpec)

/-- 'weirgatelaw09.MacOrder', WHERE WHAT IT READS IS OF BULK AT MOST 1048576: true; the input reads as it did. -/
def macOrderUptoRow : OpenClaim := { program := "ytdelhnpolibjmaadoor", sum := "668ce2dfc075becac3606c1a57879fd3d346b942302b74a62796033ce3e5fed8", func := "weirgate/weirgatelaw09.MacOrder", spec := "macOrder", inPlace := ["internal/abi.NoEscape", "internal/bytealg.MakeNoZero", "internal/bytealg.CountString", "internal/bytealg.IndexByteString", "internal/bytealg.IndexString"], named := ["unicode/utf8.first", "unicode/utf8.acceptRanges", "internal/bytealg.MaxLen"], apart := false, laid := [("unicode/utf8.acceptRanges", laid_unicode_utf8_acceptRanges), ("unicode/utf8.first", laid_unicode_utf8_first)], narrowed := true }
def MacOrderUptoSaid : Prop := macOrderUptoRow.holds Tryd.pinned (OpenSpec.upto macOrderSpec)

end Rows
end Go.Proofs.YtdelhnpolibjmaaDoor
