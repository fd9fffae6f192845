/-
  NARROWER THAN 'FOR EVERY INPUT', by the rows' own cells (each row's printed sentence says how): FieldHeads: laid · FieldStays: laid · FieldLines: laid · FieldBack: laid · FieldNames: laid · FieldFrames: laid · FieldLists: laid.
  DERIVED. THE GIVEN ROWS OF THIS SEAT. 7 by the template 'for every input the law returns true; each argument reads behind the call as it read before'; 0 by the template 'total and deterministic' (their statements: YtbeppooknhmhaaaDoorTotals.lean).
  GIVEN WITH THE SEED: the statements are not yours to turn. If you find one false, say at which input.
  Laid BY PROGRAM, IN A SANDBOX (cutbox-rows.mjs): the forced cells as the released guide's own fill.sh prints them over the translation 572f90369d64391d… (all of the seat's roots in one cut). By AI agents, Wed Nov 11 2026. No macro, syntax, notation, axiom, sorry.
-/
import Derived.Test.YtbeppooknhmhaaaDoorChecked
import GoSem.PinnedTables
import GoSem.Claim
import GoSem.ClaimJoined
import GoSem.ClaimMapViews
import Derived.JoinedTies
import Derived.KernelRfl
namespace Go.Proofs.YtbeppooknhmhaaaDoor
/- THE CELL 'sum', in the pinned program and in every row, IS THE sha256 OF THE DUMP (.gsa) THAT YtbeppooknhmhaaaDoorProg.lean LOADS. Nothing in Lean hashes anything: it is a label: what it is worth is what the hold of that sum in a sandbox is worth. -/
noncomputable def Tryd.pinned : Pinned := { name := "ytbeppooknhmhaaadoor", sum := "572f90369d64391dd29f779b8e5c8c6a4dae75f8f2543c4b5339fc20e5ea08e8", checked := Tryd.checked }
namespace Rows
def none {H : Type} : Left H := { results := [], args := [] }

/- WHAT THE LISTED PACKAGE-LEVEL VARIABLES READ AS WHEN THE CALL BEGINS. Each datum BY PROGRAM (the guide's laid-datum.mjs) off the statement by which the dump's own 'gosem.cut.vars' lays the variable. In a bare row this is a premise. The card (YtbeppooknhmhaaaDoorCards.lean) ties it to the program's text. -/
def laid_unicode_utf8_acceptRanges {H : Type} : DataW H := .agg [.agg [.lit (.int .u8 128), .lit (.int .u8 191)], .agg [.lit (.int .u8 160), .lit (.int .u8 191)], .agg [.lit (.int .u8 128), .lit (.int .u8 159)], .agg [.lit (.int .u8 144), .lit (.int .u8 191)], .agg [.lit (.int .u8 128), .lit (.int .u8 143)], .agg [.lit (.int .u8 0), .lit (.int .u8 0)], .agg [.lit (.int .u8 0), .lit (.int .u8 0)], .agg [.lit (.int .u8 0), .lit (.int .u8 0)], .agg [.lit (.int .u8 0), .lit (.int .u8 0)], .agg [.lit (.int .u8 0), .lit (.int .u8 0)], .agg [.lit (.int .u8 0), .lit (.int .u8 0)], .agg [.lit (.int .u8 0), .lit (.int .u8 0)], .agg [.lit (.int .u8 0), .lit (.int .u8 0)], .agg [.lit (.int .u8 0), .lit (.int .u8 0)], .agg [.lit (.int .u8 0), .lit (.int .u8 0)], .agg [.lit (.int .u8 0), .lit (.int .u8 0)]]
/-- One of Go's own tables, pinned by name: the form's constant. -/
def laid_unicode_utf8_first : DataW Unit := Go.Pinned.utf8First

/-- 'manciplelaw10.FieldHeads': WHATEVER THE INPUT: true; the input reads as it did. -/
def fieldHeadsSpec : ChangeSpec := { name := "fieldHeads", fn := fun _ => fun
  | [d] => { results := [.lit (.bool true)], args := [d] }
  | _ => none }
def fieldHeadsRow : OpenClaim := { program := "ytbeppooknhmhaaadoor", sum := "572f90369d64391dd29f779b8e5c8c6a4dae75f8f2543c4b5339fc20e5ea08e8", func := "manciple/manciplelaw10.FieldHeads", spec := "fieldHeads", inPlace := ["internal/bytealg.IndexByteString", "internal/bytealg.IndexString"], named := ["internal/bytealg.MaxLen", "unicode/utf8.first", "unicode/utf8.acceptRanges"], apart := false, laid := [("unicode/utf8.acceptRanges", laid_unicode_utf8_acceptRanges), ("unicode/utf8.first", laid_unicode_utf8_first)] }
def FieldHeadsSaid : Prop := fieldHeadsRow.holds Tryd.pinned (OpenSpec.ofChange fieldHeadsSpec)

/-- ITS FALSE NEIGHBOUR: 'it returns false'. Refute it at one input. -/
def fieldHeadsWrong : ChangeSpec := { name := "fieldHeads", fn := fun _ => fun
  | [d] => { results := [.lit (.bool false)], args := [d] }
  | _ => none }
def FieldHeadsWrongFalsely : Prop := fieldHeadsRow.holds Tryd.pinned (OpenSpec.ofChange fieldHeadsWrong)

/-- 'manciplelaw10.FieldStays': WHATEVER THE INPUT: true; the input reads as it did. -/
def fieldStaysSpec : ChangeSpec := { name := "fieldStays", fn := fun _ => fun
  | [d1, d2] => { results := [.lit (.bool true)], args := [d1, d2] }
  | _ => none }
def fieldStaysRow : OpenClaim := { program := "ytbeppooknhmhaaadoor", sum := "572f90369d64391dd29f779b8e5c8c6a4dae75f8f2543c4b5339fc20e5ea08e8", func := "manciple/manciplelaw10.FieldStays", spec := "fieldStays", inPlace := ["internal/bytealg.IndexByteString", "internal/bytealg.IndexString"], named := ["internal/bytealg.MaxLen", "unicode/utf8.first", "unicode/utf8.acceptRanges"], apart := false, laid := [("unicode/utf8.acceptRanges", laid_unicode_utf8_acceptRanges), ("unicode/utf8.first", laid_unicode_utf8_first)] }
def FieldStaysSaid : Prop := fieldStaysRow.holds Tryd.pinned (OpenSpec.ofChange fieldStaysSpec)

/-- ITS FALSE NEIGHBOUR: 'it returns false'. Refute it at one input. -/
def fieldStaysWrong : ChangeSpec := { name := "fieldStays", fn := fun _ => fun
  | [d1, d2] => { results := [.lit (.bool false)], args := [d1, d2] }
  | _ => none }
def FieldStaysWrongFalsely : Prop := fieldStaysRow.holds Tryd.pinned (OpenSpec.ofChange fieldStaysWrong)

/-- 'manciplelaw10.FieldLines': WHATEVER THE INPUT: true; the input reads as it did. -/
def fieldLinesSpec : ChangeSpec := { name := "fieldLines", fn := fun _ => fun
  | [d1, d2] => { results := [.lit (.bool true)], args := [d1, d2] }
  | _ => none }
def fieldLinesRow : OpenClaim := { program := "ytbeppooknhmhaaadoor", sum := "572f90369d64391dd29f779b8e5c8c6a4dae75f8f2543c4b5339fc20e5ea08e8", func := "manciple/manciplelaw10.FieldLines", spec := "fieldLines", inPlace := ["internal/bytealg.IndexByteString", "internal/bytealg.IndexString"], named := ["internal/bytealg.MaxLen", "unicode/utf8.first", "unicode/utf8.acceptRanges"], apart := false, laid := [("unicode/utf8.acceptRanges", laid_unicode_utf8_acceptRanges), ("unicode/utf8.first", laid_unicode_utf8_first)] }
def FieldLinesSaid : Prop := fieldLinesRow.holds Tryd.pinned (OpenSpec.ofChange fieldLinesSpec)

/-- ITS FALSE NEIGHBOUR: 'it returns false'. Refute it at one input. -/
def fieldLinesWrong : ChangeSpec := { name := "fieldLines", fn := fun _ => fun
  | [d1, d2] => { results := [.lit (.bool false)], args := [d1, d2] }
  | _ => none }
def FieldLinesWrongFalsely : Prop := fieldLinesRow.holds Tryd.pinned (OpenSpec.ofChange fieldLinesWrong)

/-- 'manciplelaw10.FieldBack': WHATEVER THE INPUT: true; the input reads as it did. -/
def fieldBackSpec : ChangeSpec := { name := "fieldBack", fn := fun _ => fun
  | [d1, d2, d3] => { results := [.lit (.bool true)], args := [d1, d2, d3] }
  | _ => none }
def fieldBackRow : OpenClaim := { program := "ytbeppooknhmhaaadoor", sum := "572f90369d64391dd29f779b8e5c8c6a4dae75f8f2543c4b5339fc20e5ea08e8", func := "manciple/manciplelaw10.FieldBack", spec := "fieldBack", inPlace := ["internal/bytealg.IndexByteString", "internal/bytealg.IndexString"], named := ["internal/bytealg.MaxLen", "unicode/utf8.first", "unicode/utf8.acceptRanges"], apart := false, laid := [("unicode/utf8.acceptRanges", laid_unicode_utf8_acceptRanges), ("unicode/utf8.first", laid_unicode_utf8_first)] }
def FieldBackSaid : Prop := fieldBackRow.holds Tryd.pinned (OpenSpec.ofChange fieldBackSpec)

/-- ITS FALSE NEIGHBOUR: 'it returns false'. Refute it at one input. -/
def fieldBackWrong : ChangeSpec := { name := "fieldBack", fn := fun _ => fun
  | [d1, d2, d3] => { results := [.lit (.bool false)], args := [d1, d2, d3] }
  | _ => none }
def FieldBackWrongFalsely : Prop := fieldBackRow.holds Tryd.pinned (OpenSpec.ofChange fieldBackWrong)

/-- 'manciplelaw10.FieldNames': WHATEVER THE INPUT: true; the input reads as it did. -/
def fieldNamesSpec : ChangeSpec := { name := "fieldNames", fn := fun _ => fun
  | [d1, d2] => { results := [.lit (.bool true)], args := [d1, d2] }
  | _ => none }
def fieldNamesRow : OpenClaim := { program := "ytbeppooknhmhaaadoor", sum := "572f90369d64391dd29f779b8e5c8c6a4dae75f8f2543c4b5339fc20e5ea08e8", func := "manciple/manciplelaw10.FieldNames", spec := "fieldNames", inPlace := ["internal/bytealg.IndexByteString", "internal/bytealg.IndexString"], named := ["internal/bytealg.MaxLen", "unicode/utf8.first", "unicode/utf8.acceptRanges"], apart := false, laid := [("unicode/utf8.acceptRanges", laid_unicode_utf8_acceptRanges), ("unicode/utf8.first", laid_unicode_utf8_first)] }
def FieldNamesSaid : Prop := fieldNamesRow.holds Tryd.pinned (OpenSpec.ofChange fieldNamesSpec)

/-- ITS FALSE NEIGHBOUR: 'it returns false'. Refute it at one input. -/
def fieldNamesWrong : ChangeSpec := { name := "fieldNames", fn := fun _ => fun
  | [d1, d2] => { results := [.lit (.bool false)], args := [d1, d2] }
  | _ => none }
def FieldNamesWrongFalsely : Prop := fieldNamesRow.holds Tryd.pinned (OpenSpec.ofChange fieldNamesWrong)

/-- 'manciplelaw10.FieldFrames': WHATEVER THE INPUT: true; the input reads as it did. -/
def fieldFramesSpec : ChangeSpec := { name := "fieldFrames", fn := fun _ => fun
  | [d1, d2] => { results := [.lit (.bool true)], args := [d1, d2] }
  | _ => none }
def fieldFramesRow : OpenClaim := { program := "ytbeppooknhmhaaadoor", sum := "572f90369d64391dd29f779b8e5c8c6a4dae75f8f2543c4b5339fc20e5ea08e8", func := "manciple/manciplelaw10.FieldFrames", spec := "fieldFrames", inPlace := ["internal/bytealg.IndexByteString", "internal/bytealg.IndexString"], named := ["internal/bytealg.MaxLen", "unicode/utf8.first", "unicode/utf8.acceptRanges"], apart := false, laid := [("unicode/utf8.acceptRanges", laid_unicode_utf8_acceptRanges), ("unicode/utf8.first", laid_unicode_utf8_first)] }
def FieldFramesSaid : Prop := fieldFramesRow.holds Tryd.pinned (OpenSpec.ofChange fieldFramesSpec)

/-- ITS FALSE NEIGHBOUR: 'it returns false'. Refute it at one input. -/
def fieldFramesWrong : ChangeSpec := { name := "fieldFrames", fn := fun _ => fun
  | [d1, d2] => { results := [.lit (.bool false)], args := [d1, d2] }
  | _ => none }
def FieldFramesWrongFalsely : Prop := fieldFramesRow.holds Tryd.pinned (OpenSpec.ofChange fieldFramesWrong)

/-- 'manciplelaw10.FieldLists': WHATEVER THE INPUT: true; the input reads as it did. -/
def fieldListsSpec : ChangeSpec := { name := "fieldLists", fn := fun _ => fun
  | [d1, d2, d3] => { results := [.lit (.bool true)], args := [d1, d2, d3] }
  | _ => none }
def fieldListsRow : OpenClaim := { program := "ytbeppooknhmhaaadoor", sum := "572f90369d64391dd29f779b8e5c8c6a4dae75f8f2543c4b5339fc20e5ea08e8", func := "manciple/manciplelaw10.FieldLists", spec := "fieldLists", inPlace := ["internal/bytealg.IndexByteString", "internal/bytealg.IndexString"], named := ["internal/bytealg.MaxLen", "unicode/utf8.first", "unicode/utf8.acceptRanges"], apart := false, laid := [("unicode/utf8.acceptRanges", laid_unicode_utf8_acceptRanges), ("unicode/utf8.first", laid_unicode_utf8_first)] }
def FieldListsSaid : Prop := fieldListsRow.holds Tryd.pinned (OpenSpec.ofChange fieldListsSpec)

/-- ITS FALSE NEIGHBOUR: 'it returns false'. Refute it at one input. -/
def fieldListsWrong : ChangeSpec := { name := "fieldLists", fn := fun _ => fun
  | [d1, d2, d3] => { results := [.lit (.bool false)], args := [d1, d2, d3] }
  | _ => none }
def FieldListsWrongFalsely : Prop := fieldListsRow.holds Tryd.pinned (OpenSpec.ofChange fieldListsWrong)

/- THE SECOND FORM. 'bulk': how many values and letters a reading holds, each counted each time it is reached (what is shared counts as often as it is met; a slice's spare places count too). A statement '..UptoSaid' is the law's where the arguments, and the package variables that the reading takes, are together of bulk at most 1048576: NARROWER than '..Said'. Prove '..Said' where nothing that the law and all that it calls make is longer than what came in: it says more and counts as full. Else prove '..UptoSaid'. A law counts once. -/
mutual
def uptoBulk {H : Type} : DataW H → Nat
  | .lit (.string bytes) => bytes.length + 1
  | .lit _ => 1
  | .nil => 1
  | .ptr d => uptoBulk d + 1
  | .slice elems spare => uptoBulkAll elems + uptoBulkAll spare + 1
  | .agg parts => uptoBulkAll parts + 1
  | .iface _ d => uptoBulk d + 1
  | .map entries => uptoBulkEntries entries + 1
  | .held _ => 1
def uptoBulkAll {H : Type} : List (DataW H) → Nat
  | [] => 0
  | d :: r => uptoBulk d + uptoBulkAll r
def uptoBulkEntries {H : Type} : List (Lit × DataW H) → Nat
  | [] => 0
  | x :: r => uptoBulkEntry x + uptoBulkEntries r
def uptoBulkEntry {H : Type} : Lit × DataW H → Nat
  | (.string bytes, d) => bytes.length + uptoBulk d + 1
  | (_, d) => uptoBulk d + 1
 end
def uptoSmall : (H : Type) → List (DataW H) → Bool := fun _ ds => decide (uptoBulkAll ds ≤ 1048576)
def OpenSpec.upto (s : _root_.Go.ChangeSpec) : _root_.Go.OpenSpec := { _root_.Go.OpenSpec.ofChange s with cond := some uptoSmall }

/-- 'manciplelaw10.FieldHeads', WHERE WHAT IT READS IS OF BULK AT MOST 1048576: true; the input reads as it did. -/
def fieldHeadsUptoRow : OpenClaim := { program := "ytbeppooknhmhaaadoor", sum := "572f90369d64391dd29f779b8e5c8c6a4dae75f8f2543c4b5339fc20e5ea08e8", func := "manciple/manciplelaw10.FieldHeads", spec := "fieldHeads", inPlace := ["internal/bytealg.IndexByteString", "internal/bytealg.IndexString"], named := ["internal/bytealg.MaxLen", "unicode/utf8.first", "unicode/utf8.acceptRanges"], apart := false, laid := [("unicode/utf8.acceptRanges", laid_unicode_utf8_acceptRanges), ("unicode/utf8.first", laid_unicode_utf8_first)], narrowed := true }
def FieldHeadsUptoSaid : Prop := fieldHeadsUptoRow.holds Tryd.pinned (OpenSpec.upto fieldHeadsSpec)

/-- 'manciplelaw10.FieldStays', WHERE WHAT IT READS IS OF BULK AT MOST 1048576: true; the input reads as it did. -/
def fieldStaysUptoRow : OpenClaim := { program := "ytbeppooknhmhaaadoor", sum := "572f90369d64391dd29f779b8e5c8c6a4dae75f8f2543c4b5339fc20e5ea08e8", func := "manciple/manciplelaw10.FieldStays", spec := "fieldStays", inPlace := ["internal/bytealg.IndexByteString", "internal/bytealg.IndexString"], named := ["internal/bytealg.MaxLen", "unicode/utf8.first", "unicode/utf8.acceptRanges"], apart := false, laid := [("unicode/utf8.acceptRanges", laid_unicode_utf8_acceptRanges), ("unicode/utf8.first", laid_unicode_utf8_first)], narrowed := true }
def FieldStaysUptoSaid : Prop := fieldStaysUptoRow.holds Tryd.pinned (OpenSpec.upto fieldStaysSpec)

/-- 'manciplelaw10.FieldLines', WHERE WHAT IT READS IS OF BULK AT MOST 1048576: true; the input reads as it did. -/
def fieldLinesUptoRow : OpenClaim := { program := "ytbeppooknhmhaaadoor", sum := "572f90369d64391dd29f779b8e5c8c6a4dae75f8f2543c4b5339fc20e5ea08e8", func := "manciple/manciplelaw10.FieldLines", spec := "fieldLines", inPlace := ["internal/bytealg.IndexByteString", "internal/bytealg.IndexString"], named := ["internal/bytealg.MaxLen", "unicode/utf8.first", "unicode/utf8.acceptRanges"], apart := false, laid := [("unicode/utf8.acceptRanges", laid_unicode_utf8_acceptRanges), ("unicode/utf8.first", laid_unicode_utf8_first)], narrowed := true }
def FieldLinesUptoSaid : Prop := fieldLinesUptoRow.holds Tryd.pinned (OpenSpec.upto fieldLinesSpec)

/-- 'manciplelaw10.FieldBack', WHERE WHAT IT READS IS OF BULK AT MOST 1048576: true; the input reads as it did. -/
def fieldBackUptoRow : OpenClaim := { program := "ytbeppooknhmhaaadoor", sum := "572f90369d64391dd29f779b8e5c8c6a4dae75f8f2543c4b5339fc20e5ea08e8", func := "manciple/manciplelaw10.FieldBack", spec := "fieldBack", inPlace := ["internal/bytealg.IndexByteString", "internal/bytealg.IndexString"], named := ["internal/bytealg.MaxLen", "unicode/utf8.first", "unicode/utf8.acceptRanges"], apart := false, laid := [("unicode/utf8.acceptRanges", laid_unicode_utf8_acceptRanges), ("unicode/utf8.first", laid_unicode_utf8_first)], narrowed := true }
def FieldBackUptoSaid : Prop := fieldBackUptoRow.holds Tryd.pinned (OpenSpec.upto fieldBackSpec)

/-- 'manciplelaw10.FieldNames', WHERE WHAT IT READS IS OF BULK AT MOST 1048576: true; the input reads as it did. -/
def fieldNamesUptoRow : OpenClaim := { program := "ytbeppooknhmhaaadoor", sum := "572f90369d64391dd29f779b8e5c8c6a4dae75f8f2543c4b5339fc20e5ea08e8", func := "manciple/manciplelaw10.FieldNames", spec := "fieldNames", inPlace := ["internal/bytealg.IndexByteString", "internal/bytealg.IndexString"], named := ["internal/bytealg.MaxLen", "unicode/utf8.first", "unicode/utf8.acceptRanges"], apart := false, laid := [("unicode/utf8.acceptRanges", laid_unicode_utf8_acceptRanges), ("unicode/utf8.first", laid_unicode_utf8_first)], narrowed := true }
def FieldNamesUptoSaid : Prop := fieldNamesUptoRow.holds Tryd.pinned (OpenSpec.upto fieldNamesSpec)

/-- 'manciplelaw10.FieldFrames', WHERE WHAT IT READS IS OF BULK AT MOST 1048576: true; the input reads as it did. -/
def fieldFramesUptoRow : OpenClaim := { program := "ytbeppooknhmhaaadoor", sum := "572f90369d64391dd29f779b8e5c8c6a4dae75f8f2543c4b5339fc20e5ea08e8", func := "manciple/manciplelaw10.FieldFrames", spec := "fieldFrames", inPlace := ["internal/bytealg.IndexByteString", "internal/bytealg.IndexString"], named := ["internal/bytealg.MaxLen", "unicode/utf8.first", "unicode/utf8.acceptRanges"], apart := false, laid := [("unicode/utf8.acceptRanges", laid_unicode_utf8_acceptRanges), ("unicode/utf8.first", laid_unicode_utf8_first)], narrowed := true }
def FieldFramesUptoSaid : Prop := fieldFramesUptoRow.holds Tryd.pinned (OpenSpec.upto fieldFramesSpec)

/-- 'manciplelaw10.FieldLists', WHERE WHAT IT READS IS OF BULK AT MOST 1048576: true; the input reads as it did. -/
def fieldListsUptoRow : OpenClaim := { program := "ytbeppooknhmhaaadoor", sum := "572f90369d64391dd29f779b8e5c8c6a4dae75f8f2543c4b5339fc20e5ea08e8", func := "manciple/manciplelaw10.FieldLists", spec := "fieldLists", inPlace := ["internal/bytealg.IndexByteString", "internal/bytealg.IndexString"], named := ["internal/bytealg.MaxLen", "unicode/utf8.first", "unicode/utf8.acceptRanges"], apart := false, laid := [("unicode/utf8.acceptRanges", laid_unicode_utf8_acceptRanges), ("unicode/utf8.first", laid_unicode_utf8_first)], narrowed := true }
def FieldListsUptoSaid : Prop := fieldListsUptoRow.holds Tryd.pinned (OpenSpec.upto fieldListsSpec)

end Rows
end Go.Proofs.YtbeppooknhmhaaaDoor
