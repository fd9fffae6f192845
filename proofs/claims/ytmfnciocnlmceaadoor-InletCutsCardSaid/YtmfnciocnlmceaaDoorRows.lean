/-
  NARROWER THAN 'FOR EVERY INPUT', by the rows' own cells (each row's printed sentence says how): OutletExact: laid · OutletBack: laid · ChunkReads: laid · ChunkWrites: laid · ChunkCuts: laid · ChunkBack: laid · InletLines: laid · InletCuts: laid · InletPipes: laid · InletStrict: laid.
  DERIVED. THE GIVEN ROWS OF THIS SEAT. 10 by the template 'for every input the law returns true; each argument reads behind the call as it read before'; 0 by the template 'total and deterministic' (their statements: YtmfnciocnlmceaaDoorTotals.lean).
  GIVEN WITH THE SEED: the statements are not yours to turn. If you find one false, say at which input.
  Laid BY PROGRAM, IN A SANDBOX (cutbox-rows.mjs): the forced cells as the released guide's own fill.sh prints them over the translation a88a9f1001d6e87b… (all of the seat's roots in one cut). By AI agents, Wed Nov 11 2026. No macro, syntax, notation, axiom, sorry.
-/
import Derived.Test.YtmfnciocnlmceaaDoorChecked
import GoSem.PinnedTables
import GoSem.Claim
import GoSem.ClaimJoined
import GoSem.ClaimMapViews
import Derived.JoinedTies
import Derived.KernelRfl
namespace Go.Proofs.YtmfnciocnlmceaaDoor
/- THE CELL 'sum', in the pinned program and in every row, IS THE sha256 OF THE DUMP (.gsa) THAT YtmfnciocnlmceaaDoorProg.lean LOADS. Nothing in Lean hashes anything: it is a label: what it is worth is what the hold of that sum in a sandbox is worth. -/
noncomputable def Tryd.pinned : Pinned := { name := "ytmfnciocnlmceaadoor", sum := "a88a9f1001d6e87b7d5c9cf71a538510d90db226d7ba9bfbc31eb9be30e5a50a", checked := Tryd.checked }
namespace Rows
def none {H : Type} : Left H := { results := [], args := [] }

/- WHAT THE LISTED PACKAGE-LEVEL VARIABLES READ AS WHEN THE CALL BEGINS. Each datum BY PROGRAM (the guide's laid-datum.mjs) off the statement by which the dump's own 'gosem.cut.vars' lays the variable. In a bare row this is a premise. The card (YtmfnciocnlmceaaDoorCards.lean) ties it to the program's text. -/
def laid_math_bits_deBruijn32tab {H : Type} : DataW H := .agg [.lit (.int .u8 0), .lit (.int .u8 1), .lit (.int .u8 28), .lit (.int .u8 2), .lit (.int .u8 29), .lit (.int .u8 14), .lit (.int .u8 24), .lit (.int .u8 3), .lit (.int .u8 30), .lit (.int .u8 22), .lit (.int .u8 20), .lit (.int .u8 15), .lit (.int .u8 25), .lit (.int .u8 17), .lit (.int .u8 4), .lit (.int .u8 8), .lit (.int .u8 31), .lit (.int .u8 27), .lit (.int .u8 13), .lit (.int .u8 23), .lit (.int .u8 21), .lit (.int .u8 19), .lit (.int .u8 16), .lit (.int .u8 7), .lit (.int .u8 26), .lit (.int .u8 12), .lit (.int .u8 18), .lit (.int .u8 6), .lit (.int .u8 11), .lit (.int .u8 5), .lit (.int .u8 10), .lit (.int .u8 9)]
def laid_math_bits_deBruijn64tab {H : Type} : DataW H := .agg [.lit (.int .u8 0), .lit (.int .u8 1), .lit (.int .u8 56), .lit (.int .u8 2), .lit (.int .u8 57), .lit (.int .u8 49), .lit (.int .u8 28), .lit (.int .u8 3), .lit (.int .u8 61), .lit (.int .u8 58), .lit (.int .u8 42), .lit (.int .u8 50), .lit (.int .u8 38), .lit (.int .u8 29), .lit (.int .u8 17), .lit (.int .u8 4), .lit (.int .u8 62), .lit (.int .u8 47), .lit (.int .u8 59), .lit (.int .u8 36), .lit (.int .u8 45), .lit (.int .u8 43), .lit (.int .u8 51), .lit (.int .u8 22), .lit (.int .u8 53), .lit (.int .u8 39), .lit (.int .u8 33), .lit (.int .u8 30), .lit (.int .u8 24), .lit (.int .u8 18), .lit (.int .u8 12), .lit (.int .u8 5), .lit (.int .u8 63), .lit (.int .u8 55), .lit (.int .u8 48), .lit (.int .u8 27), .lit (.int .u8 60), .lit (.int .u8 41), .lit (.int .u8 37), .lit (.int .u8 16), .lit (.int .u8 46), .lit (.int .u8 35), .lit (.int .u8 44), .lit (.int .u8 21), .lit (.int .u8 52), .lit (.int .u8 32), .lit (.int .u8 23), .lit (.int .u8 11), .lit (.int .u8 54), .lit (.int .u8 26), .lit (.int .u8 40), .lit (.int .u8 15), .lit (.int .u8 34), .lit (.int .u8 20), .lit (.int .u8 31), .lit (.int .u8 10), .lit (.int .u8 25), .lit (.int .u8 14), .lit (.int .u8 19), .lit (.int .u8 9), .lit (.int .u8 13), .lit (.int .u8 8), .lit (.int .u8 7), .lit (.int .u8 6)]
def laid_internal_strconv_uint64pow10 {H : Type} : DataW H := .agg [.lit (.int .u64 1), .lit (.int .u64 10), .lit (.int .u64 100), .lit (.int .u64 1000), .lit (.int .u64 10000), .lit (.int .u64 100000), .lit (.int .u64 1000000), .lit (.int .u64 10000000), .lit (.int .u64 100000000), .lit (.int .u64 1000000000), .lit (.int .u64 10000000000), .lit (.int .u64 100000000000), .lit (.int .u64 1000000000000), .lit (.int .u64 10000000000000), .lit (.int .u64 100000000000000), .lit (.int .u64 1000000000000000), .lit (.int .u64 10000000000000000), .lit (.int .u64 100000000000000000), .lit (.int .u64 1000000000000000000), .lit (.int .u64 10000000000000000000)]
def laid_unicode_utf8_acceptRanges {H : Type} : DataW H := .agg [.agg [.lit (.int .u8 128), .lit (.int .u8 191)], .agg [.lit (.int .u8 160), .lit (.int .u8 191)], .agg [.lit (.int .u8 128), .lit (.int .u8 159)], .agg [.lit (.int .u8 144), .lit (.int .u8 191)], .agg [.lit (.int .u8 128), .lit (.int .u8 143)], .agg [.lit (.int .u8 0), .lit (.int .u8 0)], .agg [.lit (.int .u8 0), .lit (.int .u8 0)], .agg [.lit (.int .u8 0), .lit (.int .u8 0)], .agg [.lit (.int .u8 0), .lit (.int .u8 0)], .agg [.lit (.int .u8 0), .lit (.int .u8 0)], .agg [.lit (.int .u8 0), .lit (.int .u8 0)], .agg [.lit (.int .u8 0), .lit (.int .u8 0)], .agg [.lit (.int .u8 0), .lit (.int .u8 0)], .agg [.lit (.int .u8 0), .lit (.int .u8 0)], .agg [.lit (.int .u8 0), .lit (.int .u8 0)], .agg [.lit (.int .u8 0), .lit (.int .u8 0)]]
/-- One of Go's own tables, pinned by name: the form's constant. -/
def laid_unicode_utf8_first : DataW Unit := Go.Pinned.utf8First

/-- 'manciplelaw13.OutletExact': WHATEVER THE INPUT: true; the input reads as it did. -/
def outletExactSpec : ChangeSpec := { name := "outletExact", fn := fun _ => fun
  | [d1, d2, d3] => { results := [.lit (.bool true)], args := [d1, d2, d3] }
  | _ => none }
def outletExactRow : OpenClaim := { program := "ytmfnciocnlmceaadoor", sum := "a88a9f1001d6e87b7d5c9cf71a538510d90db226d7ba9bfbc31eb9be30e5a50a", func := "manciple/manciplelaw13.OutletExact", spec := "outletExact", inPlace := ["internal/abi.NoEscape", "internal/bytealg.IndexByteString", "internal/bytealg.IndexString"], recurses := true, named := ["internal/strconv.uint64pow10", "math/bits.deBruijn32tab", "math/bits.deBruijn64tab", "unicode/utf8.first", "unicode/utf8.acceptRanges", "internal/bytealg.MaxLen"], apart := false, laid := [("math/bits.deBruijn32tab", laid_math_bits_deBruijn32tab), ("math/bits.deBruijn64tab", laid_math_bits_deBruijn64tab), ("internal/strconv.uint64pow10", laid_internal_strconv_uint64pow10), ("unicode/utf8.acceptRanges", laid_unicode_utf8_acceptRanges), ("unicode/utf8.first", laid_unicode_utf8_first)] }
def OutletExactSaid : Prop := outletExactRow.holds Tryd.pinned (OpenSpec.ofChange outletExactSpec)

/-- ITS FALSE NEIGHBOUR: 'it returns false'. Refute it at one input. -/
def outletExactWrong : ChangeSpec := { name := "outletExact", fn := fun _ => fun
  | [d1, d2, d3] => { results := [.lit (.bool false)], args := [d1, d2, d3] }
  | _ => none }
def OutletExactWrongFalsely : Prop := outletExactRow.holds Tryd.pinned (OpenSpec.ofChange outletExactWrong)

/-- 'manciplelaw13.OutletBack': WHATEVER THE INPUT: true; the input reads as it did. -/
def outletBackSpec : ChangeSpec := { name := "outletBack", fn := fun _ => fun
  | [d1, d2, d3] => { results := [.lit (.bool true)], args := [d1, d2, d3] }
  | _ => none }
def outletBackRow : OpenClaim := { program := "ytmfnciocnlmceaadoor", sum := "a88a9f1001d6e87b7d5c9cf71a538510d90db226d7ba9bfbc31eb9be30e5a50a", func := "manciple/manciplelaw13.OutletBack", spec := "outletBack", inPlace := ["internal/abi.NoEscape", "internal/bytealg.IndexByteString", "internal/bytealg.IndexString"], named := ["internal/strconv.uint64pow10", "math/bits.deBruijn32tab", "math/bits.deBruijn64tab", "unicode/utf8.first", "unicode/utf8.acceptRanges", "internal/bytealg.MaxLen"], apart := false, laid := [("math/bits.deBruijn32tab", laid_math_bits_deBruijn32tab), ("math/bits.deBruijn64tab", laid_math_bits_deBruijn64tab), ("internal/strconv.uint64pow10", laid_internal_strconv_uint64pow10), ("unicode/utf8.acceptRanges", laid_unicode_utf8_acceptRanges), ("unicode/utf8.first", laid_unicode_utf8_first)] }
def OutletBackSaid : Prop := outletBackRow.holds Tryd.pinned (OpenSpec.ofChange outletBackSpec)

/-- ITS FALSE NEIGHBOUR: 'it returns false'. Refute it at one input. -/
def outletBackWrong : ChangeSpec := { name := "outletBack", fn := fun _ => fun
  | [d1, d2, d3] => { results := [.lit (.bool false)], args := [d1, d2, d3] }
  | _ => none }
def OutletBackWrongFalsely : Prop := outletBackRow.holds Tryd.pinned (OpenSpec.ofChange outletBackWrong)

/-- 'manciplelaw11.ChunkReads': WHATEVER THE INPUT: true; the input reads as it did. -/
def chunkReadsSpec : ChangeSpec := { name := "chunkReads", fn := fun _ => fun
  | [d1, d2] => { results := [.lit (.bool true)], args := [d1, d2] }
  | _ => none }
def chunkReadsRow : OpenClaim := { program := "ytmfnciocnlmceaadoor", sum := "a88a9f1001d6e87b7d5c9cf71a538510d90db226d7ba9bfbc31eb9be30e5a50a", func := "manciple/manciplelaw11.ChunkReads", spec := "chunkReads", inPlace := ["internal/bytealg.IndexByteString", "internal/bytealg.IndexString", "internal/abi.NoEscape"], named := ["unicode/utf8.first", "unicode/utf8.acceptRanges", "internal/bytealg.MaxLen", "internal/strconv.uint64pow10", "math/bits.deBruijn32tab", "math/bits.deBruijn64tab"], apart := false, laid := [("math/bits.deBruijn32tab", laid_math_bits_deBruijn32tab), ("math/bits.deBruijn64tab", laid_math_bits_deBruijn64tab), ("internal/strconv.uint64pow10", laid_internal_strconv_uint64pow10), ("unicode/utf8.acceptRanges", laid_unicode_utf8_acceptRanges), ("unicode/utf8.first", laid_unicode_utf8_first)] }
def ChunkReadsSaid : Prop := chunkReadsRow.holds Tryd.pinned (OpenSpec.ofChange chunkReadsSpec)

/-- ITS FALSE NEIGHBOUR: 'it returns false'. Refute it at one input. -/
def chunkReadsWrong : ChangeSpec := { name := "chunkReads", fn := fun _ => fun
  | [d1, d2] => { results := [.lit (.bool false)], args := [d1, d2] }
  | _ => none }
def ChunkReadsWrongFalsely : Prop := chunkReadsRow.holds Tryd.pinned (OpenSpec.ofChange chunkReadsWrong)

/-- 'manciplelaw11.ChunkWrites': WHATEVER THE INPUT: true; the input reads as it did. -/
def chunkWritesSpec : ChangeSpec := { name := "chunkWrites", fn := fun _ => fun
  | [d1, d2] => { results := [.lit (.bool true)], args := [d1, d2] }
  | _ => none }
def chunkWritesRow : OpenClaim := { program := "ytmfnciocnlmceaadoor", sum := "a88a9f1001d6e87b7d5c9cf71a538510d90db226d7ba9bfbc31eb9be30e5a50a", func := "manciple/manciplelaw11.ChunkWrites", spec := "chunkWrites", inPlace := ["internal/bytealg.IndexByteString", "internal/bytealg.IndexString", "internal/abi.NoEscape"], named := ["unicode/utf8.first", "unicode/utf8.acceptRanges", "internal/bytealg.MaxLen", "internal/strconv.uint64pow10", "math/bits.deBruijn32tab", "math/bits.deBruijn64tab"], apart := false, laid := [("math/bits.deBruijn32tab", laid_math_bits_deBruijn32tab), ("math/bits.deBruijn64tab", laid_math_bits_deBruijn64tab), ("internal/strconv.uint64pow10", laid_internal_strconv_uint64pow10), ("unicode/utf8.acceptRanges", laid_unicode_utf8_acceptRanges), ("unicode/utf8.first", laid_unicode_utf8_first)] }
def ChunkWritesSaid : Prop := chunkWritesRow.holds Tryd.pinned (OpenSpec.ofChange chunkWritesSpec)

/-- ITS FALSE NEIGHBOUR: 'it returns false'. Refute it at one input. -/
def chunkWritesWrong : ChangeSpec := { name := "chunkWrites", fn := fun _ => fun
  | [d1, d2] => { results := [.lit (.bool false)], args := [d1, d2] }
  | _ => none }
def ChunkWritesWrongFalsely : Prop := chunkWritesRow.holds Tryd.pinned (OpenSpec.ofChange chunkWritesWrong)

/-- 'manciplelaw11.ChunkCuts': WHATEVER THE INPUT: true; the input reads as it did. -/
def chunkCutsSpec : ChangeSpec := { name := "chunkCuts", fn := fun _ => fun
  | [d1, d2, d3] => { results := [.lit (.bool true)], args := [d1, d2, d3] }
  | _ => none }
def chunkCutsRow : OpenClaim := { program := "ytmfnciocnlmceaadoor", sum := "a88a9f1001d6e87b7d5c9cf71a538510d90db226d7ba9bfbc31eb9be30e5a50a", func := "manciple/manciplelaw11.ChunkCuts", spec := "chunkCuts", inPlace := ["internal/bytealg.IndexByteString", "internal/bytealg.IndexString", "internal/abi.NoEscape"], named := ["unicode/utf8.first", "unicode/utf8.acceptRanges", "internal/bytealg.MaxLen", "internal/strconv.uint64pow10", "math/bits.deBruijn32tab", "math/bits.deBruijn64tab"], apart := false, laid := [("math/bits.deBruijn32tab", laid_math_bits_deBruijn32tab), ("math/bits.deBruijn64tab", laid_math_bits_deBruijn64tab), ("internal/strconv.uint64pow10", laid_internal_strconv_uint64pow10), ("unicode/utf8.acceptRanges", laid_unicode_utf8_acceptRanges), ("unicode/utf8.first", laid_unicode_utf8_first)] }
def ChunkCutsSaid : Prop := chunkCutsRow.holds Tryd.pinned (OpenSpec.ofChange chunkCutsSpec)

/-- ITS FALSE NEIGHBOUR: 'it returns false'. Refute it at one input. -/
def chunkCutsWrong : ChangeSpec := { name := "chunkCuts", fn := fun _ => fun
  | [d1, d2, d3] => { results := [.lit (.bool false)], args := [d1, d2, d3] }
  | _ => none }
def ChunkCutsWrongFalsely : Prop := chunkCutsRow.holds Tryd.pinned (OpenSpec.ofChange chunkCutsWrong)

/-- 'manciplelaw11.ChunkBack': WHATEVER THE INPUT: true; the input reads as it did. -/
def chunkBackSpec : ChangeSpec := { name := "chunkBack", fn := fun _ => fun
  | [d1, d2, d3, d4] => { results := [.lit (.bool true)], args := [d1, d2, d3, d4] }
  | _ => none }
def chunkBackRow : OpenClaim := { program := "ytmfnciocnlmceaadoor", sum := "a88a9f1001d6e87b7d5c9cf71a538510d90db226d7ba9bfbc31eb9be30e5a50a", func := "manciple/manciplelaw11.ChunkBack", spec := "chunkBack", inPlace := ["internal/bytealg.IndexByteString", "internal/bytealg.IndexString", "internal/abi.NoEscape"], named := ["unicode/utf8.first", "unicode/utf8.acceptRanges", "internal/bytealg.MaxLen", "internal/strconv.uint64pow10", "math/bits.deBruijn32tab", "math/bits.deBruijn64tab"], apart := false, laid := [("math/bits.deBruijn32tab", laid_math_bits_deBruijn32tab), ("math/bits.deBruijn64tab", laid_math_bits_deBruijn64tab), ("internal/strconv.uint64pow10", laid_internal_strconv_uint64pow10), ("unicode/utf8.acceptRanges", laid_unicode_utf8_acceptRanges), ("unicode/utf8.first", laid_unicode_utf8_first)] }
def ChunkBackSaid : Prop := chunkBackRow.holds Tryd.pinned (OpenSpec.ofChange chunkBackSpec)

/-- ITS FALSE NEIGHBOUR: 'it returns false'. Refute it at one input. -/
def chunkBackWrong : ChangeSpec := { name := "chunkBack", fn := fun _ => fun
  | [d1, d2, d3, d4] => { results := [.lit (.bool false)], args := [d1, d2, d3, d4] }
  | _ => none }
def ChunkBackWrongFalsely : Prop := chunkBackRow.holds Tryd.pinned (OpenSpec.ofChange chunkBackWrong)

/-- 'manciplelaw12.InletLines': WHATEVER THE INPUT: true; the input reads as it did. -/
def inletLinesSpec : ChangeSpec := { name := "inletLines", fn := fun _ => fun
  | [d] => { results := [.lit (.bool true)], args := [d] }
  | _ => none }
def inletLinesRow : OpenClaim := { program := "ytmfnciocnlmceaadoor", sum := "a88a9f1001d6e87b7d5c9cf71a538510d90db226d7ba9bfbc31eb9be30e5a50a", func := "manciple/manciplelaw12.InletLines", spec := "inletLines", inPlace := ["internal/bytealg.IndexByteString", "internal/bytealg.IndexString", "internal/abi.NoEscape"], named := ["internal/bytealg.MaxLen", "unicode/utf8.first", "unicode/utf8.acceptRanges"], apart := false, laid := [("unicode/utf8.acceptRanges", laid_unicode_utf8_acceptRanges), ("unicode/utf8.first", laid_unicode_utf8_first)] }
def InletLinesSaid : Prop := inletLinesRow.holds Tryd.pinned (OpenSpec.ofChange inletLinesSpec)

/-- ITS FALSE NEIGHBOUR: 'it returns false'. Refute it at one input. -/
def inletLinesWrong : ChangeSpec := { name := "inletLines", fn := fun _ => fun
  | [d] => { results := [.lit (.bool false)], args := [d] }
  | _ => none }
def InletLinesWrongFalsely : Prop := inletLinesRow.holds Tryd.pinned (OpenSpec.ofChange inletLinesWrong)

/-- 'manciplelaw12.InletCuts': WHATEVER THE INPUT: true; the input reads as it did. -/
def inletCutsSpec : ChangeSpec := { name := "inletCuts", fn := fun _ => fun
  | [d1, d2] => { results := [.lit (.bool true)], args := [d1, d2] }
  | _ => none }
def inletCutsRow : OpenClaim := { program := "ytmfnciocnlmceaadoor", sum := "a88a9f1001d6e87b7d5c9cf71a538510d90db226d7ba9bfbc31eb9be30e5a50a", func := "manciple/manciplelaw12.InletCuts", spec := "inletCuts", inPlace := ["internal/bytealg.IndexByteString", "internal/bytealg.IndexString", "internal/abi.NoEscape"], named := ["internal/bytealg.MaxLen", "unicode/utf8.first", "unicode/utf8.acceptRanges"], apart := false, laid := [("unicode/utf8.acceptRanges", laid_unicode_utf8_acceptRanges), ("unicode/utf8.first", laid_unicode_utf8_first)] }
def InletCutsSaid : Prop := inletCutsRow.holds Tryd.pinned (OpenSpec.ofChange inletCutsSpec)

/-- ITS FALSE NEIGHBOUR: 'it returns false'. Refute it at one input. -/
def inletCutsWrong : ChangeSpec := { name := "inletCuts", fn := fun _ => fun
  | [d1, d2] => { results := [.lit (.bool false)], args := [d1, d2] }
  | _ => none }
def InletCutsWrongFalsely : Prop := inletCutsRow.holds Tryd.pinned (OpenSpec.ofChange inletCutsWrong)

/-- 'manciplelaw12.InletPipes': WHATEVER THE INPUT: true; the input reads as it did. -/
def inletPipesSpec : ChangeSpec := { name := "inletPipes", fn := fun _ => fun
  | [d1, d2] => { results := [.lit (.bool true)], args := [d1, d2] }
  | _ => none }
def inletPipesRow : OpenClaim := { program := "ytmfnciocnlmceaadoor", sum := "a88a9f1001d6e87b7d5c9cf71a538510d90db226d7ba9bfbc31eb9be30e5a50a", func := "manciple/manciplelaw12.InletPipes", spec := "inletPipes", inPlace := ["internal/bytealg.IndexByteString", "internal/bytealg.IndexString", "internal/abi.NoEscape"], named := ["internal/bytealg.MaxLen", "unicode/utf8.first", "unicode/utf8.acceptRanges"], apart := false, laid := [("unicode/utf8.acceptRanges", laid_unicode_utf8_acceptRanges), ("unicode/utf8.first", laid_unicode_utf8_first)] }
def InletPipesSaid : Prop := inletPipesRow.holds Tryd.pinned (OpenSpec.ofChange inletPipesSpec)

/-- ITS FALSE NEIGHBOUR: 'it returns false'. Refute it at one input. -/
def inletPipesWrong : ChangeSpec := { name := "inletPipes", fn := fun _ => fun
  | [d1, d2] => { results := [.lit (.bool false)], args := [d1, d2] }
  | _ => none }
def InletPipesWrongFalsely : Prop := inletPipesRow.holds Tryd.pinned (OpenSpec.ofChange inletPipesWrong)

/-- 'manciplelaw12.InletStrict': WHATEVER THE INPUT: true; the input reads as it did. -/
def inletStrictSpec : ChangeSpec := { name := "inletStrict", fn := fun _ => fun
  | [d1, d2] => { results := [.lit (.bool true)], args := [d1, d2] }
  | _ => none }
def inletStrictRow : OpenClaim := { program := "ytmfnciocnlmceaadoor", sum := "a88a9f1001d6e87b7d5c9cf71a538510d90db226d7ba9bfbc31eb9be30e5a50a", func := "manciple/manciplelaw12.InletStrict", spec := "inletStrict", inPlace := ["internal/bytealg.IndexByteString", "internal/bytealg.IndexString", "internal/abi.NoEscape"], named := ["internal/bytealg.MaxLen", "unicode/utf8.first", "unicode/utf8.acceptRanges"], apart := false, laid := [("unicode/utf8.acceptRanges", laid_unicode_utf8_acceptRanges), ("unicode/utf8.first", laid_unicode_utf8_first)] }
def InletStrictSaid : Prop := inletStrictRow.holds Tryd.pinned (OpenSpec.ofChange inletStrictSpec)

/-- ITS FALSE NEIGHBOUR: 'it returns false'. Refute it at one input. -/
def inletStrictWrong : ChangeSpec := { name := "inletStrict", fn := fun _ => fun
  | [d1, d2] => { results := [.lit (.bool false)], args := [d1, d2] }
  | _ => none }
def InletStrictWrongFalsely : Prop := inletStrictRow.holds Tryd.pinned (OpenSpec.ofChange inletStrictWrong)

/- THE SECOND FORM. 'bulk': how many values and letters a reading holds, each counted each time it is reached (what is shared counts as often as it is met; a slice's spare places count too). A statement '..UptoSaid' is the law's where the arguments, and the package variables that the reading takes, are together of bulk at most 1048576: NARROWER than '..Said'. Prove '..Said' where nothing that the law and all that it calls make is longer than what came in: it says more and counts as full. Else prove '..UptoSaid'. A law counts once. -/
mutual
def uptoBulk {H : Type} : DataW H → Nat
  | .lit (.string bytes) => bytes.length + 1
  | .lit _ => 1
  | .nil => 1
  | .ptr d => uptoBulk d + 1
  | .slice elems spare => uptoBulkAll elems + uptoBulkAll spare + 1
  | .agg parts => uptoBulkAll parts + 1
  | .iface _ d => uptoBulk d + 1
  | .map entries => uptoBulkEntries entries + 1
  | .held _ => 1
def uptoBulkAll {H : Type} : List (DataW H) → Nat
  | [] => 0
  | d :: r => uptoBulk d + uptoBulkAll r
def uptoBulkEntries {H : Type} : List (Lit × DataW H) → Nat
  | [] => 0
  | x :: r => uptoBulkEntry x + uptoBulkEntries r
def uptoBulkEntry {H : Type} : Lit × DataW H → Nat
  | (.string bytes, d) => bytes.length + uptoBulk d + 1
  | (_, d) => uptoBulk d + 1
 end
def uptoSmall : (H : Type) → List (DataW H) → Bool := fun _ ds => decide (uptoBulkAll ds ≤ 1048576)
def OpenSpec.upto (s : _root_.Go.ChangeSpec) : _root_.Go.OpenSpec := { _root_.Go.OpenSpec.ofChange s with cond := some uptoSmall }

/-- 'manciplelaw13.OutletExact', WHERE WHAT IT READS IS OF BULK AT MOST 1048576: true; the input reads as it did. -/
def outletExactUptoRow : OpenClaim := { program := "ytmfnciocnlmceaadoor", sum := "a88a9f1001d6e87b7d5c9cf71a538510d90db226d7ba9bfbc31eb9be30e5a50a", func := "manciple/manciplelaw13.OutletExact", spec := "outletExact", inPlace := ["internal/abi.NoEscape", "internal/bytealg.IndexByteString", "internal/bytealg.IndexString"], recurses := true, named := ["internal/strconv.uint64pow10", "math/bits.deBruijn32tab", "math/bits.deBruijn64tab", "unicode/utf8.first", "unicode/utf8.acceptRanges", "internal/bytealg.MaxLen"], apart := false, laid := [("math/bits.deBruijn32tab", laid_math_bits_deBruijn32tab), ("math/bits.deBruijn64tab", laid_math_bits_deBruijn64tab), ("internal/strconv.uint64pow10", laid_internal_strconv_uint64pow10), ("unicode/utf8.acceptRanges", laid_unicode_utf8_acceptRanges), ("unicode/utf8.first", laid_unicode_utf8_first)], narrowed := true }
def OutletExactUptoSaid : Prop := outletExactUptoRow.holds Tryd.pinned (OpenSpec.upto outletExactSpec)

/-- 'manciplelaw13.OutletBack', WHERE WHAT IT READS IS OF BULK AT MOST 1048576: true; the input reads as it did. -/
def outletBackUptoRow : OpenClaim := { program := "ytmfnciocnlmceaadoor", sum := "a88a9f1001d6e87b7d5c9cf71a538510d90db226d7ba9bfbc31eb9be30e5a50a", func := "manciple/manciplelaw13.OutletBack", spec := "outletBack", inPlace := ["internal/abi.NoEscape", "internal/bytealg.IndexByteString", "internal/bytealg.IndexString"], named := ["internal/strconv.uint64pow10", "math/bits.deBruijn32tab", "math/bits.deBruijn64tab", "unicode/utf8.first", "unicode/utf8.acceptRanges", "internal/bytealg.MaxLen"], apart := false, laid := [("math/bits.deBruijn32tab", laid_math_bits_deBruijn32tab), ("math/bits.deBruijn64tab", laid_math_bits_deBruijn64tab), ("internal/strconv.uint64pow10", laid_internal_strconv_uint64pow10), ("unicode/utf8.acceptRanges", laid_unicode_utf8_acceptRanges), ("unicode/utf8.first", laid_unicode_utf8_first)], narrowed := true }
def OutletBackUptoSaid : Prop := outletBackUptoRow.holds Tryd.pinned (OpenSpec.upto outletBackSpec)

/-- 'manciplelaw11.ChunkReads', WHERE WHAT IT READS IS OF BULK AT MOST 1048576: true; the input reads as it did. -/
def chunkReadsUptoRow : OpenClaim := { program := "ytmfnciocnlmceaadoor", sum := "a88a9f1001d6e87b7d5c9cf71a538510d90db226d7ba9bfbc31eb9be30e5a50a", func := "manciple/manciplelaw11.ChunkReads", spec := "chunkReads", inPlace := ["internal/bytealg.IndexByteString", "internal/bytealg.IndexString", "internal/abi.NoEscape"], named := ["unicode/utf8.first", "unicode/utf8.acceptRanges", "internal/bytealg.MaxLen", "internal/strconv.uint64pow10", "math/bits.deBruijn32tab", "math/bits.deBruijn64tab"], apart := false, laid := [("math/bits.deBruijn32tab", laid_math_bits_deBruijn32tab), ("math/bits.deBruijn64tab", laid_math_bits_deBruijn64tab), ("internal/strconv.uint64pow10", laid_internal_strconv_uint64pow10), ("unicode/utf8.acceptRanges", laid_unicode_utf8_acceptRanges), ("unicode/utf8.first", laid_unicode_utf8_first)], narrowed := true }
def ChunkReadsUptoSaid : Prop := chunkReadsUptoRow.holds Tryd.pinned (OpenSpec.upto chunkReadsSpec)

/-- 'manciplelaw11.ChunkWrites', WHERE WHAT IT READS IS OF BULK AT MOST 1048576: true; the input reads as it did. -/
def chunkWritesUptoRow : OpenClaim := { program := "ytmfnciocnlmceaadoor", sum := "a88a9f1001d6e87b7d5c9cf71a538510d90db226d7ba9bfbc31eb9be30e5a50a", func := "manciple/manciplelaw11.ChunkWrites", spec := "chunkWrites", inPlace := ["internal/bytealg.IndexByteString", "internal/bytealg.IndexString", "internal/abi.NoEscape"], named := ["unicode/utf8.first", "unicode/utf8.acceptRanges", "internal/bytealg.MaxLen", "internal/strconv.uint64pow10", "math/bits.deBruijn32tab", "math/bits.deBruijn64tab"], apart := false, laid := [("math/bits.deBruijn32tab", laid_math_bits_deBruijn32tab), ("math/bits.deBruijn64tab", laid_math_bits_deBruijn64tab), ("internal/strconv.uint64pow10", laid_internal_strconv_uint64pow10), ("unicode/utf8.acceptRanges", laid_unicode_utf8_acceptRanges), ("unicode/utf8.first", laid_unicode_utf8_first)], narrowed := true }
def ChunkWritesUptoSaid : Prop := chunkWritesUptoRow.holds Tryd.pinned (OpenSpec.upto chunkWritesSpec)

/-- 'manciplelaw11.ChunkCuts', WHERE WHAT IT READS IS OF BULK AT MOST 1048576: true; the input reads as it did. -/
def chunkCutsUptoRow : OpenClaim := { program := "ytmfnciocnlmceaadoor", sum := "a88a9f1001d6e87b7d5c9cf71a538510d90db226d7ba9bfbc31eb9be30e5a50a", func := "manciple/manciplelaw11.ChunkCuts", spec := "chunkCuts", inPlace := ["internal/bytealg.IndexByteString", "internal/bytealg.IndexString", "internal/abi.NoEscape"], named := ["unicode/utf8.first", "unicode/utf8.acceptRanges", "internal/bytealg.MaxLen", "internal/strconv.uint64pow10", "math/bits.deBruijn32tab", "math/bits.deBruijn64tab"], apart := false, laid := [("math/bits.deBruijn32tab", laid_math_bits_deBruijn32tab), ("math/bits.deBruijn64tab", laid_math_bits_deBruijn64tab), ("internal/strconv.uint64pow10", laid_internal_strconv_uint64pow10), ("unicode/utf8.acceptRanges", laid_unicode_utf8_acceptRanges), ("unicode/utf8.first", laid_unicode_utf8_first)], narrowed := true }
def ChunkCutsUptoSaid : Prop := chunkCutsUptoRow.holds Tryd.pinned (OpenSpec.upto chunkCutsSpec)

/-- 'manciplelaw11.ChunkBack', WHERE WHAT IT READS IS OF BULK AT MOST 1048576: true; the input reads as it did. -/
def chunkBackUptoRow : OpenClaim := { program := "ytmfnciocnlmceaadoor", sum := "a88a9f1001d6e87b7d5c9cf71a538510d90db226d7ba9bfbc31eb9be30e5a50a", func := "manciple/manciplelaw11.ChunkBack", spec := "chunkBack", inPlace := ["internal/bytealg.IndexByteString", "internal/bytealg.IndexString", "internal/abi.NoEscape"], named := ["unicode/utf8.first", "unicode/utf8.acceptRanges", "internal/bytealg.MaxLen", "internal/strconv.uint64pow10", "math/bits.deBruijn32tab", "math/bits.deBruijn64tab"], apart := false, laid := [("math/bits.deBruijn32tab", laid_math_bits_deBruijn32tab), ("math/bits.deBruijn64tab", laid_math_bits_deBruijn64tab), ("internal/strconv.uint64pow10", laid_internal_strconv_uint64pow10), ("unicode/utf8.acceptRanges", laid_unicode_utf8_acceptRanges), ("unicode/utf8.first", laid_unicode_utf8_first)], narrowed := true }
def ChunkBackUptoSaid : Prop := chunkBackUptoRow.holds Tryd.pinned (OpenSpec.upto chunkBackSpec)

/-- 'manciplelaw12.InletLines', WHERE WHAT IT READS IS OF BULK AT MOST 1048576: true; the input reads as it did. -/
def inletLinesUptoRow : OpenClaim := { program := "ytmfnciocnlmceaadoor", sum := "a88a9f1001d6e87b7d5c9cf71a538510d90db226d7ba9bfbc31eb9be30e5a50a", func := "manciple/manciplelaw12.InletLines", spec := "inletLines", inPlace := ["internal/bytealg.IndexByteString", "internal/bytealg.IndexString", "internal/abi.NoEscape"], named := ["internal/bytealg.MaxLen", "unicode/utf8.first", "unicode/utf8.acceptRanges"], apart := false, laid := [("unicode/utf8.acceptRanges", laid_unicode_utf8_acceptRanges), ("unicode/utf8.first", laid_unicode_utf8_first)], narrowed := true }
def InletLinesUptoSaid : Prop := inletLinesUptoRow.holds Tryd.pinned (OpenSpec.upto inletLinesSpec)

/-- 'manciplelaw12.InletCuts', WHERE WHAT IT READS IS OF BULK AT MOST 1048576: true; the input reads as it did. -/
def inletCutsUptoRow : OpenClaim := { program := "ytmfnciocnlmceaadoor", sum := "a88a9f1001d6e87b7d5c9cf71a538510d90db226d7ba9bfbc31eb9be30e5a50a", func := "manciple/manciplelaw12.InletCuts", spec := "inletCuts", inPlace := ["internal/bytealg.IndexByteString", "internal/bytealg.IndexString", "internal/abi.NoEscape"], named := ["internal/bytealg.MaxLen", "unicode/utf8.first", "unicode/utf8.acceptRanges"], apart := false, laid := [("unicode/utf8.acceptRanges", laid_unicode_utf8_acceptRanges), ("unicode/utf8.first", laid_unicode_utf8_first)], narrowed := true }
def InletCutsUptoSaid : Prop := inletCutsUptoRow.holds Tryd.pinned (OpenSpec.upto inletCutsSpec)

/-- 'manciplelaw12.InletPipes', WHERE WHAT IT READS IS OF BULK AT MOST 1048576: true; the input reads as it did. -/
def inletPipesUptoRow : OpenClaim := { program := "ytmfnciocnlmceaadoor", sum := "a88a9f1001d6e87b7d5c9cf71a538510d90db226d7ba9bfbc31eb9be30e5a50a", func := "manciple/manciplelaw12.InletPipes", spec := "inletPipes", inPlace := ["internal/bytealg.IndexByteString", "internal/bytealg.IndexString", "internal/abi.NoEscape"], named := ["internal/bytealg.MaxLen", "unicode/utf8.first", "unicode/utf8.acceptRanges"], apart := false, laid := [("unicode/utf8.acceptRanges", laid_unicode_utf8_acceptRanges), ("unicode/utf8.first", laid_unicode_utf8_first)], narrowed := true }
def InletPipesUptoSaid : Prop := inletPipesUptoRow.holds Tryd.pinned (OpenSpec.upto inletPipesSpec)

/-- 'manciplelaw12.InletStrict', WHERE WHAT IT READS IS OF BULK AT MOST 1048576: true; the input reads as it did. -/
def inletStrictUptoRow : OpenClaim := { program := "ytmfnciocnlmceaadoor", sum := "a88a9f1001d6e87b7d5c9cf71a538510d90db226d7ba9bfbc31eb9be30e5a50a", func := "manciple/manciplelaw12.InletStrict", spec := "inletStrict", inPlace := ["internal/bytealg.IndexByteString", "internal/bytealg.IndexString", "internal/abi.NoEscape"], named := ["internal/bytealg.MaxLen", "unicode/utf8.first", "unicode/utf8.acceptRanges"], apart := false, laid := [("unicode/utf8.acceptRanges", laid_unicode_utf8_acceptRanges), ("unicode/utf8.first", laid_unicode_utf8_first)], narrowed := true }
def InletStrictUptoSaid : Prop := inletStrictUptoRow.holds Tryd.pinned (OpenSpec.upto inletStrictSpec)

end Rows
end Go.Proofs.YtmfnciocnlmceaaDoor
