/-
  NARROWER THAN 'FOR EVERY INPUT', by the rows' own cells (each row's printed sentence says how): ReplyLines: laid · ReplyCuts: laid · GuestPipes: laid · GuestTurns: laid.
  DERIVED. THE GIVEN ROWS OF THIS SEAT. 4 by the template 'for every input the law returns true; each argument reads behind the call as it read before'; 0 by the template 'total and deterministic' (their statements: YtdmffbefppjllaaDoorTotals.lean).
  GIVEN WITH THE SEED: the statements are not yours to turn. If you find one false, say at which input.
  Laid BY PROGRAM, IN A SANDBOX (cutbox-rows.mjs): the forced cells as the released guide's own fill.sh prints them over the translation 93ee80b3072f75a5… (all of the seat's roots in one cut). By AI agents, Wed Nov 11 2026. No macro, syntax, notation, axiom, sorry.
-/
import Derived.Test.YtdmffbefppjllaaDoorChecked
import GoSem.PinnedTables
import GoSem.Claim
import GoSem.ClaimJoined
import GoSem.ClaimMapViews
import Derived.JoinedTies
import Derived.KernelRfl
namespace Go.Proofs.YtdmffbefppjllaaDoor
/- THE CELL 'sum', in the pinned program and in every row, IS THE sha256 OF THE DUMP (.gsa) THAT YtdmffbefppjllaaDoorProg.lean LOADS. Nothing in Lean hashes anything: it is a label: what it is worth is what the hold of that sum in a sandbox is worth. -/
noncomputable def Tryd.pinned : Pinned := { name := "ytdmffbefppjllaadoor", sum := "93ee80b3072f75a5f0154ff7f5e5492532a56938b9de32af80fcd6ccf91009a7", checked := Tryd.checked }
namespace Rows
def none {H : Type} : Left H := { results := [], args := [] }

/- WHAT THE LISTED PACKAGE-LEVEL VARIABLES READ AS WHEN THE CALL BEGINS. Each datum BY PROGRAM (the guide's laid-datum.mjs) off the statement by which the dump's own 'gosem.cut.vars' lays the variable. In a bare row this is a premise. The card (YtdmffbefppjllaaDoorCards.lean) ties it to the program's text. -/
def laid_unicode_utf8_acceptRanges {H : Type} : DataW H := .agg [.agg [.lit (.int .u8 128), .lit (.int .u8 191)], .agg [.lit (.int .u8 160), .lit (.int .u8 191)], .agg [.lit (.int .u8 128), .lit (.int .u8 159)], .agg [.lit (.int .u8 144), .lit (.int .u8 191)], .agg [.lit (.int .u8 128), .lit (.int .u8 143)], .agg [.lit (.int .u8 0), .lit (.int .u8 0)], .agg [.lit (.int .u8 0), .lit (.int .u8 0)], .agg [.lit (.int .u8 0), .lit (.int .u8 0)], .agg [.lit (.int .u8 0), .lit (.int .u8 0)], .agg [.lit (.int .u8 0), .lit (.int .u8 0)], .agg [.lit (.int .u8 0), .lit (.int .u8 0)], .agg [.lit (.int .u8 0), .lit (.int .u8 0)], .agg [.lit (.int .u8 0), .lit (.int .u8 0)], .agg [.lit (.int .u8 0), .lit (.int .u8 0)], .agg [.lit (.int .u8 0), .lit (.int .u8 0)], .agg [.lit (.int .u8 0), .lit (.int .u8 0)]]
/-- One of Go's own tables, pinned by name: the form's constant. -/
def laid_unicode_utf8_first : DataW Unit := Go.Pinned.utf8First

/-- 'manciplelaw14.ReplyLines': WHATEVER THE INPUT: true; the input reads as it did. -/
def replyLinesSpec : ChangeSpec := { name := "replyLines", fn := fun _ => fun
  | [d] => { results := [.lit (.bool true)], args := [d] }
  | _ => none }
def replyLinesRow : OpenClaim := { program := "ytdmffbefppjllaadoor", sum := "93ee80b3072f75a5f0154ff7f5e5492532a56938b9de32af80fcd6ccf91009a7", func := "manciple/manciplelaw14.ReplyLines", spec := "replyLines", inPlace := ["internal/bytealg.IndexByteString", "internal/bytealg.IndexString", "internal/abi.NoEscape"], named := ["internal/bytealg.MaxLen", "unicode/utf8.first", "unicode/utf8.acceptRanges"], apart := false, laid := [("unicode/utf8.acceptRanges", laid_unicode_utf8_acceptRanges), ("unicode/utf8.first", laid_unicode_utf8_first)] }
def ReplyLinesSaid : Prop := replyLinesRow.holds Tryd.pinned (OpenSpec.ofChange replyLinesSpec)

/-- ITS FALSE NEIGHBOUR: 'it returns false'. Refute it at one input. -/
def replyLinesWrong : ChangeSpec := { name := "replyLines", fn := fun _ => fun
  | [d] => { results := [.lit (.bool false)], args := [d] }
  | _ => none }
def ReplyLinesWrongFalsely : Prop := replyLinesRow.holds Tryd.pinned (OpenSpec.ofChange replyLinesWrong)

/-- 'manciplelaw14.ReplyCuts': WHATEVER THE INPUT: true; the input reads as it did. -/
def replyCutsSpec : ChangeSpec := { name := "replyCuts", fn := fun _ => fun
  | [d1, d2, d3, d4] => { results := [.lit (.bool true)], args := [d1, d2, d3, d4] }
  | _ => none }
def replyCutsRow : OpenClaim := { program := "ytdmffbefppjllaadoor", sum := "93ee80b3072f75a5f0154ff7f5e5492532a56938b9de32af80fcd6ccf91009a7", func := "manciple/manciplelaw14.ReplyCuts", spec := "replyCuts", inPlace := ["internal/bytealg.IndexByteString", "internal/bytealg.IndexString", "internal/abi.NoEscape"], named := ["internal/bytealg.MaxLen", "unicode/utf8.first", "unicode/utf8.acceptRanges"], apart := false, laid := [("unicode/utf8.acceptRanges", laid_unicode_utf8_acceptRanges), ("unicode/utf8.first", laid_unicode_utf8_first)] }
def ReplyCutsSaid : Prop := replyCutsRow.holds Tryd.pinned (OpenSpec.ofChange replyCutsSpec)

/-- ITS FALSE NEIGHBOUR: 'it returns false'. Refute it at one input. -/
def replyCutsWrong : ChangeSpec := { name := "replyCuts", fn := fun _ => fun
  | [d1, d2, d3, d4] => { results := [.lit (.bool false)], args := [d1, d2, d3, d4] }
  | _ => none }
def ReplyCutsWrongFalsely : Prop := replyCutsRow.holds Tryd.pinned (OpenSpec.ofChange replyCutsWrong)

/-- 'manciplelaw26.GuestPipes': WHATEVER THE INPUT: true; the input reads as it did. -/
def guestPipesSpec : ChangeSpec := { name := "guestPipes", fn := fun _ => fun
  | [d1, d2] => { results := [.lit (.bool true)], args := [d1, d2] }
  | _ => none }
def guestPipesRow : OpenClaim := { program := "ytdmffbefppjllaadoor", sum := "93ee80b3072f75a5f0154ff7f5e5492532a56938b9de32af80fcd6ccf91009a7", func := "manciple/manciplelaw26.GuestPipes", spec := "guestPipes", inPlace := ["internal/bytealg.IndexByteString", "internal/bytealg.IndexString", "internal/abi.NoEscape"], named := ["internal/bytealg.MaxLen", "unicode/utf8.first", "unicode/utf8.acceptRanges"], apart := false, laid := [("unicode/utf8.acceptRanges", laid_unicode_utf8_acceptRanges), ("unicode/utf8.first", laid_unicode_utf8_first)] }
def GuestPipesSaid : Prop := guestPipesRow.holds Tryd.pinned (OpenSpec.ofChange guestPipesSpec)

/-- ITS FALSE NEIGHBOUR: 'it returns false'. Refute it at one input. -/
def guestPipesWrong : ChangeSpec := { name := "guestPipes", fn := fun _ => fun
  | [d1, d2] => { results := [.lit (.bool false)], args := [d1, d2] }
  | _ => none }
def GuestPipesWrongFalsely : Prop := guestPipesRow.holds Tryd.pinned (OpenSpec.ofChange guestPipesWrong)

/-- 'manciplelaw26.GuestTurns': WHATEVER THE INPUT: true; the input reads as it did. -/
def guestTurnsSpec : ChangeSpec := { name := "guestTurns", fn := fun _ => fun
  | [d1, d2, d3] => { results := [.lit (.bool true)], args := [d1, d2, d3] }
  | _ => none }
def guestTurnsRow : OpenClaim := { program := "ytdmffbefppjllaadoor", sum := "93ee80b3072f75a5f0154ff7f5e5492532a56938b9de32af80fcd6ccf91009a7", func := "manciple/manciplelaw26.GuestTurns", spec := "guestTurns", inPlace := ["internal/bytealg.IndexByteString", "internal/bytealg.IndexString", "internal/abi.NoEscape"], named := ["internal/bytealg.MaxLen", "unicode/utf8.first", "unicode/utf8.acceptRanges"], apart := false, laid := [("unicode/utf8.acceptRanges", laid_unicode_utf8_acceptRanges), ("unicode/utf8.first", laid_unicode_utf8_first)] }
def GuestTurnsSaid : Prop := guestTurnsRow.holds Tryd.pinned (OpenSpec.ofChange guestTurnsSpec)

/-- ITS FALSE NEIGHBOUR: 'it returns false'. Refute it at one input. -/
def guestTurnsWrong : ChangeSpec := { name := "guestTurns", fn := fun _ => fun
  | [d1, d2, d3] => { results := [.lit (.bool false)], args := [d1, d2, d3] }
  | _ => none }
def GuestTurnsWrongFalsely : Prop := guestTurnsRow.holds Tryd.pinned (OpenSpec.ofChange guestTurnsWrong)

/- THE SECOND FORM. 'bulk': how many values and letters a reading holds, each counted each time it is reached (what is shared counts as often as it is met; a slice's spare places count too). A statement '..UptoSaid' is the law's where the arguments, and the package variables that the reading takes, are together of bulk at most 1048576: NARROWER than '..Said'. Prove '..Said' where nothing that the law and all that it calls make is longer than what came in: it says more and counts as full. Else prove '..UptoSaid'. A law counts once. -/
mutual
def uptoBulk {H : Type} : DataW H → Nat
  | .lit (.string bytes) => bytes.length + 1
  | .lit _ => 1
  | .nil => 1
  | .ptr d => uptoBulk d + 1
  | .slice elems spare => uptoBulkAll elems + uptoBulkAll spare + 1
  | .agg parts => uptoBulkAll parts + 1
  | .iface _ d => uptoBulk d + 1
  | .map entries => uptoBulkEntries entries + 1
  | .held _ => 1
def uptoBulkAll {H : Type} : List (DataW H) → Nat
  | [] => 0
  | d :: r => uptoBulk d + uptoBulkAll r
def uptoBulkEntries {H : Type} : List (Lit × DataW H) → Nat
  | [] => 0
  | x :: r => uptoBulkEntry x + uptoBulkEntries r
def uptoBulkEntry {H : Type} : Lit × DataW H → Nat
  | (.string bytes, d) => bytes.length + uptoBulk d + 1
  | (_, d) => uptoBulk d + 1
 end
def uptoSmall : (H : Type) → List (DataW H) → Bool := fun _ ds => decide (uptoBulkAll ds ≤ 1048576)
def OpenSpec.upto (s : _root_.Go.ChangeSpec) : _root_.Go.OpenSpec := { _root_.Go.OpenSpec.ofChange s with cond := some uptoSmall }

/-- 'manciplelaw14.ReplyLines', WHERE WHAT IT READS IS OF BULK AT MOST 1048576: true; the input reads as it did. -/
def replyLinesUptoRow : OpenClaim := { program := "ytdmffbefppjllaadoor", sum := "93ee80b3072f75a5f0154ff7f5e5492532a56938b9de32af80fcd6ccf91009a7", func := "manciple/manciplelaw14.ReplyLines", spec := "replyLines", inPlace := ["internal/bytealg.IndexByteString", "internal/bytealg.IndexString", "internal/abi.NoEscape"], named := ["internal/bytealg.MaxLen", "unicode/utf8.first", "unicode/utf8.acceptRanges"], apart := false, laid := [("unicode/utf8.acceptRanges", laid_unicode_utf8_acceptRanges), ("unicode/utf8.first", laid_unicode_utf8_first)], narrowed := true }
def ReplyLinesUptoSaid : Prop := replyLinesUptoRow.holds Tryd.pinned (OpenSpec.upto replyLinesSpec)

/-- 'manciplelaw14.ReplyCuts', WHERE WHAT IT READS IS OF BULK AT MOST 1048576: true; the input reads as it did. -/
def replyCutsUptoRow : OpenClaim := { program := "ytdmffbefppjllaadoor", sum := "93ee80b3072f75a5f0154ff7f5e5492532a56938b9de32af80fcd6ccf91009a7", func := "manciple/manciplelaw14.ReplyCuts", spec := "replyCuts", inPlace := ["internal/bytealg.IndexByteString", "internal/bytealg.IndexString", "internal/abi.NoEscape"], named := ["internal/bytealg.MaxLen", "unicode/utf8.first", "unicode/utf8.acceptRanges"], apart := false, laid := [("unicode/utf8.acceptRanges", laid_unicode_utf8_acceptRanges), ("unicode/utf8.first", laid_unicode_utf8_first)], narrowed := true }
def ReplyCutsUptoSaid : Prop := replyCutsUptoRow.holds Tryd.pinned (OpenSpec.upto replyCutsSpec)

/-- 'manciplelaw26.GuestPipes', WHERE WHAT IT READS IS OF BULK AT MOST 1048576: true; the input reads as it did. -/
def guestPipesUptoRow : OpenClaim := { program := "ytdmffbefppjllaadoor", sum := "93ee80b3072f75a5f0154ff7f5e5492532a56938b9de32af80fcd6ccf91009a7", func := "manciple/manciplelaw26.GuestPipes", spec := "guestPipes", inPlace := ["internal/bytealg.IndexByteString", "internal/bytealg.IndexString", "internal/abi.NoEscape"], named := ["internal/bytealg.MaxLen", "unicode/utf8.first", "unicode/utf8.acceptRanges"], apart := false, laid := [("unicode/utf8.acceptRanges", laid_unicode_utf8_acceptRanges), ("unicode/utf8.first", laid_unicode_utf8_first)], narrowed := true }
def GuestPipesUptoSaid : Prop := guestPipesUptoRow.holds Tryd.pinned (OpenSpec.upto guestPipesSpec)

/-- 'manciplelaw26.GuestTurns', WHERE WHAT IT READS IS OF BULK AT MOST 1048576: true; the input reads as it did. -/
def guestTurnsUptoRow : OpenClaim := { program := "ytdmffbefppjllaadoor", sum := "93ee80b3072f75a5f0154ff7f5e5492532a56938b9de32af80fcd6ccf91009a7", func := "manciple/manciplelaw26.GuestTurns", spec := "guestTurns", inPlace := ["internal/bytealg.IndexByteString", "internal/bytealg.IndexString", "internal/abi.NoEscape"], named := ["internal/bytealg.MaxLen", "unicode/utf8.first", "unicode/utf8.acceptRanges"], apart := false, laid := [("unicode/utf8.acceptRanges", laid_unicode_utf8_acceptRanges), ("unicode/utf8.first", laid_unicode_utf8_first)], narrowed := true }
def GuestTurnsUptoSaid : Prop := guestTurnsUptoRow.holds Tryd.pinned (OpenSpec.upto guestTurnsSpec)

end Rows
end Go.Proofs.YtdmffbefppjllaaDoor
