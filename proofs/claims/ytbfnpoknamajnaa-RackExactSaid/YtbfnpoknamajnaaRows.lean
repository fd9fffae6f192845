/-
  No cell of these rows narrows 'for every input' (looked for: loops, veiled, ifaces, maps, wideKeys, modest, calm, conditions, laid).
  DERIVED. THE GIVEN ROWS OF THIS SEAT. 7 by the template 'for every input the law returns true; each argument reads behind the call as it read before'; 0 by the template 'total and deterministic' (their statements: YtbfnpoknamajnaaTotals.lean).
  GIVEN WITH THE SEED: the statements are not yours to turn. If you find one false, say at which input.
  Laid BY PROGRAM, IN A SANDBOX (cutbox-rows.mjs): the forced cells as the released guide's own fill.sh prints them over the translation cc1e609e354edc57… (all of the seat's roots in one cut). By AI agents, Wed Nov 11 2026. No macro, syntax, notation, axiom, sorry.
-/
import Derived.Test.YtbfnpoknamajnaaChecked
import GoSem.Claim
import GoSem.ClaimJoined
import GoSem.ClaimMapViews
import Derived.JoinedTies
import Derived.KernelRfl
namespace Go.Proofs.Ytbfnpoknamajnaa
/- THE CELL 'sum', in the pinned program and in every row, IS THE sha256 OF THE DUMP (.gsa) THAT YtbfnpoknamajnaaProg.lean LOADS. Nothing in Lean hashes anything: it is a label: what it is worth is what the hold of that sum in a sandbox is worth. -/
noncomputable def Try.pinned : Pinned := { name := "ytbfnpoknamajnaa", sum := "cc1e609e354edc574140a8a49e43f64349c87c604fddce2dc26f928536621c75", checked := Try.checked }
namespace Rows
def none {H : Type} : Left H := { results := [], args := [] }

/-- 'manciplelaw23.CableOnce': WHATEVER THE INPUT: true; the input reads as it did. -/
def cableOnceSpec : ChangeSpec := { name := "cableOnce", fn := fun _ => fun
  | [d1, d2] => { results := [.lit (.bool true)], args := [d1, d2] }
  | _ => none }
def cableOnceRow : OpenClaim := { program := "ytbfnpoknamajnaa", sum := "cc1e609e354edc574140a8a49e43f64349c87c604fddce2dc26f928536621c75", func := "manciple/manciplelaw23.CableOnce", spec := "cableOnce", plainKeys := false, apart := false }
def CableOnceSaid : Prop := cableOnceRow.holds Try.pinned (OpenSpec.ofChange cableOnceSpec)

/-- ITS FALSE NEIGHBOUR: 'it returns false'. Refute it at one input. -/
def cableOnceWrong : ChangeSpec := { name := "cableOnce", fn := fun _ => fun
  | [d1, d2] => { results := [.lit (.bool false)], args := [d1, d2] }
  | _ => none }
def CableOnceWrongFalsely : Prop := cableOnceRow.holds Try.pinned (OpenSpec.ofChange cableOnceWrong)

/-- 'manciplelaw21.RackRecent': WHATEVER THE INPUT: true; the input reads as it did. -/
def rackRecentSpec : ChangeSpec := { name := "rackRecent", fn := fun _ => fun
  | [d] => { results := [.lit (.bool true)], args := [d] }
  | _ => none }
def rackRecentRow : OpenClaim := { program := "ytbfnpoknamajnaa", sum := "cc1e609e354edc574140a8a49e43f64349c87c604fddce2dc26f928536621c75", func := "manciple/manciplelaw21.RackRecent", spec := "rackRecent", plainKeys := false, apart := false }
def RackRecentSaid : Prop := rackRecentRow.holds Try.pinned (OpenSpec.ofChange rackRecentSpec)

/-- ITS FALSE NEIGHBOUR: 'it returns false'. Refute it at one input. -/
def rackRecentWrong : ChangeSpec := { name := "rackRecent", fn := fun _ => fun
  | [d] => { results := [.lit (.bool false)], args := [d] }
  | _ => none }
def RackRecentWrongFalsely : Prop := rackRecentRow.holds Try.pinned (OpenSpec.ofChange rackRecentWrong)

/-- 'manciplelaw23.CableExact': WHATEVER THE INPUT: true; the input reads as it did. -/
def cableExactSpec : ChangeSpec := { name := "cableExact", fn := fun _ => fun
  | [d1, d2] => { results := [.lit (.bool true)], args := [d1, d2] }
  | _ => none }
def cableExactRow : OpenClaim := { program := "ytbfnpoknamajnaa", sum := "cc1e609e354edc574140a8a49e43f64349c87c604fddce2dc26f928536621c75", func := "manciple/manciplelaw23.CableExact", spec := "cableExact", plainKeys := false, apart := false }
def CableExactSaid : Prop := cableExactRow.holds Try.pinned (OpenSpec.ofChange cableExactSpec)

/-- ITS FALSE NEIGHBOUR: 'it returns false'. Refute it at one input. -/
def cableExactWrong : ChangeSpec := { name := "cableExact", fn := fun _ => fun
  | [d1, d2] => { results := [.lit (.bool false)], args := [d1, d2] }
  | _ => none }
def CableExactWrongFalsely : Prop := cableExactRow.holds Try.pinned (OpenSpec.ofChange cableExactWrong)

/-- 'manciplelaw23.CableParts': WHATEVER THE INPUT: true; the input reads as it did. -/
def cablePartsSpec : ChangeSpec := { name := "cableParts", fn := fun _ => fun
  | [d1, d2, d3, d4, d5] => { results := [.lit (.bool true)], args := [d1, d2, d3, d4, d5] }
  | _ => none }
def cablePartsRow : OpenClaim := { program := "ytbfnpoknamajnaa", sum := "cc1e609e354edc574140a8a49e43f64349c87c604fddce2dc26f928536621c75", func := "manciple/manciplelaw23.CableParts", spec := "cableParts", plainKeys := false, apart := false }
def CablePartsSaid : Prop := cablePartsRow.holds Try.pinned (OpenSpec.ofChange cablePartsSpec)

/-- ITS FALSE NEIGHBOUR: 'it returns false'. Refute it at one input. -/
def cablePartsWrong : ChangeSpec := { name := "cableParts", fn := fun _ => fun
  | [d1, d2, d3, d4, d5] => { results := [.lit (.bool false)], args := [d1, d2, d3, d4, d5] }
  | _ => none }
def CablePartsWrongFalsely : Prop := cablePartsRow.holds Try.pinned (OpenSpec.ofChange cablePartsWrong)

/-- 'manciplelaw21.RackExact': WHATEVER THE INPUT: true; the input reads as it did. -/
def rackExactSpec : ChangeSpec := { name := "rackExact", fn := fun _ => fun
  | [d1, d2] => { results := [.lit (.bool true)], args := [d1, d2] }
  | _ => none }
def rackExactRow : OpenClaim := { program := "ytbfnpoknamajnaa", sum := "cc1e609e354edc574140a8a49e43f64349c87c604fddce2dc26f928536621c75", func := "manciple/manciplelaw21.RackExact", spec := "rackExact", plainKeys := false, apart := false }
def RackExactSaid : Prop := rackExactRow.holds Try.pinned (OpenSpec.ofChange rackExactSpec)

/-- ITS FALSE NEIGHBOUR: 'it returns false'. Refute it at one input. -/
def rackExactWrong : ChangeSpec := { name := "rackExact", fn := fun _ => fun
  | [d1, d2] => { results := [.lit (.bool false)], args := [d1, d2] }
  | _ => none }
def RackExactWrongFalsely : Prop := rackExactRow.holds Try.pinned (OpenSpec.ofChange rackExactWrong)

/-- 'manciplelaw21.RackFits': WHATEVER THE INPUT: true; the input reads as it did. -/
def rackFitsSpec : ChangeSpec := { name := "rackFits", fn := fun _ => fun
  | [d1, d2] => { results := [.lit (.bool true)], args := [d1, d2] }
  | _ => none }
def rackFitsRow : OpenClaim := { program := "ytbfnpoknamajnaa", sum := "cc1e609e354edc574140a8a49e43f64349c87c604fddce2dc26f928536621c75", func := "manciple/manciplelaw21.RackFits", spec := "rackFits", plainKeys := false, apart := false }
def RackFitsSaid : Prop := rackFitsRow.holds Try.pinned (OpenSpec.ofChange rackFitsSpec)

/-- ITS FALSE NEIGHBOUR: 'it returns false'. Refute it at one input. -/
def rackFitsWrong : ChangeSpec := { name := "rackFits", fn := fun _ => fun
  | [d1, d2] => { results := [.lit (.bool false)], args := [d1, d2] }
  | _ => none }
def RackFitsWrongFalsely : Prop := rackFitsRow.holds Try.pinned (OpenSpec.ofChange rackFitsWrong)

/-- 'manciplelaw21.RackPins': WHATEVER THE INPUT: true; the input reads as it did. -/
def rackPinsSpec : ChangeSpec := { name := "rackPins", fn := fun _ => fun
  | [d1, d2] => { results := [.lit (.bool true)], args := [d1, d2] }
  | _ => none }
def rackPinsRow : OpenClaim := { program := "ytbfnpoknamajnaa", sum := "cc1e609e354edc574140a8a49e43f64349c87c604fddce2dc26f928536621c75", func := "manciple/manciplelaw21.RackPins", spec := "rackPins", plainKeys := false, apart := false }
def RackPinsSaid : Prop := rackPinsRow.holds Try.pinned (OpenSpec.ofChange rackPinsSpec)

/-- ITS FALSE NEIGHBOUR: 'it returns false'. Refute it at one input. -/
def rackPinsWrong : ChangeSpec := { name := "rackPins", fn := fun _ => fun
  | [d1, d2] => { results := [.lit (.bool false)], args := [d1, d2] }
  | _ => none }
def RackPinsWrongFalsely : Prop := rackPinsRow.holds Try.pinned (OpenSpec.ofChange rackPinsWrong)

/- THE SECOND FORM. 'bulk': how many values and letters a reading holds, each counted each time it is reached (what is shared counts as often as it is met; a slice's spare places count too). A statement '..UptoSaid' is the law's where the arguments, and the package variables that the reading takes, are together of bulk at most 1048576: NARROWER than '..Said'. Prove '..Said' where nothing that the law and all that it calls make is longer than what came in: it says more and counts as full. Else prove '..UptoSaid'. A law counts once. -/
mutual
def uptoBulk {H : Type} : DataW H → Nat
  | .lit (.string bytes) => bytes.length + 1
  | .lit _ => 1
  | .nil => 1
  | .ptr d => uptoBulk d + 1
  | .slice elems spare => uptoBulkAll elems + uptoBulkAll spare + 1
  | .agg parts => uptoBulkAll parts + 1
  | .iface _ d => uptoBulk d + 1
  | .map entries => uptoBulkEntries entries + 1
  | .held _ => 1
def uptoBulkAll {H : Type} : List (DataW H) → Nat
  | [] => 0
  | d :: r => uptoBulk d + uptoBulkAll r
def uptoBulkEntries {H : Type} : List (Lit × DataW H) → Nat
  | [] => 0
  | x :: r => uptoBulkEntry x + uptoBulkEntries r
def uptoBulkEntry {H : Type} : Lit × DataW H → Nat
  | (.string bytes, d) => bytes.length + uptoBulk d + 1
  | (_, d) => uptoBulk d + 1
 end
def uptoSmall : (H : Type) → List (DataW H) → Bool := fun _ ds => decide (uptoBulkAll ds ≤ 1048576)
def OpenSpec.upto (s : _root_.Go.ChangeSpec) : _root_.Go.OpenSpec := { _root_.Go.OpenSpec.ofChange s with cond := some uptoSmall }

/-- 'manciplelaw23.CableOnce', WHERE WHAT IT READS IS OF BULK AT MOST 1048576: true; the input reads as it did. -/
def cableOnceUptoRow : OpenClaim := { program := "ytbfnpoknamajnaa", sum := "cc1e609e354edc574140a8a49e43f64349c87c604fddce2dc26f928536621c75", func := "manciple/manciplelaw23.CableOnce", spec := "cableOnce", plainKeys := false, apart := false, narrowed := true }
def CableOnceUptoSaid : Prop := cableOnceUptoRow.holds Try.pinned (OpenSpec.upto cableOnceSpec)

/-- 'manciplelaw21.RackRecent', WHERE WHAT IT READS IS OF BULK AT MOST 1048576: true; the input reads as it did. -/
def rackRecentUptoRow : OpenClaim := { program := "ytbfnpoknamajnaa", sum := "cc1e609e354edc574140a8a49e43f64349c87c604fddce2dc26f928536621c75", func := "manciple/manciplelaw21.RackRecent", spec := "rackRecent", plainKeys := false, apart := false, narrowed := true }
def RackRecentUptoSaid : Prop := rackRecentUptoRow.holds Try.pinned (OpenSpec.upto rackRecentSpec)

/-- 'manciplelaw23.CableExact', WHERE WHAT IT READS IS OF BULK AT MOST 1048576: true; the input reads as it did. -/
def cableExactUptoRow : OpenClaim := { program := "ytbfnpoknamajnaa", sum := "cc1e609e354edc574140a8a49e43f64349c87c604fddce2dc26f928536621c75", func := "manciple/manciplelaw23.CableExact", spec := "cableExact", plainKeys := false, apart := false, narrowed := true }
def CableExactUptoSaid : Prop := cableExactUptoRow.holds Try.pinned (OpenSpec.upto cableExactSpec)

/-- 'manciplelaw23.CableParts', WHERE WHAT IT READS IS OF BULK AT MOST 1048576: true; the input reads as it did. -/
def cablePartsUptoRow : OpenClaim := { program := "ytbfnpoknamajnaa", sum := "cc1e609e354edc574140a8a49e43f64349c87c604fddce2dc26f928536621c75", func := "manciple/manciplelaw23.CableParts", spec := "cableParts", plainKeys := false, apart := false, narrowed := true }
def CablePartsUptoSaid : Prop := cablePartsUptoRow.holds Try.pinned (OpenSpec.upto cablePartsSpec)

/-- 'manciplelaw21.RackExact', WHERE WHAT IT READS IS OF BULK AT MOST 1048576: true; the input reads as it did. -/
def rackExactUptoRow : OpenClaim := { program := "ytbfnpoknamajnaa", sum := "cc1e609e354edc574140a8a49e43f64349c87c604fddce2dc26f928536621c75", func := "manciple/manciplelaw21.RackExact", spec := "rackExact", plainKeys := false, apart := false, narrowed := true }
def RackExactUptoSaid : Prop := rackExactUptoRow.holds Try.pinned (OpenSpec.upto rackExactSpec)

/-- 'manciplelaw21.RackFits', WHERE WHAT IT READS IS OF BULK AT MOST 1048576: true; the input reads as it did. -/
def rackFitsUptoRow : OpenClaim := { program := "ytbfnpoknamajnaa", sum := "cc1e609e354edc574140a8a49e43f64349c87c604fddce2dc26f928536621c75", func := "manciple/manciplelaw21.RackFits", spec := "rackFits", plainKeys := false, apart := false, narrowed := true }
def RackFitsUptoSaid : Prop := rackFitsUptoRow.holds Try.pinned (OpenSpec.upto rackFitsSpec)

/-- 'manciplelaw21.RackPins', WHERE WHAT IT READS IS OF BULK AT MOST 1048576: true; the input reads as it did. -/
def rackPinsUptoRow : OpenClaim := { program := "ytbfnpoknamajnaa", sum := "cc1e609e354edc574140a8a49e43f64349c87c604fddce2dc26f928536621c75", func := "manciple/manciplelaw21.RackPins", spec := "rackPins", plainKeys := false, apart := false, narrowed := true }
def RackPinsUptoSaid : Prop := rackPinsUptoRow.holds Try.pinned (OpenSpec.upto rackPinsSpec)

end Rows
end Go.Proofs.Ytbfnpoknamajnaa
