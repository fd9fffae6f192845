/-
  DERIVED. GIVEN WITH THE SEED: THE CARDS: each row of YtpimfoohpfkciaaGreatDoorRows.lean that lists a variable, with what it lists TIED to the program's text (the seventh form; the later family's looks); each row that meets fmt, with fmt's text TOLD by the authors' own Lean function (tested against real Go, not proved from fmt's source: count such statements apart). THE CARD IS WHAT COUNTS. Prove the row's statement (the work); the ties are given (YtpimfoohpfkciaaGreatDoorTie.lean); close each card by the builder's one call (the guide's Derived/Test/ToyasCard.lean, 'card_holds'). Laid BY PROGRAM, IN A SANDBOX (cutbox-door.mjs). By AI agents, Wed Nov 11 2026. No macro, syntax, notation, axiom, sorry.
-/
import Derived.Test.YtpimfoohpfkciaaGreatDoorRows
import GoSem.ClaimSeven
namespace Go.Proofs.YtpimfoohpfkciaaGreatDoor
namespace Rows

/-- THE TIED CARD OF 'manciplelaw12.InletReads'. -/
def inletReadsCard : Claim7 := { stood := { row := inletReadsRow, standIns := [], harness := (true, "91e274ef48df02db265bf1c40182c916827159ea091549d0789f968aac4cbecd"), looks := false }, kinds := [], alts := [], laidByText := true, laidKinds := [.data, .pinned], laidTests := true, laidLooks := .later }
def InletReadsCardSaid : Prop := Claim7.holds Tryz.pinned (.plain (OpenSpec.ofChange inletReadsSpec)) inletReadsCard

/-- THE TIED CARD OF 'manciplelaw13.OutletAsked'. -/
def outletAskedCard : Claim7 := { stood := { row := outletAskedRow, standIns := [], harness := (true, "91e274ef48df02db265bf1c40182c916827159ea091549d0789f968aac4cbecd"), looks := false }, kinds := [], alts := [], laidByText := true, laidKinds := [.data, .data, .data, .data, .pinned], laidTests := true, laidLooks := .later }
def OutletAskedCardSaid : Prop := Claim7.holds Tryz.pinned (.plain (OpenSpec.ofChange outletAskedSpec)) outletAskedCard

/-- THE SECOND FORM's CARD OF 'manciplelaw12.InletReads'. -/
def inletReadsUptoCard : Claim7 := { stood := { row := inletReadsUptoRow, standIns := [], harness := (true, "91e274ef48df02db265bf1c40182c916827159ea091549d0789f968aac4cbecd"), looks := false }, kinds := [], alts := [], laidByText := true, laidKinds := [.data, .pinned], laidTests := true, laidLooks := .later }
def InletReadsUptoCardSaid : Prop := Claim7.holds Tryz.pinned (.plain (OpenSpec.upto inletReadsSpec)) inletReadsUptoCard

/-- THE SECOND FORM's CARD OF 'manciplelaw13.OutletAsked'. -/
def outletAskedUptoCard : Claim7 := { stood := { row := outletAskedUptoRow, standIns := [], harness := (true, "91e274ef48df02db265bf1c40182c916827159ea091549d0789f968aac4cbecd"), looks := false }, kinds := [], alts := [], laidByText := true, laidKinds := [.data, .data, .data, .data, .pinned], laidTests := true, laidLooks := .later }
def OutletAskedUptoCardSaid : Prop := Claim7.holds Tryz.pinned (.plain (OpenSpec.upto outletAskedSpec)) outletAskedUptoCard
end Rows
end Go.Proofs.YtpimfoohpfkciaaGreatDoor
