/-
  DERIVED. GIVEN WITH THE SEED: THE CARDS: each row of YtdmffbefppjllaaGreatDoorRows.lean that lists a variable, with what it lists TIED to the program's text (the seventh form; the later family's looks); each row that meets fmt, with fmt's text TOLD by the authors' own Lean function (tested against real Go, not proved from fmt's source: count such statements apart). THE CARD IS WHAT COUNTS. Prove the row's statement (the work); the ties are given (YtdmffbefppjllaaGreatDoorTie.lean); close each card by the builder's one call (the guide's Derived/Test/ToyasCard.lean, 'card_holds'). Laid BY PROGRAM, IN A SANDBOX (cutbox-door.mjs). By AI agents, Wed Nov 11 2026. No macro, syntax, notation, axiom, sorry.
-/
import Derived.Test.YtdmffbefppjllaaGreatDoorRows
import GoSem.ClaimSeven
namespace Go.Proofs.YtdmffbefppjllaaGreatDoor
namespace Rows

/-- THE TIED CARD OF 'manciplelaw13.OutletAsked'. -/
def outletAskedCard : Claim7 := { stood := { row := outletAskedRow, standIns := [], harness := (true, "4ecaced21146b3c6f73d25ecd2bc06dcb1c65ce1ee94be9c25d4a647702f7749"), looks := false }, kinds := [], alts := [], laidByText := true, laidKinds := [.data, .data, .data, .data, .pinned], laidTests := true, laidLooks := .later }
def OutletAskedCardSaid : Prop := Claim7.holds Tryz.pinned (.plain (OpenSpec.ofChange outletAskedSpec)) outletAskedCard

/-- THE TIED CARD OF 'manciplelaw14.ReplyHeads'. -/
def replyHeadsCard : Claim7 := { stood := { row := replyHeadsRow, standIns := [], harness := (true, "4ecaced21146b3c6f73d25ecd2bc06dcb1c65ce1ee94be9c25d4a647702f7749"), looks := false }, kinds := [], alts := [], laidByText := true, laidKinds := [.data, .data, .data, .data, .pinned], laidTests := true, laidLooks := .later }
def ReplyHeadsCardSaid : Prop := Claim7.holds Tryz.pinned (.plain (OpenSpec.ofChange replyHeadsSpec)) replyHeadsCard

/-- THE TIED CARD OF 'manciplelaw14.ReplyBack'. -/
def replyBackCard : Claim7 := { stood := { row := replyBackRow, standIns := [], harness := (true, "4ecaced21146b3c6f73d25ecd2bc06dcb1c65ce1ee94be9c25d4a647702f7749"), looks := false }, kinds := [], alts := [], laidByText := true, laidKinds := [.data, .data, .data, .data, .pinned], laidTests := true, laidLooks := .later }
def ReplyBackCardSaid : Prop := Claim7.holds Tryz.pinned (.plain (OpenSpec.ofChange replyBackSpec)) replyBackCard

/-- THE SECOND FORM's CARD OF 'manciplelaw13.OutletAsked'. -/
def outletAskedUptoCard : Claim7 := { stood := { row := outletAskedUptoRow, standIns := [], harness := (true, "4ecaced21146b3c6f73d25ecd2bc06dcb1c65ce1ee94be9c25d4a647702f7749"), looks := false }, kinds := [], alts := [], laidByText := true, laidKinds := [.data, .data, .data, .data, .pinned], laidTests := true, laidLooks := .later }
def OutletAskedUptoCardSaid : Prop := Claim7.holds Tryz.pinned (.plain (OpenSpec.upto outletAskedSpec)) outletAskedUptoCard

/-- THE SECOND FORM's CARD OF 'manciplelaw14.ReplyHeads'. -/
def replyHeadsUptoCard : Claim7 := { stood := { row := replyHeadsUptoRow, standIns := [], harness := (true, "4ecaced21146b3c6f73d25ecd2bc06dcb1c65ce1ee94be9c25d4a647702f7749"), looks := false }, kinds := [], alts := [], laidByText := true, laidKinds := [.data, .data, .data, .data, .pinned], laidTests := true, laidLooks := .later }
def ReplyHeadsUptoCardSaid : Prop := Claim7.holds Tryz.pinned (.plain (OpenSpec.upto replyHeadsSpec)) replyHeadsUptoCard

/-- THE SECOND FORM's CARD OF 'manciplelaw14.ReplyBack'. -/
def replyBackUptoCard : Claim7 := { stood := { row := replyBackUptoRow, standIns := [], harness := (true, "4ecaced21146b3c6f73d25ecd2bc06dcb1c65ce1ee94be9c25d4a647702f7749"), looks := false }, kinds := [], alts := [], laidByText := true, laidKinds := [.data, .data, .data, .data, .pinned], laidTests := true, laidLooks := .later }
def ReplyBackUptoCardSaid : Prop := Claim7.holds Tryz.pinned (.plain (OpenSpec.upto replyBackSpec)) replyBackUptoCard
end Rows
end Go.Proofs.YtdmffbefppjllaaGreatDoor
