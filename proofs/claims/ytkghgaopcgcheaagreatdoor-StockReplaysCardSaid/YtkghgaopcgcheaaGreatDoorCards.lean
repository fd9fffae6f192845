/-
  DERIVED. GIVEN WITH THE SEED: THE CARDS: each row of YtkghgaopcgcheaaGreatDoorRows.lean that lists a variable, with what it lists TIED to the program's text (the seventh form; the later family's looks); each row that meets fmt, with fmt's text TOLD by the authors' own Lean function (tested against real Go, not proved from fmt's source: count such statements apart). THE CARD IS WHAT COUNTS. Prove the row's statement (the work); the ties are given (YtkghgaopcgcheaaGreatDoorTie.lean); close each card by the builder's one call (the guide's Derived/Test/ToyasCard.lean, 'card_holds'). Laid BY PROGRAM, IN A SANDBOX (cutbox-door.mjs). By AI agents, Wed Nov 11 2026. No macro, syntax, notation, axiom, sorry.
-/
import Derived.Test.YtkghgaopcgcheaaGreatDoorRows
import GoSem.ClaimSeven
namespace Go.Proofs.YtkghgaopcgcheaaGreatDoor
namespace Rows

/-- THE TIED CARD OF 'manciplelaw22.StockReplays'. -/
def stockReplaysCard : Claim7 := { stood := { row := stockReplaysRow, standIns := [], harness := (true, "81e78483fb1769b822010c874e05644a066799eda7e3b0ea131794cffa4977e6"), looks := false }, kinds := [], alts := [], laidByText := true, laidKinds := [.data, .data, .data, .data, .data, .data, .data, .pinned], laidTests := true, laidLooks := .later }
def StockReplaysCardSaid : Prop := Claim7.holds Tryz.pinned (.plain (OpenSpec.ofChange stockReplaysSpec)) stockReplaysCard

/-- THE TIED CARD OF 'manciplelaw22.StockExact'. -/
def stockExactCard : Claim7 := { stood := { row := stockExactRow, standIns := [], harness := (true, "81e78483fb1769b822010c874e05644a066799eda7e3b0ea131794cffa4977e6"), looks := false }, kinds := [], alts := [], laidByText := true, laidKinds := [.data, .data, .data, .data, .data, .data, .data, .pinned], laidTests := true, laidLooks := .later }
def StockExactCardSaid : Prop := Claim7.holds Tryz.pinned (.plain (OpenSpec.ofChange stockExactSpec)) stockExactCard

/-- THE SECOND FORM's CARD OF 'manciplelaw22.StockReplays'. -/
def stockReplaysUptoCard : Claim7 := { stood := { row := stockReplaysUptoRow, standIns := [], harness := (true, "81e78483fb1769b822010c874e05644a066799eda7e3b0ea131794cffa4977e6"), looks := false }, kinds := [], alts := [], laidByText := true, laidKinds := [.data, .data, .data, .data, .data, .data, .data, .pinned], laidTests := true, laidLooks := .later }
def StockReplaysUptoCardSaid : Prop := Claim7.holds Tryz.pinned (.plain (OpenSpec.upto stockReplaysSpec)) stockReplaysUptoCard

/-- THE SECOND FORM's CARD OF 'manciplelaw22.StockExact'. -/
def stockExactUptoCard : Claim7 := { stood := { row := stockExactUptoRow, standIns := [], harness := (true, "81e78483fb1769b822010c874e05644a066799eda7e3b0ea131794cffa4977e6"), looks := false }, kinds := [], alts := [], laidByText := true, laidKinds := [.data, .data, .data, .data, .data, .data, .data, .pinned], laidTests := true, laidLooks := .later }
def StockExactUptoCardSaid : Prop := Claim7.holds Tryz.pinned (.plain (OpenSpec.upto stockExactSpec)) stockExactUptoCard
end Rows
end Go.Proofs.YtkghgaopcgcheaaGreatDoor
