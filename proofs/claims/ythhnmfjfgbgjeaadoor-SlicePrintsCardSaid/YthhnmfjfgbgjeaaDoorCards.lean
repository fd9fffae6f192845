/-
  DERIVED. GIVEN WITH THE SEED: THE CARDS: each row of YthhnmfjfgbgjeaaDoorRows.lean that lists a variable, with what it lists TIED to the program's text (the seventh form; the later family's looks); each row that meets fmt, with fmt's text TOLD by the authors' own Lean function (tested against real Go, not proved from fmt's source: count such statements apart). THE CARD IS WHAT COUNTS. Prove the row's statement (the work); the ties are given (YthhnmfjfgbgjeaaDoorTie.lean); close each card by the builder's one call (the guide's Derived/Test/ToyasCard.lean, 'card_holds'). Laid BY PROGRAM, IN A SANDBOX (cutbox-door.mjs). By AI agents, Wed Nov 11 2026. No macro, syntax, notation, axiom, sorry.
-/
import Derived.Test.YthhnmfjfgbgjeaaDoorRows
import GoSem.ClaimSeven
namespace Go.Proofs.YthhnmfjfgbgjeaaDoor
namespace Rows

/-- THE TIED CARD OF 'manciplelaw16.SliceCovers'. -/
def sliceCoversCard : Claim7 := { stood := { row := sliceCoversRow, standIns := [], harness := (true, "7b6a2d2b9635ca52ab7027cc5c247caca318f33e08af435f9c1498093a07ea54"), looks := false }, kinds := [], alts := [], laidByText := true, laidKinds := [.data, .data, .data, .data, .pinned], laidTests := true, laidLooks := .later }
def SliceCoversCardSaid : Prop := Claim7.holds Tryd.pinned (.plain (OpenSpec.ofChange sliceCoversSpec)) sliceCoversCard

/-- THE TIED CARD OF 'manciplelaw13.OutletExact'. -/
def outletExactCard : Claim7 := { stood := { row := outletExactRow, standIns := [], harness := (true, "7b6a2d2b9635ca52ab7027cc5c247caca318f33e08af435f9c1498093a07ea54"), looks := false }, kinds := [], alts := [], laidByText := true, laidKinds := [.data, .data, .data, .data, .pinned], laidTests := true, laidLooks := .later }
def OutletExactCardSaid : Prop := Claim7.holds Tryd.pinned (.plain (OpenSpec.ofChange outletExactSpec)) outletExactCard

/-- THE TIED CARD OF 'manciplelaw16.SlicePrints'. -/
def slicePrintsCard : Claim7 := { stood := { row := slicePrintsRow, standIns := [], harness := (true, "7b6a2d2b9635ca52ab7027cc5c247caca318f33e08af435f9c1498093a07ea54"), looks := false }, kinds := [], alts := [], laidByText := true, laidKinds := [.data, .data, .data, .data, .pinned], laidTests := true, laidLooks := .later }
def SlicePrintsCardSaid : Prop := Claim7.holds Tryd.pinned (.plain (OpenSpec.ofChange slicePrintsSpec)) slicePrintsCard

/-- THE TIED CARD OF 'manciplelaw16.SliceBack'. -/
def sliceBackCard : Claim7 := { stood := { row := sliceBackRow, standIns := [], harness := (true, "7b6a2d2b9635ca52ab7027cc5c247caca318f33e08af435f9c1498093a07ea54"), looks := false }, kinds := [], alts := [], laidByText := true, laidKinds := [.data, .data, .data, .data, .pinned], laidTests := true, laidLooks := .later }
def SliceBackCardSaid : Prop := Claim7.holds Tryd.pinned (.plain (OpenSpec.ofChange sliceBackSpec)) sliceBackCard

/-- THE TIED CARD OF 'manciplelaw13.OutletBack'. -/
def outletBackCard : Claim7 := { stood := { row := outletBackRow, standIns := [], harness := (true, "7b6a2d2b9635ca52ab7027cc5c247caca318f33e08af435f9c1498093a07ea54"), looks := false }, kinds := [], alts := [], laidByText := true, laidKinds := [.data, .data, .data, .data, .pinned], laidTests := true, laidLooks := .later }
def OutletBackCardSaid : Prop := Claim7.holds Tryd.pinned (.plain (OpenSpec.ofChange outletBackSpec)) outletBackCard

/-- THE SECOND FORM's CARD OF 'manciplelaw16.SliceCovers'. -/
def sliceCoversUptoCard : Claim7 := { stood := { row := sliceCoversUptoRow, standIns := [], harness := (true, "7b6a2d2b9635ca52ab7027cc5c247caca318f33e08af435f9c1498093a07ea54"), looks := false }, kinds := [], alts := [], laidByText := true, laidKinds := [.data, .data, .data, .data, .pinned], laidTests := true, laidLooks := .later }
def SliceCoversUptoCardSaid : Prop := Claim7.holds Tryd.pinned (.plain (OpenSpec.upto sliceCoversSpec)) sliceCoversUptoCard

/-- THE SECOND FORM's CARD OF 'manciplelaw13.OutletExact'. -/
def outletExactUptoCard : Claim7 := { stood := { row := outletExactUptoRow, standIns := [], harness := (true, "7b6a2d2b9635ca52ab7027cc5c247caca318f33e08af435f9c1498093a07ea54"), looks := false }, kinds := [], alts := [], laidByText := true, laidKinds := [.data, .data, .data, .data, .pinned], laidTests := true, laidLooks := .later }
def OutletExactUptoCardSaid : Prop := Claim7.holds Tryd.pinned (.plain (OpenSpec.upto outletExactSpec)) outletExactUptoCard

/-- THE SECOND FORM's CARD OF 'manciplelaw16.SlicePrints'. -/
def slicePrintsUptoCard : Claim7 := { stood := { row := slicePrintsUptoRow, standIns := [], harness := (true, "7b6a2d2b9635ca52ab7027cc5c247caca318f33e08af435f9c1498093a07ea54"), looks := false }, kinds := [], alts := [], laidByText := true, laidKinds := [.data, .data, .data, .data, .pinned], laidTests := true, laidLooks := .later }
def SlicePrintsUptoCardSaid : Prop := Claim7.holds Tryd.pinned (.plain (OpenSpec.upto slicePrintsSpec)) slicePrintsUptoCard

/-- THE SECOND FORM's CARD OF 'manciplelaw16.SliceBack'. -/
def sliceBackUptoCard : Claim7 := { stood := { row := sliceBackUptoRow, standIns := [], harness := (true, "7b6a2d2b9635ca52ab7027cc5c247caca318f33e08af435f9c1498093a07ea54"), looks := false }, kinds := [], alts := [], laidByText := true, laidKinds := [.data, .data, .data, .data, .pinned], laidTests := true, laidLooks := .later }
def SliceBackUptoCardSaid : Prop := Claim7.holds Tryd.pinned (.plain (OpenSpec.upto sliceBackSpec)) sliceBackUptoCard

/-- THE SECOND FORM's CARD OF 'manciplelaw13.OutletBack'. -/
def outletBackUptoCard : Claim7 := { stood := { row := outletBackUptoRow, standIns := [], harness := (true, "7b6a2d2b9635ca52ab7027cc5c247caca318f33e08af435f9c1498093a07ea54"), looks := false }, kinds := [], alts := [], laidByText := true, laidKinds := [.data, .data, .data, .data, .pinned], laidTests := true, laidLooks := .later }
def OutletBackUptoCardSaid : Prop := Claim7.holds Tryd.pinned (.plain (OpenSpec.upto outletBackSpec)) outletBackUptoCard
end Rows
end Go.Proofs.YthhnmfjfgbgjeaaDoor
