/-
  DERIVED. GIVEN WITH THE SEED: THE CARDS: each row of YtbeppooknhmhaaaDoorRows.lean that lists a variable, with what it lists TIED to the program's text (the seventh form; the later family's looks); each row that meets fmt, with fmt's text TOLD by the authors' own Lean function (tested against real Go, not proved from fmt's source: count such statements apart). THE CARD IS WHAT COUNTS. Prove the row's statement (the work); the ties are given (YtbeppooknhmhaaaDoorTie.lean); close each card by the builder's one call (the guide's Derived/Test/ToyasCard.lean, 'card_holds'). Laid BY PROGRAM, IN A SANDBOX (cutbox-door.mjs). By AI agents, Wed Nov 11 2026. No macro, syntax, notation, axiom, sorry.
-/
import Derived.Test.YtbeppooknhmhaaaDoorRows
import GoSem.ClaimSeven
namespace Go.Proofs.YtbeppooknhmhaaaDoor
namespace Rows

/-- THE TIED CARD OF 'manciplelaw10.FieldHeads'. -/
def fieldHeadsCard : Claim7 := { stood := { row := fieldHeadsRow, standIns := [], harness := (true, "a29ffe72c1d41b291374e5253789cb1502c29be501200e0c346f83960ea688ab"), looks := false }, kinds := [], alts := [], laidByText := true, laidKinds := [.data, .pinned], laidTests := true, laidLooks := .later }
def FieldHeadsCardSaid : Prop := Claim7.holds Tryd.pinned (.plain (OpenSpec.ofChange fieldHeadsSpec)) fieldHeadsCard

/-- THE TIED CARD OF 'manciplelaw10.FieldStays'. -/
def fieldStaysCard : Claim7 := { stood := { row := fieldStaysRow, standIns := [], harness := (true, "a29ffe72c1d41b291374e5253789cb1502c29be501200e0c346f83960ea688ab"), looks := false }, kinds := [], alts := [], laidByText := true, laidKinds := [.data, .pinned], laidTests := true, laidLooks := .later }
def FieldStaysCardSaid : Prop := Claim7.holds Tryd.pinned (.plain (OpenSpec.ofChange fieldStaysSpec)) fieldStaysCard

/-- THE TIED CARD OF 'manciplelaw10.FieldLines'. -/
def fieldLinesCard : Claim7 := { stood := { row := fieldLinesRow, standIns := [], harness := (true, "a29ffe72c1d41b291374e5253789cb1502c29be501200e0c346f83960ea688ab"), looks := false }, kinds := [], alts := [], laidByText := true, laidKinds := [.data, .pinned], laidTests := true, laidLooks := .later }
def FieldLinesCardSaid : Prop := Claim7.holds Tryd.pinned (.plain (OpenSpec.ofChange fieldLinesSpec)) fieldLinesCard

/-- THE TIED CARD OF 'manciplelaw10.FieldBack'. -/
def fieldBackCard : Claim7 := { stood := { row := fieldBackRow, standIns := [], harness := (true, "a29ffe72c1d41b291374e5253789cb1502c29be501200e0c346f83960ea688ab"), looks := false }, kinds := [], alts := [], laidByText := true, laidKinds := [.data, .pinned], laidTests := true, laidLooks := .later }
def FieldBackCardSaid : Prop := Claim7.holds Tryd.pinned (.plain (OpenSpec.ofChange fieldBackSpec)) fieldBackCard

/-- THE TIED CARD OF 'manciplelaw10.FieldNames'. -/
def fieldNamesCard : Claim7 := { stood := { row := fieldNamesRow, standIns := [], harness := (true, "a29ffe72c1d41b291374e5253789cb1502c29be501200e0c346f83960ea688ab"), looks := false }, kinds := [], alts := [], laidByText := true, laidKinds := [.data, .pinned], laidTests := true, laidLooks := .later }
def FieldNamesCardSaid : Prop := Claim7.holds Tryd.pinned (.plain (OpenSpec.ofChange fieldNamesSpec)) fieldNamesCard

/-- THE TIED CARD OF 'manciplelaw10.FieldFrames'. -/
def fieldFramesCard : Claim7 := { stood := { row := fieldFramesRow, standIns := [], harness := (true, "a29ffe72c1d41b291374e5253789cb1502c29be501200e0c346f83960ea688ab"), looks := false }, kinds := [], alts := [], laidByText := true, laidKinds := [.data, .pinned], laidTests := true, laidLooks := .later }
def FieldFramesCardSaid : Prop := Claim7.holds Tryd.pinned (.plain (OpenSpec.ofChange fieldFramesSpec)) fieldFramesCard

/-- THE TIED CARD OF 'manciplelaw10.FieldLists'. -/
def fieldListsCard : Claim7 := { stood := { row := fieldListsRow, standIns := [], harness := (true, "a29ffe72c1d41b291374e5253789cb1502c29be501200e0c346f83960ea688ab"), looks := false }, kinds := [], alts := [], laidByText := true, laidKinds := [.data, .pinned], laidTests := true, laidLooks := .later }
def FieldListsCardSaid : Prop := Claim7.holds Tryd.pinned (.plain (OpenSpec.ofChange fieldListsSpec)) fieldListsCard

/-- THE SECOND FORM's CARD OF 'manciplelaw10.FieldHeads'. -/
def fieldHeadsUptoCard : Claim7 := { stood := { row := fieldHeadsUptoRow, standIns := [], harness := (true, "a29ffe72c1d41b291374e5253789cb1502c29be501200e0c346f83960ea688ab"), looks := false }, kinds := [], alts := [], laidByText := true, laidKinds := [.data, .pinned], laidTests := true, laidLooks := .later }
def FieldHeadsUptoCardSaid : Prop := Claim7.holds Tryd.pinned (.plain (OpenSpec.upto fieldHeadsSpec)) fieldHeadsUptoCard

/-- THE SECOND FORM's CARD OF 'manciplelaw10.FieldStays'. -/
def fieldStaysUptoCard : Claim7 := { stood := { row := fieldStaysUptoRow, standIns := [], harness := (true, "a29ffe72c1d41b291374e5253789cb1502c29be501200e0c346f83960ea688ab"), looks := false }, kinds := [], alts := [], laidByText := true, laidKinds := [.data, .pinned], laidTests := true, laidLooks := .later }
def FieldStaysUptoCardSaid : Prop := Claim7.holds Tryd.pinned (.plain (OpenSpec.upto fieldStaysSpec)) fieldStaysUptoCard

/-- THE SECOND FORM's CARD OF 'manciplelaw10.FieldLines'. -/
def fieldLinesUptoCard : Claim7 := { stood := { row := fieldLinesUptoRow, standIns := [], harness := (true, "a29ffe72c1d41b291374e5253789cb1502c29be501200e0c346f83960ea688ab"), looks := false }, kinds := [], alts := [], laidByText := true, laidKinds := [.data, .pinned], laidTests := true, laidLooks := .later }
def FieldLinesUptoCardSaid : Prop := Claim7.holds Tryd.pinned (.plain (OpenSpec.upto fieldLinesSpec)) fieldLinesUptoCard

/-- THE SECOND FORM's CARD OF 'manciplelaw10.FieldBack'. -/
def fieldBackUptoCard : Claim7 := { stood := { row := fieldBackUptoRow, standIns := [], harness := (true, "a29ffe72c1d41b291374e5253789cb1502c29be501200e0c346f83960ea688ab"), looks := false }, kinds := [], alts := [], laidByText := true, laidKinds := [.data, .pinned], laidTests := true, laidLooks := .later }
def FieldBackUptoCardSaid : Prop := Claim7.holds Tryd.pinned (.plain (OpenSpec.upto fieldBackSpec)) fieldBackUptoCard

/-- THE SECOND FORM's CARD OF 'manciplelaw10.FieldNames'. -/
def fieldNamesUptoCard : Claim7 := { stood := { row := fieldNamesUptoRow, standIns := [], harness := (true, "a29ffe72c1d41b291374e5253789cb1502c29be501200e0c346f83960ea688ab"), looks := false }, kinds := [], alts := [], laidByText := true, laidKinds := [.data, .pinned], laidTests := true, laidLooks := .later }
def FieldNamesUptoCardSaid : Prop := Claim7.holds Tryd.pinned (.plain (OpenSpec.upto fieldNamesSpec)) fieldNamesUptoCard

/-- THE SECOND FORM's CARD OF 'manciplelaw10.FieldFrames'. -/
def fieldFramesUptoCard : Claim7 := { stood := { row := fieldFramesUptoRow, standIns := [], harness := (true, "a29ffe72c1d41b291374e5253789cb1502c29be501200e0c346f83960ea688ab"), looks := false }, kinds := [], alts := [], laidByText := true, laidKinds := [.data, .pinned], laidTests := true, laidLooks := .later }
def FieldFramesUptoCardSaid : Prop := Claim7.holds Tryd.pinned (.plain (OpenSpec.upto fieldFramesSpec)) fieldFramesUptoCard

/-- THE SECOND FORM's CARD OF 'manciplelaw10.FieldLists'. -/
def fieldListsUptoCard : Claim7 := { stood := { row := fieldListsUptoRow, standIns := [], harness := (true, "a29ffe72c1d41b291374e5253789cb1502c29be501200e0c346f83960ea688ab"), looks := false }, kinds := [], alts := [], laidByText := true, laidKinds := [.data, .pinned], laidTests := true, laidLooks := .later }
def FieldListsUptoCardSaid : Prop := Claim7.holds Tryd.pinned (.plain (OpenSpec.upto fieldListsSpec)) fieldListsUptoCard
end Rows
end Go.Proofs.YtbeppooknhmhaaaDoor
