/-
  DERIVED. GIVEN WITH THE SEED: THE CARDS: each row of YtmfnciocnlmceaaDoorRows.lean that lists a variable, with what it lists TIED to the program's text (the seventh form; the later family's looks); each row that meets fmt, with fmt's text TOLD by the authors' own Lean function (tested against real Go, not proved from fmt's source: count such statements apart). THE CARD IS WHAT COUNTS. Prove the row's statement (the work); the ties are given (YtmfnciocnlmceaaDoorTie.lean); close each card by the builder's one call (the guide's Derived/Test/ToyasCard.lean, 'card_holds'). Laid BY PROGRAM, IN A SANDBOX (cutbox-door.mjs). By AI agents, Wed Nov 11 2026. No macro, syntax, notation, axiom, sorry.
-/
import Derived.Test.YtmfnciocnlmceaaDoorRows
import GoSem.ClaimSeven
namespace Go.Proofs.YtmfnciocnlmceaaDoor
namespace Rows

/-- THE TIED CARD OF 'manciplelaw13.OutletExact'. -/
def outletExactCard : Claim7 := { stood := { row := outletExactRow, standIns := [], harness := (true, "9f2ae9959860e8b19879215b6850d2f2975b47d83729873b68ccee88033fcfc2"), looks := false }, kinds := [], alts := [], laidByText := true, laidKinds := [.data, .data, .data, .data, .pinned], laidTests := true, laidLooks := .later }
def OutletExactCardSaid : Prop := Claim7.holds Tryd.pinned (.plain (OpenSpec.ofChange outletExactSpec)) outletExactCard

/-- THE TIED CARD OF 'manciplelaw13.OutletBack'. -/
def outletBackCard : Claim7 := { stood := { row := outletBackRow, standIns := [], harness := (true, "9f2ae9959860e8b19879215b6850d2f2975b47d83729873b68ccee88033fcfc2"), looks := false }, kinds := [], alts := [], laidByText := true, laidKinds := [.data, .data, .data, .data, .pinned], laidTests := true, laidLooks := .later }
def OutletBackCardSaid : Prop := Claim7.holds Tryd.pinned (.plain (OpenSpec.ofChange outletBackSpec)) outletBackCard

/-- THE TIED CARD OF 'manciplelaw11.ChunkReads'. -/
def chunkReadsCard : Claim7 := { stood := { row := chunkReadsRow, standIns := [], harness := (true, "9f2ae9959860e8b19879215b6850d2f2975b47d83729873b68ccee88033fcfc2"), looks := false }, kinds := [], alts := [], laidByText := true, laidKinds := [.data, .data, .data, .data, .pinned], laidTests := true, laidLooks := .later }
def ChunkReadsCardSaid : Prop := Claim7.holds Tryd.pinned (.plain (OpenSpec.ofChange chunkReadsSpec)) chunkReadsCard

/-- THE TIED CARD OF 'manciplelaw11.ChunkWrites'. -/
def chunkWritesCard : Claim7 := { stood := { row := chunkWritesRow, standIns := [], harness := (true, "9f2ae9959860e8b19879215b6850d2f2975b47d83729873b68ccee88033fcfc2"), looks := false }, kinds := [], alts := [], laidByText := true, laidKinds := [.data, .data, .data, .data, .pinned], laidTests := true, laidLooks := .later }
def ChunkWritesCardSaid : Prop := Claim7.holds Tryd.pinned (.plain (OpenSpec.ofChange chunkWritesSpec)) chunkWritesCard

/-- THE TIED CARD OF 'manciplelaw11.ChunkCuts'. -/
def chunkCutsCard : Claim7 := { stood := { row := chunkCutsRow, standIns := [], harness := (true, "9f2ae9959860e8b19879215b6850d2f2975b47d83729873b68ccee88033fcfc2"), looks := false }, kinds := [], alts := [], laidByText := true, laidKinds := [.data, .data, .data, .data, .pinned], laidTests := true, laidLooks := .later }
def ChunkCutsCardSaid : Prop := Claim7.holds Tryd.pinned (.plain (OpenSpec.ofChange chunkCutsSpec)) chunkCutsCard

/-- THE TIED CARD OF 'manciplelaw11.ChunkBack'. -/
def chunkBackCard : Claim7 := { stood := { row := chunkBackRow, standIns := [], harness := (true, "9f2ae9959860e8b19879215b6850d2f2975b47d83729873b68ccee88033fcfc2"), looks := false }, kinds := [], alts := [], laidByText := true, laidKinds := [.data, .data, .data, .data, .pinned], laidTests := true, laidLooks := .later }
def ChunkBackCardSaid : Prop := Claim7.holds Tryd.pinned (.plain (OpenSpec.ofChange chunkBackSpec)) chunkBackCard

/-- THE TIED CARD OF 'manciplelaw12.InletLines'. -/
def inletLinesCard : Claim7 := { stood := { row := inletLinesRow, standIns := [], harness := (true, "9f2ae9959860e8b19879215b6850d2f2975b47d83729873b68ccee88033fcfc2"), looks := false }, kinds := [], alts := [], laidByText := true, laidKinds := [.data, .pinned], laidTests := true, laidLooks := .later }
def InletLinesCardSaid : Prop := Claim7.holds Tryd.pinned (.plain (OpenSpec.ofChange inletLinesSpec)) inletLinesCard

/-- THE TIED CARD OF 'manciplelaw12.InletCuts'. -/
def inletCutsCard : Claim7 := { stood := { row := inletCutsRow, standIns := [], harness := (true, "9f2ae9959860e8b19879215b6850d2f2975b47d83729873b68ccee88033fcfc2"), looks := false }, kinds := [], alts := [], laidByText := true, laidKinds := [.data, .pinned], laidTests := true, laidLooks := .later }
def InletCutsCardSaid : Prop := Claim7.holds Tryd.pinned (.plain (OpenSpec.ofChange inletCutsSpec)) inletCutsCard

/-- THE TIED CARD OF 'manciplelaw12.InletPipes'. -/
def inletPipesCard : Claim7 := { stood := { row := inletPipesRow, standIns := [], harness := (true, "9f2ae9959860e8b19879215b6850d2f2975b47d83729873b68ccee88033fcfc2"), looks := false }, kinds := [], alts := [], laidByText := true, laidKinds := [.data, .pinned], laidTests := true, laidLooks := .later }
def InletPipesCardSaid : Prop := Claim7.holds Tryd.pinned (.plain (OpenSpec.ofChange inletPipesSpec)) inletPipesCard

/-- THE TIED CARD OF 'manciplelaw12.InletStrict'. -/
def inletStrictCard : Claim7 := { stood := { row := inletStrictRow, standIns := [], harness := (true, "9f2ae9959860e8b19879215b6850d2f2975b47d83729873b68ccee88033fcfc2"), looks := false }, kinds := [], alts := [], laidByText := true, laidKinds := [.data, .pinned], laidTests := true, laidLooks := .later }
def InletStrictCardSaid : Prop := Claim7.holds Tryd.pinned (.plain (OpenSpec.ofChange inletStrictSpec)) inletStrictCard

/-- THE SECOND FORM's CARD OF 'manciplelaw13.OutletExact'. -/
def outletExactUptoCard : Claim7 := { stood := { row := outletExactUptoRow, standIns := [], harness := (true, "9f2ae9959860e8b19879215b6850d2f2975b47d83729873b68ccee88033fcfc2"), looks := false }, kinds := [], alts := [], laidByText := true, laidKinds := [.data, .data, .data, .data, .pinned], laidTests := true, laidLooks := .later }
def OutletExactUptoCardSaid : Prop := Claim7.holds Tryd.pinned (.plain (OpenSpec.upto outletExactSpec)) outletExactUptoCard

/-- THE SECOND FORM's CARD OF 'manciplelaw13.OutletBack'. -/
def outletBackUptoCard : Claim7 := { stood := { row := outletBackUptoRow, standIns := [], harness := (true, "9f2ae9959860e8b19879215b6850d2f2975b47d83729873b68ccee88033fcfc2"), looks := false }, kinds := [], alts := [], laidByText := true, laidKinds := [.data, .data, .data, .data, .pinned], laidTests := true, laidLooks := .later }
def OutletBackUptoCardSaid : Prop := Claim7.holds Tryd.pinned (.plain (OpenSpec.upto outletBackSpec)) outletBackUptoCard

/-- THE SECOND FORM's CARD OF 'manciplelaw11.ChunkReads'. -/
def chunkReadsUptoCard : Claim7 := { stood := { row := chunkReadsUptoRow, standIns := [], harness := (true, "9f2ae9959860e8b19879215b6850d2f2975b47d83729873b68ccee88033fcfc2"), looks := false }, kinds := [], alts := [], laidByText := true, laidKinds := [.data, .data, .data, .data, .pinned], laidTests := true, laidLooks := .later }
def ChunkReadsUptoCardSaid : Prop := Claim7.holds Tryd.pinned (.plain (OpenSpec.upto chunkReadsSpec)) chunkReadsUptoCard

/-- THE SECOND FORM's CARD OF 'manciplelaw11.ChunkWrites'. -/
def chunkWritesUptoCard : Claim7 := { stood := { row := chunkWritesUptoRow, standIns := [], harness := (true, "9f2ae9959860e8b19879215b6850d2f2975b47d83729873b68ccee88033fcfc2"), looks := false }, kinds := [], alts := [], laidByText := true, laidKinds := [.data, .data, .data, .data, .pinned], laidTests := true, laidLooks := .later }
def ChunkWritesUptoCardSaid : Prop := Claim7.holds Tryd.pinned (.plain (OpenSpec.upto chunkWritesSpec)) chunkWritesUptoCard

/-- THE SECOND FORM's CARD OF 'manciplelaw11.ChunkCuts'. -/
def chunkCutsUptoCard : Claim7 := { stood := { row := chunkCutsUptoRow, standIns := [], harness := (true, "9f2ae9959860e8b19879215b6850d2f2975b47d83729873b68ccee88033fcfc2"), looks := false }, kinds := [], alts := [], laidByText := true, laidKinds := [.data, .data, .data, .data, .pinned], laidTests := true, laidLooks := .later }
def ChunkCutsUptoCardSaid : Prop := Claim7.holds Tryd.pinned (.plain (OpenSpec.upto chunkCutsSpec)) chunkCutsUptoCard

/-- THE SECOND FORM's CARD OF 'manciplelaw11.ChunkBack'. -/
def chunkBackUptoCard : Claim7 := { stood := { row := chunkBackUptoRow, standIns := [], harness := (true, "9f2ae9959860e8b19879215b6850d2f2975b47d83729873b68ccee88033fcfc2"), looks := false }, kinds := [], alts := [], laidByText := true, laidKinds := [.data, .data, .data, .data, .pinned], laidTests := true, laidLooks := .later }
def ChunkBackUptoCardSaid : Prop := Claim7.holds Tryd.pinned (.plain (OpenSpec.upto chunkBackSpec)) chunkBackUptoCard

/-- THE SECOND FORM's CARD OF 'manciplelaw12.InletLines'. -/
def inletLinesUptoCard : Claim7 := { stood := { row := inletLinesUptoRow, standIns := [], harness := (true, "9f2ae9959860e8b19879215b6850d2f2975b47d83729873b68ccee88033fcfc2"), looks := false }, kinds := [], alts := [], laidByText := true, laidKinds := [.data, .pinned], laidTests := true, laidLooks := .later }
def InletLinesUptoCardSaid : Prop := Claim7.holds Tryd.pinned (.plain (OpenSpec.upto inletLinesSpec)) inletLinesUptoCard

/-- THE SECOND FORM's CARD OF 'manciplelaw12.InletCuts'. -/
def inletCutsUptoCard : Claim7 := { stood := { row := inletCutsUptoRow, standIns := [], harness := (true, "9f2ae9959860e8b19879215b6850d2f2975b47d83729873b68ccee88033fcfc2"), looks := false }, kinds := [], alts := [], laidByText := true, laidKinds := [.data, .pinned], laidTests := true, laidLooks := .later }
def InletCutsUptoCardSaid : Prop := Claim7.holds Tryd.pinned (.plain (OpenSpec.upto inletCutsSpec)) inletCutsUptoCard

/-- THE SECOND FORM's CARD OF 'manciplelaw12.InletPipes'. -/
def inletPipesUptoCard : Claim7 := { stood := { row := inletPipesUptoRow, standIns := [], harness := (true, "9f2ae9959860e8b19879215b6850d2f2975b47d83729873b68ccee88033fcfc2"), looks := false }, kinds := [], alts := [], laidByText := true, laidKinds := [.data, .pinned], laidTests := true, laidLooks := .later }
def InletPipesUptoCardSaid : Prop := Claim7.holds Tryd.pinned (.plain (OpenSpec.upto inletPipesSpec)) inletPipesUptoCard

/-- THE SECOND FORM's CARD OF 'manciplelaw12.InletStrict'. -/
def inletStrictUptoCard : Claim7 := { stood := { row := inletStrictUptoRow, standIns := [], harness := (true, "9f2ae9959860e8b19879215b6850d2f2975b47d83729873b68ccee88033fcfc2"), looks := false }, kinds := [], alts := [], laidByText := true, laidKinds := [.data, .pinned], laidTests := true, laidLooks := .later }
def InletStrictUptoCardSaid : Prop := Claim7.holds Tryd.pinned (.plain (OpenSpec.upto inletStrictSpec)) inletStrictUptoCard
end Rows
end Go.Proofs.YtmfnciocnlmceaaDoor
