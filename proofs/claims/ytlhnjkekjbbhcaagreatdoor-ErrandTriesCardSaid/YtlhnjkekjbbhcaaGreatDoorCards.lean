/-
  DERIVED. GIVEN WITH THE SEED: THE CARDS: each row of YtlhnjkekjbbhcaaGreatDoorRows.lean that lists a variable, with what it lists TIED to the program's text (the seventh form; the later family's looks); each row that meets fmt, with fmt's text TOLD by the authors' own Lean function (tested against real Go, not proved from fmt's source: count such statements apart). THE CARD IS WHAT COUNTS. Prove the row's statement (the work); the ties are given (YtlhnjkekjbbhcaaGreatDoorTie.lean); close each card by the builder's one call (the guide's Derived/Test/ToyasCard.lean, 'card_holds'). Laid BY PROGRAM, IN A SANDBOX (cutbox-door.mjs). By AI agents, Wed Nov 11 2026. No macro, syntax, notation, axiom, sorry.
-/
import Derived.Test.YtlhnjkekjbbhcaaGreatDoorRows
import GoSem.ClaimSeven
namespace Go.Proofs.YtlhnjkekjbbhcaaGreatDoor
namespace Rows

/-- THE TIED CARD OF 'manciplelaw24.ErrandJudges'. -/
def errandJudgesCard : Claim7 := { stood := { row := errandJudgesRow, standIns := [], harness := (true, "4ce8a8271ed3ce261b90377f39554a0610397a4691cbeafcd134af0d07cdee02"), looks := false }, kinds := [], alts := [], laidByText := true, laidKinds := [.data, .pinned], laidTests := true, laidLooks := .later }
def ErrandJudgesCardSaid : Prop := Claim7.holds Tryz.pinned (.plain (OpenSpec.ofChange errandJudgesSpec)) errandJudgesCard

/-- THE TIED CARD OF 'manciplelaw24.ErrandTries'. -/
def errandTriesCard : Claim7 := { stood := { row := errandTriesRow, standIns := [], harness := (true, "4ce8a8271ed3ce261b90377f39554a0610397a4691cbeafcd134af0d07cdee02"), looks := false }, kinds := [], alts := [], laidByText := true, laidKinds := [.data, .pinned], laidTests := true, laidLooks := .later }
def ErrandTriesCardSaid : Prop := Claim7.holds Tryz.pinned (.plain (OpenSpec.ofChange errandTriesSpec)) errandTriesCard

/-- THE TIED CARD OF 'manciplelaw24.ErrandWaits'. -/
def errandWaitsCard : Claim7 := { stood := { row := errandWaitsRow, standIns := [], harness := (true, "4ce8a8271ed3ce261b90377f39554a0610397a4691cbeafcd134af0d07cdee02"), looks := false }, kinds := [], alts := [], laidByText := true, laidKinds := [.data, .pinned], laidTests := true, laidLooks := .later }
def ErrandWaitsCardSaid : Prop := Claim7.holds Tryz.pinned (.plain (OpenSpec.ofChange errandWaitsSpec)) errandWaitsCard

/-- THE TIED CARD OF 'manciplelaw24.ErrandAsks'. -/
def errandAsksCard : Claim7 := { stood := { row := errandAsksRow, standIns := [], harness := (true, "4ce8a8271ed3ce261b90377f39554a0610397a4691cbeafcd134af0d07cdee02"), looks := false }, kinds := [], alts := [], laidByText := true, laidKinds := [.data, .pinned], laidTests := true, laidLooks := .later }
def ErrandAsksCardSaid : Prop := Claim7.holds Tryz.pinned (.plain (OpenSpec.ofChange errandAsksSpec)) errandAsksCard

/-- THE TIED CARD OF 'manciplelaw24.ErrandGets'. -/
def errandGetsCard : Claim7 := { stood := { row := errandGetsRow, standIns := [], harness := (true, "4ce8a8271ed3ce261b90377f39554a0610397a4691cbeafcd134af0d07cdee02"), looks := false }, kinds := [], alts := [], laidByText := true, laidKinds := [.data, .data, .data, .data, .pinned], laidTests := true, laidLooks := .later }
def ErrandGetsCardSaid : Prop := Claim7.holds Tryz.pinned (.plain (OpenSpec.ofChange errandGetsSpec)) errandGetsCard

/-- THE SECOND FORM's CARD OF 'manciplelaw24.ErrandJudges'. -/
def errandJudgesUptoCard : Claim7 := { stood := { row := errandJudgesUptoRow, standIns := [], harness := (true, "4ce8a8271ed3ce261b90377f39554a0610397a4691cbeafcd134af0d07cdee02"), looks := false }, kinds := [], alts := [], laidByText := true, laidKinds := [.data, .pinned], laidTests := true, laidLooks := .later }
def ErrandJudgesUptoCardSaid : Prop := Claim7.holds Tryz.pinned (.plain (OpenSpec.upto errandJudgesSpec)) errandJudgesUptoCard

/-- THE SECOND FORM's CARD OF 'manciplelaw24.ErrandTries'. -/
def errandTriesUptoCard : Claim7 := { stood := { row := errandTriesUptoRow, standIns := [], harness := (true, "4ce8a8271ed3ce261b90377f39554a0610397a4691cbeafcd134af0d07cdee02"), looks := false }, kinds := [], alts := [], laidByText := true, laidKinds := [.data, .pinned], laidTests := true, laidLooks := .later }
def ErrandTriesUptoCardSaid : Prop := Claim7.holds Tryz.pinned (.plain (OpenSpec.upto errandTriesSpec)) errandTriesUptoCard

/-- THE SECOND FORM's CARD OF 'manciplelaw24.ErrandWaits'. -/
def errandWaitsUptoCard : Claim7 := { stood := { row := errandWaitsUptoRow, standIns := [], harness := (true, "4ce8a8271ed3ce261b90377f39554a0610397a4691cbeafcd134af0d07cdee02"), looks := false }, kinds := [], alts := [], laidByText := true, laidKinds := [.data, .pinned], laidTests := true, laidLooks := .later }
def ErrandWaitsUptoCardSaid : Prop := Claim7.holds Tryz.pinned (.plain (OpenSpec.upto errandWaitsSpec)) errandWaitsUptoCard

/-- THE SECOND FORM's CARD OF 'manciplelaw24.ErrandAsks'. -/
def errandAsksUptoCard : Claim7 := { stood := { row := errandAsksUptoRow, standIns := [], harness := (true, "4ce8a8271ed3ce261b90377f39554a0610397a4691cbeafcd134af0d07cdee02"), looks := false }, kinds := [], alts := [], laidByText := true, laidKinds := [.data, .pinned], laidTests := true, laidLooks := .later }
def ErrandAsksUptoCardSaid : Prop := Claim7.holds Tryz.pinned (.plain (OpenSpec.upto errandAsksSpec)) errandAsksUptoCard

/-- THE SECOND FORM's CARD OF 'manciplelaw24.ErrandGets'. -/
def errandGetsUptoCard : Claim7 := { stood := { row := errandGetsUptoRow, standIns := [], harness := (true, "4ce8a8271ed3ce261b90377f39554a0610397a4691cbeafcd134af0d07cdee02"), looks := false }, kinds := [], alts := [], laidByText := true, laidKinds := [.data, .data, .data, .data, .pinned], laidTests := true, laidLooks := .later }
def ErrandGetsUptoCardSaid : Prop := Claim7.holds Tryz.pinned (.plain (OpenSpec.upto errandGetsSpec)) errandGetsUptoCard
end Rows
end Go.Proofs.YtlhnjkekjbbhcaaGreatDoor
