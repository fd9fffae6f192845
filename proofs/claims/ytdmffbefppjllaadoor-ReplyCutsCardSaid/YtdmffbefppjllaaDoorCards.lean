/-
  DERIVED. GIVEN WITH THE SEED: THE CARDS: each row of YtdmffbefppjllaaDoorRows.lean that lists a variable, with what it lists TIED to the program's text (the seventh form; the later family's looks); each row that meets fmt, with fmt's text TOLD by the authors' own Lean function (tested against real Go, not proved from fmt's source: count such statements apart). THE CARD IS WHAT COUNTS. Prove the row's statement (the work); the ties are given (YtdmffbefppjllaaDoorTie.lean); close each card by the builder's one call (the guide's Derived/Test/ToyasCard.lean, 'card_holds'). Laid BY PROGRAM, IN A SANDBOX (cutbox-door.mjs). By AI agents, Wed Nov 11 2026. No macro, syntax, notation, axiom, sorry.
-/
import Derived.Test.YtdmffbefppjllaaDoorRows
import GoSem.ClaimSeven
namespace Go.Proofs.YtdmffbefppjllaaDoor
namespace Rows

/-- THE TIED CARD OF 'manciplelaw14.ReplyLines'. -/
def replyLinesCard : Claim7 := { stood := { row := replyLinesRow, standIns := [], harness := (true, "db86df6c4dfceb99fbfe125607f79f3e5a09bc4623e1b83f2cc9a3c2eca597fe"), looks := false }, kinds := [], alts := [], laidByText := true, laidKinds := [.data, .pinned], laidTests := true, laidLooks := .later }
def ReplyLinesCardSaid : Prop := Claim7.holds Tryd.pinned (.plain (OpenSpec.ofChange replyLinesSpec)) replyLinesCard

/-- THE TIED CARD OF 'manciplelaw14.ReplyCuts'. -/
def replyCutsCard : Claim7 := { stood := { row := replyCutsRow, standIns := [], harness := (true, "db86df6c4dfceb99fbfe125607f79f3e5a09bc4623e1b83f2cc9a3c2eca597fe"), looks := false }, kinds := [], alts := [], laidByText := true, laidKinds := [.data, .pinned], laidTests := true, laidLooks := .later }
def ReplyCutsCardSaid : Prop := Claim7.holds Tryd.pinned (.plain (OpenSpec.ofChange replyCutsSpec)) replyCutsCard

/-- THE TIED CARD OF 'manciplelaw26.GuestPipes'. -/
def guestPipesCard : Claim7 := { stood := { row := guestPipesRow, standIns := [], harness := (true, "db86df6c4dfceb99fbfe125607f79f3e5a09bc4623e1b83f2cc9a3c2eca597fe"), looks := false }, kinds := [], alts := [], laidByText := true, laidKinds := [.data, .pinned], laidTests := true, laidLooks := .later }
def GuestPipesCardSaid : Prop := Claim7.holds Tryd.pinned (.plain (OpenSpec.ofChange guestPipesSpec)) guestPipesCard

/-- THE TIED CARD OF 'manciplelaw26.GuestTurns'. -/
def guestTurnsCard : Claim7 := { stood := { row := guestTurnsRow, standIns := [], harness := (true, "db86df6c4dfceb99fbfe125607f79f3e5a09bc4623e1b83f2cc9a3c2eca597fe"), looks := false }, kinds := [], alts := [], laidByText := true, laidKinds := [.data, .pinned], laidTests := true, laidLooks := .later }
def GuestTurnsCardSaid : Prop := Claim7.holds Tryd.pinned (.plain (OpenSpec.ofChange guestTurnsSpec)) guestTurnsCard

/-- THE SECOND FORM's CARD OF 'manciplelaw14.ReplyLines'. -/
def replyLinesUptoCard : Claim7 := { stood := { row := replyLinesUptoRow, standIns := [], harness := (true, "db86df6c4dfceb99fbfe125607f79f3e5a09bc4623e1b83f2cc9a3c2eca597fe"), looks := false }, kinds := [], alts := [], laidByText := true, laidKinds := [.data, .pinned], laidTests := true, laidLooks := .later }
def ReplyLinesUptoCardSaid : Prop := Claim7.holds Tryd.pinned (.plain (OpenSpec.upto replyLinesSpec)) replyLinesUptoCard

/-- THE SECOND FORM's CARD OF 'manciplelaw14.ReplyCuts'. -/
def replyCutsUptoCard : Claim7 := { stood := { row := replyCutsUptoRow, standIns := [], harness := (true, "db86df6c4dfceb99fbfe125607f79f3e5a09bc4623e1b83f2cc9a3c2eca597fe"), looks := false }, kinds := [], alts := [], laidByText := true, laidKinds := [.data, .pinned], laidTests := true, laidLooks := .later }
def ReplyCutsUptoCardSaid : Prop := Claim7.holds Tryd.pinned (.plain (OpenSpec.upto replyCutsSpec)) replyCutsUptoCard

/-- THE SECOND FORM's CARD OF 'manciplelaw26.GuestPipes'. -/
def guestPipesUptoCard : Claim7 := { stood := { row := guestPipesUptoRow, standIns := [], harness := (true, "db86df6c4dfceb99fbfe125607f79f3e5a09bc4623e1b83f2cc9a3c2eca597fe"), looks := false }, kinds := [], alts := [], laidByText := true, laidKinds := [.data, .pinned], laidTests := true, laidLooks := .later }
def GuestPipesUptoCardSaid : Prop := Claim7.holds Tryd.pinned (.plain (OpenSpec.upto guestPipesSpec)) guestPipesUptoCard

/-- THE SECOND FORM's CARD OF 'manciplelaw26.GuestTurns'. -/
def guestTurnsUptoCard : Claim7 := { stood := { row := guestTurnsUptoRow, standIns := [], harness := (true, "db86df6c4dfceb99fbfe125607f79f3e5a09bc4623e1b83f2cc9a3c2eca597fe"), looks := false }, kinds := [], alts := [], laidByText := true, laidKinds := [.data, .pinned], laidTests := true, laidLooks := .later }
def GuestTurnsUptoCardSaid : Prop := Claim7.holds Tryd.pinned (.plain (OpenSpec.upto guestTurnsSpec)) guestTurnsUptoCard
end Rows
end Go.Proofs.YtdmffbefppjllaaDoor
