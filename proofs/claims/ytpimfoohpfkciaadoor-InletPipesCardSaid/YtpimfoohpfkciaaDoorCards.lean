/-
  DERIVED. GIVEN WITH THE SEED: THE CARDS: each row of YtpimfoohpfkciaaDoorRows.lean that lists a variable, with what it lists TIED to the program's text (the seventh form; the later family's looks); each row that meets fmt, with fmt's text TOLD by the authors' own Lean function (tested against real Go, not proved from fmt's source: count such statements apart). THE CARD IS WHAT COUNTS. Prove the row's statement (the work); the ties are given (YtpimfoohpfkciaaDoorTie.lean); close each card by the builder's one call (the guide's Derived/Test/ToyasCard.lean, 'card_holds'). Laid BY PROGRAM, IN A SANDBOX (cutbox-door.mjs). By AI agents, Wed Nov 11 2026. No macro, syntax, notation, axiom, sorry.
-/
import Derived.Test.YtpimfoohpfkciaaDoorRows
import GoSem.ClaimSeven
namespace Go.Proofs.YtpimfoohpfkciaaDoor
namespace Rows

/-- THE TIED CARD OF 'manciplelaw12.InletPipes'. -/
def inletPipesCard : Claim7 := { stood := { row := inletPipesRow, standIns := [], harness := (true, "95649fbd16dfcd79d0a004541179ee240bbd821993d821797f89c02171ae68ec"), looks := false }, kinds := [], alts := [], laidByText := true, laidKinds := [.data, .pinned], laidTests := true, laidLooks := .later }
def InletPipesCardSaid : Prop := Claim7.holds Tryd.pinned (.plain (OpenSpec.ofChange inletPipesSpec)) inletPipesCard

/-- THE TIED CARD OF 'manciplelaw12.InletStrict'. -/
def inletStrictCard : Claim7 := { stood := { row := inletStrictRow, standIns := [], harness := (true, "95649fbd16dfcd79d0a004541179ee240bbd821993d821797f89c02171ae68ec"), looks := false }, kinds := [], alts := [], laidByText := true, laidKinds := [.data, .pinned], laidTests := true, laidLooks := .later }
def InletStrictCardSaid : Prop := Claim7.holds Tryd.pinned (.plain (OpenSpec.ofChange inletStrictSpec)) inletStrictCard

/-- THE SECOND FORM's CARD OF 'manciplelaw12.InletPipes'. -/
def inletPipesUptoCard : Claim7 := { stood := { row := inletPipesUptoRow, standIns := [], harness := (true, "95649fbd16dfcd79d0a004541179ee240bbd821993d821797f89c02171ae68ec"), looks := false }, kinds := [], alts := [], laidByText := true, laidKinds := [.data, .pinned], laidTests := true, laidLooks := .later }
def InletPipesUptoCardSaid : Prop := Claim7.holds Tryd.pinned (.plain (OpenSpec.upto inletPipesSpec)) inletPipesUptoCard

/-- THE SECOND FORM's CARD OF 'manciplelaw12.InletStrict'. -/
def inletStrictUptoCard : Claim7 := { stood := { row := inletStrictUptoRow, standIns := [], harness := (true, "95649fbd16dfcd79d0a004541179ee240bbd821993d821797f89c02171ae68ec"), looks := false }, kinds := [], alts := [], laidByText := true, laidKinds := [.data, .pinned], laidTests := true, laidLooks := .later }
def InletStrictUptoCardSaid : Prop := Claim7.holds Tryd.pinned (.plain (OpenSpec.upto inletStrictSpec)) inletStrictUptoCard
end Rows
end Go.Proofs.YtpimfoohpfkciaaDoor
