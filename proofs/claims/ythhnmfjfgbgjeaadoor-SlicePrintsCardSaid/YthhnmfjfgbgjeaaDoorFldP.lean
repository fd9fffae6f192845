/- Layer 10: the document's Parse, its result written out. No conditions but on lengths. -/
import Derived.Test.YthhnmfjfgbgjeaaDoorFld6
namespace Go.Proofs.YthhnmfjfgbgjeaaDoor
open Go.RowKit Go.Shelf

end Go.Proofs.YthhnmfjfgbgjeaaDoor
