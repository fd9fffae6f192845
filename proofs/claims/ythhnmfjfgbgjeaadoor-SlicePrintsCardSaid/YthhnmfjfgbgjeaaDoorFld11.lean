/- Layer 10: the program's Elements. No conditions but on lengths. -/
import Derived.Test.YthhnmfjfgbgjeaaDoorFld10
namespace Go.Proofs.YthhnmfjfgbgjeaaDoor
open Go.RowKit Go.Shelf

end Go.Proofs.YthhnmfjfgbgjeaaDoor
