/- Layer 10, the document's functions: Low, IsToken, Text, Trim, Find. No conditions but on lengths. -/
import Derived.Test.YthhnmfjfgbgjeaaDoorFld3
import Derived.Test.YthhnmfjfgbgjeaaDoorOwn
import Derived.Deep.LoopGhost
namespace Go.Proofs.YthhnmfjfgbgjeaaDoor
open Go.RowKit Go.Shelf

theorem u8info : (Tryd.prog.info? 5).map (fun i => (i.zero, i.size, i.bytes)) = some (some (.int .u8 0), 1, 1) := by kernel_rfl

end Go.Proofs.YthhnmfjfgbgjeaaDoor
