/- Layer 10: the program's cut. No conditions but on lengths. -/
import Derived.Test.YthhnmfjfgbgjeaaDoorFld7
namespace Go.Proofs.YthhnmfjfgbgjeaaDoor
open Go.RowKit Go.Shelf

theorem piece_snoc {l : List UInt8} {k f : Nat} {c : UInt8} (h : l[k]? = some c) (hf : f ≤ k) : (l.take (k + 1)).drop f = (l.take k).drop f ++ [c] := by
  have hl := (List.getElem?_eq_some_iff.1 h).1
  rw [take_snoc h, List.drop_append_of_le_length (by simp; omega)]

end Go.Proofs.YthhnmfjfgbgjeaaDoor
