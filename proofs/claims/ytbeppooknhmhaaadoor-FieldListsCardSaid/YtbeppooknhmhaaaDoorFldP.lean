/- Layer 10: the document's Parse, its result written out. No conditions but on lengths. -/
import Derived.Test.YtbeppooknhmhaaaDoorFld6
namespace Go.Proofs.YtbeppooknhmhaaaDoor
open Go.RowKit Go.Shelf

theorem ref_parse_is {l n v : List UInt8} {k : Int} (w : World) (hl : l.length ≤ 4611686018427387904) (hv : parseV l = ⟨n, v⟩) (he : parseE l = k) :
    Calls Tryd.prog 15 #[.string (S l)] w fun e w' => e = .returned (.tuple #[.agg #[.string (S n), .string (S v)], .int .i64 k]) ∧ Keep [] w w' := by
  have h := ref_Parse l w hl
  unfold RefParse at h
  rw [hv, he] at h
  exact h

end Go.Proofs.YtbeppooknhmhaaaDoor
