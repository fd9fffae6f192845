/- An argument that is an array of two ints, opened. No conditions. -/
import Derived.Test.YtbeppooknhmhaaaDoorFldR
import Derived.OpenShut
namespace Go.Proofs.YtbeppooknhmhaaaDoor
open Go.ChangeShapes Go.WideShapes Go.ChangeAt Go.RowKit

theorem okWide_array {P : Program} {w : World} {r : Reach} {base : Nat} {t : TypeId} {v : Value} {n : Nat} {e : TypeId} (ht : P.underlying t = some (.array n e)) (h : Value.okWide P w r base t v) : ∃ cs, v = .agg cs ∧ cs.size = P.cellsOf t := by
  simp only [Value.okWide, ht] at h
  obtain ⟨cs, h1, h2, _⟩ := h
  exact ⟨cs, h1, h2⟩

theorem read_arr2 {H : Type} {enc : TypeId × Value → H} {P : Program} {w : World} {base : Nat} {spare : Nat → Bool} {held : Bool}
    {t e : TypeId} {v : Value} {d : DataW H} {ps : List MemPlace} (ht : P.underlying t = some (.array 2 e)) (he : P.underlying e = some (.int .i64)) (hc : P.cellsOf e = 1) (hct : P.cellsOf t = 2)
    (h : DataW.Trod enc P w base spare held t v d ps) (hv : ∃ cs, v = .agg cs ∧ cs.size = P.cellsOf t) : ∃ a b : Int, v = .agg #[.int .i64 a, .int .i64 b] := by
  obtain ⟨fuel, hf⟩ := h
  obtain ⟨cs, rfl, _⟩ := hv
  obtain ⟨xs, m, _, _, hl, hn, hx⟩ := DataW.trod_array ht hf
  have hl' : cs.size = 2 := by simpa [Value.cells, hct] using hl
  obtain ⟨x0, y0⟩ : ∃ x, xs[0]? = some x := ⟨_, List.getElem?_eq_getElem (by omega)⟩
  obtain ⟨x1, y1⟩ : ∃ x, xs[1]? = some x := ⟨_, List.getElem?_eq_getElem (by omega)⟩
  have h0 := hx 0 (by omega)
  have h1 := hx 1 (by omega)
  rw [y0] at h0
  rw [y1] at h1
  obtain ⟨a, c0, _⟩ := DataW.trod_int he h0
  obtain ⟨b, c1, _⟩ := DataW.trod_int he h1
  obtain ⟨l⟩ := cs
  rcases l with _ | ⟨p, _ | ⟨q, _ | ⟨s, l⟩⟩⟩
  · simp at hl'
  · simp at hl'
  · simp [Value.cells, hc] at c0 c1
    subst c0
    subst c1
    exact ⟨a, b, rfl⟩
  · simp at hl'
end Go.Proofs.YtbeppooknhmhaaaDoor
