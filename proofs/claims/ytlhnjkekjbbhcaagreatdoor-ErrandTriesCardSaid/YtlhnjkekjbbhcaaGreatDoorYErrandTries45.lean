/- Parts of the proof of ErrandTries, in order. No conditions but those that each theorem states. -/
import Derived.Test.YtlhnjkekjbbhcaaGreatDoorYErrandTries0
import Derived.Laws.Cover2
import Derived.OpenShut
import Derived.Test.YtlhnjkekjbbhcaaGreatDoorYErrandTries17
set_option linter.unusedSimpArgs false
set_option linter.unusedVariables false
namespace Go.Proofs.YtlhnjkekjbbhcaaGreatDoor
theorem wf_float {b : Nat} (h : (Lit.float .f64 b).wf = true) : b < 18446744073709551616 := by
  simpa [Lit.wf] using h
end Go.Proofs.YtlhnjkekjbbhcaaGreatDoor
namespace Go.Proofs.YtlhnjkekjbbhcaaGreatDoor
open Go.ChangeShapes Go.WideShapes Go.ChangeAt Go.RowKit
theorem okWide_array3 {P : Program} {w : World} {r : Reach} {base : Nat} {t : TypeId} {v : Value} {n : Nat} {e : TypeId} (ht : P.underlying t = some (.array n e)) (h : Value.okWide P w r base t v) : ∃ cs, v = .agg cs ∧ cs.size = P.cellsOf t := by
  simp only [Value.okWide, ht] at h; obtain ⟨cs, h1, h2, _⟩ := h; exact ⟨cs, h1, h2⟩
theorem read_arr3 {H : Type} {enc : TypeId × Value → H} {P : Program} {w : World} {base : Nat} {spare : Nat → Bool} {held : Bool}
    {t e : TypeId} {v : Value} {d : DataW H} {ps : List MemPlace} (ht : P.underlying t = some (.array 3 e)) (he : P.underlying e = some (.int .i64)) (hc : P.cellsOf e = 1) (hct : P.cellsOf t = 3)
    (h : DataW.Trod enc P w base spare held t v d ps) (hv : ∃ cs, v = .agg cs ∧ cs.size = P.cellsOf t) : ∃ a b c : Int, v = .agg #[.int .i64 a, .int .i64 b, .int .i64 c] ∧ in64 a ∧ in64 b ∧ in64 c := by
  obtain ⟨fuel, hf⟩ := h; obtain ⟨cs, rfl, _⟩ := hv; obtain ⟨xs, m, _, _, hl, hn, hx⟩ := DataW.trod_array ht hf; have hl' : cs.size = 3 := by simpa [Value.cells, hct] using hl
  obtain ⟨x0, y0⟩ : ∃ x, xs[0]? = some x := ⟨_, List.getElem?_eq_getElem (by omega)⟩
  obtain ⟨x1, y1⟩ : ∃ x, xs[1]? = some x := ⟨_, List.getElem?_eq_getElem (by omega)⟩
  obtain ⟨x2, y2⟩ : ∃ x, xs[2]? = some x := ⟨_, List.getElem?_eq_getElem (by omega)⟩
  have h0 := hx 0 (by omega); have h1 := hx 1 (by omega); have h2 := hx 2 (by omega); rw [y0] at h0; rw [y1] at h1; rw [y2] at h2; obtain ⟨a, c0, _, wa⟩ := DataW.trod_int he h0; obtain ⟨b, c1, _, wb⟩ := DataW.trod_int he h1; obtain ⟨c, c2, _, wc⟩ := DataW.trod_int he h2; obtain ⟨l⟩ := cs; rcases l with _ | ⟨p, _ | ⟨q, _ | ⟨s, _ | ⟨u, l⟩⟩⟩⟩
  · simp at hl'
  · simp at hl'
  · simp at hl'
  · simp [Value.cells, hc] at c0 c1 c2; subst c0; subst c1; subst c2; exact ⟨a, b, c, rfl, in64_of wa, in64_of wb, in64_of wc⟩
  · simp at hl'
end Go.Proofs.YtlhnjkekjbbhcaaGreatDoor
