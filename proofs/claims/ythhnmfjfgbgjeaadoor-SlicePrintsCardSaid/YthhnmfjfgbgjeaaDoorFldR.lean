/- How fields that come in are read; the worlds that meet the rows' conditions. No conditions. -/
import Derived.Test.YthhnmfjfgbgjeaaDoorFld16
import Derived.Test.YthhnmfjfgbgjeaaDoorRead
import Derived.Deep.DeepHandedRow
namespace Go.Proofs.YthhnmfjfgbgjeaaDoor
open Go.RowKit Go.ChangeShapes Go.WideShapes

theorem fld_cells : Tryd.prog.cellsOf 32 = 2 := by kernel_rfl
theorem str_cells : Tryd.prog.cellsOf 9 = 1 := by kernel_rfl
def Fld.good (f : Fld) : Prop := f.name.length ≤ maxLen ∧ f.value.length ≤ maxLen
theorem read_fld {H : Type} {enc : TypeId × Value → H} {w : World} {base : Nat} {spare : Nat → Bool} {held : Bool} (m : Nat) (cs : List Value) (x : DataW H × List MemPlace)
    (h : DataW.trod enc Tryd.prog w base spare held m 32 cs = some x) : ∃ a : Fld, cs = a.cells ∧ a.good := by
  obtain ⟨hl, n, hf⟩ := trod_fields Tryd.underlying32 h
  rw [fld_cells] at hl
  obtain ⟨y0, h0⟩ := hf 0 _ rfl
  obtain ⟨y1, h1⟩ := hf 1 _ rfl
  obtain ⟨v0, c0, w0⟩ := field_string Tryd.underlying9 str_cells h0
  obtain ⟨v1, c1, w1⟩ := field_string Tryd.underlying9 str_cells h1
  refine ⟨⟨v0.data.toList, v1.data.toList⟩, list_eq_of hl rfl ?_, by rw [← Lib.size_eq]; exact w0, by rw [← Lib.size_eq]; exact w1⟩
  intro i hi
  simp only [Fld.cells, S_of]
  match i, hi with
  | 0, _ => exact c0
  | 1, _ => exact c1
/-- a struct that comes in by value -/
theorem read_agg {H : Type} {enc : TypeId × Value → H} {P : Program} {w : World} {base : Nat} {spare : Nat → Bool} {held : Bool} {α : Type} {en : α → List Value} {good : α → Prop}
    {t : TypeId} {v : Value} {d : DataW H} {ps : List MemPlace} (one : ∀ (m : Nat) (cs : List Value) (x : DataW H × List MemPlace), DataW.trod enc P w base spare held m t cs = some x → ∃ a, cs = en a ∧ good a)
    (h : DataW.Trod enc P w base spare held t v d ps) (hv : ∃ cs, v = .agg cs ∧ cs.size = P.cellsOf t) : ∃ a, v = .agg (en a).toArray ∧ good a := by
  obtain ⟨fuel, hf⟩ := h
  obtain ⟨cs, rfl, _⟩ := hv
  obtain ⟨a, ha, hg⟩ := one _ _ _ hf
  exact ⟨a, by rw [← ha]; simp [Value.cells], hg⟩

theorem Calls.below {P : Program} {f : FuncId} {args : Array Value} {w : World} {v : Value} (h : Calls P f args w fun e w' => e = .returned v ∧ Keep [] w w') : Calls P f args w fun e w' => e = .returned v ∧ Below w.heap.size w w' :=
  h.mono fun _ _ h => ⟨h.1, h.2.below (by simp)⟩
theorem ML.shape {W : World} (h : W.ShapedOpen Tryd.prog) : ML W :=
  Go.Proofs.cell_of_shapedOpen_int (zero := #[.int .i64 0]) (t := 3) h (of_decide_eq_true (by kernel_rfl)) (by kernel_rfl) rfl (by kernel_rfl) (by kernel_rfl) Tryd.underlying3

/-- a datum's cells -/
def flatD : Nat → DataW Unit → List Value
  | 0, _ => []
  | n + 1, .agg l => l.flatMap (flatD n)
  | _ + 1, .lit (.int k z) => [.int k z]
  | _ + 1, .lit (.bool b) => [.bool b]
  | _ + 1, .lit (.string s) => [.string ⟨s.toArray⟩]
  | _ + 1, _ => []
/-- the listed variables hold what is listed -/
noncomputable def laidHeap (l : List (String × DataW Unit)) (h : Array Obj) : Array Obj :=
  l.foldl (fun h x => match Tryd.prog.globalNamed x.1 with
    | some g => h.modify g fun
      | .cells _ t fr => .cells (flatD 6 x.2).toArray t fr
      | o => o
    | none => h) h
noncomputable def laidWorld (os : Os) (l : List (String × DataW Unit)) : World :=
  { World.holding Tryd.prog os ⟨#[], #[], []⟩ with heap := laidHeap l (World.holding Tryd.prog os ⟨#[], #[], []⟩).heap }
end Go.Proofs.YthhnmfjfgbgjeaaDoor
