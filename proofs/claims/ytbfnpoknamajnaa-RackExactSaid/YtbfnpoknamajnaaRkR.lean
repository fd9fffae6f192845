/- Digests, jars and the acts of layer 21 as they come in. No conditions. -/
import Derived.Test.YtbfnpoknamajnaaRkA
import Derived.OpenShut
namespace Go.Proofs.Ytbfnpoknamajnaa
open Go.ChangeShapes Go.WideShapes Go.ChangeAt Go.RowKit

section
variable {H : Type} {enc : TypeId × Value → H} {w : World} {base : Nat} {spare : Nat → Bool} {held : Bool}
theorem take_one {cs : List Value} {i : Nat} {v : Value} (h : (cs.drop i).take 1 = [v]) : cs[i]? = some v := by
  have := congrArg (fun l => l[0]?) h
  simpa [List.getElem?_drop] using this
theorem read_dig (fuel : Nat) (cs : List Value) (x : DataW H × List MemPlace) (h : DataW.trod enc Try.prog w base spare held fuel 44 cs = some x) : ∃ d : Dig, cs = digC d := by
  obtain ⟨xs, m, _, _, hl, hn, hx⟩ := DataW.trod_array Try.underlying44 h
  have h1 : Try.prog.cellsOf 5 = 1 := by kernel_rfl
  have hc : Try.prog.cellsOf 44 = 32 := by kernel_rfl
  rw [hc] at hl
  rw [h1] at hx
  have hb : ∀ i, i < 32 → ∃ b : UInt8, cs[i]? = some (.int .u8 (b.toNat : Nat)) := fun i hi => by
    have := hx i hi
    rw [Nat.mul_one] at this
    obtain ⟨y, hy⟩ : ∃ y, xs[i]? = some y := ⟨_, List.getElem?_eq_getElem (by omega)⟩
    rw [hy] at this
    obtain ⟨n, hn, _, hw⟩ := DataW.trod_int Try.underlying5 this
    have hw' : 0 ≤ n ∧ n < 256 := by simp [Lit.wf, IntKind.min, IntKind.max, IntKind.signed, IntKind.bits] at hw; omega
    refine ⟨UInt8.ofNat n.toNat, ?_⟩
    rw [take_one hn]
    have : ((UInt8.ofNat n.toNat).toNat : Int) = n := by rw [UInt8.toNat_ofNat']; omega
    rw [this]
  let f : Nat → UInt8 := fun i => if h : i < 32 then (hb i h).choose else 0
  refine ⟨⟨(List.range 32).map f, by simp⟩, ?_⟩
  apply List.ext_getElem?
  intro i
  by_cases hi : i < 32
  · have := (hb i hi).choose_spec
    rw [this]
    simp [digC, hi, f]
  · rw [List.getElem?_eq_none (by omega), List.getElem?_eq_none (by rw [digC_length]; omega)]
def goodIn (j : Jar) : Prop := j.typ.length ≤ maxLen ∧ in64 j.size ∧ in64 j.pins
theorem read_jar (fuel : Nat) (cs : List Value) (x : DataW H × List MemPlace) (h : DataW.trod enc Try.prog w base spare held fuel 46 cs = some x) : ∃ j : Jar, cs = j.cells ∧ goodIn j := by
  obtain ⟨xs, m, _, _, hl, hn, hx⟩ := DataW.trod_struct Try.underlying46 h
  have h1 : Try.prog.cellsOf 3 = 1 := by kernel_rfl
  have h2 : Try.prog.cellsOf 9 = 1 := by kernel_rfl
  have h3 : Try.prog.cellsOf 44 = 32 := by kernel_rfl
  have hc : Try.prog.cellsOf 46 = 35 := by kernel_rfl
  rw [hc] at hl
  have hsz : xs.length = 4 := hn
  obtain ⟨x0, y0⟩ : ∃ x, xs[0]? = some x := ⟨_, List.getElem?_eq_getElem (by omega)⟩
  obtain ⟨x1, y1⟩ : ∃ x, xs[1]? = some x := ⟨_, List.getElem?_eq_getElem (by omega)⟩
  obtain ⟨x2, y2⟩ : ∃ x, xs[2]? = some x := ⟨_, List.getElem?_eq_getElem (by omega)⟩
  obtain ⟨x3, y3⟩ : ∃ x, xs[3]? = some x := ⟨_, List.getElem?_eq_getElem (by omega)⟩
  have e0 : DataW.trod enc Try.prog w base spare held m 44 ((cs.drop 0).take (Try.prog.cellsOf 44)) = xs[0]? := hx 0 _ rfl
  have e1 : DataW.trod enc Try.prog w base spare held m 9 ((cs.drop 32).take (Try.prog.cellsOf 9)) = xs[1]? := hx 1 _ rfl
  have e2 : DataW.trod enc Try.prog w base spare held m 3 ((cs.drop 33).take (Try.prog.cellsOf 3)) = xs[2]? := hx 2 _ rfl
  have e3 : DataW.trod enc Try.prog w base spare held m 3 ((cs.drop 34).take (Try.prog.cellsOf 3)) = xs[3]? := hx 3 _ rfl
  rw [y0] at e0
  rw [y1] at e1
  rw [y2] at e2
  rw [y3] at e3
  obtain ⟨d, hd⟩ := read_dig _ _ _ e0
  obtain ⟨s, hs, _, hsl⟩ := DataW.trod_string Try.underlying9 e1
  obtain ⟨a, ha, _, haw⟩ := DataW.trod_int Try.underlying3 e2
  obtain ⟨b, hb, _, hbw⟩ := DataW.trod_int Try.underlying3 e3
  try dsimp only at hd hs ha hb
  rw [h3] at hd
  rw [h2] at hs
  rw [h1] at ha hb
  have hs := take_one hs
  have ha := take_one ha
  have hb := take_one hb
  refine ⟨⟨d, s.data.toList, a, b⟩, ?_, ?_, in64_of haw, in64_of hbw⟩
  · unfold Jar.cells
    dsimp only
    rw [S_of, ← hd]
    apply List.ext_getElem?
    intro i
    have h32 : ((cs.drop 0).take 32).length = 32 := by simp; omega
    by_cases hi : i < 32
    · rw [List.getElem?_append_left (by omega), List.getElem?_take_of_lt hi, List.drop_zero]
    · rw [List.getElem?_append_right (by omega), h32]
      rcases Nat.lt_or_ge i 35 with h35 | h35
      · have : i = 32 ∨ i = 33 ∨ i = 34 := by omega
        rcases this with rfl | rfl | rfl
        · exact hs
        · exact ha
        · exact hb
      · rw [List.getElem?_eq_none (by omega), List.getElem?_eq_none (by simp; omega)]
  · show s.data.toList.length ≤ maxLen
    rw [Array.length_toList]
    exact hsl
/-- an argument that is a jar -/
theorem read_jar_arg {v : Value} {d : DataW H} {ps : List MemPlace} (h : DataW.Trod enc Try.prog w base spare held 46 v d ps) (hv : ∃ cs, v = .agg cs) : ∃ j : Jar, v = .agg j.cells.toArray ∧ goodIn j := by
  obtain ⟨fuel, hf⟩ := h
  obtain ⟨cs, rfl⟩ := hv
  obtain ⟨j, hj, hg⟩ := read_jar _ _ _ hf
  refine ⟨j, ?_, hg⟩
  rw [← hj]
  simp [Value.cells]
theorem okWide_struct {P : Program} {r : Reach} {t : TypeId} {v : Value} {fs : Array Field} (ht : P.underlying t = some (.struct fs)) (h : Value.okWide P w r base t v) : ∃ cs, v = .agg cs := by
  simp only [Value.okWide, ht] at h
  obtain ⟨cs, h1, _⟩ := h
  exact ⟨cs, h1⟩
end
structure Act21 where
  kind : Int
  j : Jar
  deriving Inhabited
def Act21.cells (a : Act21) : List Value := .int .i64 a.kind :: a.j.cells
theorem Act21.cells_length (a : Act21) : a.cells.length = 36 := by simp [Act21.cells, Jar.cells_length]
def Act21.good (a : Act21) : Prop := in64 a.kind ∧ goodIn a.j
theorem Act21.one (a : Act21) : ∀ u ∈ a.cells, u.oneCell' = true := by
  intro u hu
  rcases List.mem_cons.1 hu with rfl | hu
  · rfl
  · exact a.j.one u hu
theorem act21_cells : Try.prog.cellsOf 76 = 36 := by kernel_rfl
theorem read_act21 {H : Type} {enc : TypeId × Value → H} {w : World} {base : Nat} {spare : Nat → Bool} {held : Bool} (fuel : Nat) (cs : List Value) (x : DataW H × List MemPlace) (h : DataW.trod enc Try.prog w base spare held fuel 76 cs = some x) : ∃ a : Act21, cs = a.cells ∧ a.good := by
  obtain ⟨xs, m, _, _, hl, hn, hx⟩ := DataW.trod_struct Try.underlying76 h
  have h1 : Try.prog.cellsOf 3 = 1 := by kernel_rfl
  have h2 : Try.prog.cellsOf 46 = 35 := by kernel_rfl
  rw [act21_cells] at hl
  have hsz : xs.length = 2 := hn
  obtain ⟨x0, y0⟩ : ∃ x, xs[0]? = some x := ⟨_, List.getElem?_eq_getElem (by omega)⟩
  obtain ⟨x1, y1⟩ : ∃ x, xs[1]? = some x := ⟨_, List.getElem?_eq_getElem (by omega)⟩
  have e0 : DataW.trod enc Try.prog w base spare held m 3 ((cs.drop 0).take (Try.prog.cellsOf 3)) = xs[0]? := hx 0 _ rfl
  have e1 : DataW.trod enc Try.prog w base spare held m 46 ((cs.drop 1).take (Try.prog.cellsOf 46)) = xs[1]? := hx 1 _ rfl
  rw [y0] at e0
  rw [y1] at e1
  obtain ⟨a, ha, _, haw⟩ := DataW.trod_int Try.underlying3 e0
  obtain ⟨j, hj, hg⟩ := read_jar _ _ _ e1
  try dsimp only at ha hj
  rw [h1] at ha
  rw [h2] at hj
  have ha := take_one ha
  refine ⟨⟨a, j⟩, ?_, in64_of haw, hg⟩
  unfold Act21.cells
  dsimp only
  rw [← hj]
  apply List.ext_getElem?
  intro i
  cases i with
  | zero => exact ha
  | succ i =>
    rw [List.getElem?_cons_succ]
    by_cases hi : i < 35
    · rw [List.getElem?_take_of_lt hi, List.getElem?_drop, Nat.add_comm]
    · rw [List.getElem?_eq_none (by omega), List.getElem?_eq_none (by simp; omega)]
end Go.Proofs.Ytbfnpoknamajnaa
