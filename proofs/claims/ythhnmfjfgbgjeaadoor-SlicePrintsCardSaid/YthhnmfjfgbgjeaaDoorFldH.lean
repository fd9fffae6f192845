/- Layer 10: the document's Split. No conditions but on lengths. -/
import Derived.Test.YthhnmfjfgbgjeaaDoorFld15
import Derived.Test.YthhnmfjfgbgjeaaDoorFldP
namespace Go.Proofs.YthhnmfjfgbgjeaaDoor
open Go.RowKit Go.Shelf

theorem hasSuffix_two {l : List UInt8} {a b : UInt8} : Lib.hasSuffix l [a, b] = true ↔ ∃ x, l = x ++ [a, b] := by
  unfold Lib.hasSuffix
  constructor
  · intro h
    obtain ⟨x, hx⟩ : [a, b] <:+ l := by simpa using h
    exact ⟨x, hx.symm⟩
  · rintro ⟨x, rfl⟩
    simp
theorem trimSuffix_two {x : List UInt8} {a b : UInt8} : Lib.trimSuffix (x ++ [a, b]) [a, b] = x := by
  have h : Lib.hasSuffix (x ++ [a, b]) [a, b] = true := hasSuffix_two.2 ⟨x, rfl⟩
  unfold Lib.trimSuffix
  rw [if_pos h]
  simp
/-- a line that ends in LF: as the document takes it -/
theorem line_no {l : List UInt8} (h : l.length < 2 ∨ Lib.indexByte l 13 ≠ (l.length : Int) - 2) : lineM l = none := by
  unfold lineM
  rw [if_neg]
  rintro ⟨h1, h2⟩
  obtain ⟨x, rfl⟩ := hasSuffix_two.1 h1
  rw [trimSuffix_two] at h2
  have e : Lib.indexByte (x ++ [13, 10]) 13 = x.length := by
    have hge := Lib.indexByte_ge x 13
    have hn := Lib.indexByte_none (l := x) (c := 13) (by omega)
    refine indexByte_at (by simp) fun j hj => ?_
    rw [List.getElem?_append_left hj]
    exact hn j
  rw [e] at h
  simp at h
  omega
theorem line_yes {l : List UInt8} (hn : l[l.length - 1]? = some 10) (h1 : 2 ≤ l.length) (h : Lib.indexByte l 13 = (l.length : Int) - 2) : lineM l = some (l.take (l.length - 2)) := by
  have h2 : Lib.indexByte l 13 = ((l.length - 2 : Nat) : Int) := by rw [h]; omega
  obtain ⟨h3, h4⟩ := Lib.indexByte_some h2
  have e : l = l.take (l.length - 2) ++ [13, 10] := by
    have e1 : l.drop (l.length - 2) = [13, 10] := by
      rw [drop_at h3, show l.length - 2 + 1 = l.length - 1 by omega, drop_at hn]
      simp; omega
    rw [← e1, List.take_append_drop]
  have hs : Lib.hasSuffix l [13, 10] = true := hasSuffix_two.2 ⟨_, e⟩
  have ht : Lib.trimSuffix l [13, 10] = l.take (l.length - 2) := by
    conv => lhs; rw [e]
    exact trimSuffix_two
  unfold lineM
  rw [ht, if_pos]
  refine ⟨hs, ?_⟩
  rw [indexByte_no]
  · omega
  · intro j hj
    rw [List.getElem?_take] at hj
    split at hj
    · exact h4 j (by assumption) hj
    · cases hj

theorem isEmpty_false {l : List UInt8} (h : l ≠ []) : l.isEmpty = false := by cases l <;> simp at *
theorem ret4 {a b c c' d : Value} (h : c = c') : Ending.returned (.tuple #[a, b, c, d]) = Ending.returned (.tuple #[a, b, c', d]) := by rw [h]
/-- where the document's loop stands -/
def Stage (s st : List UInt8) (F : List Fld) (n : Nat) (first : Bool) : Prop :=
  (first = true ∧ st = [] ∧ F = [] ∧ n = 0) ∨ (first = false ∧ ∃ k, readM s = loopM s st k F n ∧ 4097 - n ≤ k)

end Go.Proofs.YthhnmfjfgbgjeaaDoor
