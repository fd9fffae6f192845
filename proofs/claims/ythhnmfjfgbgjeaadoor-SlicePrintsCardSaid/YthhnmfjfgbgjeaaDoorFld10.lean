/- Layer 10: Elements. No conditions but on lengths. -/
import Derived.Test.YthhnmfjfgbgjeaaDoorFld9
namespace Go.Proofs.YthhnmfjfgbgjeaaDoor
open Go.RowKit Go.Shelf

theorem Sep.of_base {α β : Type} {e1 : α → List Value} {e2 : β → List Value} {n1 n2 b1 b2 : Nat} {E1 E2 : TypeId} {w w' : World} {v u : Value} {L : List α} {M : List β} (h : Own e1 n1 b1 E1 w v L) (h2 : Own e2 n2 b2 E2 w' u M) (hb : w.heap.size ≤ b2) : Sep v u := fun g g1 g2 => by
  have := (h.lt g g1).2
  have := (h2.lt g g2).1
  omega
theorem cutM_length (b : UInt8) : ∀ (l : List UInt8) (q : Bool) (p : List UInt8), (cutM b l q p).length ≤ l.length + 1
  | [], _, _ => by simp [cutM]
  | [c], q, p => by
    rw [cutM.eq_def]; dsimp only
    split
    · have := cutM_length b [] (!q) (p ++ [c]); simp at this ⊢; omega
    · split
      · simp
      · split
        · have := cutM_length b [] q []; simp at this ⊢; omega
        · have := cutM_length b [] q (p ++ [c]); simp at this ⊢; omega
  | c :: d :: r, q, p => by
    rw [cutM.eq_def]; dsimp only
    split
    · have := cutM_length b (d :: r) (!q) (p ++ [c]); simp at this ⊢; omega
    · split
      · have := cutM_length b r q (p ++ [c, d]); simp at this ⊢; omega
      · split
        · have := cutM_length b (d :: r) q []; simp at this ⊢; omega
        · have := cutM_length b (d :: r) q (p ++ [c]); simp at this ⊢; omega
theorem cutW_length (l : List UInt8) (b : UInt8) : (cutW l b).length ≤ l.length + 1 := cutM_length b l _ _
def full (M : List (List UInt8)) : List (List UInt8) := M.filter (fun s => decide (s ≠ []))
def elsM (L : List Fld) (n : List UInt8) : List (List UInt8) := (getS L n).flatMap fun f => full (cutW f.value 44)
theorem els_yes {L : List Fld} {n : List UInt8} {k : Nat} {x : Fld} (h : L[k]? = some x) (hs : lowW x.name = lowW n) : elsM (L.take (k + 1)) n = elsM (L.take k) n ++ full (cutW x.value 44) := by
  unfold elsM
  rw [getS_yes h hs, List.flatMap_append]
  simp
theorem els_no {L : List Fld} {n : List UInt8} {k : Nat} {x : Fld} (h : L[k]? = some x) (hs : ¬ lowW x.name = lowW n) : elsM (L.take (k + 1)) n = elsM (L.take k) n := by
  unfold elsM
  rw [getS_no h hs]
theorem full_yes {M : List (List UInt8)} {j : Nat} {s : List UInt8} (h : M[j]? = some s) (hs : s ≠ []) : full (M.take (j + 1)) = full (M.take j) ++ [s] := by
  unfold full
  rw [List.take_add_one, h, List.filter_append]
  simp [hs]
theorem full_no {M : List (List UInt8)} {j : Nat} {s : List UInt8} (h : M[j]? = some s) (hs : s = []) : full (M.take (j + 1)) = full (M.take j) := by
  unfold full
  rw [List.take_add_one, h, List.filter_append]
  simp [hs]
theorem els_bound {a b m k : Nat} (h1 : a ≤ k * 1048577) (h2 : b ≤ m) (h3 : m ≤ 1048577) : a + b ≤ (k + 1) * 1048577 := by
  rw [Nat.add_mul, Nat.one_mul]
  exact Nat.add_le_add h1 (Nat.le_trans h2 h3)
theorem els_bound0 {a k : Nat} (h1 : a ≤ k * 1048577) : a ≤ (k + 1) * 1048577 := by
  rw [Nat.add_mul]
  exact Nat.le_add_right_of_le h1
theorem full_length (M : List (List UInt8)) : (full M).length ≤ M.length := List.length_filter_le _ _

end Go.Proofs.YthhnmfjfgbgjeaaDoor
