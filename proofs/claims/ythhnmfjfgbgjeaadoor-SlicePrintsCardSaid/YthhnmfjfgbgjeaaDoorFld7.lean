/- Layer 10: the lists' elements: cut, Cut. No conditions but on lengths. -/
import Derived.Test.YthhnmfjfgbgjeaaDoorFld6
namespace Go.Proofs.YthhnmfjfgbgjeaaDoor
open Go.RowKit Go.Shelf

/-- a text, cut at each byte that isn't in quotes; p: the part that has begun -/
def cutM (by' : UInt8) : List UInt8 → Bool → List UInt8 → List (List UInt8)
  | [], _, p => [trimW p]
  | c :: r, q, p =>
    if c.toNat = 34 then cutM by' r (!q) (p ++ [c])
    else if c.toNat = 92 ∧ q = true then
      match r with
      | [] => [trimW (p ++ [c])]
      | d :: r' => cutM by' r' q (p ++ [c, d])
    else if c = by' ∧ q = false then trimW p :: cutM by' r q []
    else cutM by' r q (p ++ [c])
def cutW (l : List UInt8) (b : UInt8) : List (List UInt8) := cutM b l false []
theorem drop_at {l : List UInt8} {k : Nat} {c : UInt8} (h : l[k]? = some c) : l.drop k = c :: l.drop (k + 1) := by
  obtain ⟨hl, hc⟩ := List.getElem?_eq_some_iff.1 h
  rw [List.drop_eq_getElem_cons hl, hc]
theorem cutM_quote {b c : UInt8} {r p : List UInt8} {q : Bool} (h : c.toNat = 34) : cutM b (c :: r) q p = cutM b r (!q) (p ++ [c]) := by
  rw [cutM.eq_def]; dsimp only; rw [if_pos h]
theorem cutM_slash {b c d : UInt8} {r p : List UInt8} (h : c.toNat = 92) : cutM b (c :: d :: r) true p = cutM b r true (p ++ [c, d]) := by
  rw [cutM.eq_def]; dsimp only; rw [if_neg (by omega), if_pos ⟨h, rfl⟩]
theorem cutM_slash_end {b c : UInt8} {p : List UInt8} (h : c.toNat = 92) : cutM b [c] true p = [trimW (p ++ [c])] := by
  rw [cutM.eq_def]; dsimp only; rw [if_neg (by omega), if_pos ⟨h, rfl⟩]
theorem cutM_by {b c : UInt8} {r p : List UInt8} (h : c.toNat ≠ 34) (hb : c = b) : cutM b (c :: r) false p = trimW p :: cutM b r false [] := by
  rw [cutM.eq_def]; dsimp only; rw [if_neg h, if_neg (by simp), if_pos ⟨hb, rfl⟩]
theorem cutM_plain {b c : UInt8} {r p : List UInt8} {q : Bool} (h : c.toNat ≠ 34) (h2 : ¬ (c.toNat = 92 ∧ q = true)) (hb : ¬ (c = b ∧ q = false)) : cutM b (c :: r) q p = cutM b r q (p ++ [c]) := by
  rw [cutM.eq_def]; dsimp only; rw [if_neg h, if_neg h2, if_neg hb]
theorem cutM_ne (b : UInt8) : ∀ (l : List UInt8) (q : Bool) (p : List UInt8), cutM b l q p ≠ []
  | [], _, _ => by simp [cutM]
  | [c], q, p => by
    rw [cutM.eq_def]; dsimp only
    split
    · exact cutM_ne b [] _ _
    · split
      · simp
      · split
        · simp
        · exact cutM_ne b [] _ _
  | c :: d :: r, q, p => by
    rw [cutM.eq_def]; dsimp only
    split
    · exact cutM_ne b (d :: r) _ _
    · split
      · exact cutM_ne b r _ _
      · split
        · simp
        · exact cutM_ne b (d :: r) _ _

theorem strinfo : (Tryd.prog.info? 9).map (fun i => (i.zero, i.size, i.bytes)) = some (some (.string ⟨#[]⟩), 1, 16) := by kernel_rfl
theorem u8info' : ∃ i0, Hid (Tryd.prog.info? 5 = some i0 ∧ i0.zero = some (.int .u8 0) ∧ i0.size = 1 ∧ i0.bytes = 1) := by
  obtain ⟨i0, hi, hz0, hz1, hz2⟩ := info_parts u8info
  exact ⟨i0, hi, hz0, hz1, hz2⟩
theorem strinfo' : ∃ i0, Hid (Tryd.prog.info? 9 = some i0 ∧ i0.zero = some (.string ⟨#[]⟩) ∧ i0.size = 1 ∧ i0.bytes = 16) := by
  obtain ⟨i0, hi, hz0, hz1, hz2⟩ := info_parts strinfo
  exact ⟨i0, hi, hz0, hz1, hz2⟩

theorem byteC_of {c : UInt8} {z : Int} (h : z = (c.toNat : Nat)) : [Value.int .u8 z] = byteC c := by rw [h]; rfl
theorem strC_of {c : List UInt8} {s : ByteArray} (h : s = S c) : [Value.string s] = strC c := by rw [h]; rfl
/-- what a call hands back that has made a slice of texts -/
def Texts (w : World) (M : List (List UInt8)) (e : Ending) (w' : World) : Prop := ∃ v, e = .returned v ∧ Own strC 1 w.heap.size 9 w' v M ∧ Keep [] w w'

end Go.Proofs.YthhnmfjfgbgjeaaDoor
