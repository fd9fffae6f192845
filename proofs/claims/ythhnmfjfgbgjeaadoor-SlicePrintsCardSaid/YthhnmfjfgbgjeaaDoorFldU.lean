/- Layer 10: the text of a value, in quotes or not: both sides. No conditions but on lengths. -/
import Derived.Test.YthhnmfjfgbgjeaaDoorFld8
namespace Go.Proofs.YthhnmfjfgbgjeaaDoor
open Go.RowKit Go.Shelf

/-- behind the first quote -/
def unqM : List UInt8 → List UInt8 → List UInt8 × Bool
  | [], _ => ([], false)
  | [c], out => if c.toNat = 34 then (out, true) else ([], false)
  | c :: d :: r, out => if c.toNat = 34 then (out, false) else if c.toNat = 92 then unqM r (out ++ [d]) else unqM (d :: r) (out ++ [c])
def unqQ : List UInt8 → List UInt8 × Bool
  | c :: d :: r => if c.toNat = 34 then unqM (d :: r) [] else ([], false)
  | _ => ([], false)
def unqW (s : List UInt8) : List UInt8 × Bool := if isTok s then (s, true) else unqQ s
theorem unqM_quote {c : UInt8} {r out : List UInt8} (h : c.toNat = 34) : unqM (c :: r) out = (out, r.isEmpty) := by
  cases r with
  | nil => unfold unqM; rw [if_pos h]; rfl
  | cons d r => unfold unqM; rw [if_pos h]; rfl
theorem unqM_slash {c d : UInt8} {r out : List UInt8} (h : c.toNat = 92) : unqM (c :: d :: r) out = unqM r (out ++ [d]) := by
  conv => lhs; unfold unqM
  rw [if_neg (by omega), if_pos h]
theorem unqM_slash_end {c : UInt8} {out : List UInt8} (h : c.toNat ≠ 34) : unqM [c] out = ([], false) := by
  unfold unqM; rw [if_neg h]
theorem unqM_plain {c : UInt8} {r out : List UInt8} (h : c.toNat ≠ 34) (h2 : c.toNat ≠ 92) : unqM (c :: r) out = unqM r (out ++ [c]) := by
  cases r with
  | nil => unfold unqM; rw [if_neg h]
  | cons d r =>
    conv => lhs; unfold unqM
    rw [if_neg h, if_neg h2]
theorem unqM_len : ∀ (n : Nat) (s out : List UInt8), s.length ≤ n → (unqM s out).1.length ≤ out.length + s.length
  | _, [], out, _ => by simp [unqM]
  | _, [c], out, _ => by unfold unqM; split <;> simp
  | 0, c :: d :: r, out, h => by simp at h
  | 1, c :: d :: r, out, h => by simp at h
  | n + 2, c :: d :: r, out, h => by
    unfold unqM
    split
    · simp
    · split
      · have := unqM_len n r (out ++ [d]) (by simp at h; omega)
        simp at this ⊢; omega
      · have := unqM_len (n + 1) (d :: r) (out ++ [c]) (by simp at h ⊢; omega)
        simp at this ⊢; omega
theorem unqW_len (s : List UInt8) : (unqW s).1.length ≤ s.length := by
  unfold unqW
  split
  · simp
  · unfold unqQ
    split
    · split
      · exact Nat.le_trans (unqM_len _ _ [] (Nat.le_refl _)) (by simp)
      · simp
    · simp
theorem str_ret {a c : List UInt8} {b d : Bool} (h : (a, b) = (c, d)) : Ending.returned (.tuple #[.string (S a), .bool b]) = .returned (.tuple #[.string (S c), .bool d]) := by cases h; rfl
theorem str_ret' {x : List UInt8 × Bool} {c : List UInt8} {d : Bool} (h : x = (c, d)) : Ending.returned (.tuple #[.string (S c), .bool d]) = .returned (.tuple #[.string (S x.1), .bool x.2]) := by rw [h]

end Go.Proofs.YthhnmfjfgbgjeaaDoor
