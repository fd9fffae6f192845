/- Layer 10: the first look that the statements take: it answers true. No conditions. -/
import Derived.Test.YthhnmfjfgbgjeaaDoorFld15
namespace Go.Proofs.YthhnmfjfgbgjeaaDoor
open Go.RowKit Go.Shelf

theorem aw_p1 : parseV [72, 111, 115, 116, 58, 32, 97, 32, 98, 32] = ⟨[72, 111, 115, 116], [97, 32, 98]⟩ := by decide +kernel
theorem aw_e1 : parseE [72, 111, 115, 116, 58, 32, 97, 32, 98, 32] = 0 := by decide +kernel
theorem aw_p2 : parseV [72, 111, 115, 116, 32, 58, 32, 97] = ⟨[], []⟩ := by decide +kernel
theorem aw_e2 : parseE [72, 111, 115, 116, 32, 58, 32, 97] = 3 := by decide +kernel
theorem aw_els : elsM [⟨[88], [97, 44, 32, 34, 98, 44, 99, 34, 32, 44, 44, 100]⟩] [120] = [[97], [34, 98, 44, 99, 34], [100]] := by decide +kernel
theorem aw_s1 : splitM [71, 69, 84, 32, 47, 32, 72, 84, 84, 80, 47, 49, 46, 49, 13, 10, 65, 58, 32, 49, 13, 10, 13, 10, 114, 101, 115, 116] = ⟨[71, 69, 84, 32, 47, 32, 72, 84, 84, 80, 47, 49, 46, 49], [⟨[65], [49]⟩], 24, 0⟩ := by kernel_rfl
theorem aw_s2 : splitM [71, 69, 84, 32, 47, 13, 10, 65, 58, 32, 49, 13, 10, 13] = ⟨[], [], 0, 17⟩ := by kernel_rfl

/-- a slice over a block that is known -/
theorem Blk.sl {α : Type} {enc : α → List Value} {n : Nat} (hn : ∀ x, (enc x).length = n) {w : World} {b : Nat} {T : TypeId} {L : List α} (h : Blk w b T (rows enc L)) {l cap : Nat} (hl : l = L.length) (hc : l ≤ cap) (hm : cap ≤ maxLen) : Sl enc n w (.slice (some ⟨b, 0, none⟩) l cap) L := by
  subst hl
  exact .inr ⟨b, 0, cap, rfl, hc, hm, fun i x hx k hk => by rw [Nat.zero_add, h.cell, rows_get' hn L i k x hx hk]⟩
theorem parse_is {l n v : List UInt8} {k : Int} {w w1 : World} (hm : ML w) (hk : Keep [] w w1) (hl : l.length < 4294967281) (hv : parseV l = ⟨n, v⟩) (he : parseE l = k) :
    Calls Tryd.prog 76 #[.string (S l)] w1 fun e w' => e = .returned (.tuple #[.agg #[.string (S n), .string (S v)], .int .i64 k]) ∧ Keep [] w1 w' := by
  have h := field_Parse l w1 (hm.keep hk (by simp)) hl
  rw [hv, he] at h
  exact h
theorem split_is {l : List UInt8} {r : Rd} {w w1 : World} (hm : ML w) (hk : Keep [] w w1) (hl : l.length ≤ 1048576) (hv : splitM l = r) :
    Calls Tryd.prog 26 #[.string (S l)] w1 (SplitOut w1 r) := by
  have h := field_Split l w1 (hm.keep hk (by simp)) hl
  rw [hv] at h
  exact h

end Go.Proofs.YthhnmfjfgbgjeaaDoor
