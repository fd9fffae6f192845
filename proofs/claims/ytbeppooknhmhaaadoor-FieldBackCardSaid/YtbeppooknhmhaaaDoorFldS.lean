/- Layer 10: what Split makes of a text that goes on. Plain laws; no program. No conditions. -/
import Derived.Test.YtbeppooknhmhaaaDoorFld15
namespace Go.Proofs.YtbeppooknhmhaaaDoor
open Go.RowKit Go.Shelf

theorem indexByte_append {l m : List UInt8} {c : UInt8} (h : 0 ≤ Lib.indexByte l c) : Lib.indexByte (l ++ m) c = Lib.indexByte l c := by
  obtain ⟨o, ho⟩ : ∃ o : Nat, Lib.indexByte l c = o := ⟨(Lib.indexByte l c).toNat, by omega⟩
  obtain ⟨h1, h2⟩ := Lib.indexByte_some ho
  have hlt := (List.getElem?_eq_some_iff.1 h1).1
  rw [ho]
  refine indexByte_at ?_ fun j hj => ?_
  · rw [List.getElem?_append_left hlt]; exact h1
  · rw [List.getElem?_append_left (by omega)]; exact h2 j hj
theorem seen_append (p m : List UInt8) (n : Nat) (h : n ≤ p.length) (h2 : n ≤ 4096) : ∃ m', seenM (p ++ m) n = seenM p n ++ m' := by
  unfold seenM
  rw [List.take_append, List.drop_append]
  exact ⟨_, rfl⟩
theorem seen_whole (p m : List UInt8) (n : Nat) (h : 4096 ≤ p.length) : seenM (p ++ m) n = seenM p n := by
  unfold seenM
  rw [List.take_append_of_le_length h]
theorem next_append (p m : List UInt8) (n : Nat) (h : n ≤ p.length) (h2 : n ≤ 4096) : (nextM p n).2.2 = 17 ∨ nextM (p ++ m) n = nextM p n := by
  by_cases hb : 4096 ≤ p.length
  · refine .inr ?_
    unfold nextM
    rw [seen_whole p m n hb]
    have : 4096 ≤ (p ++ m).length := by simp; omega
    rw [if_pos this, if_pos hb]
  · by_cases hi : Lib.indexByte (seenM p n) 10 < 0
    · refine .inl ?_
      unfold nextM
      rw [if_pos hi]
      simp [hb]
    · refine .inr ?_
      obtain ⟨m', hm'⟩ := seen_append p m n h h2
      unfold nextM
      have e := indexByte_append (m := m') (show 0 ≤ Lib.indexByte (seenM p n) 10 by omega)
      rw [hm', e, if_neg hi, if_neg hi]
      obtain ⟨o, ho⟩ : ∃ o : Nat, Lib.indexByte (seenM p n) 10 = o := ⟨(Lib.indexByte (seenM p n) 10).toNat, by omega⟩
      have hlt := (List.getElem?_eq_some_iff.1 (Lib.indexByte_some ho).1).1
      rw [ho, Int.toNat_natCast, List.take_append_of_le_length (by omega)]
theorem loop_append (p m st : List UInt8) : ∀ (k : Nat) (F : List Fld) (n : Nat), n ≤ p.length → n ≤ 4096 → (loopM p st k F n).e = 17 ∨ loopM (p ++ m) st k F n = loopM p st k F n
  | 0, F, n, _, _ => .inl rfl
  | k + 1, F, n, h, h2 => by
    have hb := next_bounds h h2
    rcases next_append p m n h h2 with h3 | h3
    · refine .inl ?_
      unfold loopM
      rw [h3]
      simp
    · unfold loopM
      rw [h3]
      by_cases h4 : (nextM p n).2.2 = 0
      · have h4' : ¬ (nextM p n).2.2 ≠ 0 := by simpa using h4
        rw [if_neg h4', if_neg h4']
        by_cases h5 : (nextM p n).1 = []
        · rw [if_pos h5, if_pos h5]; exact .inr rfl
        · rw [if_neg h5, if_neg h5]
          by_cases h6 : (addM F (nextM p n).1).2 = 0
          · have h6' : ¬ (addM F (nextM p n).1).2 ≠ 0 := by simpa using h6
            rw [if_neg h6', if_neg h6']
            exact loop_append p m st k _ _ hb.1 hb.2.1
          · rw [if_pos h6, if_pos h6]; exact .inr rfl
      · rw [if_pos h4, if_pos h4]; exact .inr rfl
theorem read_append (p m : List UInt8) : (readM p).e = 17 ∨ readM (p ++ m) = readM p := by
  have hb := next_bounds (s := p) (n := 0) (Nat.zero_le _) (Nat.zero_le _)
  rcases next_append p m 0 (Nat.zero_le _) (Nat.zero_le _) with h3 | h3
  · refine .inl ?_
    unfold readM
    rw [h3]
    simp
  · unfold readM
    rw [h3]
    by_cases h4 : (nextM p 0).2.2 = 0
    · have h4' : ¬ (nextM p 0).2.2 ≠ 0 := by simpa using h4
      rw [if_neg h4', if_neg h4']
      by_cases h6 : beginE (nextM p 0).1 = 0
      · have h6' : ¬ beginE (nextM p 0).1 ≠ 0 := by simpa using h6
        rw [if_neg h6', if_neg h6']
        exact loop_append p m _ _ _ _ hb.1 hb.2.1
      · rw [if_pos h6, if_pos h6]; exact .inr rfl
    · rw [if_pos h4, if_pos h4]; exact .inr rfl
/-- whatever comes later: an error stays, a head stays -/
theorem split_append (p m : List UInt8) : (splitM p).e = 17 ∨ splitM (p ++ m) = splitM p := by
  rcases read_append p m with h | h
  · refine .inl ?_
    unfold splitM
    rw [h]
    simp
  · refine .inr ?_
    unfold splitM
    rw [h]
theorem split_take (s : List UInt8) (k : Nat) : (splitM (s.take k)).e = 17 ∨ splitM s = splitM (s.take k) := by
  have := split_append (s.take k) (s.drop k)
  rwa [List.take_append_drop] at this
end Go.Proofs.YtbeppooknhmhaaaDoor
