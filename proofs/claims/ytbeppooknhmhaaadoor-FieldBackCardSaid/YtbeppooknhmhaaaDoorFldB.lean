/- Layer 10: a head is read as it was written. Plain laws; no program. No conditions. -/
import Derived.Test.YtbeppooknhmhaaaDoorFldS
namespace Go.Proofs.YtbeppooknhmhaaaDoor
open Go.RowKit Go.Shelf

/-- the lines of fields -/
def bodyT (K : List Fld) : List UInt8 := K.flatMap fun f => printF f ++ [13, 10]
def headT (st : List UInt8) (K : List Fld) : List UInt8 := st ++ [13, 10] ++ bodyT K ++ [13, 10]
/-- no CR, no LF -/
def clean (l : List UInt8) : Prop := ∀ b ∈ l, b ≠ 13 ∧ b ≠ 10

theorem tchar_clean {b : UInt8} (h : tchar b = true) : b ≠ 13 ∧ b ≠ 10 ∧ b ≠ 58 := by
  refine ⟨?_, ?_, ?_⟩ <;> (rintro rfl; revert h; decide)
theorem textB_clean {b : UInt8} (h : textB b = true) : b ≠ 13 ∧ b ≠ 10 := by
  refine ⟨?_, ?_⟩ <;> (rintro rfl; revert h; decide)
theorem good_parts {f : Fld} (h : goodF f = true) : isTok f.name = true ∧ isTxt f.value = true ∧ trimW f.value = f.value := by
  unfold goodF at h
  simp only [Bool.and_eq_true, beq_iff_eq] at h
  exact ⟨h.1.1, h.1.2, h.2⟩
theorem isTok_parts {l : List UInt8} (h : isTok l = true) : (∀ b ∈ l, tchar b = true) ∧ l ≠ [] := by
  unfold isTok at h
  simp only [Bool.and_eq_true, List.all_eq_true] at h
  exact ⟨h.1, by intro e; subst e; simp at h⟩
theorem print_clean {f : Fld} (h : goodF f = true) : clean (printF f) := by
  obtain ⟨h1, h2, _⟩ := good_parts h
  intro b hb
  unfold printF at hb
  simp only [List.mem_append, List.mem_cons, List.mem_nil_iff, or_false] at hb
  rcases hb with (hb | rfl | rfl) | hb
  · have := tchar_clean ((isTok_parts h1).1 b hb)
    exact ⟨this.1, this.2.1⟩
  · decide
  · decide
  · unfold isTxt at h2
    exact textB_clean (List.all_eq_true.1 h2 b hb)

theorem indexByte_first {x r : List UInt8} {c : UInt8} (h : ∀ b ∈ x, b ≠ c) : Lib.indexByte (x ++ c :: r) c = x.length := by
  refine indexByte_at (by simp) fun j hj => ?_
  rw [List.getElem?_append_left hj]
  intro e
  exact h c (List.mem_of_getElem? e) rfl
/-- a whole line is read -/
theorem next_line (pre x rest : List UInt8) (hx : clean x) (h : pre.length + x.length + 2 ≤ 4096) :
    nextM (pre ++ (x ++ [13, 10] ++ rest)) pre.length = (x, pre.length + (x.length + 2), 0) := by
  have hseen : ∃ r, seenM (pre ++ (x ++ [13, 10] ++ rest)) pre.length = (x ++ [13]) ++ 10 :: r := by
    unfold seenM
    rw [List.take_append, List.drop_append]
    have e1 : (pre.take 4096) = pre := List.take_of_length_le (by omega)
    rw [e1, List.drop_length, List.nil_append, Nat.sub_self, List.drop_zero]
    have e3 : x ++ [13, 10] ++ rest = (x ++ [13]) ++ 10 :: rest := by simp
    rw [e3, List.take_append, List.take_of_length_le (by simp; omega)]
    obtain ⟨m, hm⟩ : ∃ m, 4096 - pre.length - (x ++ [13]).length = m + 1 := ⟨4096 - pre.length - (x ++ [13]).length - 1, by simp; omega⟩
    rw [hm, List.take_succ_cons]
    exact ⟨_, rfl⟩
  obtain ⟨r, hr⟩ := hseen
  have hi : Lib.indexByte (seenM (pre ++ (x ++ [13, 10] ++ rest)) pre.length) 10 = ((x.length + 1 : Nat) : Int) := by
    rw [hr, indexByte_first (x := x ++ [13])]
    · simp
    · intro b hb
      simp only [List.mem_append, List.mem_singleton] at hb
      rcases hb with hb | rfl
      · exact (hx b hb).2
      · decide
  have ht : (seenM (pre ++ (x ++ [13, 10] ++ rest)) pre.length).take (x.length + 1 + 1) = x ++ [13, 10] := by
    rw [hr, List.take_append, List.take_of_length_le (by simp)]
    simp
  have hl : lineM (x ++ [13, 10]) = some x := by
    unfold lineM
    have hs : Lib.hasSuffix (x ++ [13, 10]) [13, 10] = true := by unfold Lib.hasSuffix; simp
    have htr : Lib.trimSuffix (x ++ [13, 10]) [13, 10] = x := by
      unfold Lib.trimSuffix
      rw [if_pos hs]
      simp
    rw [htr, if_pos]
    refine ⟨hs, ?_⟩
    rw [indexByte_no]
    · omega
    · intro j hj
      exact (hx 13 (List.mem_of_getElem? hj)).1 rfl
  unfold nextM
  rw [hi, if_neg (by omega), Int.toNat_natCast, ht, hl]

theorem trim_blank (v : List UInt8) : trimW (32 :: v) = trimW v := by
  rw [trimW_eq, trimL_cons, if_pos (.inl rfl), ← trimW_eq]
theorem parse_print {f : Fld} (h : goodF f = true) : parseF (printF f) = some f := by
  obtain ⟨h1, h2, h3⟩ := good_parts h
  obtain ⟨ht, hne⟩ := isTok_parts h1
  have hi : Lib.indexByte (printF f) 58 = f.name.length := by
    have e : printF f = f.name ++ 58 :: (32 :: f.value) := by simp [printF]
    rw [e]
    exact indexByte_first fun b hb => (tchar_clean (ht b hb)).2.2
  have e1 : (printF f).take f.name.length = f.name := by simp [printF]
  have e2 : (printF f).drop (f.name.length + 1) = 32 :: f.value := by simp [printF]
  have h4 : isTxt (32 :: f.value) = true := by
    unfold isTxt at *
    rw [List.all_cons, h2]
    rfl
  rw [parseF_eq, hi, Int.toNat_natCast, e1, e2, if_pos ⟨by omega, h1, h4⟩, trim_blank, h3]

theorem print_ne (f : Fld) : printF f ≠ [] := by simp [printF]
theorem loop_body (st : List UInt8) : ∀ (K : List Fld) (pre : List UInt8) (F : List Fld) (k : Nat) (rest : List UInt8), (∀ f ∈ K, goodF f = true) → F.length + K.length ≤ 32 → pre.length + (bodyT K).length + 2 ≤ 4096 → K.length < k →
    loopM (pre ++ (bodyT K ++ ([13, 10] ++ rest))) st k F pre.length = ⟨st, F ++ K, pre.length + (bodyT K).length + 2, 0⟩
  | [], pre, F, k, rest, _, _, h, hk => by
    obtain ⟨k', rfl⟩ : ∃ k', k = k' + 1 := ⟨k - 1, by simp at hk; omega⟩
    have hn := next_line pre [] rest (by intro b hb; cases hb) (by simpa [bodyT] using h)
    simp only [bodyT, List.flatMap_nil, List.nil_append, List.length_nil, Nat.add_zero, Nat.zero_add] at *
    unfold loopM
    rw [hn]
    simp
  | f :: K, pre, F, k, rest, hg, hF, h, hk => by
    obtain ⟨k', rfl⟩ : ∃ k', k = k' + 1 := ⟨k - 1, by simp at hk; omega⟩
    have hgf := hg f (by simp)
    have hb : bodyT (f :: K) = printF f ++ [13, 10] ++ bodyT K := by simp [bodyT]
    have hlen : (bodyT (f :: K)).length = (printF f).length + 2 + (bodyT K).length := by rw [hb]; simp; omega
    have hn := next_line pre (printF f) (bodyT K ++ ([13, 10] ++ rest)) (print_clean hgf) (by omega)
    have he : pre ++ (bodyT (f :: K) ++ ([13, 10] ++ rest)) = pre ++ (printF f ++ [13, 10] ++ (bodyT K ++ ([13, 10] ++ rest))) := by rw [hb]; simp
    have ha : addM F (printF f) = (F ++ [f], 0) := by
      unfold addM
      rw [parse_print hgf]
      simp at hF
      simp only
      rw [if_neg (by omega)]
    have ih := loop_body st K (pre ++ (printF f ++ [13, 10])) (F ++ [f]) k' rest (fun x hx => hg x (by simp [hx])) (by simp at hF ⊢; omega) (by simp; omega) (by simp at hk; omega)
    rw [he]
    unfold loopM
    rw [hn]
    simp only [ne_eq, not_true_eq_false, if_false, print_ne, ha]
    have e2 : pre ++ (printF f ++ [13, 10] ++ (bodyT K ++ ([13, 10] ++ rest))) = pre ++ (printF f ++ [13, 10]) ++ (bodyT K ++ ([13, 10] ++ rest)) := by simp
    have e3 : pre.length + ((printF f).length + 2) = (pre ++ (printF f ++ [13, 10])).length := by simp
    rw [e2, e3, ih]
    simp [hlen]
    omega
theorem split_head (st : List UInt8) (K : List Fld) (rest : List UInt8) (hst : clean st) (h0 : st ≠ []) (h1 : st.length ≤ 1024) (hg : ∀ f ∈ K, goodF f = true) (h32 : K.length ≤ 32) (hl : (headT st K).length ≤ 4096) :
    splitM (headT st K ++ rest) = ⟨st, K, (headT st K).length, 0⟩ := by
  have hlen : (headT st K).length = st.length + 2 + (bodyT K).length + 2 := by simp [headT]; omega
  have he : headT st K ++ rest = [] ++ (st ++ [13, 10] ++ (bodyT K ++ ([13, 10] ++ rest))) := by simp [headT]
  have hn := next_line [] st (bodyT K ++ ([13, 10] ++ rest)) hst (by simp; omega)
  have hlo := loop_body st K (st ++ [13, 10]) [] 4097 rest hg (by simpa using h32) (by simp; omega) (by omega)
  have hr : readM (headT st K ++ rest) = ⟨st, K, (headT st K).length, 0⟩ := by
    rw [he]
    unfold readM
    rw [show (0 : Nat) = ([] : List UInt8).length from rfl, hn]
    have hb : beginE st = 0 := by unfold beginE; rw [if_neg h0, if_neg (by omega)]
    simp only [ne_eq, not_true_eq_false, if_false, hb, List.nil_append, List.length_nil, Nat.zero_add]
    have e2 : st ++ [13, 10] ++ (bodyT K ++ ([13, 10] ++ rest)) = (st ++ [13, 10]) ++ (bodyT K ++ ([13, 10] ++ rest)) := rfl
    have e3 : st.length + 2 = (st ++ [13, 10]).length := by simp
    rw [e3, hlo, hlen]
    simp
  unfold splitM
  rw [hr]
  simp
theorem loop_n_le (s st : List UInt8) : ∀ (k : Nat) (F : List Fld) (n : Nat), n ≤ s.length → n ≤ 4096 → (loopM s st k F n).n ≤ s.length
  | 0, F, n, h, _ => h
  | k + 1, F, n, h, h2 => by
    have hb := next_bounds h h2
    unfold loopM
    by_cases h4 : (nextM s n).2.2 ≠ 0
    · rw [if_pos h4]; exact hb.1
    · rw [if_neg h4]
      by_cases h5 : (nextM s n).1 = []
      · rw [if_pos h5]; exact hb.1
      · rw [if_neg h5]
        by_cases h6 : (addM F (nextM s n).1).2 ≠ 0
        · rw [if_pos h6]; exact hb.1
        · rw [if_neg h6]; exact loop_n_le s st k _ _ hb.1 hb.2.1
theorem split_n_le (s : List UInt8) : (splitM s).n ≤ s.length := by
  have hb := next_bounds (s := s) (n := 0) (Nat.zero_le _) (Nat.zero_le _)
  have hr : (readM s).n ≤ s.length := by
    unfold readM
    by_cases h4 : (nextM s 0).2.2 ≠ 0
    · rw [if_pos h4]; exact hb.1
    · rw [if_neg h4]
      by_cases h6 : beginE (nextM s 0).1 ≠ 0
      · rw [if_pos h6]; exact hb.1
      · rw [if_neg h6]; exact loop_n_le s _ _ _ _ hb.1 hb.2.1
  unfold splitM
  split
  · simp
  · exact hr
/-- cut off anywhere it is too short -/
theorem split_cut (st : List UInt8) (K : List Fld) (hst : clean st) (h0 : st ≠ []) (h1 : st.length ≤ 1024) (hg : ∀ f ∈ K, goodF f = true) (h32 : K.length ≤ 32) (hl : (headT st K).length ≤ 4096) (j : Nat) (hj : j < (headT st K).length) :
    (splitM ((headT st K).take j)).e = 17 := by
  rcases split_take (headT st K) j with h | h
  · exact h
  · have hw := split_head st K [] hst h0 h1 hg h32 hl
    rw [List.append_nil] at hw
    have := split_n_le ((headT st K).take j)
    rw [← h, hw] at this
    simp at this
    omega
end Go.Proofs.YtbeppooknhmhaaaDoor
