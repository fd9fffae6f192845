/- Parts of the proof of ErrandAsks, in order. No conditions but those that each theorem states. -/
import Derived.Test.YtlhnjkekjbbhcaaGreatDoorYErrandAsks0
import Derived.Deep.MidRow
import Derived.Test.YtlhnjkekjbbhcaaGreatDoorYErrandAsks6
import Derived.Test.YtlhnjkekjbbhcaaGreatDoorYErrandAsks7
import Derived.Test.YtlhnjkekjbbhcaaGreatDoorYErrandAsks8
set_option linter.unusedSimpArgs false
set_option linter.unusedVariables false
namespace Go.Proofs.YtlhnjkekjbbhcaaGreatDoor
open Go.RowKit Go.Shelf
def bodyT (K : List Fld) : List UInt8 := K.flatMap fun f => printF f ++ [13, 10]
def headT (st : List UInt8) (K : List Fld) : List UInt8 := st ++ [13, 10] ++ bodyT K ++ [13, 10]
def clean (l : List UInt8) : Prop := ∀ b ∈ l, b ≠ 13 ∧ b ≠ 10
theorem tchar_clean {b : UInt8} (h : tchar b = true) : b ≠ 13 ∧ b ≠ 10 ∧ b ≠ 58 := by
  refine ⟨?_, ?_, ?_⟩ <;> (rintro rfl; revert h; decide)
theorem textB_clean {b : UInt8} (h : textB b = true) : b ≠ 13 ∧ b ≠ 10 := by
  refine ⟨?_, ?_⟩ <;> (rintro rfl; revert h; decide)
theorem good_parts {f : Fld} (h : goodF f = true) : isTok f.name = true ∧ isTxt f.value = true ∧ trimW f.value = f.value := by
  unfold goodF at h; simp only [Bool.and_eq_true, beq_iff_eq] at h; exact ⟨h.1.1, h.1.2, h.2⟩
theorem isTok_parts {l : List UInt8} (h : isTok l = true) : (∀ b ∈ l, tchar b = true) ∧ l ≠ [] := by
  unfold isTok at h; simp only [Bool.and_eq_true, List.all_eq_true] at h; exact ⟨h.1, by intro e; subst e; simp at h⟩
theorem print_clean {f : Fld} (h : goodF f = true) : clean (printF f) := by
  obtain ⟨h1, h2, _⟩ := good_parts h; intro b hb; unfold printF at hb; simp only [List.mem_append, List.mem_cons, List.mem_nil_iff, or_false] at hb; rcases hb with (hb | rfl | rfl) | hb
  · have := tchar_clean ((isTok_parts h1).1 b hb); exact ⟨this.1, this.2.1⟩
  · decide
  · decide
  · unfold isTxt at h2; exact textB_clean (List.all_eq_true.1 h2 b hb)
theorem indexByte_first {x r : List UInt8} {c : UInt8} (h : ∀ b ∈ x, b ≠ c) : Lib.indexByte (x ++ c :: r) c = x.length := by
  refine indexByte_at (by simp) fun j hj => ?_
  rw [List.getElem?_append_left hj]; intro e; exact h c (List.mem_of_getElem? e) rfl
theorem next_line (pre x rest : List UInt8) (hx : clean x) (h : pre.length + x.length + 2 ≤ 4096) :
    nextM (pre ++ (x ++ [13, 10] ++ rest)) pre.length = (x, pre.length + (x.length + 2), 0) := by
  have hseen : ∃ r, seenM (pre ++ (x ++ [13, 10] ++ rest)) pre.length = (x ++ [13]) ++ 10 :: r := by
    unfold seenM; rw [List.take_append, List.drop_append]; have e1 : (pre.take 4096) = pre := List.take_of_length_le (by omega); rw [e1, List.drop_length, List.nil_append, Nat.sub_self, List.drop_zero]; have e3 : x ++ [13, 10] ++ rest = (x ++ [13]) ++ 10 :: rest := by simp
    rw [e3, List.take_append, List.take_of_length_le (by simp; omega)]; obtain ⟨m, hm⟩ : ∃ m, 4096 - pre.length - (x ++ [13]).length = m + 1 := ⟨4096 - pre.length - (x ++ [13]).length - 1, by simp; omega⟩
    rw [hm, List.take_succ_cons]; exact ⟨_, rfl⟩
  obtain ⟨r, hr⟩ := hseen
  have hi : Lib.indexByte (seenM (pre ++ (x ++ [13, 10] ++ rest)) pre.length) 10 = ((x.length + 1 : Nat) : Int) := by
    rw [hr, indexByte_first (x := x ++ [13])]
    · simp
    · intro b hb; simp only [List.mem_append, List.mem_singleton] at hb; rcases hb with hb | rfl
      · exact (hx b hb).2
      · decide
  have ht : (seenM (pre ++ (x ++ [13, 10] ++ rest)) pre.length).take (x.length + 1 + 1) = x ++ [13, 10] := by
    rw [hr, List.take_append, List.take_of_length_le (by simp)]; simp
  have hl : lineM (x ++ [13, 10]) = some x := by
    unfold lineM; have hs : Lib.hasSuffix (x ++ [13, 10]) [13, 10] = true := by unfold Lib.hasSuffix; simp
    have htr : Lib.trimSuffix (x ++ [13, 10]) [13, 10] = x := by
      unfold Lib.trimSuffix; rw [if_pos hs]; simp
    rw [htr, if_pos]; refine ⟨hs, ?_⟩; rw [indexByte_no]
    · omega
    · intro j hj; exact (hx 13 (List.mem_of_getElem? hj)).1 rfl
  unfold nextM; rw [hi, if_neg (by omega), Int.toNat_natCast, ht, hl]
theorem trim_blank (v : List UInt8) : trimW (32 :: v) = trimW v := by
  rw [trimW_eq, trimL_cons, if_pos (.inl rfl), ← trimW_eq]
theorem parse_print {f : Fld} (h : goodF f = true) : parseF (printF f) = some f := by
  obtain ⟨h1, h2, h3⟩ := good_parts h; obtain ⟨ht, hne⟩ := isTok_parts h1
  have hi : Lib.indexByte (printF f) 58 = f.name.length := by
    have e : printF f = f.name ++ 58 :: (32 :: f.value) := by simp [printF]
    rw [e]; exact indexByte_first fun b hb => (tchar_clean (ht b hb)).2.2
  have e1 : (printF f).take f.name.length = f.name := by simp [printF]
  have e2 : (printF f).drop (f.name.length + 1) = 32 :: f.value := by simp [printF]
  have h4 : isTxt (32 :: f.value) = true := by
    unfold isTxt at *; rw [List.all_cons, h2]; rfl
  rw [parseF_eq, hi, Int.toNat_natCast, e1, e2, if_pos ⟨by omega, h1, h4⟩, trim_blank, h3]
theorem print_ne (f : Fld) : printF f ≠ [] := by simp [printF]
theorem loop_body (st : List UInt8) : ∀ (K : List Fld) (pre : List UInt8) (F : List Fld) (k : Nat) (rest : List UInt8), (∀ f ∈ K, goodF f = true) → F.length + K.length ≤ 32 → pre.length + (bodyT K).length + 2 ≤ 4096 → K.length < k →
    loopM (pre ++ (bodyT K ++ ([13, 10] ++ rest))) st k F pre.length = ⟨st, F ++ K, pre.length + (bodyT K).length + 2, 0⟩
  | [], pre, F, k, rest, _, _, h, hk => by
    obtain ⟨k', rfl⟩ : ∃ k', k = k' + 1 := ⟨k - 1, by simp at hk; omega⟩
    have hn := next_line pre [] rest (by intro b hb; cases hb) (by simpa [bodyT] using h); simp only [bodyT, List.flatMap_nil, List.nil_append, List.length_nil, Nat.add_zero, Nat.zero_add] at *; unfold loopM; rw [hn]; simp
  | f :: K, pre, F, k, rest, hg, hF, h, hk => by
    obtain ⟨k', rfl⟩ : ∃ k', k = k' + 1 := ⟨k - 1, by simp at hk; omega⟩
    have hgf := hg f (by simp); have hb : bodyT (f :: K) = printF f ++ [13, 10] ++ bodyT K := by simp [bodyT]
    have hlen : (bodyT (f :: K)).length = (printF f).length + 2 + (bodyT K).length := by rw [hb]; simp; omega
    have hn := next_line pre (printF f) (bodyT K ++ ([13, 10] ++ rest)) (print_clean hgf) (by omega); have he : pre ++ (bodyT (f :: K) ++ ([13, 10] ++ rest)) = pre ++ (printF f ++ [13, 10] ++ (bodyT K ++ ([13, 10] ++ rest))) := by rw [hb]; simp
    have ha : addM F (printF f) = (F ++ [f], 0) := by
      unfold addM; rw [parse_print hgf]; simp at hF; simp only; rw [if_neg (by omega)]
    have ih := loop_body st K (pre ++ (printF f ++ [13, 10])) (F ++ [f]) k' rest (fun x hx => hg x (by simp [hx])) (by simp at hF ⊢; omega) (by simp; omega) (by simp at hk; omega); rw [he]; unfold loopM; rw [hn]; simp only [ne_eq, not_true_eq_false, if_false, print_ne, ha]; have e2 : pre ++ (printF f ++ [13, 10] ++ (bodyT K ++ ([13, 10] ++ rest))) = pre ++ (printF f ++ [13, 10]) ++ (bodyT K ++ ([13, 10] ++ rest)) := by simp
    have e3 : pre.length + ((printF f).length + 2) = (pre ++ (printF f ++ [13, 10])).length := by simp
    rw [e2, e3, ih]; simp [hlen]; omega
theorem split_head (st : List UInt8) (K : List Fld) (rest : List UInt8) (hst : clean st) (h0 : st ≠ []) (h1 : st.length ≤ 1024) (hg : ∀ f ∈ K, goodF f = true) (h32 : K.length ≤ 32) (hl : (headT st K).length ≤ 4096) :
    splitM (headT st K ++ rest) = ⟨st, K, (headT st K).length, 0⟩ := by
  have hlen : (headT st K).length = st.length + 2 + (bodyT K).length + 2 := by simp [headT]; omega
  have he : headT st K ++ rest = [] ++ (st ++ [13, 10] ++ (bodyT K ++ ([13, 10] ++ rest))) := by simp [headT]
  have hn := next_line [] st (bodyT K ++ ([13, 10] ++ rest)) hst (by simp; omega); have hlo := loop_body st K (st ++ [13, 10]) [] 4097 rest hg (by simpa using h32) (by simp; omega) (by omega)
  have hr : readM (headT st K ++ rest) = ⟨st, K, (headT st K).length, 0⟩ := by
    rw [he]; unfold readM; rw [show (0 : Nat) = ([] : List UInt8).length from rfl, hn]; have hb : beginE st = 0 := by unfold beginE; rw [if_neg h0, if_neg (by omega)]
    simp only [ne_eq, not_true_eq_false, if_false, hb, List.nil_append, List.length_nil, Nat.zero_add]; have e2 : st ++ [13, 10] ++ (bodyT K ++ ([13, 10] ++ rest)) = (st ++ [13, 10]) ++ (bodyT K ++ ([13, 10] ++ rest)) := rfl; have e3 : st.length + 2 = (st ++ [13, 10]).length := by simp
    rw [e3, hlo, hlen]; simp
  unfold splitM; rw [hr]; simp
theorem loop_n_le (s st : List UInt8) : ∀ (k : Nat) (F : List Fld) (n : Nat), n ≤ s.length → n ≤ 4096 → (loopM s st k F n).n ≤ s.length
  | 0, F, n, h, _ => h
  | k + 1, F, n, h, h2 => by
    have hb := next_bounds h h2; unfold loopM; by_cases h4 : (nextM s n).2.2 ≠ 0
    · rw [if_pos h4]; exact hb.1
    · rw [if_neg h4]; by_cases h5 : (nextM s n).1 = []
      · rw [if_pos h5]; exact hb.1
      · rw [if_neg h5]; by_cases h6 : (addM F (nextM s n).1).2 ≠ 0
        · rw [if_pos h6]; exact hb.1
        · rw [if_neg h6]; exact loop_n_le s st k _ _ hb.1 hb.2.1
theorem split_n_le (s : List UInt8) : (splitM s).n ≤ s.length := by
  have hb := next_bounds (s := s) (n := 0) (Nat.zero_le _) (Nat.zero_le _)
  have hr : (readM s).n ≤ s.length := by
    unfold readM; by_cases h4 : (nextM s 0).2.2 ≠ 0
    · rw [if_pos h4]; exact hb.1
    · rw [if_neg h4]; by_cases h6 : beginE (nextM s 0).1 ≠ 0
      · rw [if_pos h6]; exact hb.1
      · rw [if_neg h6]; exact loop_n_le s _ _ _ _ hb.1 hb.2.1
  unfold splitM
  split
  · simp
  · exact hr
end Go.Proofs.YtlhnjkekjbbhcaaGreatDoor
namespace Go.Proofs.YtlhnjkekjbbhcaaGreatDoor
open Go.RowKit
structure Ck where
  st : Nat
  left : Nat
  most : Nat
  flds : Nat
  inp : List UInt8
  dat : List UInt8
  err : Int
def Ck.add (c : Ck) (s : List UInt8) : Ck := { c with inp := c.inp ++ s }
structure LnR where
  t : List UInt8
  e : Int
  r : List UInt8
def crlfC : List UInt8 := [13, 10]
def lnC (l : List UInt8) : LnR :=
  if Lib.indexByte (l.take 256) 10 < 0 then (if 256 ≤ l.length then ⟨[], 3, l⟩ else ⟨[], 17, l⟩)
  else if Lib.hasSuffix (l.take ((Lib.indexByte (l.take 256) 10).toNat + 1)) crlfC then ⟨Lib.trimSuffix (l.take ((Lib.indexByte (l.take 256) 10).toNat + 1)) crlfC, 0, l.drop ((Lib.indexByte (l.take 256) 10).toNat + 1)⟩ else ⟨[], 3, l⟩
def digitsB : List UInt8 := [48, 49, 50, 51, 52, 53, 54, 55, 56, 57, 97, 98, 99, 100, 101, 102, 65, 66, 67, 68, 69, 70]
def restOk (r : List UInt8) : Bool := r.isEmpty || (isTxt r && decide (0 ≤ Lib.indexByte [32, 9, 59] (r.getD 0 0)))
def numRest (t : List UInt8) : List UInt8 := Lib.trimLeftS t digitsB
def numT (t : List UInt8) : List UInt8 := t.take (t.length - (numRest t).length)
def numE (t : List UInt8) (m : Int) : Int := if restOk (numRest t) then (if unhexE (numT t) m = 14 then 4 else unhexE (numT t) m) else 3
def numV (t : List UInt8) (m : Int) : Int := unhexV (numT t) m
def beginM (c : Ck) : Ck × Int :=
  if (lnC c.inp).e ≠ 0 then (c, (lnC c.inp).e)
  else if numE (lnC c.inp).t ((c.most : Int) - c.dat.length) ≠ 0 then ({ c with inp := (lnC c.inp).r }, numE (lnC c.inp).t ((c.most : Int) - c.dat.length))
  else ({ c with inp := (lnC c.inp).r, left := (numV (lnC c.inp).t ((c.most : Int) - c.dat.length)).toNat, st := if numV (lnC c.inp).t ((c.most : Int) - c.dat.length) = 0 then 3 else 1 }, 0)
def dataM (c : Ck) : Ck × Int :=
  if 0 < c.left - min c.left c.inp.length then ({ c with inp := c.inp.drop (min c.left c.inp.length), dat := c.dat ++ c.inp.take (min c.left c.inp.length), left := c.left - min c.left c.inp.length }, 17)
  else ({ c with inp := c.inp.drop (min c.left c.inp.length), dat := c.dat ++ c.inp.take (min c.left c.inp.length), left := c.left - min c.left c.inp.length, st := 2 }, 0)
def closeM (c : Ck) : Ck × Int :=
  if c.inp.take 2 ≠ crlfC.take c.inp.length then (c, 3)
  else if c.inp.length < 2 then (c, 17)
  else ({ c with inp := c.inp.drop 2, st := 0 }, 0)
def trailM (c : Ck) : Ck × Int :=
  if (lnC c.inp).e ≠ 0 then (c, (lnC c.inp).e)
  else if (lnC c.inp).t = [] then ({ c with inp := (lnC c.inp).r, st := 4 }, 0)
  else if parseE (lnC c.inp).t ≠ 0 then ({ c with inp := (lnC c.inp).r }, parseE (lnC c.inp).t)
  else ({ c with inp := (lnC c.inp).r, flds := c.flds + 1 }, if 16 < c.flds + 1 then 4 else 0)
def stepM (c : Ck) : Ck × Int := if c.st = 0 then beginM c else if c.st = 1 then dataM c else if c.st = 2 then closeM c else if c.st = 3 then trailM c else (c, 17)
theorem suffix_len {a b : List UInt8} (h : Lib.hasSuffix a b = true) : b.length ≤ a.length := by
  unfold Lib.hasSuffix at h; rw [List.isSuffixOf_iff_suffix] at h; exact h.length_le
theorem line_short {l : List UInt8} (h : Lib.indexByte (l.take 256) 10 < 0) : lnC l = if 256 ≤ l.length then ⟨[], 3, l⟩ else ⟨[], 17, l⟩ := by unfold lnC; rw [if_pos h]
theorem line_at {l : List UInt8} {k : Nat} (h : Lib.indexByte (l.take 256) 10 = (k : Nat)) : lnC l = if Lib.hasSuffix (l.take (k + 1)) crlfC then ⟨Lib.trimSuffix (l.take (k + 1)) crlfC, 0, l.drop (k + 1)⟩ else ⟨[], 3, l⟩ := by
  unfold lnC; rw [if_neg (by omega), h]; rfl
theorem line_cases (l : List UInt8) : Lib.indexByte (l.take 256) 10 < 0 ∨ ∃ k : Nat, Lib.indexByte (l.take 256) 10 = (k : Nat) ∧ k < l.length ∧ k < 256 := by
  by_cases h : Lib.indexByte (l.take 256) 10 < 0
  · exact .inl h
  · obtain ⟨k, hk⟩ : ∃ k : Nat, Lib.indexByte (l.take 256) 10 = (k : Nat) := ⟨(Lib.indexByte (l.take 256) 10).toNat, by omega⟩
    have := (List.getElem?_eq_some_iff.1 (Lib.indexByte_some hk).1).1; rw [List.length_take] at this; exact .inr ⟨k, hk, by omega, by omega⟩
theorem line_le (l : List UInt8) : (lnC l).r.length ≤ l.length ∧ ((lnC l).e = 0 → (lnC l).r.length + 2 ≤ l.length) ∧ (lnC l).t.length ≤ 256 ∧ ((lnC l).e = 0 ∨ (lnC l).e = 3 ∨ (lnC l).e = 17) ∧ (lnC l).t.length ≤ l.length := by
  rcases line_cases l with hn | ⟨k, hk, hkl, h256⟩
  · rw [line_short hn]
    split <;> simp
  · rw [line_at hk]; by_cases hs : Lib.hasSuffix (l.take (k + 1)) crlfC = true
    · rw [if_pos hs]; have := suffix_len hs; rw [List.length_take] at this; have h2 : crlfC.length = 2 := rfl; unfold Lib.trimSuffix; rw [if_pos hs]; simp; omega
    · rw [if_neg hs]; simp
theorem line_err {l : List UInt8} (h : (lnC l).e ≠ 0) : (lnC l).r = l ∧ (lnC l).t = [] := by
  rcases line_cases l with hn | ⟨k, hk, hkl, h256⟩
  · rw [line_short hn]
    split <;> simp
  · rw [line_at hk] at h ⊢; by_cases hs : Lib.hasSuffix (l.take (k + 1)) crlfC = true
    · rw [if_pos hs] at h; simp at h
    · rw [if_neg hs]; simp
theorem numV_range {t : List UInt8} {m : Int} (h : numE t m = 0) : 0 ≤ numV t m ∧ numV t m ≤ m := by
  unfold numE at h; have := unhex_range (numT t) m; by_cases h0 : unhexE (numT t) m = 0
  · exact this.1 h0
  · rcases (this.2 h0).2 with h1 | h1 <;> rw [h1] at h <;> split at h <;> simp at h
theorem parseE_cases (l : List UInt8) : parseE l = 0 ∨ parseE l = 3 := by unfold parseE; split <;> simp
theorem data_eq (c : Ck) (n : Nat) (hn : min c.left c.inp.length = n) : dataM c = if 0 < c.left - n then ({ c with inp := c.inp.drop n, dat := c.dat ++ c.inp.take n, left := c.left - n }, 17)
    else ({ c with inp := c.inp.drop n, dat := c.dat ++ c.inp.take n, left := c.left - n, st := 2 }, 0) := by subst hn; rfl
def Ck.ok (c : Ck) : Prop := c.left + c.dat.length ≤ c.most ∧ c.flds ≤ 16 ∧ c.st ≤ 4
def Ck.mu (c : Ck) : Nat := 2 * c.inp.length + (if c.st = 1 then 1 else 0)
theorem begin_ok {c : Ck} (h : c.ok) (_h0 : c.st = 0) : ((beginM c).2 = 0 → (beginM c).1.mu < c.mu) ∧ (beginM c).1.ok ∧ (beginM c).1.most = c.most ∧ (beginM c).1.err = c.err ∧ (beginM c).1.inp.length + (beginM c).1.dat.length ≤ c.inp.length + c.dat.length ∧ c.dat <+: (beginM c).1.dat := by
  obtain ⟨h1, h2, h3⟩ := h; have hl := line_le c.inp; unfold beginM
  split
  · exact ⟨fun hh => absurd hh (by assumption), ⟨h1, h2, h3⟩, rfl, rfl, Nat.le_refl _, List.prefix_refl _⟩
  · rename_i he; have he : (lnC c.inp).e = 0 := by simpa using he
    have hl2 := hl.2.1 he
    split
    · exact ⟨fun hh => absurd hh (by assumption), ⟨h1, h2, h3⟩, rfl, rfl, by simp only; omega, List.prefix_refl _⟩
    · rename_i hn; have hn : numE (lnC c.inp).t ((c.most : Int) - c.dat.length) = 0 := by simpa using hn
      have hv := numV_range hn; refine ⟨fun _ => ?_, ⟨?_, h2, ?_⟩, rfl, rfl, by simp only; omega, List.prefix_refl _⟩
      · unfold Ck.mu; simp only; split <;> split <;> omega
      · simp only; omega
      · simp only; split <;> omega
theorem trail_ok {c : Ck} (h : c.ok) (h0 : c.st = 3) : ((trailM c).2 = 0 → (trailM c).1.mu < c.mu) ∧ ((trailM c).2 = 0 ∨ (trailM c).2 = 17 → (trailM c).1.ok) ∧ (trailM c).1.most = c.most ∧ (trailM c).1.err = c.err ∧ (trailM c).1.inp.length + (trailM c).1.dat.length ≤ c.inp.length + c.dat.length ∧ c.dat <+: (trailM c).1.dat := by
  obtain ⟨h1, h2, h3⟩ := h; have hl := line_le c.inp; unfold trailM
  split
  · exact ⟨fun hh => absurd hh (by assumption), fun _ => ⟨h1, h2, h3⟩, rfl, rfl, Nat.le_refl _, List.prefix_refl _⟩
  · rename_i he; have he : (lnC c.inp).e = 0 := by simpa using he
    have hl2 := hl.2.1 he; have hmu : c.mu = 2 * c.inp.length := by unfold Ck.mu; rw [if_neg (by omega)]; omega
    split
    · exact ⟨fun _ => by rw [hmu]; unfold Ck.mu; simp; omega, fun _ => ⟨h1, h2, by simp only; omega⟩, rfl, rfl, by simp only; omega, List.prefix_refl _⟩
    · split
      · exact ⟨fun hh => absurd hh (by assumption), fun _ => ⟨h1, h2, h3⟩, rfl, rfl, by simp only; omega, List.prefix_refl _⟩
      · refine ⟨fun _ => by rw [hmu]; unfold Ck.mu; simp only; rw [if_neg (by omega)]; omega, fun hh => ⟨h1, ?_, h3⟩, rfl, rfl, by simp only; omega, List.prefix_refl _⟩; simp only at hh ⊢
        split at hh
        · rcases hh with hh | hh <;> simp at hh
        · omega
theorem close_ok {c : Ck} (h : c.ok) (h0 : c.st = 2) : ((closeM c).2 = 0 → (closeM c).1.mu < c.mu) ∧ (closeM c).1.ok ∧ (closeM c).1.most = c.most ∧ (closeM c).1.err = c.err ∧ (closeM c).1.inp.length + (closeM c).1.dat.length ≤ c.inp.length + c.dat.length ∧ c.dat <+: (closeM c).1.dat := by
  obtain ⟨h1, h2, h3⟩ := h; unfold closeM
  split
  · exact ⟨fun hh => by simp at hh, ⟨h1, h2, h3⟩, rfl, rfl, Nat.le_refl _, List.prefix_refl _⟩
  · split
    · exact ⟨fun hh => by simp at hh, ⟨h1, h2, h3⟩, rfl, rfl, Nat.le_refl _, List.prefix_refl _⟩
    · refine ⟨fun _ => ?_, ⟨h1, h2, by simp only; omega⟩, rfl, rfl, by simp only [List.length_drop]; omega, List.prefix_refl _⟩; unfold Ck.mu; simp only [List.length_drop]; rw [if_neg (by omega), if_neg (by omega)]; omega
theorem data_ok {c : Ck} (h : c.ok) (h0 : c.st = 1) : ((dataM c).2 = 0 → (dataM c).1.mu < c.mu) ∧ (dataM c).1.ok ∧ (dataM c).1.most = c.most ∧ (dataM c).1.err = c.err ∧ (dataM c).1.inp.length + (dataM c).1.dat.length ≤ c.inp.length + c.dat.length ∧ c.dat <+: (dataM c).1.dat := by
  obtain ⟨h1, h2, h3⟩ := h; unfold dataM
  split
  · refine ⟨fun hh => by simp at hh, ⟨?_, h2, h3⟩, rfl, rfl, ?_, List.prefix_append _ _⟩
    · simp only [List.length_append, List.length_take]; omega
    · simp only [List.length_append, List.length_take, List.length_drop]; omega
  · refine ⟨fun _ => ?_, ⟨?_, h2, by simp only; omega⟩, rfl, rfl, ?_, List.prefix_append _ _⟩
    · unfold Ck.mu; simp only [List.length_drop]; rw [if_neg (by omega), if_pos h0]; omega
    · simp only [List.length_append, List.length_take]; omega
    · simp only [List.length_append, List.length_take, List.length_drop]; omega
theorem step_ok {c : Ck} (h : c.ok) : ((stepM c).2 = 0 → (stepM c).1.mu < c.mu) ∧ ((stepM c).2 = 0 ∨ (stepM c).2 = 17 → (stepM c).1.ok) ∧ (stepM c).1.most = c.most ∧ (stepM c).1.err = c.err ∧ (stepM c).1.inp.length + (stepM c).1.dat.length ≤ c.inp.length + c.dat.length ∧ c.dat <+: (stepM c).1.dat := by
  unfold stepM
  split
  · have := begin_ok h (by assumption); exact ⟨this.1, fun _ => this.2.1, this.2.2⟩
  split
  · have := data_ok h (by assumption); exact ⟨this.1, fun _ => this.2.1, this.2.2⟩
  split
  · have := close_ok h (by assumption); exact ⟨this.1, fun _ => this.2.1, this.2.2⟩
  split
  · exact trail_ok h (by assumption)
  · exact ⟨fun hh => by simp at hh, fun _ => h, rfl, rfl, Nat.le_refl _, List.prefix_refl _⟩
inductive Runs : Ck → Ck → Int → Prop
  | stop {c : Ck} : (stepM c).2 ≠ 0 → Runs c (stepM c).1 (stepM c).2
  | more {c d : Ck} {e : Int} : (stepM c).2 = 0 → Runs (stepM c).1 d e → Runs c d e
theorem runs_ne {c d : Ck} {e : Int} (h : Runs c d e) : e ≠ 0 := by
  induction h with
  | stop h => exact h
  | more _ _ ih => exact ih
theorem runs_ok {c d : Ck} {e : Int} (h : Runs c d e) (hc : c.ok) : (e = 17 → d.ok) ∧ d.most = c.most ∧ d.err = c.err ∧ d.inp.length + d.dat.length ≤ c.inp.length + c.dat.length ∧ c.dat <+: d.dat := by
  induction h with
  | stop h => have := step_ok hc; exact ⟨fun h17 => this.2.1 (.inr h17), this.2.2⟩
  | more h _ ih =>
    have hs := step_ok hc; obtain ⟨i1, i2, i3, i4, i5⟩ := ih (hs.2.1 (.inl h)); exact ⟨i1, i2.trans hs.2.2.1, i3.trans hs.2.2.2.1, Nat.le_trans i4 hs.2.2.2.2.1, hs.2.2.2.2.2.trans i5⟩
end Go.Proofs.YtlhnjkekjbbhcaaGreatDoor
namespace Go.Proofs.YtlhnjkekjbbhcaaGreatDoor
open Go.RowKit Go.Shelf
theorem Blk.there' {w : World} {b : Nat} {T : TypeId} {xs : List Value} (h : Blk w b T xs) (o n : Nat) (hl : o + n ≤ xs.length) : w.there b o n := fun j hj =>
  ⟨by rw [h.cell, List.getElem?_eq_getElem (by omega)]; rfl, h.frozen _⟩
theorem Blk.range' {w : World} {b : Nat} {T : TypeId} {xs : List Value} (h : Blk w b T xs) : w.rangeAt b 0 xs := fun j v hv => by rw [Nat.zero_add]; exact h.get hv
theorem Keep.setCells' {S : List Nat} {a : World} (b : Nat) (hb : b < a.heap.size → b ∈ S) : ∀ (vs : List Value) (o : Nat) (w : World), Keep S a w → Keep S a (w.setCells b o vs)
  | [], _, _, h => h
  | v :: r, o, w, h => by
    rw [World.setCells]; exact Keep.setCells' b hb r (o + 1) _ (h.setCell _ _ hb)
def stampM (l : List UInt8) : List UInt8 := [115, 104, 97, 50, 53, 54, 58] ++ hexS l
theorem stampM_len (d : Dig) : (stampM d.1).length = 71 := by unfold stampM; rw [List.length_append, hexS_len, d.2]; rfl
theorem dig_back (w : World) (d : Dig) : (convert 143 9 (.slice (some ⟨w.heap.size, 0, none⟩) 32 32)).run Tryz.prog (w.alloc (.cells (digC d).toArray 23)) = .ok (.string (S d.1)) (w.alloc (.cells (digC d).toArray 23)) := by
  have hb := Blk.newA w (digC d).toArray 23
  have := run_convert_bytes_back (P := Tryz.prog) (w.alloc (.cells (digC d).toArray 23)) 143 9 5 ⟨w.heap.size, 0, none⟩ 32 d.1 Tryz.underlying143 Tryz.underlying5 Tryz.underlying9 (fun j hj => by
    have ha : (⟨w.heap.size, 0, none⟩ : Addr).add j = ⟨w.heap.size, j, none⟩ := by unfold Addr.add; split <;> simp_all
    rw [ha]; exact hb.get (k := j) (by simp [digC, hj]))
  rwa [d.2] at this
set_option maxRecDepth 100000 in
set_option maxHeartbeats 2000000 in
theorem stamp_Print (d : Dig) (w : World) :
    Calls Tryz.prog 83 #[.agg (digC d).toArray] w fun e w' => e = .returned (.string (S (stampM d.1))) ∧ Keep [] w w' := by
  have kA := (Keep.refl [] w).alloc (.cells (digC d).toArray 23); have hcv := dig_back w d; have hdl := digC_length d; have HH := Lib.hid (fun w' => hexa_Hex d.1 w' (by rw [d.2]; decide)); have hcat : (⟨#[115, 104, 97, 50, 53, 54, 58]⟩ : ByteArray) ++ S (hexS d.1) = S (stampM d.1) := S_append [115, 104, 97, 50, 53, 54, 58] _; have hhl : (hexS d.1).length = 64 := by rw [hexS_len, d.2]
  have s1 := S_size (hexS d.1); rw [hhl] at s1; generalize hexS d.1 = hx at *; generalize stampM d.1 = st at *; generalize hwA : w.alloc (.cells (digC d).toArray 23) = wA at kA hcv; have KA := Lib.hid kA; clear kA; go_enter Tryz.func83, Tryz.ntmps83; go_wp2_with fail; refine (HH.out _).mono ?_; rintro e w5 ⟨rfl, k5⟩; have K5 := Lib.hid (KA.out.trans k5); clear k5; go_wp2_with fail; go_ret; exact ⟨rfl, K5.out⟩
theorem dig_size (d : Dig) : (Tryz.prog.info? 23).map (·.size) = some (digC d).length := by rw [digC_length]; kernel_rfl
end Go.Proofs.YtlhnjkekjbbhcaaGreatDoor
