/- Layer 21: blobs by their numbers, as the statement RackRecent makes them. Plain laws; no program. No conditions. -/
import Derived.Test.YtbfnpoknamajnaaRkR
namespace Go.Proofs.Ytbfnpoknamajnaa
open Go.RowKit Go.Maps

def dg (i : Nat) : Dig := digB (UInt8.ofNat i)
def jg (i : Nat) : Jar := ⟨dg i, [], 1 + (i : Int), 0⟩
theorem dg_inj {a b : Nat} (ha : a < 256) (hb : b < 256) (h : dg a = dg b) : a = b := by
  have h1 := congrArg (fun d : Dig => d.1) h
  have h2 : (UInt8.ofNat a) = UInt8.ofNat b := by
    have : (UInt8.ofNat a :: List.replicate 31 (0 : UInt8)) = UInt8.ofNat b :: List.replicate 31 0 := h1
    injection this
  have h3 := congrArg UInt8.toNat h2
  rw [UInt8.toNat_ofNat', UInt8.toNat_ofNat'] at h3
  omega
section
variable {D : List Nat}
theorem find_jg (hD : ∀ x ∈ D, x < 40) {k : Nat} (hk : k < 40) : findL (D.map jg) (dg k) = if k ∈ D then some (jg k) else none := by
  induction D with
  | nil => rfl
  | cons x r ih =>
    unfold findL at *
    rw [List.map_cons]
    by_cases e : x = k
    · subst e
      rw [List.find?_cons_of_pos (by simp [jg]), if_pos (by simp)]
    · have hx := hD x (by simp)
      have hne : ¬ (decide ((jg x).dig = dg k) = true) := fun h => e (dg_inj (by omega) (by omega) (of_decide_eq_true h))
      rw [List.find?_cons_of_neg (p := fun x : Jar => decide (x.dig = dg k)) hne, ih (fun y hy => hD y (by simp [hy]))]
      by_cases hm : k ∈ r
      · rw [if_pos hm, if_pos (by simp [hm])]
      · rw [if_neg hm, if_neg (by simp [hm]; exact fun h => e h.symm)]
theorem rest_jg (hD : ∀ x ∈ D, x < 40) {k : Nat} (hk : k < 40) : restL (D.map jg) (dg k) = (D.filter fun x => !decide (x = k)).map jg := by
  unfold restL
  rw [List.filter_map]
  congr 1
  apply List.filter_congr
  intro x hx
  have := hD x hx
  simp only [Function.comp_apply]
  congr 1
  rw [decide_eq_decide]
  constructor
  · intro h; exact dg_inj (by omega) (by omega) h
  · rintro rfl; rfl
theorem put_jg (hD : ∀ x ∈ D, x < 40) {k : Nat} (hk : k < 40) (hn : k ∉ D) (hl : D.length < 64) : putE (D.map jg) (jg k) = 0 ∧ putL (D.map jg) (jg k) = (k :: D).map jg := by
  have hg : goodJ (jg k) = true := by
    unfold goodJ jg
    simp
    omega
  have : putE (D.map jg) (jg k) = 0 := by
    unfold putE
    rw [if_neg (by simp [hg]), show (jg k).dig = dg k from rfl, find_jg hD hk, if_neg hn, if_neg (by simp), if_neg (by simp; omega)]
  exact ⟨this, by unfold putL; rw [this]; rfl⟩
theorem touch_jg (hD : ∀ x ∈ D, x < 40) {k : Nat} (hk : k ∈ D) : hereE (D.map jg) (dg k) = 0 ∧ touchL (D.map jg) (dg k) = (k :: D.filter fun x => !decide (x = k)).map jg := by
  have h40 := hD k hk
  unfold hereE touchL
  rw [find_jg hD h40, if_pos hk]
  refine ⟨rfl, ?_⟩
  simp only
  rw [rest_jg hD h40]
  rfl
theorem sum_jg : ∀ D : List Nat, (D.length : Int) ≤ sumL (D.map jg)
  | [] => by simp [sumL]
  | x :: r => by
    have := sum_jg r
    unfold sumL at *
    simp only [List.map_cons, List.sum_cons, List.length_cons, jg] at *
    omega
theorem vic_jg {z : Nat} : vicL 0 ((D ++ [z]).map jg) = some (jg z) := by
  unfold vicL
  have := sum_jg (D ++ [z])
  rw [List.length_append, List.length_singleton] at this
  rw [if_neg (fun h => by have := h.1; omega)]
  simp [zeroPins, jg]
theorem drop_jg {z : Nat} (hD : ∀ x ∈ D ++ [z], x < 40) (hn : (D ++ [z]).Nodup) : dropE ((D ++ [z]).map jg) (dg z) = 0 ∧ dropL ((D ++ [z]).map jg) (dg z) = D.map jg := by
  have hz := hD z (by simp)
  unfold dropE dropL
  rw [find_jg hD hz, if_pos (by simp)]
  refine ⟨rfl, ?_⟩
  show restL _ _ = _
  rw [rest_jg hD hz]
  congr 1
  rw [List.filter_append, List.filter_cons_of_neg (by simp), List.filter_nil, List.append_nil, List.filter_eq_self]
  intro x hx
  have := (List.nodup_append.1 hn).2.2 x hx z (by simp)
  simp [this]
end
/-- a blob's age -/
def ageOf (A : List Nat) (k : Nat) : Nat := if 0 < A.getD k 0 then A.getD k 0 * 40 + 40 else A.getD k 0 * 40 + k
structure Ages (A D : List Nat) (i : Nat) : Prop where
  len : A.length = 40
  most : ∀ k : Nat, A.getD k 0 ≤ i
  lt : ∀ x ∈ D, x < 40
  nd : D.Nodup
  all : ∀ k, k < 40 → k ∈ D
  srt : D.Pairwise fun a b => ageOf A b < ageOf A a
theorem ages0 : Ages (List.replicate 40 0) (List.range 40).reverse 0 := by
  refine ⟨by simp, fun k => ?_, fun x hx => by simpa using hx, (List.reverse_perm _).symm.nodup List.nodup_range, fun k hk => by simpa using hk, ?_⟩
  · show ((List.replicate 40 0)[k]?).getD 0 ≤ 0
    rw [List.getElem?_replicate]
    split <;> simp
  · rw [List.pairwise_reverse]
    have h0 : ∀ k, k < 40 → ageOf (List.replicate 40 0) k = k := fun k hk => by
      have : (List.replicate 40 0).getD k 0 = 0 := by
        show ((List.replicate 40 0)[k]?).getD 0 = 0
        rw [List.getElem?_replicate]
        split <;> simp
      unfold ageOf
      rw [this]
      simp
    refine List.Pairwise.imp_of_mem ?_ List.pairwise_lt_range
    intro a b ha hb hab
    rw [h0 a (by simpa using ha), h0 b (by simpa using hb)]
    exact hab
theorem Ages.touch {A D : List Nat} {i k : Nat} (h : Ages A D i) (hk : k < 40) : Ages (A.set k (i + 1)) (k :: D.filter fun x => !decide (x = k)) (i + 1) := by
  have hg : ∀ x, (A.set k (i + 1)).getD x 0 = if x = k then i + 1 else A.getD x 0 := fun x => by
    simp only [List.getD, List.getElem?_set]
    by_cases e : k = x
    · subst e; simp [h.len, hk]
    · simp [e, Ne.symm e]
  have ho : ∀ x, x ≠ k → ageOf (A.set k (i + 1)) x = ageOf A x := fun x hx => by
    unfold ageOf
    rw [hg, if_neg hx]
  have hnk : ageOf (A.set k (i + 1)) k = (i + 1) * 40 + 40 := by
    unfold ageOf
    rw [hg, if_pos rfl, if_pos (by omega)]
  have hle : ∀ x ∈ D, ageOf A x ≤ i * 40 + 40 := fun x hx => by
    have h1 := h.most x
    have h2 := h.lt x hx
    unfold ageOf
    have : A.getD x 0 * 40 ≤ i * 40 := Nat.mul_le_mul_right _ h1
    split <;> omega
  refine ⟨by simpa using h.len, fun x => ?_, ?_, ?_, ?_, ?_⟩
  · rw [hg]
    split
    · omega
    · have := h.most x; omega
  · intro x hx
    rcases List.mem_cons.1 hx with rfl | hx
    · exact hk
    · exact h.lt x (List.mem_filter.1 hx).1
  · rw [List.nodup_cons]
    exact ⟨by simp, h.nd.filter _⟩
  · intro x hx
    by_cases e : x = k
    · simp [e]
    · exact List.mem_cons.2 (.inr (List.mem_filter.2 ⟨h.all x hx, by simp [e]⟩))
  · rw [List.pairwise_cons]
    refine ⟨fun x hx => ?_, ?_⟩
    · obtain ⟨h1, h2⟩ := List.mem_filter.1 hx
      have hne : x ≠ k := by simpa using h2
      rw [ho x hne, hnk]
      have := hle x h1
      omega
    · refine List.Pairwise.imp_of_mem ?_ (h.srt.filter _)
      intro a b ha hb hab
      have hna : a ≠ k := by simpa using (List.mem_filter.1 ha).2
      have hnb : b ≠ k := by simpa using (List.mem_filter.1 hb).2
      rw [ho a hna, ho b hnb]
      exact hab
theorem Ages.length {A D : List Nat} {i : Nat} (h : Ages A D i) : D.length = 40 := by
  have h1 : D.Perm (List.range 40) := (List.perm_ext_iff_of_nodup h.nd List.nodup_range).2 fun x => by
    simp
    exact ⟨h.lt x, h.all x⟩
  rw [h1.length_eq]
  simp
end Go.Proofs.Ytbfnpoknamajnaa
