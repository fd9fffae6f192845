/- Layer 21: the ring of places. Plain laws; no program. No conditions. -/
import Derived.Test.YtbfnpoknamajnaaRk2
namespace Go.Proofs.Ytbfnpoknamajnaa
open Go.RowKit Go.Maps

def prvF (P : List Place) (k : Nat) : Nat := (P.getD k default).prev
def nxtF (P : List Place) (k : Nat) : Nat := (P.getD k default).next
def jarF (P : List Place) (k : Nat) : Jar := (P.getD k default).jar
theorem getD_set {P : List Place} {k : Nat} (q : Place) (hk : k < P.length) (j : Nat) : (P.set k q).getD j default = if j = k then q else P.getD j default := by
  simp only [List.getD, List.getElem?_set]
  by_cases h : k = j
  · subst h; simp [hk]
  · simp [h, Ne.symm h]
theorem next_prv {P : List Place} {k : Nat} (n : Nat) (hk : k < P.length) (j : Nat) : prvF (P.set k { P.getD k default with next := n }) j = prvF P j := by
  unfold prvF
  rw [getD_set _ hk]
  split
  · rename_i h; subst h; rfl
  · rfl
theorem next_nxt {P : List Place} {k : Nat} (n : Nat) (hk : k < P.length) (j : Nat) : nxtF (P.set k { P.getD k default with next := n }) j = if j = k then n else nxtF P j := by
  unfold nxtF
  rw [getD_set _ hk]
  split <;> rfl
theorem next_jar {P : List Place} {k : Nat} (n : Nat) (hk : k < P.length) (j : Nat) : jarF (P.set k { P.getD k default with next := n }) j = jarF P j := by
  unfold jarF
  rw [getD_set _ hk]
  split
  · rename_i h; subst h; rfl
  · rfl
theorem prev_prv {P : List Place} {k : Nat} (n : Nat) (hk : k < P.length) (j : Nat) : prvF (P.set k { P.getD k default with prev := n }) j = if j = k then n else prvF P j := by
  unfold prvF
  rw [getD_set _ hk]
  split <;> rfl
theorem prev_nxt {P : List Place} {k : Nat} (n : Nat) (hk : k < P.length) (j : Nat) : nxtF (P.set k { P.getD k default with prev := n }) j = nxtF P j := by
  unfold nxtF
  rw [getD_set _ hk]
  split
  · rename_i h; subst h; rfl
  · rfl
theorem prev_jar {P : List Place} {k : Nat} (n : Nat) (hk : k < P.length) (j : Nat) : jarF (P.set k { P.getD k default with prev := n }) j = jarF P j := by
  unfold jarF
  rw [getD_set _ hk]
  split
  · rename_i h; subst h; rfl
  · rfl
theorem both_prv {P : List Place} {k : Nat} (n m : Nat) (hk : k < P.length) (j : Nat) : prvF (P.set k { P.getD k default with prev := n, next := m }) j = if j = k then n else prvF P j := by
  unfold prvF
  rw [getD_set _ hk]
  split <;> rfl
theorem both_nxt {P : List Place} {k : Nat} (n m : Nat) (hk : k < P.length) (j : Nat) : nxtF (P.set k { P.getD k default with prev := n, next := m }) j = if j = k then m else nxtF P j := by
  unfold nxtF
  rw [getD_set _ hk]
  split <;> rfl
theorem both_jar {P : List Place} {k : Nat} (n m : Nat) (hk : k < P.length) (j : Nat) : jarF (P.set k { P.getD k default with prev := n, next := m }) j = jarF P j := by
  unfold jarF
  rw [getD_set _ hk]
  split
  · rename_i h; subst h; rfl
  · rfl
section
variable {P : List Place} {i : Nat}
theorem link_prv (hi : i < P.length) (h0 : 0 < P.length) (hl : prvF P 0 < P.length) (j : Nat) : prvF (linkP P i) j = if j = 0 then i else if j = i then prvF P 0 else prvF P j := by
  unfold linkP
  simp only
  rw [prev_prv _ (by rw [List.length_set, List.length_set]; exact h0), next_prv _ (by rw [List.length_set]; exact hl), both_prv _ _ hi]
  rfl
theorem link_nxt (hi : i < P.length) (h0 : 0 < P.length) (hl : prvF P 0 < P.length) (j : Nat) : nxtF (linkP P i) j = if j = prvF P 0 then i else if j = i then 0 else nxtF P j := by
  unfold linkP
  simp only
  rw [prev_nxt _ (by rw [List.length_set, List.length_set]; exact h0), next_nxt _ (by rw [List.length_set]; exact hl), both_nxt _ _ hi]
  rfl
theorem link_jar (hi : i < P.length) (h0 : 0 < P.length) (hl : prvF P 0 < P.length) (j : Nat) : jarF (linkP P i) j = jarF P j := by
  unfold linkP
  simp only
  rw [prev_jar _ (by rw [List.length_set, List.length_set]; exact h0), next_jar _ (by rw [List.length_set]; exact hl), both_jar _ _ hi]
theorem unlink_prv (hn : nxtF P i < P.length) (hp : prvF P i < P.length) (j : Nat) : prvF (unlinkP P i) j = if j = nxtF P i then prvF P i else prvF P j := by
  unfold unlinkP
  simp only
  rw [prev_prv _ (by rw [List.length_set]; exact hn), next_prv _ (show (P.getD i default).prev < P.length from hp)]
  rfl
theorem unlink_nxt (hn : nxtF P i < P.length) (hp : prvF P i < P.length) (j : Nat) : nxtF (unlinkP P i) j = if j = prvF P i then nxtF P i else nxtF P j := by
  unfold unlinkP
  simp only
  rw [prev_nxt _ (by rw [List.length_set]; exact hn), next_nxt _ (show (P.getD i default).prev < P.length from hp)]
  rfl
theorem unlink_jar (hn : nxtF P i < P.length) (hp : prvF P i < P.length) (j : Nat) : jarF (unlinkP P i) j = jarF P j := by
  unfold unlinkP
  simp only
  rw [prev_jar _ (by rw [List.length_set]; exact hn), next_jar _ (show (P.getD i default).prev < P.length from hp)]
end

/-- from x along 'prev' by I to y, and back along 'next' -/
def Seg (prv nxt : Nat → Nat) : Nat → List Nat → Nat → Prop
  | x, [], y => prv x = y ∧ nxt y = x
  | x, i :: r, y => prv x = i ∧ nxt i = x ∧ Seg prv nxt i r y
theorem Seg.append {prv nxt : Nat → Nat} {i y : Nat} {B : List Nat} : ∀ {x : Nat} {A : List Nat}, Seg prv nxt x (A ++ i :: B) y ↔ Seg prv nxt x A i ∧ Seg prv nxt i B y
  | x, [] => by simp [Seg, and_assoc]
  | x, a :: A => by simp [Seg, Seg.append (A := A), and_assoc]
theorem Seg.congr {prv nxt prv' nxt' : Nat → Nat} : ∀ {I : List Nat} {x y : Nat}, Seg prv nxt x I y → (∀ k ∈ x :: I, prv' k = prv k) → (∀ k ∈ y :: I, nxt' k = nxt k) → Seg prv' nxt' x I y
  | [], x, y, h, hp, hn => ⟨(hp x (by simp)).trans h.1, (hn y (by simp)).trans h.2⟩
  | i :: r, x, y, h, hp, hn => ⟨(hp x (by simp)).trans h.1, (hn i (by simp)).trans h.2.1, Seg.congr h.2.2 (fun k hk => hp k (by simp at hk ⊢; exact .inr hk)) (fun k hk => hn k (by simp at hk ⊢; rcases hk with h | h <;> simp [h]))⟩
theorem Seg.link {prv nxt prv' nxt' : Nat → Nat} {I : List Nat} {i : Nat} (h : Seg prv nxt 0 I 0) (h0 : i ≠ 0) (hi : i ∉ I) (hI : ∀ k ∈ I, k ≠ 0) (hd : I.Nodup)
    (hp : ∀ j, prv' j = if j = 0 then i else if j = i then prv 0 else prv j) (hn : ∀ j, nxt' j = if j = prv 0 then i else if j = i then 0 else nxt j) (hli : prv 0 ≠ i) : Seg prv' nxt' 0 (i :: I) 0 := by
  refine ⟨by simp [hp], by simp [hn, Ne.symm hli], ?_⟩
  cases I with
  | nil => exact ⟨by rw [hp]; simp [h0, h.1], by rw [hn]; simp [h.1]⟩
  | cons c r =>
    obtain ⟨h1, h2, h3⟩ := h
    have hc0 := hI c (by simp)
    refine ⟨by rw [hp]; simp [h0, h1], by rw [hn]; simp [h1], Seg.congr h3 ?_ ?_⟩
    · intro k hk
      have hk0 := hI k hk
      have hki : k ≠ i := fun e => hi (e ▸ hk)
      rw [hp, if_neg hk0, if_neg hki]
    · intro k hk
      have hkc : k ≠ c := by
        rcases List.mem_cons.1 hk with rfl | hk
        · exact Ne.symm hc0
        · exact fun e => (List.nodup_cons.1 hd).1 (e ▸ hk)
      have hki : k ≠ i := by
        rcases List.mem_cons.1 hk with rfl | hk
        · exact Ne.symm h0
        · exact fun e => hi (by simp [← e, hk])
      rw [hn, h1, if_neg hkc, if_neg hki]
theorem Seg.last {prv nxt : Nat → Nat} {i : Nat} : ∀ {A : List Nat} {x : Nat}, Seg prv nxt x A i → nxt i ∈ x :: A
  | [], x, h => by simp [h.2]
  | a :: A, x, h => by have := Seg.last h.2.2; simp at this ⊢; exact .inr this
theorem Seg.first {prv nxt : Nat → Nat} {i y : Nat} : ∀ {B : List Nat}, Seg prv nxt i B y → prv i ∈ y :: B
  | [], h => by simp [h.1]
  | b :: B, h => by simp [h.1]
theorem Seg.unlink {prv nxt prv' nxt' : Nat → Nat} {i : Nat} {B : List Nat} (hp : ∀ j, prv' j = if j = nxt i then prv i else prv j) (hn : ∀ j, nxt' j = if j = prv i then nxt i else nxt j) (hB : Seg prv nxt i B 0) :
    ∀ {A : List Nat} {x : Nat}, Seg prv nxt x A i → (A ++ i :: B).Nodup → (∀ k ∈ A ++ i :: B, k ≠ 0) → x ∉ A ++ i :: B → Seg prv' nxt' x (A ++ B) 0
  | [], x, h, hd, h0, hx => by
    obtain ⟨h1, h2⟩ := h
    cases B with
    | nil => exact ⟨by rw [hp, h2]; simp [hB.1], by rw [hn, hB.1]; simp [h2]⟩
    | cons c r =>
      obtain ⟨b1, b2, b3⟩ := hB
      simp at hd h0 hx
      refine ⟨by rw [hp, h2]; simp [b1], by rw [hn, b1]; simp [h2], Seg.congr b3 ?_ ?_⟩
      · intro k hk
        rw [hp, h2, if_neg]
        intro e; subst e
        simp at hk
        rcases hk with rfl | hk
        · exact hx.2.1 rfl
        · exact hx.2.2 hk
      · intro k hk
        rw [hn, b1, if_neg]
        intro e; subst e
        simp at hk
        rcases hk with rfl | hk
        · exact h0.2.1 rfl
        · exact hd.2.1 hk
  | p :: A, x, h, hd, h0, hx => by
    obtain ⟨h1, h2, h3⟩ := h
    have hd' := (List.nodup_cons.1 (show (p :: (A ++ i :: B)).Nodup from hd))
    have ih := Seg.unlink hp hn hB h3 hd'.2 (fun k hk => h0 k (by simp at hk ⊢; exact .inr hk)) hd'.1
    refine ⟨?_, ?_, ih⟩
    · rw [hp, if_neg, h1]
      intro e
      have := Seg.last h3
      rw [← e] at this
      exact hx (by simp at this ⊢; rcases this with h | h <;> simp [h])
    · rw [hn, if_neg, h2]
      intro e
      have := Seg.first hB
      rw [← e] at this
      rcases List.mem_cons.1 this with h | h
      · exact h0 p (by simp) h
      · exact hd'.1 (by simp [h])
end Go.Proofs.Ytbfnpoknamajnaa
