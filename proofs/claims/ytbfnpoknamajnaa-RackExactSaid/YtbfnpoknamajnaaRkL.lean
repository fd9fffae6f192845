/- Layer 21: the ring as a list of jars. Plain laws; no program. No conditions. -/
import Derived.Test.YtbfnpoknamajnaaRkP
namespace Go.Proofs.Ytbfnpoknamajnaa
open Go.RowKit Go.Maps

def okJar (j : Jar) : Prop := j.typ.length ≤ 100 ∧ 0 ≤ j.size ∧ j.size ≤ 1048576 ∧ 0 ≤ j.pins ∧ j.pins ≤ 1073741824
/-- the ring, the free places, the map -/
structure Ring (P : List Place) (I F : List Nat) (M : Dig → Nat) : Prop where
  len : P.length = 65
  seg : Seg (prvF P) (nxtF P) 0 I 0
  perm : (I ++ F).Perm (List.range' 1 64)
  m1 : ∀ d, M d ≠ 0 → M d ∈ I ∧ (jarF P (M d)).dig = d
  m2 : ∀ i ∈ I, M (jarF P i).dig = i
section
variable {P : List Place} {I F : List Nat} {M : Dig → Nat}
theorem Ring.nodup (h : Ring P I F M) : (I ++ F).Nodup := h.perm.symm.nodup (List.nodup_range')
theorem Ring.bound (h : Ring P I F M) {k : Nat} (hk : k ∈ I ++ F) : 1 ≤ k ∧ k < 65 := by
  have := h.perm.mem_iff.1 hk
  simp [List.mem_range'] at this
  omega
theorem Ring.count (h : Ring P I F M) : I.length + F.length = 64 := by
  have := h.perm.length_eq
  simpa using this
theorem Ring.ib (h : Ring P I F M) {k : Nat} (hk : k ∈ I) : 1 ≤ k ∧ k < 65 := h.bound (List.mem_append_left _ hk)
theorem Ring.at0 (h : Ring P I F M) {d : Dig} (hd : M d ≠ 0) : M d < 65 := (h.ib (h.m1 d hd).1).2
theorem mem_split {α : Type} {a : α} {l : List α} (h : a ∈ l) : ∃ s t, l = s ++ a :: t := List.append_of_mem h
theorem Ring.prv0 (h : Ring P I F M) : prvF P 0 < 65 := by
  have := Seg.first h.seg
  rcases List.mem_cons.1 this with e | e
  · omega
  · exact (h.ib e).2
theorem Ring.two (h : Ring P I F M) {i : Nat} (hi : i ∈ I) : nxtF P i < 65 ∧ prvF P i < 65 ∧ prvF P i ≠ i := by
  obtain ⟨A, B, rfl⟩ := mem_split hi
  have hs := Seg.append.1 h.seg
  have h1 := Seg.last hs.1
  have h2 := Seg.first hs.2
  have hn := (List.nodup_append.1 h.nodup).1
  refine ⟨?_, ?_, ?_⟩
  · rcases List.mem_cons.1 h1 with e | e
    · omega
    · exact (h.ib (by simp [e])).2
  · rcases List.mem_cons.1 h2 with e | e
    · omega
    · exact (h.ib (by simp [e])).2
  · rcases List.mem_cons.1 h2 with e | e
    · have := (h.ib hi).1; omega
    · intro e'
      rw [e'] at e
      have := (List.nodup_append.1 hn).2.1
      exact (List.nodup_cons.1 this).1 e
theorem filter_mid {A B : List Nat} {i : Nat} (h : (A ++ i :: B).Nodup) : (A ++ i :: B).filter (fun k => !decide (k = i)) = A ++ B := by
  have hA : ∀ k ∈ A, k ≠ i := fun k hk e => by
    subst e
    exact (List.nodup_append.1 h).2.2 k hk k (by simp) rfl
  have hB : ∀ k ∈ B, k ≠ i := fun k hk e => by
    subst e
    exact (List.nodup_cons.1 (List.nodup_append.1 h).2.1).1 hk
  rw [List.filter_append, List.filter_cons_of_neg (by simp), List.filter_eq_self.2 (fun k hk => by simp [hA k hk]), List.filter_eq_self.2 (fun k hk => by simp [hB k hk])]
/-- the jar of a digest -/
def findL (L : List Jar) (d : Dig) : Option Jar := L.find? fun x => decide (x.dig = d)
def restL (L : List Jar) (d : Dig) : List Jar := L.filter fun x => !decide (x.dig = d)
def pinsL (L : List Jar) (d : Dig) (n : Int) : List Jar := L.map fun x => if x.dig = d then { x with pins := n } else x
theorem Ring.find_no (h : Ring P I F M) {d : Dig} (hd : M d = 0) : findL (I.map (jarF P)) d = none := by
  unfold findL
  rw [List.find?_eq_none]
  intro x hx
  obtain ⟨i, hi, rfl⟩ := List.mem_map.1 hx
  simp only [decide_eq_true_eq]
  intro e
  have := h.m2 i hi
  rw [e, hd] at this
  have := (h.ib hi).1
  omega
theorem Ring.find_yes (h : Ring P I F M) {d : Dig} (hd : M d ≠ 0) : findL (I.map (jarF P)) d = some (jarF P (M d)) := by
  unfold findL
  obtain ⟨hm, hdg⟩ := h.m1 d hd
  cases hf : (I.map (jarF P)).find? (fun x => decide (x.dig = d)) with
  | none =>
    rw [List.find?_eq_none] at hf
    exact absurd (by simpa using hdg) (hf _ (List.mem_map.2 ⟨_, hm, rfl⟩))
  | some x =>
    have h1 := List.find?_some hf
    obtain ⟨i, hi, rfl⟩ := List.mem_map.1 (List.mem_of_find?_eq_some hf)
    simp only [decide_eq_true_eq] at h1
    have := h.m2 i hi
    rw [h1] at this
    rw [this]
theorem Ring.rest (h : Ring P I F M) {d : Dig} (hd : M d ≠ 0) : (I.filter (fun k => !decide (k = M d))).map (jarF P) = restL (I.map (jarF P)) d := by
  unfold restL
  rw [List.filter_map]
  congr 1
  apply List.filter_congr
  intro k hk
  have h1 := h.m2 k hk
  simp only [Function.comp_apply]
  congr 1
  rw [decide_eq_decide]
  constructor
  · rintro rfl; exact (h.m1 d hd).2
  · intro e; rw [← e, h1]
theorem Ring.digs (h : Ring P I F M) : ((I.map (jarF P)).map (·.dig)).Nodup := by
  rw [List.map_map]
  have hI := (List.nodup_append.1 h.nodup).1
  have : ∀ J : List Nat, J.Nodup → (∀ k ∈ J, k ∈ I) → (J.map ((·.dig) ∘ jarF P)).Nodup := by
    intro J
    induction J with
    | nil => intros; simp
    | cons a J ih =>
      intro hJ hs
      rw [List.map_cons, List.nodup_cons]
      refine ⟨?_, ih (List.nodup_cons.1 hJ).2 (fun k hk => hs k (by simp [hk]))⟩
      intro hm
      obtain ⟨k, hk, e⟩ := List.mem_map.1 hm
      have h1 := h.m2 k (hs k (by simp [hk]))
      have h2 := h.m2 a (hs a (by simp))
      simp only [Function.comp_apply] at e
      rw [e, h2] at h1
      exact (List.nodup_cons.1 hJ).1 (h1 ▸ hk)
  exact this I hI (fun _ h => h)
theorem map_congr' {α β : Type} {f g : α → β} {l : List α} (h : ∀ x ∈ l, f x = g x) : l.map f = l.map g := List.map_congr_left h
theorem jar_set {k : Nat} (j : Jar) (hk : k < P.length) (x : Nat) : jarF (P.set k { P.getD k default with jar := j }) x = if x = k then j else jarF P x := by
  unfold jarF
  rw [getD_set _ hk]
  split <;> rfl
theorem jset_prv {k : Nat} (j : Jar) (hk : k < P.length) (x : Nat) : prvF (P.set k { P.getD k default with jar := j }) x = prvF P x := by
  unfold prvF
  rw [getD_set _ hk]
  split
  · rename_i h; subst h; rfl
  · rfl
theorem jset_nxt {k : Nat} (j : Jar) (hk : k < P.length) (x : Nat) : nxtF (P.set k { P.getD k default with jar := j }) x = nxtF P x := by
  unfold nxtF
  rw [getD_set _ hk]
  split
  · rename_i h; subst h; rfl
  · rfl
theorem Ring.put {i : Nat} (h : Ring P I (F ++ [i]) M) (j : Jar) (hd : M j.dig = 0) :
    Ring (linkP (P.set i { P.getD i default with jar := j }) i) (i :: I) F (fun d => if d = j.dig then i else M d) ∧ (i :: I).map (jarF (linkP (P.set i { P.getD i default with jar := j }) i)) = j :: I.map (jarF P) := by
  have hb := h.bound (k := i) (by simp)
  have hi : i < P.length := by have := h.len; omega
  obtain ⟨P1, hP1⟩ : ∃ P1, P1 = P.set i { P.getD i default with jar := j } := ⟨_, rfl⟩
  have hl1 : P1.length = 65 := by rw [hP1]; simpa using h.len
  have p1 : ∀ x, prvF P1 x = prvF P x := fun x => by rw [hP1]; exact jset_prv j hi x
  have n1 : ∀ x, nxtF P1 x = nxtF P x := fun x => by rw [hP1]; exact jset_nxt j hi x
  have j1 : ∀ x, jarF P1 x = if x = i then j else jarF P x := fun x => by rw [hP1]; exact jar_set j hi x
  rw [← hP1]
  have hprv := h.prv0
  have hnI : i ∉ I := fun hm => (List.nodup_append.1 h.nodup).2.2 i hm i (by simp) rfl
  have hI0 : ∀ k ∈ I, k ≠ 0 := fun k hk => by have := (h.ib hk).1; omega
  have a1 : i < P1.length := by omega
  have a2 : 0 < P1.length := by omega
  have a3 : prvF P1 0 < P1.length := by rw [p1]; omega
  have hli : prvF P1 0 ≠ i := by
    rw [p1]
    have := Seg.first h.seg
    rcases List.mem_cons.1 this with e | e
    · omega
    · exact fun e' => hnI (e' ▸ e)
  have hseg : Seg (prvF P1) (nxtF P1) 0 I 0 := h.seg.congr (fun k _ => p1 k) (fun k _ => n1 k)
  have jj : ∀ x, jarF (linkP P1 i) x = if x = i then j else jarF P x := fun x => by rw [link_jar a1 a2 a3, j1]
  have jI : ∀ k ∈ I, jarF (linkP P1 i) k = jarF P k := fun k hk => by
    rw [jj, if_neg]
    exact fun e => hnI (e ▸ hk)
  have hdI : ∀ k ∈ I, (jarF P k).dig ≠ j.dig := fun k hk e => by
    have := h.m2 k hk
    rw [e, hd] at this
    exact hI0 k hk this.symm
  refine ⟨⟨by rw [linkP_length]; exact hl1, hseg.link (by omega) hnI hI0 (List.nodup_append.1 h.nodup).1 (link_prv a1 a2 a3) (link_nxt a1 a2 a3) hli, ?_, ?_, ?_⟩, ?_⟩
  · refine List.Perm.trans ?_ h.perm
    rw [← List.append_assoc]
    exact (List.perm_append_comm (l₁ := [i]) (l₂ := I ++ F))
  · intro d hd'
    by_cases e : d = j.dig
    · rw [if_pos e, jj, if_pos rfl]
      exact ⟨by simp, e.symm⟩
    · rw [if_neg e] at hd' ⊢
      have := h.m1 d hd'
      rw [jI _ this.1]
      exact ⟨by simp [this.1], this.2⟩
  · intro k hk
    rcases List.mem_cons.1 hk with rfl | hk
    · rw [jj, if_pos rfl, if_pos rfl]
    · rw [jI k hk, if_neg (hdI k hk)]
      exact h.m2 k hk
  · rw [List.map_cons, jj, if_pos rfl, map_congr' jI]
theorem Ring.unlink (h : Ring P I F M) {d : Dig} (hd : M d ≠ 0) :
    Seg (prvF (unlinkP P (M d))) (nxtF (unlinkP P (M d))) 0 (I.filter (fun k => !decide (k = M d))) 0 ∧ (∀ x, jarF (unlinkP P (M d)) x = jarF P x) ∧ (unlinkP P (M d)).length = 65 ∧ (M d :: I.filter (fun k => !decide (k = M d))).Perm I := by
  obtain ⟨hm, hdg⟩ := h.m1 d hd
  generalize M d = i at *
  have ht := h.two hm
  obtain ⟨A, B, rfl⟩ := mem_split hm
  have hn := (List.nodup_append.1 h.nodup).1
  have hl := h.len
  have hs := Seg.append.1 h.seg
  have n1 : nxtF P i < P.length := by omega
  have n2 : prvF P i < P.length := by omega
  rw [filter_mid hn]
  refine ⟨Seg.unlink (unlink_prv n1 n2) (unlink_nxt n1 n2) hs.2 hs.1 hn (fun k hk => by have := (h.ib hk).1; omega) (fun hk => by have := (h.ib hk).1; omega), unlink_jar n1 n2, by rw [unlinkP_length]; exact hl, ?_⟩
  exact List.perm_middle.symm
theorem Ring.drop (h : Ring P I F M) {d : Dig} (hd : M d ≠ 0) :
    Ring (unlinkP P (M d)) (I.filter (fun k => !decide (k = M d))) (F ++ [M d]) (fun e => if e = d then 0 else M e) ∧ (I.filter (fun k => !decide (k = M d))).map (jarF (unlinkP P (M d))) = restL (I.map (jarF P)) d := by
  obtain ⟨h1, h2, h3, h4⟩ := h.unlink hd
  refine ⟨⟨h3, h1, ?_, ?_, ?_⟩, ?_⟩
  · refine List.Perm.trans ?_ h.perm
    refine List.Perm.trans ?_ (List.Perm.append_right F h4)
    rw [← List.append_assoc]
    exact (List.perm_append_comm (l₁ := [M d]) (l₂ := _ ++ F)).symm
  · intro e he
    by_cases e1 : e = d
    · rw [if_pos e1] at he; exact absurd rfl he
    · rw [if_neg e1] at he ⊢
      have := h.m1 e he
      rw [h2]
      refine ⟨List.mem_filter.2 ⟨this.1, ?_⟩, this.2⟩
      simp only [Bool.not_eq_true', decide_eq_false_iff_not]
      intro e2
      have h5 := h.m1 d hd
      rw [← e2, this.2] at h5
      exact e1 h5.2
  · intro k hk
    obtain ⟨hk1, hk2⟩ := List.mem_filter.1 hk
    rw [h2]
    have := h.m2 k hk1
    simp only [Bool.not_eq_true', decide_eq_false_iff_not] at hk2
    rw [if_neg]
    · exact this
    · intro e; rw [e] at this; exact hk2 this.symm
  · rw [map_congr' (fun k _ => h2 k)]
    exact h.rest hd
theorem Ring.touch (h : Ring P I F M) {d : Dig} (hd : M d ≠ 0) :
    Ring (linkP (unlinkP P (M d)) (M d)) (M d :: I.filter (fun k => !decide (k = M d))) F M ∧ (M d :: I.filter (fun k => !decide (k = M d))).map (jarF (linkP (unlinkP P (M d)) (M d))) = jarF P (M d) :: restL (I.map (jarF P)) d ∧ (prvF (unlinkP P (M d)) 0 < 65) := by
  obtain ⟨h1, h2, h3, h4⟩ := h.unlink hd
  have hr := h.rest hd
  have hm := h.m1 d hd
  have hbi := h.ib hm.1
  have hin : M d ∉ I.filter (fun k => !decide (k = M d)) := by simp
  have hI0 : ∀ k ∈ I.filter (fun k => !decide (k = M d)), k ≠ 0 := fun k hk => by have := (h.ib (List.mem_filter.1 hk).1).1; omega
  have hpp : prvF (unlinkP P (M d)) 0 = 0 ∨ prvF (unlinkP P (M d)) 0 ∈ I.filter (fun k => !decide (k = M d)) := List.mem_cons.1 (Seg.first h1)
  have hp : prvF (unlinkP P (M d)) 0 < 65 := by
    rcases hpp with e | e
    · omega
    · exact (h.ib (List.mem_filter.1 e).1).2
  have hli : prvF (unlinkP P (M d)) 0 ≠ M d := by
    rcases hpp with e | e
    · omega
    · intro e'
      rw [e'] at e
      exact hin e
  have a1 : M d < (unlinkP P (M d)).length := by omega
  have a2 : 0 < (unlinkP P (M d)).length := by omega
  have a3 : prvF (unlinkP P (M d)) 0 < (unlinkP P (M d)).length := by omega
  have jj : ∀ x, jarF (linkP (unlinkP P (M d)) (M d)) x = jarF P x := fun x => by rw [link_jar a1 a2 a3, h2]
  refine ⟨⟨by rw [linkP_length]; exact h3, h1.link (by omega) hin hI0 ((List.nodup_append.1 h.nodup).1.filter _) (link_prv a1 a2 a3) (link_nxt a1 a2 a3) hli, ?_, ?_, ?_⟩, ?_, hp⟩
  · exact List.Perm.trans (List.Perm.append_right F h4) h.perm
  · intro e he
    have := h.m1 e he
    rw [jj]
    exact ⟨h4.mem_iff.2 this.1, this.2⟩
  · intro k hk
    rw [jj]
    exact h.m2 k (h4.mem_iff.1 hk)
  · rw [List.map_cons, jj, map_congr' (fun k _ => jj k), hr]
theorem Ring.pins (h : Ring P I F M) {d : Dig} (hd : M d ≠ 0) (n : Int) :
    Ring (P.set (M d) { P.getD (M d) default with jar := { jarF P (M d) with pins := n } }) I F M ∧ I.map (jarF (P.set (M d) { P.getD (M d) default with jar := { jarF P (M d) with pins := n } })) = pinsL (I.map (jarF P)) d n := by
  have hm := h.m1 d hd
  have hb := h.ib hm.1
  have hl := h.len
  have hi : M d < P.length := by omega
  have jj := fun x => jar_set (P := P) { jarF P (M d) with pins := n } hi x
  have dd : ∀ x, (jarF (P.set (M d) { P.getD (M d) default with jar := { jarF P (M d) with pins := n } }) x).dig = (jarF P x).dig := fun x => by
    rw [jj]
    split
    · rename_i e; rw [e]
    · rfl
  refine ⟨⟨by simpa using hl, h.seg.congr (fun k _ => jset_prv _ hi k) (fun k _ => jset_nxt _ hi k), h.perm, ?_, ?_⟩, ?_⟩
  · intro e he
    rw [dd]
    exact h.m1 e he
  · intro k hk
    rw [dd]
    exact h.m2 k hk
  · unfold pinsL
    rw [List.map_map]
    apply map_congr'
    intro k hk
    rw [jj]
    simp only [Function.comp_apply]
    by_cases e : k = M d
    · rw [if_pos e, e, if_pos hm.2]
    · rw [if_neg e, if_neg]
      intro e2
      have := h.m2 k hk
      rw [e2] at this
      exact e this.symm
/-- how many bytes; how many of those in use -/
def sumL (L : List Jar) : Int := (L.map (·.size)).sum
def usedL (L : List Jar) : Int := (L.map fun x => if x.pins > 0 then x.size else 0).sum
end
end Go.Proofs.Ytbfnpoknamajnaa
