/- How arguments that come in are read: structs of plain fields, slices of them, strings. They speak of no function. No conditions. -/
import Derived.Test.YtbfnpoknamajnaaHeap
import Derived.ProofKit
import Derived.OpenShut
import Derived.ShutString
import Derived.ChangeOld
import Derived.Deep.Slices
import Derived.Deep.Strs
namespace Go.Proofs.Ytbfnpoknamajnaa
open Go.RowKit Go.ChangeShapes Go.WideShapes

/-- A slice value v that reads as the records L, n cells each. -/
def Sl {α : Type} (enc : α → List Value) (n : Nat) (w : World) (v : Value) (L : List α) : Prop :=
  (∃ a cap, v = .slice a 0 cap ∧ cap ≤ maxLen ∧ L = []) ∨
  ∃ b off cap, v = .slice (some ⟨b, off, none⟩) L.length cap ∧ L.length ≤ cap ∧ cap ≤ maxLen ∧
    ∀ i x, L[i]? = some x → ∀ k, k < n → w.cell? ⟨b, off + i * n + k, none⟩ = (enc x)[k]?

theorem Sl.keep {α : Type} {enc : α → List Value} {n : Nat} (hn : ∀ x, (enc x).length = n) (h0 : 0 < n) {W w w' : World} {v : Value} {L : List α} {S : List Nat}
    (h : Sl enc n w v L) (hW : Sl enc n W v L) (k : Keep S w w') (hS : ∀ b ∈ S, W.heap.size ≤ b) (hsz : W.heap.size ≤ w.heap.size) : Sl enc n w' v L := by
  rcases h with h | ⟨b, off, cap, rfl, h1, h2, h3⟩
  · exact .inl h
  · refine .inr ⟨b, off, cap, rfl, h1, h2, fun i x hx j hj => ?_⟩
    rw [← h3 i x hx j hj]
    rcases hW with ⟨_, _, hv, _, rfl⟩ | ⟨b', off', cap', hv, _, _, h3'⟩
    · simp at hx
    · cases hv
      have hc := h3' i x hx j hj
      have : j < (enc x).length := by rw [hn]; exact hj
      rw [List.getElem?_eq_getElem this] at hc
      have hlt := World.block_lt_of_cell? W _ hc
      refine k.cell (by have := hlt; simp at this; simp; omega) ?_
      intro hm
      have := hS _ hm
      simp at hlt this
      omega
theorem Sl.cell {α : Type} {enc : α → List Value} {n : Nat} {w : World} {v : Value} {L : List α} (h : Sl enc n w v L) {i : Nat} {x : α} (hi : L[i]? = some x) :
    ∃ b off cap, v = .slice (some ⟨b, off, none⟩) L.length cap ∧ L.length ≤ cap ∧ cap ≤ maxLen ∧ ∀ k, k < n → w.cell? ⟨b, off + i * n + k, none⟩ = (enc x)[k]? := by
  rcases h with ⟨_, _, _, _, rfl⟩ | ⟨b, off, cap, hv, h1, h2, h3⟩
  · simp at hi
  · exact ⟨b, off, cap, hv, h1, h2, h3 i x hi⟩
/-- the slice's shape -/
theorem Sl.shape {α : Type} {enc : α → List Value} {n : Nat} {w : World} {v : Value} {L : List α} (h : Sl enc n w v L) : ∃ a cap, v = .slice a L.length cap ∧ L.length ≤ maxLen := by
  rcases h with ⟨a, cap, hv, hc, rfl⟩ | ⟨b, off, cap, hv, h1, h2, h3⟩
  · exact ⟨a, cap, hv, Nat.zero_le _⟩
  · exact ⟨_, cap, hv, by omega⟩

/-- what a reading of one element gives -/
theorem read_slice {H : Type} {enc : TypeId × Value → H} {P : Program} {w : World} {base : Nat} {spare : Nat → Bool} {held : Bool} {α : Type} [Inhabited α] {en : α → List Value} {n : Nat} (hn : ∀ x, (en x).length = n) (h0 : 0 < n) (good : α → Prop)
    {t e : TypeId} {v : Value} {d : DataW H} {ps : List MemPlace} (ht : P.underlying t = some (.slice e)) (hc : P.cellsOf e = n)
    (one : ∀ (m : Nat) (cs : List Value) (x : DataW H × List MemPlace), DataW.trod enc P w base spare held m e cs = some x → ∃ a, cs = en a ∧ good a)
    (h : DataW.Trod enc P w base spare held t v d ps) (hv : ∃ a len cap, v = .slice a len cap) : ∃ L : List α, Sl en n w v L ∧ ∀ x ∈ L, good x := by
  obtain ⟨fuel, hf⟩ := h
  obtain ⟨a', len', cap', rfl⟩ := hv
  rcases Deep.open_slice ht hf with ⟨hcs, _⟩ | ⟨a, len, cap, m, q, D, Pl, hcs, _, hl, hm, hmm, _, hx⟩
  · simp [Value.cells] at hcs
    obtain ⟨rfl, rfl, rfl⟩ := hcs
    exact ⟨[], .inl ⟨none, 0, rfl, Nat.zero_le _, rfl⟩, by simp⟩
  · simp [Value.cells] at hcs
    obtain ⟨rfl, rfl, rfl⟩ := hcs
    have hlm : len' ≤ m := by rw [hmm]; split <;> omega
    obtain ⟨f, hfx⟩ := Deep.choose_lt (α := α) (n := len') (p := fun i y => good y ∧ ∀ k, k < n → w.cell? ((a.add (i * n)).add k) = (en y)[k]?) (fun i hi => by
      obtain ⟨cs', h1, h2⟩ := hx i (by omega)
      rw [hc] at h1
      obtain ⟨y, rfl, hg⟩ := one _ _ _ h2
      exact ⟨y, hg, (World.cells?_some h1).2.2⟩)
    by_cases hz : len' = 0
    · subst hz
      exact ⟨[], .inl ⟨_, _, rfl, hm, rfl⟩, by simp⟩
    · obtain ⟨b, off, spot⟩ := a
      have hs : spot = none := by
        have h1 := (hfx 0 (by omega)).2 0 h0
        simp only [Nat.zero_mul, Addr.add, if_true] at h1
        cases spot with
        | none => rfl
        | some s =>
          have hlt : 0 < (en (f 0)).length := by rw [hn]; exact h0
          rw [List.getElem?_eq_getElem hlt] at h1
          unfold World.cell? at h1
          split at h1 <;> simp at h1
      subst hs
      refine ⟨(List.range len').map f, .inr ⟨b, off, cap', by simp, by simpa using hl, hm, ?_⟩, ?_⟩
      · intro i x hi k hk
        simp [List.getElem?_map, List.getElem?_range] at hi
        obtain ⟨j, hj, rfl⟩ := hi
        have hj' := List.getElem?_eq_some_iff.1 hj
        obtain ⟨hlt, he⟩ := hj'
        simp at hlt he
        subst he
        have := (hfx i hlt).2 k hk
        rw [Deep.add_add] at this
        rw [← this]
        unfold Addr.add
        split
        · rename_i hzz
          rw [Nat.add_assoc, hzz]; rfl
        · simp [Nat.add_assoc]
      · intro x hx'
        simp at hx'
        obtain ⟨i, hi, rfl⟩ := hx'
        exact (hfx i hi).1

theorem take_drop_one {cs : List Value} {k : Nat} {v : Value} (h : (cs.drop k).take 1 = [v]) : cs[k]? = some v := by
  have : ((cs.drop k).take 1)[0]? = some v := by rw [h]; rfl
  simpa [List.getElem?_take, List.getElem?_drop] using this
theorem list_eq_of {l m : List Value} {n : Nat} (hl : l.length = n) (hm : m.length = n) (h : ∀ i, i < n → l[i]? = m[i]?) : l = m := by
  apply List.ext_getElem?
  intro i
  by_cases hi : i < n
  · exact h i hi
  · rw [List.getElem?_eq_none (by omega), List.getElem?_eq_none (by omega)]

section
variable {H : Type} {enc : TypeId × Value → H} {P : Program} {w : World} {base : Nat} {spare : Nat → Bool} {held : Bool}
theorem trod_fields {t : TypeId} {fs : Array Field} {fuel : Nat} {cs : List Value} {x : DataW H × List MemPlace} (ht : P.underlying t = some (.struct fs)) (h : DataW.trod enc P w base spare held fuel t cs = some x) :
    cs.length = P.cellsOf t ∧ ∃ n, ∀ (i : Nat) (f : Field), fs[i]? = some f → ∃ y, DataW.trod enc P w base spare held n f.type ((cs.drop f.offset).take (P.cellsOf f.type)) = some y := by
  obtain ⟨xs, n, _, _, hl, hlen, hf⟩ := DataW.trod_struct ht h
  refine ⟨hl, n, fun i f hi => ?_⟩
  have hlt : i < xs.length := by
    rw [hlen]
    rcases Nat.lt_or_ge i fs.size with h' | h'
    · exact h'
    · simp [Array.getElem?_eq_none h'] at hi
  exact ⟨xs[i], (hf i f hi).trans (List.getElem?_eq_getElem hlt)⟩
theorem field_int {t : TypeId} {k : IntKind} {n o : Nat} {cs : List Value} {y : DataW H × List MemPlace} (ht : P.underlying t = some (.int k)) (hc : P.cellsOf t = 1) (h : DataW.trod enc P w base spare held n t ((cs.drop o).take (P.cellsOf t)) = some y) :
    ∃ v, cs[o]? = some (.int k v) ∧ (Lit.int k v).wf = true := by
  obtain ⟨v, hv, _, hw⟩ := DataW.trod_int ht h
  rw [hc] at hv
  exact ⟨v, take_drop_one hv, hw⟩
theorem field_bool {t : TypeId} {n o : Nat} {cs : List Value} {y : DataW H × List MemPlace} (ht : P.underlying t = some .bool) (hc : P.cellsOf t = 1) (h : DataW.trod enc P w base spare held n t ((cs.drop o).take (P.cellsOf t)) = some y) :
    ∃ v, cs[o]? = some (.bool v) := by
  obtain ⟨v, hv, _⟩ := DataW.trod_bool ht h
  rw [hc] at hv
  exact ⟨v, take_drop_one hv⟩
theorem field_string {t : TypeId} {n o : Nat} {cs : List Value} {y : DataW H × List MemPlace} (ht : P.underlying t = some .string) (hc : P.cellsOf t = 1) (h : DataW.trod enc P w base spare held n t ((cs.drop o).take (P.cellsOf t)) = some y) :
    ∃ v, cs[o]? = some (.string v) ∧ v.size ≤ maxLen := by
  obtain ⟨v, hv, _, hm⟩ := DataW.trod_string ht h
  rw [hc] at hv
  exact ⟨v, take_drop_one hv, hm⟩
end
def in64 (n : Int) : Prop := -9223372036854775808 ≤ n ∧ n ≤ 9223372036854775807
theorem in64_of {n : Int} (h : (Lit.int .i64 n).wf = true) : in64 n := by simpa [in64, Lit.wf, IntKind.min, IntKind.max, IntKind.signed, IntKind.bits] using h

theorem Sl.below {α : Type} {enc : α → List Value} {n : Nat} (hn : ∀ x, (enc x).length = n) {w w' : World} {v : Value} {L : List α} (h : Sl enc n w v L) {B : Nat} (hb : Below B w w') (hB : w.heap.size ≤ B) : Sl enc n w' v L := by
  rcases h with h | ⟨b, off, cap, rfl, h1, h2, h3⟩
  · exact .inl h
  · refine .inr ⟨b, off, cap, rfl, h1, h2, fun i x hx j hj => ?_⟩
    have hc := h3 i x hx j hj
    have hlt : j < (enc x).length := by rw [hn]; exact hj
    rw [List.getElem?_eq_getElem hlt] at hc ⊢
    have := World.block_lt_of_cell? w _ hc
    exact (hb.cell (by simp at this ⊢; omega)).trans hc
theorem below_keep {B : Nat} {w a c : World} {S : List Nat} (h : Below B w a) (k : Keep S a c) (hB : B ≤ a.heap.size) (hS : ∀ s ∈ S, B ≤ s) : Below B w c :=
  h.trans ⟨k.os, k.tape, k.output, k.size, fun i hi => k.block i (by omega) (fun hm => by have := hS i hm; omega)⟩
theorem countP_set {α : Type} (f : α → Bool) : ∀ (L : List α) (p : Nat) (c c' : α), L[p]? = some c → (L.set p c').countP f + (if f c then 1 else 0) = L.countP f + (if f c' then 1 else 0)
  | [], p, c, c', h => by simp at h
  | x :: r, 0, c, c', h => by
    simp at h; subst h
    simp only [List.set_cons_zero, List.countP_cons]
    omega
  | x :: r, p + 1, c, c', h => by
    have ih := countP_set f r p c c' (by simpa using h)
    simp only [List.set_cons_succ, List.countP_cons]
    omega
theorem first_no {α : Type} (f : α → Bool) : ∀ (L : List α), L.countP f < L.length → ∃ (i : Nat) (c : α), L[i]? = some c ∧ f c = false ∧ ∀ (j : Nat) (x : α), j < i → L[j]? = some x → f x = true
  | [], h => by simp at h
  | x :: r, h => by
    cases hx : f x with
    | false => exact ⟨0, x, rfl, hx, fun j y hj => by omega⟩
    | true =>
      obtain ⟨i, c, h1, h2, h3⟩ := first_no f r (by simp [List.countP_cons, hx] at h; omega)
      refine ⟨i + 1, c, by simpa using h1, h2, ?_⟩
      intro j y hj hy
      cases j with
      | zero => simp at hy; subst hy; exact hx
      | succ j => exact h3 j y (by omega) (by simpa using hy)
theorem all_of_countP {α : Type} (f : α → Bool) (L : List α) (h : L.countP f = L.length) : ∀ c ∈ L, f c = true := by
  exact List.countP_eq_length.1 h
/-- what a conversion to uint and a remainder give -/
theorem u64_mod (n : Int) (m : Nat) (hm : 0 < m) : ∃ p : Nat, p < m ∧ (IntKind.u64.wrap n).tmod m = p := by
  have h0 : 0 ≤ IntKind.u64.wrap n := by simp [IntKind.wrap, IntKind.signed, IntKind.bits]; omega
  have h1 := Int.tmod_nonneg (m : Int) h0
  have h2 := Int.tmod_lt_of_pos (IntKind.u64.wrap n) (show (0 : Int) < m by omega)
  obtain ⟨p, hp⟩ := Int.eq_ofNat_of_zero_le h1
  exact ⟨p, by omega, hp⟩
end Go.Proofs.Ytbfnpoknamajnaa
