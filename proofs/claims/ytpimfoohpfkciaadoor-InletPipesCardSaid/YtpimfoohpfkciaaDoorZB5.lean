/- Parts of the proof, in order. No conditions but those that each theorem states. -/
import Derived.Test.YtpimfoohpfkciaaDoorZB4
/- What the row's own reach says of what is read: each string's length. No conditions. -/
namespace Go.Proofs.YtpimfoohpfkciaaDoor
open Go.ChangeShapes Go.WideShapes Go.ChangeAt Go.RowKit

/-- all that lies in a datum takes no more than the reach -/
def Fits {H : Type} (P : Program) (t : TypeId) (d : DataW H) : Prop := (d.weights P t).all (fun k => decide (k ≤ reachBytes)) = true
theorem fits_each {H : Type} {P : Program} : ∀ {ts : List TypeId} {ds : List (DataW H)}, (DataW.weightsEach P ts ds).all (fun k => decide (k ≤ reachBytes)) = true → ∀ (j : Nat) (t : TypeId) (d : DataW H), ts[j]? = some t → ds[j]? = some d → Fits P t d
  | [], _, _, _, _, _, h, _ => by simp at h
  | _ :: _, [], _, _, _, _, _, h => by simp at h
  | t :: ts, d :: ds, h, j, t', d', h1, h2 => by
    rw [DataW.weightsEach, List.all_append, Bool.and_eq_true] at h
    cases j with
    | zero =>
      simp at h1 h2
      subst h1 h2
      exact h.1
    | succ j => exact fits_each h.2 j t' d' (by simpa using h1) (by simpa using h2)
theorem fits_all {H : Type} {P : Program} {e : TypeId} : ∀ {ds : List (DataW H)}, (DataW.weightsAll P e ds).all (fun k => decide (k ≤ reachBytes)) = true → ∀ d ∈ ds, Fits P e d
  | [], _, _, h => by cases h
  | d :: ds, h, x, hx => by
    rw [DataW.weightsAll, List.all_append, Bool.and_eq_true] at h
    rcases List.mem_cons.1 hx with rfl | hx
    · exact h.1
    · exact fits_all h.2 x hx
theorem fits_slice {H : Type} {P : Program} {t e : TypeId} {es rs : List (DataW H)} (ht : P.underlying t = some (.slice e)) (h : Fits P t (.slice es rs)) : ∀ d ∈ es, Fits P e d := by
  unfold Fits at h
  rw [DataW.weights, ht] at h
  simp only [List.all_cons, List.all_append, Bool.and_eq_true] at h
  exact fits_all h.2.1
theorem fits_string {H : Type} {P : Program} {t : TypeId} {l : List UInt8} (h : Fits (H := H) P t (.lit (.string l))) : l.length ≤ 140737488351232 := by
  unfold Fits at h
  rw [DataW.weights] at h
  simp only [List.all_cons, List.all_nil, Bool.and_true, decide_eq_true_eq] at h
  unfold reachBytes at h
  omega
/-- a slice that came in, its elements within the reach -/
theorem read_sliceW {H : Type} {enc : TypeId × Value → H} {P : Program} {w : World} {base : Nat} {spare : Nat → Bool} {held : Bool} {α : Type} [Inhabited α] {en : α → List Value} {n : Nat} (hn : ∀ x, (en x).length = n) (h0 : 0 < n) (good : α → Prop)
    {t e : TypeId} {v : Value} {d : DataW H} {ps : List MemPlace} (ht : P.underlying t = some (.slice e)) (hc : P.cellsOf e = n) (hfit : Fits P t d)
    (one : ∀ (m : Nat) (cs : List Value) (x : DataW H × List MemPlace), DataW.trod enc P w base spare held m e cs = some x → Fits P e x.1 → ∃ a, cs = en a ∧ good a)
    (h : DataW.Trod enc P w base spare held t v d ps) (hv : ∃ a len cap, v = .slice a len cap) : ∃ L : List α, Sl en n w v L ∧ ∀ x ∈ L, good x := by
  obtain ⟨fuel, hf⟩ := h
  obtain ⟨a', len', cap', rfl⟩ := hv
  rcases Deep.open_slice ht hf with ⟨hcs, _⟩ | ⟨a, len, cap, m, q, D, Pl, hcs, _, hl, hm, hmm, hdx, hx⟩
  · simp [Value.cells] at hcs
    obtain ⟨rfl, rfl, rfl⟩ := hcs
    exact ⟨[], .inl ⟨Option.none, 0, rfl, Nat.zero_le _, rfl⟩, by simp⟩
  · simp [Value.cells] at hcs
    obtain ⟨rfl, rfl, rfl⟩ := hcs
    have hlm : len' ≤ m := by rw [hmm]; split <;> omega
    have hd : d = .slice ((List.range len').map D) ((List.range (m - len')).map fun j => D (len' + j)) := by
      have := congrArg Prod.fst hdx
      exact this
    rw [hd] at hfit
    have hfe := fits_slice ht hfit
    obtain ⟨f, hfx⟩ := Deep.choose_lt (α := α) (n := len') (p := fun i y => good y ∧ ∀ k, k < n → w.cell? ((a.add (i * n)).add k) = (en y)[k]?) (fun i hi => by
      obtain ⟨cs', h1, h2⟩ := hx i (by omega)
      rw [hc] at h1
      obtain ⟨y, rfl, hg⟩ := one _ _ _ h2 (hfe (D i) (List.mem_map.2 ⟨i, List.mem_range.2 hi, rfl⟩))
      exact ⟨y, hg, (World.cells?_some h1).2.2⟩)
    by_cases hz : len' = 0
    · subst hz
      exact ⟨[], .inl ⟨_, _, rfl, hm, rfl⟩, by simp⟩
    · obtain ⟨b, off, spot⟩ := a
      have hs : spot = Option.none := by
        have h1 := (hfx 0 (by omega)).2 0 h0
        simp only [Nat.zero_mul, Addr.add, if_true] at h1
        cases spot with
        | none => rfl
        | some s =>
          have hlt : 0 < (en (f 0)).length := by rw [hn]; exact h0
          rw [List.getElem?_eq_getElem hlt] at h1
          unfold World.cell? at h1
          split at h1 <;> simp at h1
      subst hs
      refine ⟨(List.range len').map f, .inr ⟨b, off, cap', by simp, by simpa using hl, hm, ?_⟩, ?_⟩
      · intro i x hi k hk
        simp [List.getElem?_map] at hi
        obtain ⟨j, hj, rfl⟩ := hi
        have hj' := List.getElem?_eq_some_iff.1 hj
        obtain ⟨hlt, he⟩ := hj'
        simp at hlt he
        subst he
        have := (hfx i hlt).2 k hk
        rw [Deep.add_add] at this
        rw [← this]
        unfold Addr.add
        split
        · rename_i hzz
          rw [Nat.add_assoc, hzz]; rfl
        · simp [Nat.add_assoc]
      · intro x hx'
        simp at hx'
        obtain ⟨i, hi, rfl⟩ := hx'
        exact (hfx i hi).1
def Fld.near (f : Fld) : Prop := f.name.length ≤ 140737488351232 ∧ f.value.length ≤ 140737488351232
set_option maxRecDepth 100000 in
theorem read_fldW {H : Type} {enc : TypeId × Value → H} {w : World} {base : Nat} {spare : Nat → Bool} {held : Bool} (m : Nat) (cs : List Value) (x : DataW H × List MemPlace)
    (h : DataW.trod enc Tryd.prog w base spare held m 44 cs = some x) (hf : Fits Tryd.prog 44 x.1) : ∃ a : Fld, cs = a.cells ∧ a.near := by
  obtain ⟨a, h1, _⟩ := read_fld m cs x h
  refine ⟨a, h1, ?_⟩
  obtain ⟨xs, n, _, rfl, hl, hlen, hx⟩ := DataW.trod_struct Tryd.underlying44 h
  have hx0 := hx 0 _ rfl
  have hx1 := hx 1 _ rfl
  have hw : (DataW.weightsEach Tryd.prog [9, 9] (xs.map (·.1))).all (fun k => decide (k ≤ reachBytes)) = true := by
    unfold Fits at hf
    dsimp only at hf
    rw [DataW.weights, Tryd.underlying44] at hf
    exact hf
  have hl2 : xs.length = 2 := hlen
  obtain ⟨y0, e0⟩ : ∃ y, xs[0]? = some y := ⟨_, List.getElem?_eq_getElem (by omega)⟩
  obtain ⟨y1, e1⟩ : ∃ y, xs[1]? = some y := ⟨_, List.getElem?_eq_getElem (by omega)⟩
  rw [e0] at hx0
  rw [e1] at hx1
  obtain ⟨s0, c0, d0, _⟩ := DataW.trod_string Tryd.underlying9 hx0
  obtain ⟨s1, c1, d1, _⟩ := DataW.trod_string Tryd.underlying9 hx1
  have f0 := fits_each hw 0 9 y0.1 rfl (by rw [List.getElem?_map, e0]; rfl)
  have f1 := fits_each hw 1 9 y1.1 rfl (by rw [List.getElem?_map, e1]; rfl)
  rw [d0] at f0
  rw [d1] at f1
  have g0 := fits_string f0
  have g1 := fits_string f1
  rw [h1] at c0 c1
  have k0 : Value.string (S a.name) = .string s0 := by
    have := take_drop_one c0
    simpa [Fld.cells] using this
  have k1 : Value.string (S a.value) = .string s1 := by
    have := take_drop_one c1
    simpa [Fld.cells] using this
  have m0 : S a.name = s0 := by injection k0
  have m1 : S a.value = s1 := by injection k1
  refine ⟨?_, ?_⟩
  · rw [← m0] at g0
    have e : (S a.name).data.toList = a.name := S_list a.name
    rw [e] at g0
    exact g0
  · rw [← m1] at g1
    have e : (S a.value).data.toList = a.value := S_list a.value
    rw [e] at g1
    exact g1
end Go.Proofs.YtpimfoohpfkciaaDoor
