/- Short names. No conditions but those that each theorem states. -/
import Derived.Deep.RegionHeld
import Derived.Deep.MidRow
import Derived.Deep.RegionHeld3
import Derived.KernelRfl
namespace Go.Proofs.YtkghgaopcgcheaaGreatDoor
theorem sqA {α : Type _} (l : List α) (i : Nat) (a : α) : l.toArray.setIfInBounds i a = (l.set i a).toArray := List.setIfInBounds_toArray l i a
theorem sqB {α : Type _} {x : α} {xs : List α} {i : Nat} {a : α} : (x :: xs).set (i + 1) a = x :: xs.set i a := rfl
theorem sq : (∀ (v : Value) (a : Act), a.put none v = a) ∧ (∀ (i : Nat) (v : Value) (t : Array Value) (d), Act.put ⟨t, d⟩ (some i) v = ⟨t.setIfInBounds i v, d⟩) ∧ (∀ (l : List Value) (i : Nat) (a : Value), l.toArray.setIfInBounds i a = (l.set i a).toArray) ∧ (∀ (x : Value) (xs : List Value) (i : Nat) (a : Value), (x :: xs).set (i + 1) a = x :: xs.set i a) ∧ ∀ (x : Value) (xs : List Value) (a : Value), (x :: xs).set 0 a = a :: xs := ⟨fun _ _ => rfl, fun _ _ _ _ => rfl, fun l i a => List.setIfInBounds_toArray l i a, fun _ _ _ _ => rfl, fun _ _ _ => rfl⟩
theorem sqC {α : Type _} {x : α} {xs : List α} {a : α} : (x :: xs).set 0 a = a :: xs := rfl
section
variable {P : Program} {ops : Array Oper} {Q : Exit → Act → World → Prop} {r : List Oper} {A : Act} {w : World} {t y : TypeId} {p : String} {a : Array Edge} {g : Option (Nat × Bool)} {o o' : Operand} {m : Nat} {c : Array (Nat × Operand)} {d : Option Tmp}
theorem gL (i j : Nat) (h : wpList P ops Q (⟨some i, .load t (.tmp j), y, p, a, g⟩ :: r) A w) : wpList P ops Q (⟨some i, .load t (.tmp j), y, p, a, g⟩ :: r) A w := h
theorem gM (j : Nat) (h : wpList P ops Q (⟨d, .load t (.tmp j), y, p, a, none⟩ :: r) A w) : wpList P ops Q (⟨d, .load t (.tmp j), y, p, a, none⟩ :: r) A w := h
theorem gS (i j : Nat) (h : wpList P ops Q (⟨none, .store t (.tmp i) (.tmp j), y, p, a, none⟩ :: r) A w) : wpList P ops Q (⟨none, .store t (.tmp i) (.tmp j), y, p, a, none⟩ :: r) A w := h
theorem gT (i : Nat) (h : wpList P ops Q (⟨none, .store t (.tmp i) o, y, p, a, none⟩ :: r) A w) : wpList P ops Q (⟨none, .store t (.tmp i) o, y, p, a, none⟩ :: r) A w := h
theorem gX (i : Nat) (h : wpList P ops Q (⟨some i, .box t o, y, p, a, none⟩ :: r) A w) : wpList P ops Q (⟨some i, .box t o, y, p, a, none⟩ :: r) A w := h
theorem gA (i : Nat) (h : wpList P ops Q (⟨some i, .alloc t, y, p, a, none⟩ :: r) A w) : wpList P ops Q (⟨some i, .alloc t, y, p, a, none⟩ :: r) A w := h
theorem gB (i : Nat) (h : wpList P ops Q (⟨some i, .build t c, y, p, a, g⟩ :: r) A w) : wpList P ops Q (⟨some i, .build t c, y, p, a, g⟩ :: r) A w := h
theorem gU {md : Region.Mode} {S : World → Prop} (i : Nat) {oi : Oper} {v : Value} {fuel : Nat} {listed : Array Bool} (hi : ops[i]? = some oi) (hy : YieldsIf P ops S oi v A) (hS : S w)
    (h : wpAnyH P md ops Q S fuel (listed.setIfInBounds i true) (A.put oi.dst v) w) (hs : Region.noSelect ops = true := by kernel_rfl) (hf : Region.free md ops listed i = true := by kernel_rfl) (hr : (Region.ready md ops listed).contains i = true := by kernel_rfl)
    (hQ : ∀ c a w, Q (.panic c) (a.put oi.dst v) w → Q (.panic c) a w := by exact fun _ _ _ h => h) : wpAnyH P md ops Q S (fuel + 1) listed A w := wpAnyH_take hi hs hf hr hQ hy hS h
theorem gR {md : Region.Mode} {S : World → Prop} (i : Nat) {o : Oper} {fuel : Nat} {listed : Array Bool} (ho : ops[i]? = some o)
    (h : ∀ K' : Act → World → Prop, Shut (∀ a w, S w → (S w → wpAnyH P md ops Q S fuel (listed.setIfInBounds i true) a w) → K' a w) → if Region.wanted o (yielded ops A.tmps) = true then Oper.wp P o A w K' Q else K' (A.put o.dst undef) w)
    (hr : Region.ready md ops listed = [i] := by kernel_rfl) : wpAnyH P md ops Q S (fuel + 1) listed A w := wpAnyH_ready hr (by simp) (AllReadyH.cons ho h AllReadyH.nil)
theorem gW {md : Region.Mode} {S : World → Prop} (i : Nat) {oi : Oper} {l : List Oper} {v : Value} {fuel : Nat} {listed : Array Bool} (h : wpAnyH P md ops Q S fuel (listed.setIfInBounds i true) (A.put oi.dst v) w)
    (hi : ops.toList.drop i = oi :: l := by rfl) (hs : Region.noSelect ops = true := by kernel_rfl) (hf : Region.free md ops listed i = true := by kernel_rfl) (hr : (Region.ready md ops listed).contains i = true := by kernel_rfl)
    (hQ : ∀ c a w, Q (.panic c) (a.put oi.dst v) w → Q (.panic c) a w := by exact fun _ _ _ h => h) (hy : YieldsIf P ops S oi v A := by (refine Or.inl ⟨by rfl, ?_⟩; (intro w' hSw; go_simp) <;> (with_reducible rfl))) (hS : S w := by assumption) : wpAnyH P md ops Q S (fuel + 1) listed A w :=
  wpAnyH_take (by rw [← Array.getElem?_toList]; have := congrArg (fun x => x[0]?) hi; simpa [List.getElem?_drop] using this) hs hf hr hQ hy hS h
theorem gV {md : Region.Mode} {S : World → Prop} (i : Nat) {oi : Oper} {l : List Oper} {v : Value} {fuel : Nat} {listed : Array Bool} (hy : ∀ w, S w → (execOp A.eval oi).run P w = .ok (.value v) w) (h : wpAnyH P md ops Q S fuel (listed.setIfInBounds i true) (A.put oi.dst v) w)
    (hi : ops.toList.drop i = oi :: l := by rfl) (hs : Region.noSelect ops = true := by kernel_rfl) (hf : Region.free md ops listed i = true := by kernel_rfl) (hr : (Region.ready md ops listed).contains i = true := by kernel_rfl)
    (hQ : ∀ c a w, Q (.panic c) (a.put oi.dst v) w → Q (.panic c) a w := by exact fun _ _ _ h => h) (hw : Region.wanted oi (yielded ops A.tmps) = true := by rfl) (hS : S w := by assumption) : wpAnyH P md ops Q S (fuel + 1) listed A w := gW i h hi hs hf hr hQ (Or.inl ⟨hw, hy⟩) hS
theorem gN {md : Region.Mode} {S : World → Prop} (i : Nat) {oi : Oper} {l : List Oper} {fuel : Nat} {listed : Array Bool} (h : wpAnyH P md ops Q S fuel (listed.setIfInBounds i true) (A.put oi.dst undef) w)
    (hi : ops.toList.drop i = oi :: l := by rfl) (hs : Region.noSelect ops = true := by kernel_rfl) (hf : Region.free md ops listed i = true := by kernel_rfl) (hr : (Region.ready md ops listed).contains i = true := by kernel_rfl)
    (hQ : ∀ c a w, Q (.panic c) (a.put oi.dst undef) w → Q (.panic c) a w := by exact fun _ _ _ h => h) (hw : Region.wanted oi (yielded ops A.tmps) = false := by rfl) (hS : S w := by assumption) : wpAnyH P md ops Q S (fuel + 1) listed A w := gW i h hi hs hf hr hQ (Or.inr ⟨hw, rfl⟩) hS
theorem gl (b off : Nat) (cs : List Value) (hS : w.rangeAt b off cs) (hi : (P.info? t).map (·.size) = some cs.length) (h : wpList P ops Q r (A.put d (.agg cs.toArray)) w) (hx : A.eval o = .pointer (some ⟨b, off, none⟩) := by rfl) (hd : (P.underlying t).map (·.isRow) = some true := by kernel_rfl) :
    wpList P ops Q (⟨d, .load t o, y, p, a, none⟩ :: r) A w := by
  obtain ⟨e, h1, h2⟩ := Option.map_eq_some_iff.1 hd
  exact wpList_load_mid rfl t o rfl b off hx cs e hS h1 h2 hi h
theorem gZ {md : Region.Mode} {S : World → Prop} (i b off : Nat) (cs : List Value) {d' : Option Tmp} {l : List Oper} {fuel : Nat} {listed : Array Bool} (hR : ∀ w, S w → w.rangeAt b off cs) (hn : (P.info? t).map (·.size) = some cs.length) (h : wpAnyH P md ops Q S fuel (listed.setIfInBounds i true) (A.put d' (.agg cs.toArray)) w)
    (hi : ops.toList.drop i = ⟨d', .load t o, y, p, a, g⟩ :: l := by rfl) (hs : Region.noSelect ops = true := by kernel_rfl) (hf : Region.free md ops listed i = true := by kernel_rfl) (hr : (Region.ready md ops listed).contains i = true := by kernel_rfl)
    (hQ : ∀ c a w, Q (.panic c) (a.put d' (.agg cs.toArray)) w → Q (.panic c) a w := by exact fun _ _ _ h => h) (hx : A.eval o = .pointer (some ⟨b, off, none⟩) := by rfl) (hd : (P.underlying t).map (·.isRow) = some true := by kernel_rfl) (hw : Region.wanted ⟨d', .load t o, y, p, a, g⟩ (yielded ops A.tmps) = true := by rfl) (hS : S w := by assumption) :
    wpAnyH P md ops Q S (fuel + 1) listed A w := by
  obtain ⟨e, h1, h2⟩ := Option.map_eq_some_iff.1 hd
  exact gW i h hi hs hf hr hQ (yieldsIf_load_mid hw t o rfl b off hx cs e hR h1 h2 hn) hS
theorem gD (i : Nat) (h : wpList P ops Q (⟨some i, .buildSlice t m c, y, p, a, none⟩ :: r) A w) : wpList P ops Q (⟨some i, .buildSlice t m c, y, p, a, none⟩ :: r) A w := h
end
end Go.Proofs.YtkghgaopcgcheaaGreatDoor
