/- Short names. No conditions but those that each theorem states. -/
import Derived.Deep.RegionHeld
namespace Go.Proofs.YtlhnjkekjbbhcaaGreatDoor
theorem sqA {α : Type _} (l : List α) (i : Nat) (a : α) : l.toArray.setIfInBounds i a = (l.set i a).toArray := List.setIfInBounds_toArray l i a
theorem sqB {α : Type _} {x : α} {xs : List α} {i : Nat} {a : α} : (x :: xs).set (i + 1) a = x :: xs.set i a := rfl
theorem sqC {α : Type _} {x : α} {xs : List α} {a : α} : (x :: xs).set 0 a = a :: xs := rfl
section
variable {P : Program} {ops : Array Oper} {Q : Exit → Act → World → Prop} {r : List Oper} {A : Act} {w : World} {t y : TypeId} {p : String} {a : Array Edge} {g : Option (Nat × Bool)} {o o' : Operand} {m : Nat} {c : Array (Nat × Operand)} {d : Option Tmp}
theorem gL (i j : Nat) (h : wpList P ops Q (⟨some i, .load t (.tmp j), y, p, a, g⟩ :: r) A w) : wpList P ops Q (⟨some i, .load t (.tmp j), y, p, a, g⟩ :: r) A w := h
theorem gM (j : Nat) (h : wpList P ops Q (⟨d, .load t (.tmp j), y, p, a, none⟩ :: r) A w) : wpList P ops Q (⟨d, .load t (.tmp j), y, p, a, none⟩ :: r) A w := h
theorem gS (i j : Nat) (h : wpList P ops Q (⟨none, .store t (.tmp i) (.tmp j), y, p, a, none⟩ :: r) A w) : wpList P ops Q (⟨none, .store t (.tmp i) (.tmp j), y, p, a, none⟩ :: r) A w := h
theorem gT (i : Nat) (h : wpList P ops Q (⟨none, .store t (.tmp i) o, y, p, a, none⟩ :: r) A w) : wpList P ops Q (⟨none, .store t (.tmp i) o, y, p, a, none⟩ :: r) A w := h
theorem gX (i : Nat) (h : wpList P ops Q (⟨some i, .box t o, y, p, a, none⟩ :: r) A w) : wpList P ops Q (⟨some i, .box t o, y, p, a, none⟩ :: r) A w := h
theorem gA (i : Nat) (h : wpList P ops Q (⟨some i, .alloc t, y, p, a, none⟩ :: r) A w) : wpList P ops Q (⟨some i, .alloc t, y, p, a, none⟩ :: r) A w := h
theorem gB (i : Nat) (h : wpList P ops Q (⟨some i, .build t c, y, p, a, g⟩ :: r) A w) : wpList P ops Q (⟨some i, .build t c, y, p, a, g⟩ :: r) A w := h
theorem gU {md : Region.Mode} {S : World → Prop} (i : Nat) {oi : Oper} {v : Value} {fuel : Nat} {listed : Array Bool} (hi : ops[i]? = some oi) (hy : YieldsIf P ops S oi v A) (hS : S w)
    (h : wpAnyH P md ops Q S fuel (listed.setIfInBounds i true) (A.put oi.dst v) w) (hs : Region.noSelect ops = true := by kernel_rfl) (hf : Region.free md ops listed i = true := by kernel_rfl) (hr : (Region.ready md ops listed).contains i = true := by kernel_rfl)
    (hQ : ∀ c a w, Q (.panic c) (a.put oi.dst v) w → Q (.panic c) a w := by exact fun _ _ _ h => h) : wpAnyH P md ops Q S (fuel + 1) listed A w := wpAnyH_take hi hs hf hr hQ hy hS h
theorem gR {md : Region.Mode} {S : World → Prop} (i : Nat) {o : Oper} {fuel : Nat} {listed : Array Bool} (ho : ops[i]? = some o)
    (h : ∀ K' : Act → World → Prop, Shut (∀ a w, S w → (S w → wpAnyH P md ops Q S fuel (listed.setIfInBounds i true) a w) → K' a w) → if Region.wanted o (yielded ops A.tmps) = true then Oper.wp P o A w K' Q else K' (A.put o.dst undef) w)
    (hr : Region.ready md ops listed = [i] := by kernel_rfl) : wpAnyH P md ops Q S (fuel + 1) listed A w := wpAnyH_ready hr (by simp) (AllReadyH.cons ho h AllReadyH.nil)
theorem gD (i : Nat) (h : wpList P ops Q (⟨some i, .buildSlice t m c, y, p, a, none⟩ :: r) A w) : wpList P ops Q (⟨some i, .buildSlice t m c, y, p, a, none⟩ :: r) A w := h
end
end Go.Proofs.YtlhnjkekjbbhcaaGreatDoor
