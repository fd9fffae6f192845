/- Slices that a call has built itself by append. They speak of no program. No conditions. -/
import Derived.Test.YtbfnpoknamajnaaStr
import Derived.Test.YtbfnpoknamajnaaRead
import Derived.Maps.AppendAt
namespace Go.Proofs.Ytbfnpoknamajnaa
open Go.RowKit

/-- v is a slice of the records L, built by the call: its blocks begin at 'base' -/
def Own {α : Type} (enc : α → List Value) (n base : Nat) (E : TypeId) (w : World) (v : Value) (L : List α) : Prop := w.ownsRow base E n v L.length (rows enc L)
section
variable {α : Type} {enc : α → List Value} {n base : Nat} {E : TypeId} {w w' : World} {v : Value} {L : List α}
theorem Own.nil (enc : α → List Value) (n base : Nat) (E : TypeId) (w : World) : Own enc n base E w (.slice none 0 0) [] := World.ownsRow_nil w base E n
/-- '[]T{}' -/
theorem Own.none (enc : α → List Value) (n : Nat) (E : TypeId) (w : World) (hb : base ≤ w.heap.size) : Own enc n base E (w.alloc (.cells #[] E)) (.slice (some ⟨w.heap.size, 0, none⟩) 0 0) [] :=
  World.ownsRow_made w #[] 0 hb (Nat.zero_le _) (by simp)
theorem Own.of_heap (h : Own enc n base E w v L) (e : w'.heap = w.heap) : Own enc n base E w' v L := by
  refine ⟨h.1, ?_⟩
  rw [e]
  exact h.2
theorem Own.alloc (h : Own enc n base E w v L) (o : Obj) : Own enc n base E (w.alloc o) v L := World.ownsRow.alloc h o
theorem Own.keep {S : List Nat} (h : Own enc n base E w v L) (k : Keep S w w') (hS : ∀ g, v.ownBlock = some g → g ∉ S) : Own enc n base E w' v L := by
  refine ⟨h.1, ?_⟩
  rcases h.2 with hn | ⟨g, cap, cur, hv, hb, hg, rest⟩
  · exact .inl hn
  · exact .inr ⟨g, cap, cur, hv, hb, by rw [k.block g (lt_of_block hg) (hS g (by rw [hv]; rfl))]; exact hg, rest⟩
theorem Own.keep0 (h : Own enc n base E w v L) (k : Keep [] w w') : Own enc n base E w' v L := h.keep k (by simp)
theorem Own.grown {row : Option Nat} (h : Own enc n base E w v L) (k : w.grownBy w' row) (hr : v.ownBlock = Option.none ∨ v.ownBlock ≠ row) : Own enc n base E w' v L := World.ownsRow.kept h k hr
theorem Own.lower {base' : Nat} (h : Own enc n base E w v L) (hb : base' ≤ base) : Own enc n base' E w v L := by
  refine ⟨h.1, ?_⟩
  rcases h.2 with hn | ⟨g, cap, cur, hv, hb', rest⟩
  · exact .inl hn
  · exact .inr ⟨g, cap, cur, hv, Nat.le_trans hb hb', rest⟩
theorem Own.sl (hn : ∀ x, (enc x).length = n) (h : Own enc n base E w v L) : Sl enc n w v L := by
  rcases h.2 with ⟨rfl, h0⟩ | ⟨g, cap, cur, rfl, hb, hg, h1, h2, h3, h4⟩
  · exact .inl ⟨Option.none, 0, rfl, Nat.zero_le _, List.eq_nil_of_length_eq_zero h0⟩
  · refine .inr ⟨g, 0, cap, rfl, h1, h2, fun i x hx k hk => ?_⟩
    have := rows_get' hn L i k x hx hk
    rw [← h4] at this
    rw [Nat.zero_add, cell_of_row w g _ _ _ _ hg, ← this]
    have hlt : i < L.length := (List.getElem?_eq_some_iff.1 hx).1
    have hm : (i + 1) * n ≤ L.length * n := Nat.mul_le_mul_right n hlt
    rw [Nat.add_mul] at hm
    rw [List.getElem?_take, if_pos (by omega)]
    simp
/-- the slice's shape, and its block -/
theorem Own.shape (h : Own enc n base E w v L) : ∃ a cap, v = .slice a L.length cap ∧ L.length ≤ maxLen := by
  rcases h.2 with ⟨rfl, h0⟩ | ⟨g, cap, cur, rfl, hb, hg, h1, h2, _⟩
  · exact ⟨_, 0, by rw [h0], by omega⟩
  · exact ⟨_, cap, rfl, by omega⟩
theorem Own.lt (h : Own enc n base E w v L) : ∀ k, v.ownBlock = some k → base ≤ k ∧ k < w.heap.size := World.ownsRow.lt h
end

/-- 'out = append(out, x)', out the call's own -/
theorem wpList_append1 {P : Program} {ops : Array Oper} {rest : List Oper} {o : Oper} {a : Act} {Q : Exit → Act → World → Prop} (hgd : o.guard = none) (s x : Operand) (t : TypeId)
    (ho : o.op = .call { callee := .builtin .append, args := #[s, x], argTypes := #[t, t] })
    {α : Type} {enc : α → List Value} {n base : Nat} {E : TypeId} {L : List α} {v : Value}
    (i : TypeInfo) (z : Value) (bytes : Nat) (ht : P.underlying t = some (.slice E)) (HI : Hid (P.info? E = some i ∧ i.zero = some z ∧ i.size = n ∧ i.bytes = bytes)) (hzs : z.cells.size = n) (hn0 : 0 < n)
    (hn : ∀ x, (enc x).length = n) (h1 : ∀ x, ∀ u ∈ enc x, u.oneCell' = true)
    (w0 w : World) (hb0 : base = w0.heap.size) (hk : Keep [] w0 w) (hs : a.eval s = v) (hown : Own enc n base E w v L) (y : α) (cs : List Value) (hcs : cs = enc y) (c : Nat) (hx : a.eval x = .slice (some ⟨w.heap.size, 0, none⟩) 1 c)
    (h63 : L.length + 1 ≤ maxLen) (hbytes : (L.length + 1) * bytes ≤ 140737488355328)
    (h : ∀ v' w', Own enc n base E w' v' (L ++ [y]) → Keep [] w0 w' → w.grownBy w' v.ownBlock → wpList P ops Q rest (a.put o.dst v') w') : wpList P ops Q (o :: rest) a (w.alloc (.cells cs.toArray E)) := by
  subst hcs hb0
  refine wpList_append_own _ hgd s x t ho w0.heap.size E i z n bytes ht HI.out.1 HI.out.2.1 HI.out.2.2.1 HI.out.2.2.2 hzs hn0 v L.length (rows enc L) hs (hown.alloc _) ⟨w.heap.size, 0, none⟩ 1 c (enc y) hx (by rw [hn]; omega) ?_ (h1 y) h63 hbytes (by have := hk.size; simp; omega) ?_
  · intro j u hj
    have hA := Blk.new w (enc y) E
    have : (⟨w.heap.size, 0, none⟩ : Addr).add j = ⟨w.heap.size, j, none⟩ := by unfold Addr.add; split <;> simp_all
    rw [this, hA.cell j]
    exact hj
  · intro v' w' hown' hg _
    have hg' : w.grownBy w' v.ownBlock := by
      have h0 := World.grownBy_alloc w (.cells (enc y).toArray E) v.ownBlock
      exact ⟨hg.os.trans h0.os, hg.tape.trans h0.tape, hg.output.trans h0.output, Nat.le_trans h0.size hg.size, fun k hk hne => (hg.block k (Nat.lt_of_lt_of_le hk h0.size) hne).trans (h0.block k hk hne)⟩
    refine h v' w' ?_ (hk.grown hg' fun k hk1 hk2 => absurd (hown.lt k hk1).1 (by omega)) hg'
    have : rows enc (L ++ [y]) = rows enc L ++ enc y := by simp [rows]
    unfold Own
    rw [this, List.length_append]
    exact hown'

/-- two slices that share no block -/
def Sep (v u : Value) : Prop := ∀ g, v.ownBlock = some g → u.ownBlock ≠ some g
theorem Sep.symm {v u : Value} (h : Sep v u) : Sep u v := fun g h1 h2 => h g h2 h1
theorem Sep.none_left (u : Value) : Sep (.slice none 0 0) u := fun g h => by simp [Value.ownBlock] at h
/-- a slice of a block that was not there yet -/
theorem Sep.fresh {α : Type} {enc : α → List Value} {n base : Nat} {E : TypeId} {L : List α} {v : Value} {w : World} (h : Own enc n base E w v L) {b : Nat} (hb : w.heap.size ≤ b) (l c : Nat) : Sep v (.slice (some ⟨b, 0, none⟩) l c) := fun g h1 h2 => by
  have := (h.lt g h1).2
  simp [Value.ownBlock] at h2
  omega
/-- what the append leaves besides -/
def Aside (w w' : World) (v v' : Value) : Prop := ∀ {β : Type} {e2 : β → List Value} {n2 b2 : Nat} {E2 : TypeId} {u : Value} {M : List β}, Own e2 n2 b2 E2 w u M → Sep v u → Own e2 n2 b2 E2 w' u M ∧ Sep v' u

/-- 'out = append(out, x)', out the call's own; of the call's other slices too -/
theorem wpList_append2 {P : Program} {ops : Array Oper} {rest : List Oper} {o : Oper} {a : Act} {Q : Exit → Act → World → Prop} (hgd : o.guard = none) (s x : Operand) (t : TypeId)
    (ho : o.op = .call { callee := .builtin .append, args := #[s, x], argTypes := #[t, t] })
    {α : Type} {enc : α → List Value} {n base : Nat} {E : TypeId} {L : List α} {v : Value}
    (i : TypeInfo) (z : Value) (bytes : Nat) (ht : P.underlying t = some (.slice E)) (HI : Hid (P.info? E = some i ∧ i.zero = some z ∧ i.size = n ∧ i.bytes = bytes)) (hzs : z.cells.size = n) (hn0 : 0 < n)
    (hn : ∀ x, (enc x).length = n) (h1 : ∀ x, ∀ u ∈ enc x, u.oneCell' = true)
    (w0 w : World) (hb0 : base = w0.heap.size) (hk : Keep [] w0 w) (hs : a.eval s = v) (hown : Own enc n base E w v L) (y : α) (cs : List Value) (hcs : cs = enc y) (c : Nat) (hx : a.eval x = .slice (some ⟨w.heap.size, 0, none⟩) 1 c)
    (h63 : L.length + 1 ≤ maxLen) (hbytes : (L.length + 1) * bytes ≤ 140737488355328)
    (h : ∀ v' w', Own enc n base E w' v' (L ++ [y]) → Keep [] w0 w' → Aside w w' v v' → wpList P ops Q rest (a.put o.dst v') w') : wpList P ops Q (o :: rest) a (w.alloc (.cells cs.toArray E)) := by
  subst hcs hb0
  refine wpList_append_own_at _ hgd s x t ho w0.heap.size E i z n bytes ht HI.out.1 HI.out.2.1 HI.out.2.2.1 HI.out.2.2.2 hzs hn0 v L.length (rows enc L) hs (hown.alloc _) ⟨w.heap.size, 0, none⟩ 1 c (enc y) hx (by rw [hn]; omega) ?_ (h1 y) h63 hbytes (by have := hk.size; simp; omega) ?_
  · intro j u hj
    have hA := Blk.new w (enc y) E
    have : (⟨w.heap.size, 0, none⟩ : Addr).add j = ⟨w.heap.size, j, none⟩ := by unfold Addr.add; split <;> simp_all
    rw [this, hA.cell j]
    exact hj
  · intro v' w' hown' hg _ hat
    have hg' : w.grownBy w' v.ownBlock := by
      have h0 := World.grownBy_alloc w (.cells (enc y).toArray E) v.ownBlock
      exact ⟨hg.os.trans h0.os, hg.tape.trans h0.tape, hg.output.trans h0.output, Nat.le_trans h0.size hg.size, fun k hk hne => (hg.block k (Nat.lt_of_lt_of_le hk h0.size) hne).trans (h0.block k hk hne)⟩
    refine h v' w' ?_ (hk.grown hg' fun k hk1 hk2 => absurd (hown.lt k hk1).1 (by omega)) ?_
    · have : rows enc (L ++ [y]) = rows enc L ++ enc y := by simp [rows]
      unfold Own
      rw [this, List.length_append]
      exact hown'
    · intro β e2 n2 b2 E2 u M hu hsep
      refine ⟨hu.grown hg' ?_, ?_⟩
      · cases hub : u.ownBlock with
        | none => exact .inl rfl
        | some g => exact .inr fun e => hsep g (e ▸ rfl) hub
      · intro g h3 h4
        rcases hat with h5 | h5
        · exact hsep g (h5 ▸ h3) h4
        · have h6 := (hu.lt g h4).2
          rw [h3] at h5
          simp at h5
          omega

/-! bytes, strings -/
/-- a byte in memory -/
def byteC (c : UInt8) : List Value := [.int .u8 (c.toNat : Nat)]
theorem byteC_length (c : UInt8) : (byteC c).length = 1 := rfl
theorem byteC_one (c : UInt8) : ∀ u ∈ byteC c, u.oneCell' = true := by simp [byteC, Value.oneCell']
/-- a string in memory -/
def strC (s : List UInt8) : List Value := [.string (S s)]
theorem strC_length (c : List UInt8) : (strC c).length = 1 := rfl
theorem strC_one (c : List UInt8) : ∀ u ∈ strC c, u.oneCell' = true := by simp [strC, Value.oneCell']

/-- 'string(b)' -/
theorem own_back {P : Program} {w : World} {base : Nat} {E : TypeId} {v : Value} {l : List UInt8} (h : Own byteC 1 base E w v l) (src dst : TypeId) (hs : P.underlying src = some (.slice E)) (he : P.underlying E = some (.int .u8)) (hd : P.underlying dst = some .string) :
    (convert src dst v).run P w = .ok (.string (S l)) w := by
  have hsl := h.sl byteC_length
  rcases h.2 with ⟨rfl, h0⟩ | ⟨g, cap, cur, rfl, _⟩
  · have : l = [] := List.eq_nil_of_length_eq_zero h0
    subst this
    exact run_convert_bytes_nil w src E hs he 0 0 dst hd
  · refine run_convert_bytes_back w src dst E ⟨g, 0, none⟩ cap l hs he hd (fun j hj => ?_)
    obtain ⟨b, off, cap', hv, _, _, hc⟩ := hsl.cell (i := j) (x := l[j]) (List.getElem?_eq_getElem hj)
    cases hv
    have ha : (⟨g, 0, none⟩ : Addr).add j = ⟨g, 0 + j * 1 + 0, none⟩ := by unfold Addr.add; split <;> simp_all
    rw [ha]
    exact hc 0 (by omega)
theorem S_get {l : List UInt8} {k : Nat} {c : UInt8} (h : l[k]? = some c) (hk : k < (S l).size) : (S l)[k]'hk = c := by
  obtain ⟨_, he⟩ := List.getElem?_eq_some_iff.1 h
  exact he
end Go.Proofs.Ytbfnpoknamajnaa
