/- Laws of memory that speak of no program: a block's cells, what a call keeps. No conditions. -/
import Derived.Test.YtbfnpoknamajnaaProg
import Derived.WalkKit
import Derived.WalkSpells
import Derived.WalkLawsBesides
import Derived.Lib.Hide
import Derived.Deep.QuietTactic
import Derived.BigQuiet
namespace Go.Proofs.Ytbfnpoknamajnaa
open Go.RowKit

/-- Block b is a writable row of cells xs of elements of type T. -/
def Blk (w : World) (b : Nat) (T : TypeId) (xs : List Value) : Prop := w.heap[b]? = some (.cells xs.toArray T (0, 0))

theorem Blk.lt {w : World} {b : Nat} {T : TypeId} {xs : List Value} (h : Blk w b T xs) : b < w.heap.size := lt_of_block h
theorem Blk.cell {w : World} {b : Nat} {T : TypeId} {xs : List Value} (h : Blk w b T xs) (k : Nat) : w.cell? ⟨b, k, none⟩ = xs[k]? := by
  have h' : w.heap[b]? = some (.cells xs.toArray T (0, 0)) := h
  rw [cell_of_row w b k _ _ _ h']
  simp
theorem Blk.frozen {w : World} {b : Nat} {T : TypeId} {xs : List Value} (h : Blk w b T xs) (k : Nat) : w.frozen? ⟨b, k, none⟩ = false := frozen_of_row w b k _ _ h
theorem Blk.get {w : World} {b : Nat} {T : TypeId} {xs : List Value} (h : Blk w b T xs) {k : Nat} {v : Value} (hv : xs[k]? = some v) : w.cell? ⟨b, k, none⟩ = some v := (h.cell k).trans hv
theorem Blk.set {w : World} {b : Nat} {T : TypeId} {xs : List Value} (h : Blk w b T xs) (k : Nat) (v : Value) : Blk (w.setCell ⟨b, k, none⟩ v) b T (xs.set k v) := by
  have h' := heap_setCell_same w b k xs.toArray T v h
  unfold Blk
  rw [h']
  simp
theorem Blk.setOther {w : World} {b : Nat} {T : TypeId} {xs : List Value} (h : Blk w b T xs) {a : Addr} (hb : b ≠ a.block) (v : Value) : Blk (w.setCell a v) b T xs := by
  unfold Blk
  rw [heap_setCell_other w a b v hb]
  exact h
theorem Blk.alloc {w : World} {b : Nat} {T : TypeId} {xs : List Value} (h : Blk w b T xs) (o : Obj) : Blk (w.alloc o) b T xs := by
  unfold Blk
  rw [Below.heap_alloc w o b h.lt]
  exact h
theorem Blk.drew {w : World} {b : Nat} {T : TypeId} {xs : List Value} (h : Blk w b T xs) : Blk w.drew b T xs := h
theorem Blk.drewN {w : World} {b : Nat} {T : TypeId} {xs : List Value} (h : Blk w b T xs) (n : Nat) : Blk (w.drewN n) b T xs := h
theorem Blk.new (w : World) (xs : List Value) (T : TypeId) : Blk (w.alloc (.cells xs.toArray T)) w.heap.size T xs := heap_alloc_new w _
theorem Blk.newA (w : World) (xs : Array Value) (T : TypeId) : Blk (w.alloc (.cells xs T)) w.heap.size T xs.toList := by
  have h := heap_alloc_new w (.cells xs T)
  simpa [Blk] using h

/-- From w to w' nothing has gone, and no block outside S that was there has turned. -/
structure Keep (S : List Nat) (w w' : World) : Prop where
  os : w'.os = w.os
  tape : w'.tape = w.tape
  output : w'.output = w.output
  size : w.heap.size ≤ w'.heap.size
  block : ∀ k, k < w.heap.size → k ∉ S → w'.heap[k]? = w.heap[k]?

theorem Keep.refl (S : List Nat) (w : World) : Keep S w w := ⟨rfl, rfl, rfl, Nat.le_refl _, fun _ _ _ => rfl⟩
theorem Keep.mono {S S' : List Nat} {w w' : World} (h : Keep S w w') (hs : ∀ k ∈ S, k < w.heap.size → k ∈ S') : Keep S' w w' :=
  ⟨h.os, h.tape, h.output, h.size, fun k hk hn => h.block k hk fun hm => hn (hs k hm hk)⟩
theorem Keep.trans {S : List Nat} {a b c : World} (h : Keep S a b) (k : Keep S b c) : Keep S a c :=
  ⟨k.os.trans h.os, k.tape.trans h.tape, k.output.trans h.output, Nat.le_trans h.size k.size,
    fun i hi hn => (k.block i (Nat.lt_of_lt_of_le hi h.size) hn).trans (h.block i hi hn)⟩
/-- the later step may touch what was not there at first -/
theorem Keep.trans' {S S' : List Nat} {a b c : World} (h : Keep S a b) (k : Keep S' b c) (hs : ∀ x ∈ S', x < a.heap.size → x ∈ S) : Keep S a c :=
  ⟨k.os.trans h.os, k.tape.trans h.tape, k.output.trans h.output, Nat.le_trans h.size k.size,
    fun i hi hn => (k.block i (Nat.lt_of_lt_of_le hi h.size) fun hm => hn (hs i hm hi)).trans (h.block i hi hn)⟩
theorem Keep.drew {S : List Nat} {a w : World} (h : Keep S a w) : Keep S a w.drew := ⟨h.os, h.tape, h.output, h.size, h.block⟩
theorem Keep.drewN {S : List Nat} {a w : World} (h : Keep S a w) (n : Nat) : Keep S a (w.drewN n) := ⟨h.os, h.tape, h.output, h.size, h.block⟩
theorem Keep.alloc {S : List Nat} {a w : World} (h : Keep S a w) (o : Obj) : Keep S a (w.alloc o) :=
  h.trans ⟨rfl, rfl, rfl, by simp, fun k hk _ => Below.heap_alloc _ _ _ hk⟩
theorem Keep.setCell {S : List Nat} {a w : World} (h : Keep S a w) (p : Addr) (u : Value) (hp : p.block < a.heap.size → p.block ∈ S) : Keep S a (w.setCell p u) :=
  h.trans' (S' := [p.block]) ⟨rfl, rfl, rfl, by simp, fun k _ hn => Below.heap_setCell _ _ _ _ (by simpa using hn)⟩ (by simpa using hp)
theorem Keep.grown {S : List Nat} {a w w' : World} {row : Option Nat} (h : Keep S a w) (hg : w.grownBy w' row) (hr : ∀ k, row = some k → k < a.heap.size → k ∈ S) : Keep S a w' :=
  ⟨hg.os.trans h.os, hg.tape.trans h.tape, hg.output.trans h.output, Nat.le_trans h.size hg.size,
    fun i hi hn => (hg.block i (Nat.lt_of_lt_of_le hi h.size) (fun e => hn (hr i e.symm hi))).trans (h.block i hi hn)⟩
theorem Keep.of_below {w w' : World} (h : Below w.heap.size w w') (S : List Nat) : Keep S w w' := ⟨h.os, h.tape, h.output, h.size, fun k hk _ => h.block k hk⟩
theorem Keep.below {S : List Nat} {w w' : World} (h : Keep S w w') (hs : ∀ k ∈ S, w.heap.size ≤ k) : Below w.heap.size w w' :=
  ⟨h.os, h.tape, h.output, h.size, fun k hk => h.block k hk fun hm => by have := hs k hm; omega⟩
theorem Keep.blk {S : List Nat} {w w' : World} (h : Keep S w w') {b : Nat} {T : TypeId} {xs : List Value} (hb : Blk w b T xs) (hn : b ∉ S) : Blk w' b T xs := by
  unfold Blk
  rw [h.block b hb.lt hn]
  exact hb
theorem Keep.heap {S : List Nat} {w w' : World} (h : Keep S w w') {b : Nat} {o : Obj} (hb : w.heap[b]? = some o) (hn : b ∉ S) : w'.heap[b]? = some o := by
  rw [h.block b (lt_of_block hb) hn]
  exact hb
theorem Keep.cell {S : List Nat} {w w' : World} (h : Keep S w w') {p : Addr} (hp : p.block < w.heap.size) (hn : p.block ∉ S) : w'.cell? p = w.cell? p :=
  World.cell?_of_block (w := w) (h.block p.block hp hn)
theorem Keep.frozen {S : List Nat} {w w' : World} (h : Keep S w w') {p : Addr} (hp : p.block < w.heap.size) (hn : p.block ∉ S) : w'.frozen? p = w.frozen? p :=
  World.frozen?_of_block (w := w) (h.block p.block hp hn)

/-- A row of records of n cells each. -/
def rows {α : Type} (enc : α → List Value) (L : List α) : List Value := L.flatMap enc

theorem rows_length {α : Type} {enc : α → List Value} {n : Nat} (hn : ∀ x, (enc x).length = n) (L : List α) : (rows enc L).length = n * L.length := by
  induction L with
  | nil => simp [rows]
  | cons x r ih =>
    simp only [rows, List.flatMap_cons, List.length_append, hn, List.length_cons] at *
    rw [ih, Nat.mul_add]
    omega
theorem rows_get {α : Type} {enc : α → List Value} {n : Nat} (hn : ∀ x, (enc x).length = n) : ∀ (L : List α) (i k : Nat) (x : α), L[i]? = some x → k < n → (rows enc L)[n * i + k]? = (enc x)[k]?
  | [], i, k, x, h, _ => by simp at h
  | y :: r, 0, k, x, h, hk => by
    simp at h; subst h
    simp only [rows, List.flatMap_cons, Nat.mul_zero, Nat.zero_add]
    rw [List.getElem?_append_left (by rw [hn]; exact hk)]
  | y :: r, i + 1, k, x, h, hk => by
    have ih := rows_get hn r i k x (by simpa using h) hk
    simp only [rows, List.flatMap_cons]
    rw [List.getElem?_append_right (by rw [hn, Nat.mul_add]; omega), hn]
    rw [show n * (i + 1) + k - n = n * i + k from by rw [Nat.mul_add]; omega]
    exact ih
theorem rows_get' {α : Type} {enc : α → List Value} {n : Nat} (hn : ∀ x, (enc x).length = n) (L : List α) (i k : Nat) (x : α) (h : L[i]? = some x) (hk : k < n) : (rows enc L)[i * n + k]? = (enc x)[k]? := by
  rw [Nat.mul_comm]; exact rows_get hn L i k x h hk
/-- one cell of one record is set -/
theorem rows_set {α : Type} {enc : α → List Value} {n : Nat} (hn : ∀ x, (enc x).length = n) : ∀ (L : List α) (i k : Nat) (x y : α) (v : Value), L[i]? = some x → k < n → enc y = (enc x).set k v → (rows enc L).set (n * i + k) v = rows enc (L.set i y)
  | [], i, k, x, y, v, h, _, _ => by simp at h
  | z :: r, 0, k, x, y, v, h, hk, e => by
    simp at h; subst h
    simp only [rows, List.flatMap_cons, Nat.mul_zero, Nat.zero_add, List.set_cons_zero]
    rw [List.set_append_left _ _ (by rw [hn]; exact hk), e]
  | z :: r, i + 1, k, x, y, v, h, hk, e => by
    have ih := rows_set hn r i k x y v (by simpa using h) hk e
    simp only [rows, List.flatMap_cons, List.set_cons_succ] at *
    rw [List.set_append_right _ _ (by rw [hn, Nat.mul_add]; omega), hn]
    rw [show n * (i + 1) + k - n = n * i + k from by rw [Nat.mul_add]; omega, ih]
theorem rows_set' {α : Type} {enc : α → List Value} {n : Nat} (hn : ∀ x, (enc x).length = n) (L : List α) (i k : Nat) (x y : α) (v : Value) (h : L[i]? = some x) (hk : k < n) (e : enc y = (enc x).set k v) : (rows enc L).set (i * n + k) v = rows enc (L.set i y) := by
  rw [Nat.mul_comm]; exact rows_set hn L i k x y v h hk e
theorem made_rows {α : Type} {enc : α → List Value} {n : Nat} (hn : ∀ x, (enc x).length = n) (h0 : 0 < n) (x : α) (m : Nat) : (madeCells (enc x).toArray (m * n)).toList = rows enc (List.replicate m x) := by
  apply List.ext_getElem?
  intro j
  by_cases hj : j < m * n
  · have hq : j / n < m := Nat.div_lt_of_lt_mul (by rw [Nat.mul_comm]; exact hj)
    have hr : j % n < n := Nat.mod_lt _ h0
    have e : j = n * (j / n) + j % n := (Nat.div_add_mod j n).symm
    have hg := rows_get hn (List.replicate m x) (j / n) (j % n) x (by simp [hq]) hr
    rw [← e] at hg
    rw [hg]
    have hj' : j % n < (enc x).length := by rw [hn]; exact hr
    simp [madeCells, hj, hn]
    rw [List.getElem?_eq_getElem hj']
    rfl
  · rw [List.getElem?_eq_none (by simp [madeCells]; omega), List.getElem?_eq_none (by rw [rows_length hn]; simp; rw [Nat.mul_comm]; omega)]
theorem list_set_self {α : Type} : ∀ (L : List α) (i : Nat) (x : α), L[i]? = some x → L.set i x = L
  | [], i, x, h => by simp at h
  | y :: r, 0, x, h => by simp at h; simp [h]
  | y :: r, i + 1, x, h => by simp at h; simp [list_set_self r i x h]

/-! A region that draws its order, whose operations read old memory and call functions that only make memory: the class of the worlds that extend one. -/
def Ext (w : World) : Type := { w' : World // Keep [] w w' }
def ext (w : World) (x : Ext w) : World := x.1
instance (w : World) : Nonempty (Ext w) := ⟨⟨w, Keep.refl _ _⟩⟩
theorem ext_keep (w : World) (x : Ext w) : Keep [] w (ext w x) := x.2
theorem Calls.quiet_ext {P : Program} {f : FuncId} {args : Array Value} {w : World} {n : Ext w} {v : Value}
    (h : Calls P f args (ext w n) fun e w' => e = .returned v ∧ Keep [] (ext w n) w') : Calls P f args (ext w n) fun e w'' => e = .returned v ∧ ∃ m, w'' = ext w m :=
  h.mono fun _ w' ⟨he, hk⟩ => ⟨he, ⟨w', (ext_keep w n).trans hk⟩, rfl⟩
theorem Calls.quiet_ext_same {P : Program} {f : FuncId} {args : Array Value} {w : World} {n : Ext w} {v : Value}
    (h : Calls P f args (ext w n) fun e w' => e = .returned v ∧ ext w n = w') : Calls P f args (ext w n) fun e w'' => e = .returned v ∧ ∃ m, w'' = ext w m :=
  h.mono fun _ w' ⟨he, hk⟩ => ⟨he, n, hk.symm⟩
theorem wp_region_ext_lit {P : Program} {id : Nat} {Q : Exit → Act → World → Prop} {a : Act} {w : World} {l : List Oper} (hm : P.follows .mixedOrders = true) (hB : Region.lexB .any l.toArray = true)
    (h : wpQuiet P l.toArray (fun w' => ∃ n, w' = ext w n) (fun a' => ∀ w', (∃ n, w' = ext w n) → Q .normal a' w') l a) : (Code.region id l.toArray true).wp P Q a w :=
  wp_region_quiet (C := fun w' => ∃ n, w' = ext w n) hm hB ⟨⟨w.drew, (Keep.refl _ _).drew⟩, rfl⟩ (by simpa using h)
end Go.Proofs.Ytbfnpoknamajnaa
