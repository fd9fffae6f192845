/- Parts of the proof of ErrandAsks, in order. No conditions but those that each theorem states. -/
import Derived.Test.YtlhnjkekjbbhcaaGreatDoorYErrandAsks0
import Derived.Test.YtlhnjkekjbbhcaaGreatDoorProg
import Derived.WalkKit
import Derived.WalkSpells
import Derived.WalkLawsBesides
import Derived.Lib.Hide
import Derived.Deep.QuietTactic
import Derived.BigQuiet
import Derived.Lib.Strings
import Derived.Lib.IndexLaws
import Derived.Lib.IndexMore
import Derived.Lib.SlTrimSet
import Derived.Lib.ConvBytes
set_option linter.unusedSimpArgs false
set_option linter.unusedVariables false
namespace Go.Proofs.YtlhnjkekjbbhcaaGreatDoor
open Go.RowKit
def Blk (w : World) (b : Nat) (T : TypeId) (xs : List Value) : Prop := w.heap[b]? = some (.cells xs.toArray T (0, 0))
theorem Blk.lt {w : World} {b : Nat} {T : TypeId} {xs : List Value} (h : Blk w b T xs) : b < w.heap.size := lt_of_block h
theorem Blk.cell {w : World} {b : Nat} {T : TypeId} {xs : List Value} (h : Blk w b T xs) (k : Nat) : w.cell? ⟨b, k, none⟩ = xs[k]? := by
  have h' : w.heap[b]? = some (.cells xs.toArray T (0, 0)) := h; rw [cell_of_row w b k _ _ _ h']; simp
theorem Blk.frozen {w : World} {b : Nat} {T : TypeId} {xs : List Value} (h : Blk w b T xs) (k : Nat) : w.frozen? ⟨b, k, none⟩ = false := frozen_of_row w b k _ _ h
theorem Blk.get {w : World} {b : Nat} {T : TypeId} {xs : List Value} (h : Blk w b T xs) {k : Nat} {v : Value} (hv : xs[k]? = some v) : w.cell? ⟨b, k, none⟩ = some v := (h.cell k).trans hv
theorem Blk.set {w : World} {b : Nat} {T : TypeId} {xs : List Value} (h : Blk w b T xs) (k : Nat) (v : Value) : Blk (w.setCell ⟨b, k, none⟩ v) b T (xs.set k v) := by
  have h' := heap_setCell_same w b k xs.toArray T v h; unfold Blk; rw [h']; simp
theorem Blk.setOther {w : World} {b : Nat} {T : TypeId} {xs : List Value} (h : Blk w b T xs) {a : Addr} (hb : b ≠ a.block) (v : Value) : Blk (w.setCell a v) b T xs := by
  unfold Blk; rw [heap_setCell_other w a b v hb]; exact h
theorem Blk.alloc {w : World} {b : Nat} {T : TypeId} {xs : List Value} (h : Blk w b T xs) (o : Obj) : Blk (w.alloc o) b T xs := by
  unfold Blk; rw [Below.heap_alloc w o b h.lt]; exact h
theorem Blk.drew {w : World} {b : Nat} {T : TypeId} {xs : List Value} (h : Blk w b T xs) : Blk w.drew b T xs := h
theorem Blk.new (w : World) (xs : List Value) (T : TypeId) : Blk (w.alloc (.cells xs.toArray T)) w.heap.size T xs := heap_alloc_new w _
theorem Blk.newA (w : World) (xs : Array Value) (T : TypeId) : Blk (w.alloc (.cells xs T)) w.heap.size T xs.toList := by
  have h := heap_alloc_new w (.cells xs T); simpa [Blk] using h
structure Keep (S : List Nat) (w w' : World) : Prop where
  os : w'.os = w.os
  tape : w'.tape = w.tape
  output : w'.output = w.output
  size : w.heap.size ≤ w'.heap.size
  block : ∀ k, k < w.heap.size → k ∉ S → w'.heap[k]? = w.heap[k]?
theorem Keep.refl (S : List Nat) (w : World) : Keep S w w := ⟨rfl, rfl, rfl, Nat.le_refl _, fun _ _ _ => rfl⟩
theorem Keep.mono {S S' : List Nat} {w w' : World} (h : Keep S w w') (hs : ∀ k ∈ S, k < w.heap.size → k ∈ S') : Keep S' w w' :=
  ⟨h.os, h.tape, h.output, h.size, fun k hk hn => h.block k hk fun hm => hn (hs k hm hk)⟩
theorem Keep.trans {S : List Nat} {a b c : World} (h : Keep S a b) (k : Keep S b c) : Keep S a c :=
  ⟨k.os.trans h.os, k.tape.trans h.tape, k.output.trans h.output, Nat.le_trans h.size k.size,
    fun i hi hn => (k.block i (Nat.lt_of_lt_of_le hi h.size) hn).trans (h.block i hi hn)⟩
theorem Keep.trans' {S S' : List Nat} {a b c : World} (h : Keep S a b) (k : Keep S' b c) (hs : ∀ x ∈ S', x < a.heap.size → x ∈ S) : Keep S a c :=
  ⟨k.os.trans h.os, k.tape.trans h.tape, k.output.trans h.output, Nat.le_trans h.size k.size,
    fun i hi hn => (k.block i (Nat.lt_of_lt_of_le hi h.size) fun hm => hn (hs i hm hi)).trans (h.block i hi hn)⟩
theorem Keep.drew {S : List Nat} {a w : World} (h : Keep S a w) : Keep S a w.drew := ⟨h.os, h.tape, h.output, h.size, h.block⟩
theorem Keep.drewN {S : List Nat} {a w : World} (h : Keep S a w) (n : Nat) : Keep S a (w.drewN n) := ⟨h.os, h.tape, h.output, h.size, h.block⟩
theorem Keep.alloc {S : List Nat} {a w : World} (h : Keep S a w) (o : Obj) : Keep S a (w.alloc o) :=
  h.trans ⟨rfl, rfl, rfl, by simp, fun k hk _ => Below.heap_alloc _ _ _ hk⟩
theorem Keep.setCell {S : List Nat} {a w : World} (h : Keep S a w) (p : Addr) (u : Value) (hp : p.block < a.heap.size → p.block ∈ S) : Keep S a (w.setCell p u) :=
  h.trans' (S' := [p.block]) ⟨rfl, rfl, rfl, by simp, fun k _ hn => Below.heap_setCell _ _ _ _ (by simpa using hn)⟩ (by simpa using hp)
theorem Keep.grown {S : List Nat} {a w w' : World} {row : Option Nat} (h : Keep S a w) (hg : w.grownBy w' row) (hr : ∀ k, row = some k → k < a.heap.size → k ∈ S) : Keep S a w' :=
  ⟨hg.os.trans h.os, hg.tape.trans h.tape, hg.output.trans h.output, Nat.le_trans h.size hg.size,
    fun i hi hn => (hg.block i (Nat.lt_of_lt_of_le hi h.size) (fun e => hn (hr i e.symm hi))).trans (h.block i hi hn)⟩
theorem Keep.of_below {w w' : World} (h : Below w.heap.size w w') (S : List Nat) : Keep S w w' := ⟨h.os, h.tape, h.output, h.size, fun k hk _ => h.block k hk⟩
theorem Keep.below {S : List Nat} {w w' : World} (h : Keep S w w') (hs : ∀ k ∈ S, w.heap.size ≤ k) : Below w.heap.size w w' :=
  ⟨h.os, h.tape, h.output, h.size, fun k hk => h.block k hk fun hm => by have := hs k hm; omega⟩
theorem Keep.blk {S : List Nat} {w w' : World} (h : Keep S w w') {b : Nat} {T : TypeId} {xs : List Value} (hb : Blk w b T xs) (hn : b ∉ S) : Blk w' b T xs := by
  unfold Blk; rw [h.block b hb.lt hn]; exact hb
theorem Keep.cell {S : List Nat} {w w' : World} (h : Keep S w w') {p : Addr} (hp : p.block < w.heap.size) (hn : p.block ∉ S) : w'.cell? p = w.cell? p :=
  World.cell?_of_block (w := w) (h.block p.block hp hn)
def rows {α : Type} (enc : α → List Value) (L : List α) : List Value := L.flatMap enc
theorem rows_length {α : Type} {enc : α → List Value} {n : Nat} (hn : ∀ x, (enc x).length = n) (L : List α) : (rows enc L).length = n * L.length := by
  induction L with
  | nil => simp [rows]
  | cons x r ih =>
    simp only [rows, List.flatMap_cons, List.length_append, hn, List.length_cons] at *; rw [ih, Nat.mul_add]; omega
theorem rows_get {α : Type} {enc : α → List Value} {n : Nat} (hn : ∀ x, (enc x).length = n) : ∀ (L : List α) (i k : Nat) (x : α), L[i]? = some x → k < n → (rows enc L)[n * i + k]? = (enc x)[k]?
  | [], i, k, x, h, _ => by simp at h
  | y :: r, 0, k, x, h, hk => by
    simp at h; subst h
    simp only [rows, List.flatMap_cons, Nat.mul_zero, Nat.zero_add]; rw [List.getElem?_append_left (by rw [hn]; exact hk)]
  | y :: r, i + 1, k, x, h, hk => by
    have ih := rows_get hn r i k x (by simpa using h) hk; simp only [rows, List.flatMap_cons]; rw [List.getElem?_append_right (by rw [hn, Nat.mul_add]; omega), hn]; rw [show n * (i + 1) + k - n = n * i + k from by rw [Nat.mul_add]; omega]; exact ih
theorem rows_get' {α : Type} {enc : α → List Value} {n : Nat} (hn : ∀ x, (enc x).length = n) (L : List α) (i k : Nat) (x : α) (h : L[i]? = some x) (hk : k < n) : (rows enc L)[i * n + k]? = (enc x)[k]? := by
  rw [Nat.mul_comm]; exact rows_get hn L i k x h hk
theorem list_set_self {α : Type} : ∀ (L : List α) (i : Nat) (x : α), L[i]? = some x → L.set i x = L
  | [], i, x, h => by simp at h
  | y :: r, 0, x, h => by simp at h; simp [h]
  | y :: r, i + 1, x, h => by simp at h; simp [list_set_self r i x h]
def Ext (w : World) : Type := { w' : World // Keep [] w w' }
def ext (w : World) (x : Ext w) : World := x.1
instance (w : World) : Nonempty (Ext w) := ⟨⟨w, Keep.refl _ _⟩⟩
theorem ext_keep (w : World) (x : Ext w) : Keep [] w (ext w x) := x.2
theorem Calls.quiet_ext {P : Program} {f : FuncId} {args : Array Value} {w : World} {n : Ext w} {v : Value}
    (h : Calls P f args (ext w n) fun e w' => e = .returned v ∧ Keep [] (ext w n) w') : Calls P f args (ext w n) fun e w'' => e = .returned v ∧ ∃ m, w'' = ext w m :=
  h.mono fun _ w' ⟨he, hk⟩ => ⟨he, ⟨w', (ext_keep w n).trans hk⟩, rfl⟩
theorem wp_region_ext_lit {P : Program} {id : Nat} {Q : Exit → Act → World → Prop} {a : Act} {w : World} {l : List Oper} (hm : P.follows .mixedOrders = true) (hB : Region.lexB .any l.toArray = true)
    (h : wpQuiet P l.toArray (fun w' => ∃ n, w' = ext w n) (fun a' => ∀ w', (∃ n, w' = ext w n) → Q .normal a' w') l a) : (Code.region id l.toArray true).wp P Q a w :=
  wp_region_quiet (C := fun w' => ∃ n, w' = ext w n) hm hB ⟨⟨w.drew, (Keep.refl _ _).drew⟩, rfl⟩ (by simpa using h)
def S (l : List UInt8) : ByteArray := ⟨l.toArray⟩
theorem S_list (l : List UInt8) : (S l).data.toList = l := by simp [S]
theorem S_size (l : List UInt8) : (S l).size = l.length := rfl
theorem S_of (s : ByteArray) : S s.data.toList = s := by
  apply ByteArray.ext; simp [S]
theorem S_toList (l : List UInt8) : (S l).toList = l := by rw [ByteArray.toList_eq, S_list]
theorem u8_nat (b : UInt8) : b.toNat < 256 := b.toNat_lt
theorem conv_keep (w : World) (e : TypeId) (s : ByteArray) : Keep [] w (Lib.bytesWorld w e s) := by
  refine ⟨?_, ?_, ?_, by rw [Lib.bytesWorld_size]; omega, fun k hk _ => Lib.bytesWorld_at_old w e s k hk⟩
  · simp [Lib.bytesWorld, World.freeze]; rfl
  · simp [Lib.bytesWorld, World.freeze]
  · simp [Lib.bytesWorld, World.freeze]; rfl
theorem conv_at (w : World) (e : TypeId) {l : List UInt8} {k : Nat} {c : UInt8} (h : l[k]? = some c) : (Lib.bytesWorld w e (S l)).cell? ⟨w.heap.size, k, none⟩ = some (.int .u8 (c.toNat : Nat)) := by
  have hlt : k < l.length := by
    rcases Nat.lt_or_ge k l.length with h' | h'
    · exact h'
    · rw [List.getElem?_eq_none h'] at h; cases h
  rw [Lib.bytesWorld_cell w e (S l) k (by rw [S_size]; exact hlt), S_list]; simp [List.getD, h]
theorem take_snoc {l : List UInt8} {k : Nat} {c : UInt8} (h : l[k]? = some c) : l.take (k + 1) = l.take k ++ [c] := by
  rw [List.take_add_one, h]; rfl
theorem S_extract (l : List UInt8) (a b : Nat) : (S l).extract a b = S ((l.take b).drop a) := by
  apply ByteArray.ext; apply Array.toList_inj.1; rw [Lib.extract_data, S_list]; simp [S, List.drop_take]
theorem S_append (a b : List UInt8) : S a ++ S b = S (a ++ b) := ByteArray.mk_append_mk a b
theorem ret_bool {a b : Bool} (h : a = b) : Ending.returned (.bool a) = Ending.returned (.bool b) := by rw [h]
theorem ret_str {a b : ByteArray} (h : a = b) : Ending.returned (.string a) = Ending.returned (.string b) := by rw [h]
theorem ret_int {k : IntKind} {a b : Int} (h : a = b) : Ending.returned (.int k a) = Ending.returned (.int k b) := by rw [h]
theorem conv_free (w : World) (e : TypeId) (s : ByteArray) {k : Nat} (h : k < s.size) : (Lib.bytesWorld w e s).frozen? ⟨w.heap.size, k, none⟩ = false := by
  have hb := Lib.bytesWorld_at_new w e s
  have hsz : s.size ≤ (Lib.bytesCells w e s).size := by
    have : s.data.size = s.size := rfl; simp [Lib.bytesCells, this]
  simp only [World.frozen?, hb]; simp; intro h'; omega
def marks : List UInt8 := [33, 35, 36, 37, 38, 39, 42, 43, 45, 46, 94, 95, 96, 124, 126]
def tchar (b : UInt8) : Bool := (decide (97 ≤ b.toNat) && decide (b.toNat ≤ 122)) || (decide (65 ≤ b.toNat) && decide (b.toNat ≤ 90)) || (decide (48 ≤ b.toNat) && decide (b.toNat ≤ 57)) || decide (0 ≤ Lib.indexByte marks b)
def isTok (l : List UInt8) : Bool := l.all tchar && !l.isEmpty
def textB (b : UInt8) : Bool := !(decide (b.toNat < 32) && b.toNat != 9 || b.toNat == 127)
def isTxt (l : List UInt8) : Bool := l.all textB
def trimW (l : List UInt8) : List UInt8 := Lib.trimS l [32, 9]
def lowB (b : UInt8) : UInt8 := if 65 ≤ b.toNat ∧ b.toNat ≤ 90 then b + 32 else b
def lowW (l : List UInt8) : List UInt8 := l.map lowB
structure Fld where
  name : List UInt8
  value : List UInt8
  deriving DecidableEq, Inhabited
def Fld.cells (f : Fld) : List Value := [.string (S f.name), .string (S f.value)]
theorem Fld.cells_length (f : Fld) : f.cells.length = 2 := rfl
def parseF (l : List UInt8) : Option Fld :=
  let c := Lib.cut l [58]
  if c.2.2 && isTok c.1 && isTxt c.2.1 then some ⟨c.1, trimW c.2.1⟩ else none
def parseV (l : List UInt8) : Fld := (parseF l).getD ⟨[], []⟩
def parseE (l : List UInt8) : Int := if (parseF l).isSome then 0 else 3
def goodF (f : Fld) : Bool := isTok f.name && isTxt f.value && trimW f.value == f.value
def printF (f : Fld) : List UInt8 := f.name ++ [58, 32] ++ f.value
end Go.Proofs.YtlhnjkekjbbhcaaGreatDoor
