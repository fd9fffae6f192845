/- Parts of the proof, in order. No conditions but those that each theorem states. -/
import Derived.Test.YtpimfoohpfkciaaDoorProg
import Derived.WalkKit
import Derived.WalkSpells
import Derived.WalkLawsBesides
import Derived.Lib.Hide
import Derived.Deep.QuietTactic
import Derived.BigQuiet
import Derived.Lib.Strings
import Derived.Lib.IndexLaws
import Derived.Lib.IndexMore
import Derived.Lib.SlTrimSet
import Derived.Lib.ConvBytes
import Derived.Test.YtpimfoohpfkciaaDoorShelf
import Derived.Shelf.Strings.SlTrimAscii
import Derived.Deep.RegionHeld3
import Derived.Deep.Cut
import Derived.Deep.DeepCutAuto
import Derived.Deep.LoopGhost
import Derived.ProofKit
import Derived.OpenShut
import Derived.ShutString
import Derived.ChangeOld
import Derived.Deep.Slices
import Derived.Deep.Strs
import Derived.Maps.AppendAt
import Derived.Deep.CutRange
import Derived.Deep.CutBlock
import Derived.Lib.IndexAny
import Derived.Deep.AppendLies
import Derived.Deep.RegionLaw
/- Laws of memory that speak of no program: a block's cells, what a call keeps. No conditions. -/
namespace Go.Proofs.YtpimfoohpfkciaaDoor
open Go.RowKit

/-- Block b is a writable row of cells xs of elements of type T. -/
def Blk (w : World) (b : Nat) (T : TypeId) (xs : List Value) : Prop := w.heap[b]? = some (.cells xs.toArray T (0, 0))

theorem Blk.lt {w : World} {b : Nat} {T : TypeId} {xs : List Value} (h : Blk w b T xs) : b < w.heap.size := lt_of_block h
theorem Blk.cell {w : World} {b : Nat} {T : TypeId} {xs : List Value} (h : Blk w b T xs) (k : Nat) : w.cell? ⟨b, k, none⟩ = xs[k]? := by
  have h' : w.heap[b]? = some (.cells xs.toArray T (0, 0)) := h
  rw [cell_of_row w b k _ _ _ h']
  simp
theorem Blk.frozen {w : World} {b : Nat} {T : TypeId} {xs : List Value} (h : Blk w b T xs) (k : Nat) : w.frozen? ⟨b, k, none⟩ = false := frozen_of_row w b k _ _ h
theorem Blk.get {w : World} {b : Nat} {T : TypeId} {xs : List Value} (h : Blk w b T xs) {k : Nat} {v : Value} (hv : xs[k]? = some v) : w.cell? ⟨b, k, none⟩ = some v := (h.cell k).trans hv
theorem Blk.set {w : World} {b : Nat} {T : TypeId} {xs : List Value} (h : Blk w b T xs) (k : Nat) (v : Value) : Blk (w.setCell ⟨b, k, none⟩ v) b T (xs.set k v) := by
  have h' := heap_setCell_same w b k xs.toArray T v h
  unfold Blk
  rw [h']
  simp
theorem Blk.setOther {w : World} {b : Nat} {T : TypeId} {xs : List Value} (h : Blk w b T xs) {a : Addr} (hb : b ≠ a.block) (v : Value) : Blk (w.setCell a v) b T xs := by
  unfold Blk
  rw [heap_setCell_other w a b v hb]
  exact h
theorem Blk.alloc {w : World} {b : Nat} {T : TypeId} {xs : List Value} (h : Blk w b T xs) (o : Obj) : Blk (w.alloc o) b T xs := by
  unfold Blk
  rw [Below.heap_alloc w o b h.lt]
  exact h
theorem Blk.drew {w : World} {b : Nat} {T : TypeId} {xs : List Value} (h : Blk w b T xs) : Blk w.drew b T xs := h
theorem Blk.drewN {w : World} {b : Nat} {T : TypeId} {xs : List Value} (h : Blk w b T xs) (n : Nat) : Blk (w.drewN n) b T xs := h
theorem Blk.new (w : World) (xs : List Value) (T : TypeId) : Blk (w.alloc (.cells xs.toArray T)) w.heap.size T xs := heap_alloc_new w _
theorem Blk.newA (w : World) (xs : Array Value) (T : TypeId) : Blk (w.alloc (.cells xs T)) w.heap.size T xs.toList := by
  have h := heap_alloc_new w (.cells xs T)
  simpa [Blk] using h

/-- From w to w' nothing has gone, and no block outside S that was there has turned. -/
structure Keep (S : List Nat) (w w' : World) : Prop where
  os : w'.os = w.os
  tape : w'.tape = w.tape
  output : w'.output = w.output
  size : w.heap.size ≤ w'.heap.size
  block : ∀ k, k < w.heap.size → k ∉ S → w'.heap[k]? = w.heap[k]?

theorem Keep.refl (S : List Nat) (w : World) : Keep S w w := ⟨rfl, rfl, rfl, Nat.le_refl _, fun _ _ _ => rfl⟩
theorem Keep.mono {S S' : List Nat} {w w' : World} (h : Keep S w w') (hs : ∀ k ∈ S, k < w.heap.size → k ∈ S') : Keep S' w w' :=
  ⟨h.os, h.tape, h.output, h.size, fun k hk hn => h.block k hk fun hm => hn (hs k hm hk)⟩
theorem Keep.trans {S : List Nat} {a b c : World} (h : Keep S a b) (k : Keep S b c) : Keep S a c :=
  ⟨k.os.trans h.os, k.tape.trans h.tape, k.output.trans h.output, Nat.le_trans h.size k.size,
    fun i hi hn => (k.block i (Nat.lt_of_lt_of_le hi h.size) hn).trans (h.block i hi hn)⟩
/-- the later step may touch what was not there at first -/
theorem Keep.trans' {S S' : List Nat} {a b c : World} (h : Keep S a b) (k : Keep S' b c) (hs : ∀ x ∈ S', x < a.heap.size → x ∈ S) : Keep S a c :=
  ⟨k.os.trans h.os, k.tape.trans h.tape, k.output.trans h.output, Nat.le_trans h.size k.size,
    fun i hi hn => (k.block i (Nat.lt_of_lt_of_le hi h.size) fun hm => hn (hs i hm hi)).trans (h.block i hi hn)⟩
theorem Keep.drew {S : List Nat} {a w : World} (h : Keep S a w) : Keep S a w.drew := ⟨h.os, h.tape, h.output, h.size, h.block⟩
theorem Keep.drewN {S : List Nat} {a w : World} (h : Keep S a w) (n : Nat) : Keep S a (w.drewN n) := ⟨h.os, h.tape, h.output, h.size, h.block⟩
theorem Keep.alloc {S : List Nat} {a w : World} (h : Keep S a w) (o : Obj) : Keep S a (w.alloc o) :=
  h.trans ⟨rfl, rfl, rfl, by simp, fun k hk _ => Below.heap_alloc _ _ _ hk⟩
theorem Keep.setCell {S : List Nat} {a w : World} (h : Keep S a w) (p : Addr) (u : Value) (hp : p.block < a.heap.size → p.block ∈ S) : Keep S a (w.setCell p u) :=
  h.trans' (S' := [p.block]) ⟨rfl, rfl, rfl, by simp, fun k _ hn => Below.heap_setCell _ _ _ _ (by simpa using hn)⟩ (by simpa using hp)
theorem Keep.grown {S : List Nat} {a w w' : World} {row : Option Nat} (h : Keep S a w) (hg : w.grownBy w' row) (hr : ∀ k, row = some k → k < a.heap.size → k ∈ S) : Keep S a w' :=
  ⟨hg.os.trans h.os, hg.tape.trans h.tape, hg.output.trans h.output, Nat.le_trans h.size hg.size,
    fun i hi hn => (hg.block i (Nat.lt_of_lt_of_le hi h.size) (fun e => hn (hr i e.symm hi))).trans (h.block i hi hn)⟩
theorem Keep.of_below {w w' : World} (h : Below w.heap.size w w') (S : List Nat) : Keep S w w' := ⟨h.os, h.tape, h.output, h.size, fun k hk _ => h.block k hk⟩
theorem Keep.below {S : List Nat} {w w' : World} (h : Keep S w w') (hs : ∀ k ∈ S, w.heap.size ≤ k) : Below w.heap.size w w' :=
  ⟨h.os, h.tape, h.output, h.size, fun k hk => h.block k hk fun hm => by have := hs k hm; omega⟩
theorem Keep.blk {S : List Nat} {w w' : World} (h : Keep S w w') {b : Nat} {T : TypeId} {xs : List Value} (hb : Blk w b T xs) (hn : b ∉ S) : Blk w' b T xs := by
  unfold Blk
  rw [h.block b hb.lt hn]
  exact hb
theorem Keep.heap {S : List Nat} {w w' : World} (h : Keep S w w') {b : Nat} {o : Obj} (hb : w.heap[b]? = some o) (hn : b ∉ S) : w'.heap[b]? = some o := by
  rw [h.block b (lt_of_block hb) hn]
  exact hb
theorem Keep.cell {S : List Nat} {w w' : World} (h : Keep S w w') {p : Addr} (hp : p.block < w.heap.size) (hn : p.block ∉ S) : w'.cell? p = w.cell? p :=
  World.cell?_of_block (w := w) (h.block p.block hp hn)
theorem Keep.frozen {S : List Nat} {w w' : World} (h : Keep S w w') {p : Addr} (hp : p.block < w.heap.size) (hn : p.block ∉ S) : w'.frozen? p = w.frozen? p :=
  World.frozen?_of_block (w := w) (h.block p.block hp hn)

/-- A row of records of n cells each. -/
def rows {α : Type} (enc : α → List Value) (L : List α) : List Value := L.flatMap enc

theorem rows_length {α : Type} {enc : α → List Value} {n : Nat} (hn : ∀ x, (enc x).length = n) (L : List α) : (rows enc L).length = n * L.length := by
  induction L with
  | nil => simp [rows]
  | cons x r ih =>
    simp only [rows, List.flatMap_cons, List.length_append, hn, List.length_cons] at *
    rw [ih, Nat.mul_add]
    omega
theorem rows_get {α : Type} {enc : α → List Value} {n : Nat} (hn : ∀ x, (enc x).length = n) : ∀ (L : List α) (i k : Nat) (x : α), L[i]? = some x → k < n → (rows enc L)[n * i + k]? = (enc x)[k]?
  | [], i, k, x, h, _ => by simp at h
  | y :: r, 0, k, x, h, hk => by
    simp at h; subst h
    simp only [rows, List.flatMap_cons, Nat.mul_zero, Nat.zero_add]
    rw [List.getElem?_append_left (by rw [hn]; exact hk)]
  | y :: r, i + 1, k, x, h, hk => by
    have ih := rows_get hn r i k x (by simpa using h) hk
    simp only [rows, List.flatMap_cons]
    rw [List.getElem?_append_right (by rw [hn, Nat.mul_add]; omega), hn]
    rw [show n * (i + 1) + k - n = n * i + k from by rw [Nat.mul_add]; omega]
    exact ih
theorem rows_get' {α : Type} {enc : α → List Value} {n : Nat} (hn : ∀ x, (enc x).length = n) (L : List α) (i k : Nat) (x : α) (h : L[i]? = some x) (hk : k < n) : (rows enc L)[i * n + k]? = (enc x)[k]? := by
  rw [Nat.mul_comm]; exact rows_get hn L i k x h hk
/-- one cell of one record is set -/
theorem rows_set {α : Type} {enc : α → List Value} {n : Nat} (hn : ∀ x, (enc x).length = n) : ∀ (L : List α) (i k : Nat) (x y : α) (v : Value), L[i]? = some x → k < n → enc y = (enc x).set k v → (rows enc L).set (n * i + k) v = rows enc (L.set i y)
  | [], i, k, x, y, v, h, _, _ => by simp at h
  | z :: r, 0, k, x, y, v, h, hk, e => by
    simp at h; subst h
    simp only [rows, List.flatMap_cons, Nat.mul_zero, Nat.zero_add, List.set_cons_zero]
    rw [List.set_append_left _ _ (by rw [hn]; exact hk), e]
  | z :: r, i + 1, k, x, y, v, h, hk, e => by
    have ih := rows_set hn r i k x y v (by simpa using h) hk e
    simp only [rows, List.flatMap_cons, List.set_cons_succ] at *
    rw [List.set_append_right _ _ (by rw [hn, Nat.mul_add]; omega), hn]
    rw [show n * (i + 1) + k - n = n * i + k from by rw [Nat.mul_add]; omega, ih]
theorem rows_set' {α : Type} {enc : α → List Value} {n : Nat} (hn : ∀ x, (enc x).length = n) (L : List α) (i k : Nat) (x y : α) (v : Value) (h : L[i]? = some x) (hk : k < n) (e : enc y = (enc x).set k v) : (rows enc L).set (i * n + k) v = rows enc (L.set i y) := by
  rw [Nat.mul_comm]; exact rows_set hn L i k x y v h hk e
theorem made_rows {α : Type} {enc : α → List Value} {n : Nat} (hn : ∀ x, (enc x).length = n) (h0 : 0 < n) (x : α) (m : Nat) : (madeCells (enc x).toArray (m * n)).toList = rows enc (List.replicate m x) := by
  apply List.ext_getElem?
  intro j
  by_cases hj : j < m * n
  · have hq : j / n < m := Nat.div_lt_of_lt_mul (by rw [Nat.mul_comm]; exact hj)
    have hr : j % n < n := Nat.mod_lt _ h0
    have e : j = n * (j / n) + j % n := (Nat.div_add_mod j n).symm
    have hg := rows_get hn (List.replicate m x) (j / n) (j % n) x (by simp [hq]) hr
    rw [← e] at hg
    rw [hg]
    have hj' : j % n < (enc x).length := by rw [hn]; exact hr
    simp [madeCells, hj, hn]
    rw [List.getElem?_eq_getElem hj']
    rfl
  · rw [List.getElem?_eq_none (by simp [madeCells]; omega), List.getElem?_eq_none (by rw [rows_length hn]; simp; rw [Nat.mul_comm]; omega)]
theorem list_set_self {α : Type} : ∀ (L : List α) (i : Nat) (x : α), L[i]? = some x → L.set i x = L
  | [], i, x, h => by simp at h
  | y :: r, 0, x, h => by simp at h; simp [h]
  | y :: r, i + 1, x, h => by simp at h; simp [list_set_self r i x h]

/-! A region that draws its order, whose operations read old memory and call functions that only make memory: the class of the worlds that extend one. -/
def Ext (w : World) : Type := { w' : World // Keep [] w w' }
def ext (w : World) (x : Ext w) : World := x.1
instance (w : World) : Nonempty (Ext w) := ⟨⟨w, Keep.refl _ _⟩⟩
theorem ext_keep (w : World) (x : Ext w) : Keep [] w (ext w x) := x.2
theorem Calls.quiet_ext {P : Program} {f : FuncId} {args : Array Value} {w : World} {n : Ext w} {v : Value}
    (h : Calls P f args (ext w n) fun e w' => e = .returned v ∧ Keep [] (ext w n) w') : Calls P f args (ext w n) fun e w'' => e = .returned v ∧ ∃ m, w'' = ext w m :=
  h.mono fun _ w' ⟨he, hk⟩ => ⟨he, ⟨w', (ext_keep w n).trans hk⟩, rfl⟩
theorem Calls.quiet_ext_same {P : Program} {f : FuncId} {args : Array Value} {w : World} {n : Ext w} {v : Value}
    (h : Calls P f args (ext w n) fun e w' => e = .returned v ∧ ext w n = w') : Calls P f args (ext w n) fun e w'' => e = .returned v ∧ ∃ m, w'' = ext w m :=
  h.mono fun _ _ ⟨he, hk⟩ => ⟨he, n, hk.symm⟩
theorem wp_region_ext_lit {P : Program} {id : Nat} {Q : Exit → Act → World → Prop} {a : Act} {w : World} {l : List Oper} (hm : P.follows .mixedOrders = true) (hB : Region.lexB .any l.toArray = true)
    (h : wpQuiet P l.toArray (fun w' => ∃ n, w' = ext w n) (fun a' => ∀ w', (∃ n, w' = ext w n) → Q .normal a' w') l a) : (Code.region id l.toArray true).wp P Q a w :=
  wp_region_quiet (C := fun w' => ∃ n, w' = ext w n) hm hB ⟨⟨w.drew, (Keep.refl _ _).drew⟩, rfl⟩ (by simpa using h)
end Go.Proofs.YtpimfoohpfkciaaDoor

/- Strings as lists of bytes: small laws. They speak of no program. No conditions. -/
namespace Go.Proofs.YtpimfoohpfkciaaDoor
open Go.RowKit

/-- a list of bytes as a string -/
def S (l : List UInt8) : ByteArray := ⟨l.toArray⟩
theorem S_list (l : List UInt8) : (S l).data.toList = l := by simp [S]
theorem S_size (l : List UInt8) : (S l).size = l.length := rfl
theorem S_of (s : ByteArray) : S s.data.toList = s := by
  apply ByteArray.ext
  simp [S]
theorem S_toList (l : List UInt8) : (S l).toList = l := by rw [ByteArray.toList_eq, S_list]
theorem S_inj {a b : List UInt8} (h : S a = S b) : a = b := by
  have := congrArg (fun s => s.data.toList) h
  simpa [S_list] using this
theorem toList_get (s : ByteArray) (k : Nat) (h : k < s.size) : s.data.toList[k]? = some s[k] := by
  rw [List.getElem?_eq_getElem (by rw [← Lib.size_eq]; exact h)]
  rfl
theorem take_get (l : List UInt8) (k : Nat) (h : k < l.length) : l.take (k + 1) = l.take k ++ [l[k]] := by
  rw [List.take_succ_eq_append_getElem h]
theorem u8_nat (b : UInt8) : b.toNat < 256 := b.toNat_lt

/-! '[]byte(s)' -/
theorem conv_cell (w : World) (e : TypeId) (s : ByteArray) (k : Nat) (h : k < s.size) : (Lib.bytesWorld w e s).cell? ⟨w.heap.size, k, none⟩ = some (.int .u8 (s[k].toNat : Nat)) := by
  rw [Lib.bytesWorld_cell w e s k h]
  have := toList_get s k h
  simp [List.getD, this]
theorem conv_keep (w : World) (e : TypeId) (s : ByteArray) : Keep [] w (Lib.bytesWorld w e s) := by
  refine ⟨?_, ?_, ?_, by rw [Lib.bytesWorld_size]; omega, fun k hk _ => Lib.bytesWorld_at_old w e s k hk⟩
  · simp [Lib.bytesWorld, World.freeze]; rfl
  · simp [Lib.bytesWorld, World.freeze]
  · simp [Lib.bytesWorld, World.freeze]; rfl
theorem conv_at (w : World) (e : TypeId) {l : List UInt8} {k : Nat} {c : UInt8} (h : l[k]? = some c) : (Lib.bytesWorld w e (S l)).cell? ⟨w.heap.size, k, none⟩ = some (.int .u8 (c.toNat : Nat)) := by
  have hlt : k < l.length := by
    rcases Nat.lt_or_ge k l.length with h' | h'
    · exact h'
    · rw [List.getElem?_eq_none h'] at h; cases h
  rw [Lib.bytesWorld_cell w e (S l) k (by rw [S_size]; exact hlt), S_list]
  simp [List.getD, h]
theorem take_snoc {l : List UInt8} {k : Nat} {c : UInt8} (h : l[k]? = some c) : l.take (k + 1) = l.take k ++ [c] := by
  rw [List.take_add_one, h]; rfl
theorem S_extract (l : List UInt8) (a b : Nat) : (S l).extract a b = S ((l.take b).drop a) := by
  apply ByteArray.ext
  apply Array.toList_inj.1
  rw [Lib.extract_data, S_list]
  simp [S, List.drop_take]
theorem S_append (a b : List UInt8) : S a ++ S b = S (a ++ b) := ByteArray.mk_append_mk a b
theorem ret_bool {a b : Bool} (h : a = b) : Ending.returned (.bool a) = Ending.returned (.bool b) := by rw [h]
theorem ret_str {a b : ByteArray} (h : a = b) : Ending.returned (.string a) = Ending.returned (.string b) := by rw [h]
theorem ret_int {k : IntKind} {a b : Int} (h : a = b) : Ending.returned (.int k a) = Ending.returned (.int k b) := by rw [h]
theorem conv_free (w : World) (e : TypeId) (s : ByteArray) {k : Nat} (h : k < s.size) : (Lib.bytesWorld w e s).frozen? ⟨w.heap.size, k, none⟩ = false := by
  have hb := Lib.bytesWorld_at_new w e s
  have hsz : s.size ≤ (Lib.bytesCells w e s).size := by
    have : s.data.size = s.size := rfl
    simp [Lib.bytesCells, this]
  simp only [World.frozen?, hb]
  simp
  intro h'
  omega
end Go.Proofs.YtpimfoohpfkciaaDoor

/- What the functions of layer 10 compute, as plain functions of lists of bytes. No program. No conditions. -/
namespace Go.Proofs.YtpimfoohpfkciaaDoor
open Go.RowKit

def marks : List UInt8 := [33, 35, 36, 37, 38, 39, 42, 43, 45, 46, 94, 95, 96, 124, 126]
def tchar (b : UInt8) : Bool := (decide (97 ≤ b.toNat) && decide (b.toNat ≤ 122)) || (decide (65 ≤ b.toNat) && decide (b.toNat ≤ 90)) || (decide (48 ≤ b.toNat) && decide (b.toNat ≤ 57)) || decide (0 ≤ Lib.indexByte marks b)
def isTok (l : List UInt8) : Bool := l.all tchar && !l.isEmpty
def textB (b : UInt8) : Bool := !(decide (b.toNat < 32) && b.toNat != 9 || b.toNat == 127)
def isTxt (l : List UInt8) : Bool := l.all textB
def trimW (l : List UInt8) : List UInt8 := Lib.trimS l [32, 9]
def lowB (b : UInt8) : UInt8 := if 65 ≤ b.toNat ∧ b.toNat ≤ 90 then b + 32 else b
def lowW (l : List UInt8) : List UInt8 := l.map lowB
/-- a field -/
structure Fld where
  name : List UInt8
  value : List UInt8
  deriving DecidableEq, Inhabited
def Fld.cells (f : Fld) : List Value := [.string (S f.name), .string (S f.value)]
theorem Fld.cells_length (f : Fld) : f.cells.length = 2 := rfl
def parseF (l : List UInt8) : Option Fld :=
  let c := Lib.cut l [58]
  if c.2.2 && isTok c.1 && isTxt c.2.1 then some ⟨c.1, trimW c.2.1⟩ else none
/-- what Parse hands back -/
def parseV (l : List UInt8) : Fld := (parseF l).getD ⟨[], []⟩
def parseE (l : List UInt8) : Int := if (parseF l).isSome then 0 else 3
def goodF (f : Fld) : Bool := isTok f.name && isTxt f.value && trimW f.value == f.value
def printF (f : Fld) : List UInt8 := f.name ++ [58, 32] ++ f.value
end Go.Proofs.YtpimfoohpfkciaaDoor

/- Layer 10, its small functions: one contract each. No conditions but on lengths. -/
namespace Go.Proofs.YtpimfoohpfkciaaDoor
open Go.RowKit Go.Shelf

theorem conv_run (w : World) (s : ByteArray) : (convert 9 62 (.string s)).run Tryd.prog w = .ok (.slice (some ⟨w.heap.size, 0, none⟩) s.size (grownCap w s.size 0 5)) (Lib.bytesWorld w 5 s) :=
  Lib.run_convert_string_bytes w 9 62 5 s Tryd.underlying9 Tryd.underlying62 Tryd.underlying5

set_option maxRecDepth 100000 in
set_option maxHeartbeats 400000 in
theorem field_isTchar (b : UInt8) (w : World) :
    Calls Tryd.prog 28 #[.int .u8 b.toNat] w fun e w' => e = .returned (.bool (tchar b)) ∧ w = w' := by
  have hb := u8_nat b
  have hix := Tryd.strings_IndexByte (S marks) b.toNat
  have ec : ((b.toNat : Int)).toNat.toUInt8 = b := by simp
  rw [ec, S_list] at hix
  go_enter Tryd.func28, Tryd.ntmps28
  go_wp2_with fail
  all_goals first
    | (refine (hix _).mono ?_
       rintro e w1 ⟨rfl, rfl⟩
       go_wp2_with fail
       go_ret
       refine ⟨?_, rfl⟩
       congr 2
       simp only [tchar]
       simp
       omega)
    | (go_ret
       refine ⟨?_, rfl⟩
       congr 2
       simp only [tchar]
       simp
       omega)

set_option maxRecDepth 100000 in
set_option maxHeartbeats 400000 in
theorem field_IsToken (l : List UInt8) (w : World) (hs : l.length ≤ maxLen) :
    Calls Tryd.prog 17 #[.string (S l)] w fun e w' => e = .returned (.bool (isTok l)) ∧ Keep [] w w' := by
  have hs' : l.length ≤ 9223372036854775807 := hs
  have hcv := conv_run w (S l)
  have hcell : Hid (∀ (k : Nat) (c : UInt8), l[k]? = some c → _) := fun k c h => conv_at w 5 h
  have hkp := conv_keep w 5 (S l)
  generalize Lib.bytesWorld w 5 (S l) = wb at hcv hcell hkp
  have hsz := S_size l
  have hte := S_toList l
  clear hs
  go_enter Tryd.func17, Tryd.ntmps17
  go_wp2_with fail
  go_loop [8] (fun i => ∃ k : Nat, i = .int .i64 k ∧ k ≤ l.length ∧ Hid ((l.take k).all tchar = true)) (fun i => l.length - (intOf i).toNat)
  case atStart => exact ⟨0, rfl, Nat.zero_le _, by simp [Hid]⟩
  case round =>
    obtain ⟨k, rfl, hk, hall⟩ := hrel
    by_cases hlt : k < l.length
    · obtain ⟨c, hg⟩ : ∃ c, l[k]? = some c := ⟨_, List.getElem?_eq_getElem hlt⟩
      have hc := hcell.out k c hg
      have hT := field_isTchar c
      have HG := Lib.hid hg
      clear hg
      cases ht : tchar c with
      | true =>
        rw [ht] at hT
        have HT := Lib.hid ht
        clear ht
        go_wp2_with (go_at_call 28; refine (hT _).mono ?_; rintro e w1 ⟨rfl, rfl⟩)
        go_round
        case rel => exact ⟨k + 1, by go_num, by omega, by rw [Hid, take_snoc HG.out, List.all_append, hall.out]; simp [HT.out]⟩
        case measure => simp [intOf]; omega
      | false =>
        rw [ht] at hT
        have HT := Lib.hid ht
        clear ht
        go_wp2_with (go_at_call 28; refine (hT _).mono ?_; rintro e w1 ⟨rfl, rfl⟩)
        go_ret
        have : isTok l = false := by
          unfold isTok
          rw [show l.all tchar = false from by rw [List.all_eq_false]; exact ⟨c, List.mem_of_getElem? HG.out, by simp [HT.out]⟩]
          rfl
        exact ⟨ret_bool this.symm, hkp⟩
    · have e : l.take k = l := List.take_of_length_le (by omega)
      rw [e] at hall
      clear e
      go_wp2_with fail
      go_ret
      refine ⟨ret_bool ?_, hkp⟩
      unfold isTok
      rw [hall.out]
      simp

set_option maxRecDepth 100000 in
set_option maxHeartbeats 400000 in
theorem field_isText (l : List UInt8) (w : World) (hs : l.length ≤ maxLen) :
    Calls Tryd.prog 25 #[.string (S l)] w fun e w' => e = .returned (.bool (isTxt l)) ∧ Keep [] w w' := by
  have hs' : l.length ≤ 9223372036854775807 := hs
  have hcv := conv_run w (S l)
  have hcell : Hid (∀ (k : Nat) (c : UInt8), l[k]? = some c → _) := fun k c h => conv_at w 5 h
  have hkp := conv_keep w 5 (S l)
  generalize Lib.bytesWorld w 5 (S l) = wb at hcv hcell hkp
  have hsz := S_size l
  clear hs
  go_enter Tryd.func25, Tryd.ntmps25
  go_wp2_with fail
  go_loop [8] (fun i => ∃ k : Nat, i = .int .i64 k ∧ k ≤ l.length ∧ Hid ((l.take k).all textB = true)) (fun i => l.length - (intOf i).toNat)
  case atStart => exact ⟨0, rfl, Nat.zero_le _, by simp [Hid]⟩
  case round =>
    obtain ⟨k, rfl, hk, hall⟩ := hrel
    by_cases hlt : k < l.length
    · obtain ⟨c, hg⟩ : ∃ c, l[k]? = some c := ⟨_, List.getElem?_eq_getElem hlt⟩
      have hc := hcell.out k c hg
      have hc8 := u8_nat c
      have HG := Lib.hid hg
      clear hg
      by_cases ht : textB c = true
      · have h1 : c.toNat ≠ 127 ∧ (32 ≤ c.toNat ∨ c.toNat = 9) := by simp [textB] at ht; omega
        have HT := Lib.hid ht
        obtain ⟨h2, h3⟩ := h1
        have h4 : (((c.toNat : Nat) : Int) == 127) = false := by simp; omega
        clear ht
        by_cases h5 : c.toNat < 32
        · have h6 : (((c.toNat : Nat) : Int) != 9) = false := by simp; omega
          clear h2 h3
          go_wp2_with fail
          go_round
          case rel => exact ⟨k + 1, by go_num, by omega, by rw [Hid, take_snoc HG.out, List.all_append, hall.out]; simp [HT.out]⟩
          case measure => simp [intOf]; omega
        · clear h2 h3
          go_wp2_with fail
          go_round
          case rel => exact ⟨k + 1, by go_num, by omega, by rw [Hid, take_snoc HG.out, List.all_append, hall.out]; simp [HT.out]⟩
          case measure => simp [intOf]; omega
      · have HT := Lib.hid ht
        have this : isTxt l = false := by
          unfold isTxt
          rw [List.all_eq_false]; exact ⟨c, List.mem_of_getElem? HG.out, ht⟩
        have H := Lib.hid this
        by_cases h5 : c.toNat = 127
        · have h4 : (((c.toNat : Nat) : Int) == 127) = true := by simp; omega
          have h7 : ¬ c.toNat < 32 := by omega
          clear this ht h5
          go_wp2_with fail
          go_ret
          exact ⟨ret_bool H.out.symm, hkp⟩
        · have h1 : c.toNat < 32 ∧ c.toNat ≠ 9 := by simp [textB] at ht; omega
          have h6 : (((c.toNat : Nat) : Int) != 9) = true := by simp; omega
          obtain ⟨h1, h2⟩ := h1
          clear this ht h5 h2
          go_wp2_with fail
          go_ret
          exact ⟨ret_bool H.out.symm, hkp⟩
    · have e : l.take k = l := List.take_of_length_le (by omega)
      rw [e] at hall
      clear e
      go_wp2_with fail
      go_ret
      exact ⟨ret_bool hall.out.symm, hkp⟩

set_option maxRecDepth 100000 in
set_option maxHeartbeats 400000 in
theorem field_trim (l : List UInt8) (w : World) (hs : l.length ≤ maxLen) :
    Calls Tryd.prog 26 #[.string (S l)] w fun e w' => e = .returned (.string (S (trimW l))) ∧ Keep [] w w' := by
  have hT := Any.strings_Trim_laid Tryd.lays160 (by kernel_rfl) (S l) ⟨#[32, 9]⟩ w hs (by decide) (ascii_of_all (by decide))
  rw [S_list] at hT
  go_enter Tryd.func26, Tryd.ntmps26
  go_wp2_with (go_at_call 39; refine hT.mono ?_; rintro e w1 ⟨rfl, hb⟩)
  go_ret
  exact ⟨rfl, Keep.of_below hb _⟩
end Go.Proofs.YtpimfoohpfkciaaDoor

/- Layer 10: Parse, Print, Good, low. No conditions but on lengths. -/
namespace Go.Proofs.YtpimfoohpfkciaaDoor
open Go.RowKit Go.Shelf

/-- the library's own variable holds a number -/
def ML (w : World) : Prop := ∃ m, w.cell? ⟨0, 0, none⟩ = some (.int .i64 m)
theorem ML.keep {w w' : World} {S : List Nat} (h : ML w) (k : Keep S w w') (hn : 0 ∉ S) : ML w' := by
  obtain ⟨m, hm⟩ := h
  have := World.block_lt_of_cell? w _ hm
  exact ⟨m, (k.cell (p := ⟨0, 0, none⟩) this hn).trans hm⟩
theorem cut_len (l sep : List UInt8) : (Lib.cut l sep).1.length ≤ l.length ∧ (Lib.cut l sep).2.1.length ≤ l.length := by
  unfold Lib.cut
  split
  · simp; omega
  · simp

theorem strings_Cut (l : List UInt8) (sep : ByteArray) (w : World) (hm : ML w) (hl : l.length < 4294967281) :
    Calls Tryd.prog 16 #[.string (S l), .string sep] w fun e w' => e = .returned (.tuple #[.string (S (Lib.cut l sep.data.toList).1), .string (S (Lib.cut l sep.data.toList).2.1), .bool (Lib.cut l sep.data.toList).2.2]) ∧ Keep [] w w' := by
  obtain ⟨m, hm⟩ := hm
  have h := Tryd.strings_Cut (S l) sep m w hl hm
  rw [S_list] at h
  exact h.mono fun e w' ⟨he, n, hn⟩ => ⟨he, by rw [hn]; exact (Keep.refl _ _).drewN n⟩

set_option maxRecDepth 100000 in
set_option maxHeartbeats 400000 in
theorem field_Parse (l : List UInt8) (w : World) (hm : ML w) (hl : l.length < 4294967281) :
    Calls Tryd.prog 76 #[.string (S l)] w fun e w' => e = .returned (.tuple #[.agg (parseV l).cells.toArray, .int .i64 (parseE l)]) ∧ Keep [] w w' := by
  have hC := fun w1 (k : Keep [] w w1) => strings_Cut l ⟨#[58]⟩ w1 (hm.keep k (by simp)) hl
  have hlen := cut_len l [58]
  have hP : parseF l = if (Lib.cut l [58]).2.2 && isTok (Lib.cut l [58]).1 && isTxt (Lib.cut l [58]).2.1 then some ⟨(Lib.cut l [58]).1, trimW (Lib.cut l [58]).2.1⟩ else none := rfl
  change ∀ w1, Keep [] w w1 → Calls Tryd.prog 16 #[.string (S l), .string ⟨#[58]⟩] w1 fun e w' => e = .returned (.tuple #[.string (S (Lib.cut l [58]).1), .string (S (Lib.cut l [58]).2.1), .bool (Lib.cut l [58]).2.2]) ∧ Keep [] w1 w' at hC
  generalize Lib.cut l [58] = c at hC hlen hP
  obtain ⟨name, value, ok⟩ := c
  dsimp only at hC hlen hP
  have HC := Lib.hid hC
  have hbA := Blk.newA w #[.string ⟨#[]⟩, .string ⟨#[]⟩] 44
  have hkA := (Keep.refl [] w).alloc (.cells #[.string ⟨#[]⟩, .string ⟨#[]⟩] 44)
  clear hC
  cases ok with
  | false =>
    simp only [Bool.false_and, Bool.false_eq_true, if_false] at hP
    have HP := Lib.hid hP
    clear hP
    go_enter Tryd.func76, Tryd.ntmps76
    go_wp2_with fail
    refine (HC.out _ hkA).mono ?_
    rintro e w1 ⟨rfl, hk1⟩
    have hb1 := hk1.blk hbA (by simp)
    have d0 := hb1.get (k := 0) rfl
    have d1 := hb1.get (k := 1) rfl
    have f1 := hb1.frozen
    have hs1 := hb1.lt
    go_wp2_with fail
    have hb2 := (hb1.set 0 (.string ⟨#[]⟩)).set 1 (.string ⟨#[]⟩)
    have d2 := hb2.get (k := 0) rfl
    have d3 := hb2.get (k := 1) rfl
    refine bodyPost_ret (v := .tuple #[.agg #[.string (S []), .string (S [])], .int .i64 3]) ?_ rfl ⟨?_, ?_⟩
    · simp [results, Tryd.results76, go_sem, S, d2, d3]
    · unfold parseV parseE; rw [HP.out]; rfl
    · exact ((hkA.trans hk1).setCell _ _ (by simp)).setCell _ _ (by simp)
  | true =>
    have hn : name.length ≤ maxLen := by show _ ≤ 9223372036854775807; omega
    have hv : value.length ≤ maxLen := by show _ ≤ 9223372036854775807; omega
    have hT := fun w1 => field_IsToken name w1 hn
    have hX := fun w1 => field_isText value w1 hv
    have hR := fun w1 => field_trim value w1 hv
    cases htk : isTok name with
    | false =>
      simp only [htk, Bool.and_false, Bool.false_and, Bool.false_eq_true, if_false] at hP
      rw [htk] at hT
      have HP := Lib.hid hP
      have HT := Lib.hid hT
      clear hP hT hX hR htk hlen hn hv
      go_enter Tryd.func76, Tryd.ntmps76
      go_wp2_with fail
      refine (HC.out _ hkA).mono ?_
      rintro e w1 ⟨rfl, hk1⟩
      go_wp2_with fail
      refine (HT.out _).mono ?_
      rintro e w2 ⟨rfl, hk2⟩
      have hb1 := hk2.blk (hk1.blk hbA (by simp)) (by simp)
      have d0 := hb1.get (k := 0) rfl
      have d1 := hb1.get (k := 1) rfl
      have f1 := hb1.frozen
      have hs1 := hb1.lt
      go_wp2_with fail
      have hb2 := (hb1.set 0 (.string ⟨#[]⟩)).set 1 (.string ⟨#[]⟩)
      have d2 := hb2.get (k := 0) rfl
      have d3 := hb2.get (k := 1) rfl
      refine bodyPost_ret (v := .tuple #[.agg #[.string (S []), .string (S [])], .int .i64 3]) ?_ rfl ⟨?_, ?_⟩
      · simp [results, Tryd.results76, go_sem, S, d2, d3]
      · unfold parseV parseE; rw [HP.out]; rfl
      · exact (((hkA.trans hk1).trans hk2).setCell _ _ (by simp)).setCell _ _ (by simp)
    | true =>
      cases htx : isTxt value with
      | false =>
        simp only [htk, htx, Bool.and_false, Bool.false_eq_true, if_false] at hP
        rw [htk] at hT
        rw [htx] at hX
        have HP := Lib.hid hP
        have HT := Lib.hid hT
        have HX := Lib.hid hX
        clear hP hT hX hR htk hlen hn hv htx
        go_enter Tryd.func76, Tryd.ntmps76
        go_wp2_with fail
        refine (HC.out _ hkA).mono ?_
        rintro e w1 ⟨rfl, hk1⟩
        go_wp2_with fail
        refine (HT.out _).mono ?_
        rintro e w2 ⟨rfl, hk2⟩
        go_wp2_with fail
        refine (HX.out _).mono ?_
        rintro e w3 ⟨rfl, hk3⟩
        have hb1 := hk3.blk (hk2.blk (hk1.blk hbA (by simp)) (by simp)) (by simp)
        have d0 := hb1.get (k := 0) rfl
        have d1 := hb1.get (k := 1) rfl
        have f1 := hb1.frozen
        have hs1 := hb1.lt
        go_wp2_with fail
        have hb2 := (hb1.set 0 (.string ⟨#[]⟩)).set 1 (.string ⟨#[]⟩)
        have d2 := hb2.get (k := 0) rfl
        have d3 := hb2.get (k := 1) rfl
        refine bodyPost_ret (v := .tuple #[.agg #[.string (S []), .string (S [])], .int .i64 3]) ?_ rfl ⟨?_, ?_⟩
        · simp [results, Tryd.results76, go_sem, S, d2, d3]
        · unfold parseV parseE; rw [HP.out]; rfl
        · exact ((((hkA.trans hk1).trans hk2).trans hk3).setCell _ _ (by simp)).setCell _ _ (by simp)
      | true =>
        simp only [htk, htx, Bool.and_true, if_true] at hP
        rw [htk] at hT
        rw [htx] at hX
        have HP := Lib.hid hP
        have HT := Lib.hid hT
        have HX := Lib.hid hX
        have HR := Lib.hid hR
        clear hP hT hX hR htk hlen hn hv htx
        go_enter Tryd.func76, Tryd.ntmps76
        go_wp2_with fail
        refine (HC.out _ hkA).mono ?_
        rintro e w1 ⟨rfl, hk1⟩
        go_wp2_with fail
        refine (HT.out _).mono ?_
        rintro e w2 ⟨rfl, hk2⟩
        go_wp2_with fail
        refine (HX.out _).mono ?_
        rintro e w3 ⟨rfl, hk3⟩
        go_wp2_with fail
        refine (HR.out _).mono ?_
        rintro e w4 ⟨rfl, hk4⟩
        have hb1 := hk4.blk (hk3.blk (hk2.blk (hk1.blk hbA (by simp)) (by simp)) (by simp)) (by simp)
        have d0 := hb1.get (k := 0) rfl
        have d1 := hb1.get (k := 1) rfl
        have f1 := hb1.frozen
        have hs1 := hb1.lt
        go_wp2_with fail
        have hb2 := (hb1.set 0 (.string (S name))).set 1 (.string (S (trimW value)))
        have d2 := hb2.get (k := 0) rfl
        have d3 := hb2.get (k := 1) rfl
        refine bodyPost_ret (v := .tuple #[.agg #[.string (S name), .string (S (trimW value))], .int .i64 0]) ?_ rfl ⟨?_, ?_⟩
        · simp [results, Tryd.results76, go_sem, d2, d3]
        · unfold parseV parseE; rw [HP.out]; rfl
        · exact (((((hkA.trans hk1).trans hk2).trans hk3).trans hk4).setCell _ _ (by simp)).setCell _ _ (by simp)

set_option maxRecDepth 100000 in
set_option maxHeartbeats 400000 in
theorem field_Print (f : Fld) (w : World) (hl : f.name.length + f.value.length ≤ 1073741824) :
    Calls Tryd.prog 15 #[.agg f.cells.toArray] w fun e w' => e = .returned (.string (S (printF f))) ∧ Keep [] w w' := by
  have h1 := S_size f.name
  have h2 := S_size f.value
  have hkA := (Keep.refl [] w).alloc (.cells #[.string (S f.name), .string (S f.value)] 44)
  have hsum : S f.name ++ ⟨#[58, 32]⟩ ++ S f.value = S (printF f) := by
    show S f.name ++ S [58, 32] ++ S f.value = _
    rw [S_append, S_append]; rfl
  have HS := Lib.hid hsum
  clear hsum
  show Calls _ _ #[.agg #[.string (S f.name), .string (S f.value)]] _ _
  go_enter Tryd.func15, Tryd.ntmps15
  go_wp2_with fail
  go_ret
  exact ⟨ret_str HS.out, hkA⟩

set_option maxRecDepth 100000 in
set_option maxHeartbeats 400000 in
theorem field_Good (f : Fld) (w : World) (hn : f.name.length ≤ maxLen) (hv : f.value.length ≤ maxLen) :
    Calls Tryd.prog 14 #[.agg f.cells.toArray] w fun e w' => e = .returned (.bool (goodF f)) ∧ Keep [] w w' := by
  have hT := fun w1 => field_IsToken f.name w1 hn
  have hX := fun w1 => field_isText f.value w1 hv
  have hR := fun w1 => field_trim f.value w1 hv
  have hbA : Blk (w.alloc (.cells #[.string (S f.name), .string (S f.value)] 44)) w.heap.size 44 [.string (S f.name), .string (S f.value)] := Blk.newA w _ _
  have hkA := (Keep.refl [] w).alloc (.cells #[.string (S f.name), .string (S f.value)] 44)
  have hG : goodF f = (isTok f.name && isTxt f.value && (trimW f.value == f.value)) := rfl
  show Calls _ _ #[.agg #[.string (S f.name), .string (S f.value)]] _ _
  have hA0 : ∀ x, (ext (w.alloc (.cells #[.string (S f.name), .string (S f.value)] 44)) x).cell? ⟨w.heap.size, 0, none⟩ = some (.string (S f.name)) := fun x => ((ext_keep _ x).blk hbA (by simp)).get rfl
  have hA1 : ∀ x, (ext (w.alloc (.cells #[.string (S f.name), .string (S f.value)] 44)) x).cell? ⟨w.heap.size, 1, none⟩ = some (.string (S f.value)) := fun x => ((ext_keep _ x).blk hbA (by simp)).get rfl
  cases htk : isTok f.name with
  | false =>
    rw [htk] at hT hG
    have HT := Lib.hid hT
    have HG := Lib.hid hG
    clear hT hX hR hG htk hn hv
    go_enter Tryd.func14, Tryd.ntmps14
    go_wp2_with fail
    refine wp_region_ext_lit (by kernel_rfl) (by kernel_rfl) ?_
    repeat (go_big_quiet_step ((go_at_call 17; exact Calls.quiet_ext (HT.out _))))
    refine wpQuiet_nil ?_
    intro _ hw'
    obtain ⟨nq, hw''⟩ := hw'
    subst hw''
    go_wp2_with fail
    go_ret
    exact ⟨ret_bool (by rw [HG.out]; rfl), hkA.trans (ext_keep _ nq)⟩
  | true =>
    cases htx : isTxt f.value with
    | false =>
      rw [htk, htx] at hG
      rw [htk] at hT
      rw [htx] at hX
      have HT := Lib.hid hT
      have HX := Lib.hid hX
      have HG := Lib.hid hG
      clear hT hX hR hG htk hn hv htx
      go_enter Tryd.func14, Tryd.ntmps14
      go_wp2_with fail
      refine wp_region_ext_lit (by kernel_rfl) (by kernel_rfl) ?_
      repeat (go_big_quiet_step ((first | (go_at_call 17; exact Calls.quiet_ext (HT.out _)) | (go_at_call 25; exact Calls.quiet_ext (HX.out _)))))
      refine wpQuiet_nil ?_
      intro _ hw'
      obtain ⟨nq, hw''⟩ := hw'
      subst hw''
      go_wp2_with fail
      go_ret
      exact ⟨ret_bool (by rw [HG.out]; rfl), hkA.trans (ext_keep _ nq)⟩
    | true =>
      rw [htk, htx] at hG
      rw [htk] at hT
      rw [htx] at hX
      have HT := Lib.hid hT
      have HX := Lib.hid hX
      have HR := Lib.hid hR
      have HG := Lib.hid hG
      have h1 := S_toList (trimW f.value)
      have h2 := S_toList f.value
      clear hT hX hR hG htk hn hv htx
      go_enter Tryd.func14, Tryd.ntmps14
      go_wp2_with fail
      refine wp_region_ext_lit (by kernel_rfl) (by kernel_rfl) ?_
      repeat (go_big_quiet_step ((first | (go_at_call 17; exact Calls.quiet_ext (HT.out _)) | (go_at_call 25; exact Calls.quiet_ext (HX.out _)) | (go_at_call 26; exact Calls.quiet_ext (HR.out _)))))
      refine wpQuiet_nil ?_
      intro _ hw'
      obtain ⟨nq, hw''⟩ := hw'
      subst hw''
      go_wp2_with fail
      go_ret
      exact ⟨ret_bool (by rw [HG.out]; rfl), hkA.trans (ext_keep _ nq)⟩
end Go.Proofs.YtpimfoohpfkciaaDoor

/- Layer 10: low, Low: small letters. No conditions but on lengths. -/
namespace Go.Proofs.YtpimfoohpfkciaaDoor
open Go.RowKit Go.Shelf

/-- what stands in the bytes behind k rounds -/
def lowTo (l : List UInt8) (k : Nat) : List UInt8 := (l.take k).map lowB ++ l.drop k
theorem lowTo_length (l : List UInt8) (k : Nat) : (lowTo l k).length = l.length := by simp [lowTo]; omega
theorem lowTo_at {l : List UInt8} {k : Nat} {c : UInt8} (h : l[k]? = some c) : (lowTo l k)[k]? = some c := by
  have hlt := List.getElem?_eq_some_iff.1 h
  obtain ⟨hlt, _⟩ := hlt
  unfold lowTo
  rw [List.getElem?_append_right (by simp; omega)]
  simp
  rw [show k + (k - min k l.length) = k by omega]
  exact h
theorem lowTo_succ {l : List UInt8} {k : Nat} {c : UInt8} (h : l[k]? = some c) : lowTo l (k + 1) = (lowTo l k).set k (lowB c) := by
  have hlt := List.getElem?_eq_some_iff.1 h
  obtain ⟨hlt, hc⟩ := hlt
  unfold lowTo
  rw [take_snoc h, List.set_append_right _ _ (by simp; omega)]
  simp
  rw [show k - min k l.length = 0 by omega, List.drop_eq_getElem_cons hlt, hc]
  simp
theorem lowTo_end (l : List UInt8) : lowTo l l.length = lowW l := by simp [lowTo, lowW]
/-- the bytes l lie, writable, in block b -/
def Bytes (w : World) (b : Nat) (l : List UInt8) : Prop := (∀ (j : Nat) (c : UInt8), l[j]? = some c → w.cell? ⟨b, j, none⟩ = some (.int .u8 (c.toNat : Nat))) ∧ ∀ j, j < l.length → w.frozen? ⟨b, j, none⟩ = false
theorem Bytes.conv (w : World) (e : TypeId) (l : List UInt8) : Bytes (Lib.bytesWorld w e (S l)) w.heap.size l :=
  ⟨fun _ _ h => conv_at w e h, fun _ h => conv_free w e (S l) (by rw [S_size]; exact h)⟩
theorem Bytes.set {w : World} {b : Nat} {l : List UInt8} (h : Bytes w b l) (k : Nat) (hk : k < l.length) (c : UInt8) (v : Int) (hv : v = (c.toNat : Nat)) : Bytes (w.setCell ⟨b, k, none⟩ (.int .u8 v)) b (l.set k c) := by
  subst hv
  refine ⟨fun j d hd => ?_, fun j hj => ?_⟩
  · by_cases e : k = j
    · subst e
      simp [hk] at hd
      subst hd
      obtain ⟨x, hx⟩ : ∃ x, l[k]? = some x := ⟨_, List.getElem?_eq_getElem hk⟩
      exact World.cell?_setCell_same w _ _ (h.1 k x hx)
    · rw [World.cell?_setCell_other w _ _ _ (by intro h'; exact e (congrArg Addr.off h'))]
      rw [List.getElem?_set_ne e] at hd
      exact h.1 j d hd
  · rw [World.frozen?_setCell]
    exact h.2 j (by simpa using hj)
theorem Bytes.back {P : Program} {w : World} {b : Nat} {l : List UInt8} (h : Bytes w b l) (src dst e : TypeId) (n cap : Nat) (hn : n = l.length) (hs : P.underlying src = some (.slice e)) (he : P.underlying e = some (.int .u8)) (hd : P.underlying dst = some .string) :
    (convert src dst (.slice (some ⟨b, 0, none⟩) n cap)).run P w = .ok (.string (S l)) w := by
  subst hn
  refine run_convert_bytes_back w src dst e ⟨b, 0, none⟩ cap l hs he hd (fun j hj => ?_)
  have := h.1 j l[j] (List.getElem?_eq_getElem hj)
  have ha : (⟨b, 0, none⟩ : Addr).add j = ⟨b, j, none⟩ := by unfold Addr.add; split <;> simp_all
  rw [ha]
  exact this

set_option maxRecDepth 100000 in
set_option maxHeartbeats 400000 in
theorem field_low (l : List UInt8) (w : World) (hs : l.length ≤ maxLen) :
    Calls Tryd.prog 24 #[.string (S l)] w fun e w' => e = .returned (.string (S (lowW l))) ∧ Keep [] w w' := by
  have hs' : l.length ≤ 9223372036854775807 := hs
  have hcv := conv_run w (S l)
  have hby := Bytes.conv w 5 l
  have hkp := conv_keep w 5 (S l)
  have hsz := S_size l
  generalize Lib.bytesWorld w 5 (S l) = wb at hcv hby hkp
  generalize hX : w.heap.size = X at hcv hby
  have HX := Lib.hid hX
  clear hs hX
  go_enter Tryd.func24, Tryd.ntmps24
  go_wp2_with fail
  go_loopg [10] l.length (fun g i wr => ∃ k : Nat, i = .int .i64 k ∧ k ≤ l.length ∧ g = l.length - k ∧ Bytes wr X (lowTo l k) ∧ Keep [] w wr)
  case atStart => exact ⟨0, rfl, Nat.zero_le _, by omega, by simpa [lowTo] using hby, hkp⟩
  case round =>
    obtain ⟨k, rfl, hk, hgk, hbr, hkr⟩ := hrel
    by_cases hlt : k < l.length
    · obtain ⟨c, hg⟩ : ∃ c, l[k]? = some c := ⟨_, List.getElem?_eq_getElem hlt⟩
      have hc := hbr.1 k c (lowTo_at hg)
      have hf := hbr.2 k (by rw [lowTo_length]; exact hlt)
      have hc8 := u8_nat c
      have HG := Lib.hid hg
      have HB := Lib.hid hbr
      clear hg hbr hby hkp
      by_cases ht : 65 ≤ c.toNat ∧ c.toNat ≤ 90
      · obtain ⟨h1, h2⟩ := ht
        have hl : (lowB c).toNat = c.toNat + 32 := by
          unfold lowB
          rw [if_pos ⟨h1, h2⟩, UInt8.toNat_add]
          have : (32 : UInt8).toNat = 32 := rfl
          omega
        have HL := Lib.hid hl
        clear hl
        go_wp2_with fail
        go_roundg (l.length - (k + 1))
        case measure => omega
        case rel =>
          refine ⟨k + 1, by go_num, by omega, rfl, ?_, hkr.setCell _ _ (by have := HX.out; simp; omega)⟩
          rw [lowTo_succ HG.out]
          exact HB.out.set k (by rw [lowTo_length]; exact hlt) _ _ (by rw [HL.out]; omega)
      · have hl : lowB c = c := by unfold lowB; rw [if_neg ht]
        have HL := Lib.hid hl
        have HT := Lib.hid ht
        have hend : Bytes wr X (lowTo l (k + 1)) := by
          rw [lowTo_succ HG.out, hl, list_set_self _ _ _ (lowTo_at HG.out)]
          exact HB.out
        clear hl
        by_cases h1 : 65 ≤ c.toNat
        · have h2 : 90 < c.toNat := by omega
          clear ht
          go_wp2_with fail
          go_roundg (l.length - (k + 1))
          case measure => omega
          case rel => exact ⟨k + 1, by go_num, by omega, rfl, hend, hkr⟩
        · clear ht
          go_wp2_with fail
          go_roundg (l.length - (k + 1))
          case measure => omega
          case rel => exact ⟨k + 1, by go_num, by omega, rfl, hend, hkr⟩
    · have hke : k = l.length := by omega
      rw [hke, lowTo_end] at hbr
      have hback := hbr.back (P := Tryd.prog) 62 9 5 l.length (grownCap w l.length 0 5) (by simp [lowW]) Tryd.underlying62 Tryd.underlying5 Tryd.underlying9
      have HKE := Lib.hid hke
      clear hke hbr hby
      go_wp2_with fail
      go_ret
      exact ⟨rfl, hkr⟩
end Go.Proofs.YtpimfoohpfkciaaDoor

/- How arguments that come in are read: structs of plain fields, slices of them, strings. They speak of no function. No conditions. -/
namespace Go.Proofs.YtpimfoohpfkciaaDoor
open Go.RowKit Go.ChangeShapes Go.WideShapes

/-- A slice value v that reads as the records L, n cells each. -/
def Sl {α : Type} (enc : α → List Value) (n : Nat) (w : World) (v : Value) (L : List α) : Prop :=
  (∃ a cap, v = .slice a 0 cap ∧ cap ≤ maxLen ∧ L = []) ∨
  ∃ b off cap, v = .slice (some ⟨b, off, none⟩) L.length cap ∧ L.length ≤ cap ∧ cap ≤ maxLen ∧
    ∀ i x, L[i]? = some x → ∀ k, k < n → w.cell? ⟨b, off + i * n + k, none⟩ = (enc x)[k]?

theorem Sl.keep {α : Type} {enc : α → List Value} {n : Nat} (hn : ∀ x, (enc x).length = n) (_ : 0 < n) {W w w' : World} {v : Value} {L : List α} {S : List Nat}
    (h : Sl enc n w v L) (hW : Sl enc n W v L) (k : Keep S w w') (hS : ∀ b ∈ S, W.heap.size ≤ b) (hsz : W.heap.size ≤ w.heap.size) : Sl enc n w' v L := by
  rcases h with h | ⟨b, off, cap, rfl, h1, h2, h3⟩
  · exact .inl h
  · refine .inr ⟨b, off, cap, rfl, h1, h2, fun i x hx j hj => ?_⟩
    rw [← h3 i x hx j hj]
    rcases hW with ⟨_, _, hv, _, rfl⟩ | ⟨b', off', cap', hv, _, _, h3'⟩
    · simp at hx
    · cases hv
      have hc := h3' i x hx j hj
      have : j < (enc x).length := by rw [hn]; exact hj
      rw [List.getElem?_eq_getElem this] at hc
      have hlt := World.block_lt_of_cell? W _ hc
      refine k.cell (by have := hlt; simp at this; simp; omega) ?_
      intro hm
      have := hS _ hm
      simp at hlt this
      omega
theorem Sl.cell {α : Type} {enc : α → List Value} {n : Nat} {w : World} {v : Value} {L : List α} (h : Sl enc n w v L) {i : Nat} {x : α} (hi : L[i]? = some x) :
    ∃ b off cap, v = .slice (some ⟨b, off, none⟩) L.length cap ∧ L.length ≤ cap ∧ cap ≤ maxLen ∧ ∀ k, k < n → w.cell? ⟨b, off + i * n + k, none⟩ = (enc x)[k]? := by
  rcases h with ⟨_, _, _, _, rfl⟩ | ⟨b, off, cap, hv, h1, h2, h3⟩
  · simp at hi
  · exact ⟨b, off, cap, hv, h1, h2, h3 i x hi⟩
/-- the slice's shape -/
theorem Sl.shape {α : Type} {enc : α → List Value} {n : Nat} {w : World} {v : Value} {L : List α} (h : Sl enc n w v L) : ∃ a cap, v = .slice a L.length cap ∧ L.length ≤ maxLen := by
  rcases h with ⟨a, cap, hv, hc, rfl⟩ | ⟨b, off, cap, hv, h1, h2, h3⟩
  · exact ⟨a, cap, hv, Nat.zero_le _⟩
  · exact ⟨_, cap, hv, by omega⟩

/-- what a reading of one element gives -/
theorem read_slice {H : Type} {enc : TypeId × Value → H} {P : Program} {w : World} {base : Nat} {spare : Nat → Bool} {held : Bool} {α : Type} [Inhabited α] {en : α → List Value} {n : Nat} (hn : ∀ x, (en x).length = n) (h0 : 0 < n) (good : α → Prop)
    {t e : TypeId} {v : Value} {d : DataW H} {ps : List MemPlace} (ht : P.underlying t = some (.slice e)) (hc : P.cellsOf e = n)
    (one : ∀ (m : Nat) (cs : List Value) (x : DataW H × List MemPlace), DataW.trod enc P w base spare held m e cs = some x → ∃ a, cs = en a ∧ good a)
    (h : DataW.Trod enc P w base spare held t v d ps) (hv : ∃ a len cap, v = .slice a len cap) : ∃ L : List α, Sl en n w v L ∧ ∀ x ∈ L, good x := by
  obtain ⟨fuel, hf⟩ := h
  obtain ⟨a', len', cap', rfl⟩ := hv
  rcases Deep.open_slice ht hf with ⟨hcs, _⟩ | ⟨a, len, cap, m, q, D, Pl, hcs, _, hl, hm, hmm, _, hx⟩
  · simp [Value.cells] at hcs
    obtain ⟨rfl, rfl, rfl⟩ := hcs
    exact ⟨[], .inl ⟨none, 0, rfl, Nat.zero_le _, rfl⟩, by simp⟩
  · simp [Value.cells] at hcs
    obtain ⟨rfl, rfl, rfl⟩ := hcs
    have hlm : len' ≤ m := by rw [hmm]; split <;> omega
    obtain ⟨f, hfx⟩ := Deep.choose_lt (α := α) (n := len') (p := fun i y => good y ∧ ∀ k, k < n → w.cell? ((a.add (i * n)).add k) = (en y)[k]?) (fun i hi => by
      obtain ⟨cs', h1, h2⟩ := hx i (by omega)
      rw [hc] at h1
      obtain ⟨y, rfl, hg⟩ := one _ _ _ h2
      exact ⟨y, hg, (World.cells?_some h1).2.2⟩)
    by_cases hz : len' = 0
    · subst hz
      exact ⟨[], .inl ⟨_, _, rfl, hm, rfl⟩, by simp⟩
    · obtain ⟨b, off, spot⟩ := a
      have hs : spot = none := by
        have h1 := (hfx 0 (by omega)).2 0 h0
        simp only [Nat.zero_mul, Addr.add, if_true] at h1
        cases spot with
        | none => rfl
        | some s =>
          have hlt : 0 < (en (f 0)).length := by rw [hn]; exact h0
          rw [List.getElem?_eq_getElem hlt] at h1
          unfold World.cell? at h1
          split at h1 <;> simp at h1
      subst hs
      refine ⟨(List.range len').map f, .inr ⟨b, off, cap', by simp, by simpa using hl, hm, ?_⟩, ?_⟩
      · intro i x hi k hk
        simp [List.getElem?_map] at hi
        obtain ⟨j, hj, rfl⟩ := hi
        have hj' := List.getElem?_eq_some_iff.1 hj
        obtain ⟨hlt, he⟩ := hj'
        simp at hlt he
        subst he
        have := (hfx i hlt).2 k hk
        rw [Deep.add_add] at this
        rw [← this]
        unfold Addr.add
        split
        · rename_i hzz
          rw [Nat.add_assoc, hzz]; rfl
        · simp [Nat.add_assoc]
      · intro x hx'
        simp at hx'
        obtain ⟨i, hi, rfl⟩ := hx'
        exact (hfx i hi).1

theorem take_drop_one {cs : List Value} {k : Nat} {v : Value} (h : (cs.drop k).take 1 = [v]) : cs[k]? = some v := by
  have : ((cs.drop k).take 1)[0]? = some v := by rw [h]; rfl
  simpa [List.getElem?_take, List.getElem?_drop] using this
theorem list_eq_of {l m : List Value} {n : Nat} (hl : l.length = n) (hm : m.length = n) (h : ∀ i, i < n → l[i]? = m[i]?) : l = m := by
  apply List.ext_getElem?
  intro i
  by_cases hi : i < n
  · exact h i hi
  · rw [List.getElem?_eq_none (by omega), List.getElem?_eq_none (by omega)]

section
variable {H : Type} {enc : TypeId × Value → H} {P : Program} {w : World} {base : Nat} {spare : Nat → Bool} {held : Bool}
theorem trod_fields {t : TypeId} {fs : Array Field} {fuel : Nat} {cs : List Value} {x : DataW H × List MemPlace} (ht : P.underlying t = some (.struct fs)) (h : DataW.trod enc P w base spare held fuel t cs = some x) :
    cs.length = P.cellsOf t ∧ ∃ n, ∀ (i : Nat) (f : Field), fs[i]? = some f → ∃ y, DataW.trod enc P w base spare held n f.type ((cs.drop f.offset).take (P.cellsOf f.type)) = some y := by
  obtain ⟨xs, n, _, _, hl, hlen, hf⟩ := DataW.trod_struct ht h
  refine ⟨hl, n, fun i f hi => ?_⟩
  have hlt : i < xs.length := by
    rw [hlen]
    rcases Nat.lt_or_ge i fs.size with h' | h'
    · exact h'
    · simp [Array.getElem?_eq_none h'] at hi
  exact ⟨xs[i], (hf i f hi).trans (List.getElem?_eq_getElem hlt)⟩
theorem field_int {t : TypeId} {k : IntKind} {n o : Nat} {cs : List Value} {y : DataW H × List MemPlace} (ht : P.underlying t = some (.int k)) (hc : P.cellsOf t = 1) (h : DataW.trod enc P w base spare held n t ((cs.drop o).take (P.cellsOf t)) = some y) :
    ∃ v, cs[o]? = some (.int k v) ∧ (Lit.int k v).wf = true := by
  obtain ⟨v, hv, _, hw⟩ := DataW.trod_int ht h
  rw [hc] at hv
  exact ⟨v, take_drop_one hv, hw⟩
theorem field_bool {t : TypeId} {n o : Nat} {cs : List Value} {y : DataW H × List MemPlace} (ht : P.underlying t = some .bool) (hc : P.cellsOf t = 1) (h : DataW.trod enc P w base spare held n t ((cs.drop o).take (P.cellsOf t)) = some y) :
    ∃ v, cs[o]? = some (.bool v) := by
  obtain ⟨v, hv, _⟩ := DataW.trod_bool ht h
  rw [hc] at hv
  exact ⟨v, take_drop_one hv⟩
theorem field_string {t : TypeId} {n o : Nat} {cs : List Value} {y : DataW H × List MemPlace} (ht : P.underlying t = some .string) (hc : P.cellsOf t = 1) (h : DataW.trod enc P w base spare held n t ((cs.drop o).take (P.cellsOf t)) = some y) :
    ∃ v, cs[o]? = some (.string v) ∧ v.size ≤ maxLen := by
  obtain ⟨v, hv, _, hm⟩ := DataW.trod_string ht h
  rw [hc] at hv
  exact ⟨v, take_drop_one hv, hm⟩
end
def in64 (n : Int) : Prop := -9223372036854775808 ≤ n ∧ n ≤ 9223372036854775807
theorem in64_of {n : Int} (h : (Lit.int .i64 n).wf = true) : in64 n := by simpa [in64, Lit.wf, IntKind.min, IntKind.max, IntKind.signed, IntKind.bits] using h

theorem Sl.below {α : Type} {enc : α → List Value} {n : Nat} (hn : ∀ x, (enc x).length = n) {w w' : World} {v : Value} {L : List α} (h : Sl enc n w v L) {B : Nat} (hb : Below B w w') (hB : w.heap.size ≤ B) : Sl enc n w' v L := by
  rcases h with h | ⟨b, off, cap, rfl, h1, h2, h3⟩
  · exact .inl h
  · refine .inr ⟨b, off, cap, rfl, h1, h2, fun i x hx j hj => ?_⟩
    have hc := h3 i x hx j hj
    have hlt : j < (enc x).length := by rw [hn]; exact hj
    rw [List.getElem?_eq_getElem hlt] at hc ⊢
    have := World.block_lt_of_cell? w _ hc
    exact (hb.cell (by simp at this ⊢; omega)).trans hc
theorem below_keep {B : Nat} {w a c : World} {S : List Nat} (h : Below B w a) (k : Keep S a c) (hB : B ≤ a.heap.size) (hS : ∀ s ∈ S, B ≤ s) : Below B w c :=
  h.trans ⟨k.os, k.tape, k.output, k.size, fun i hi => k.block i (by omega) (fun hm => by have := hS i hm; omega)⟩
theorem countP_set {α : Type} (f : α → Bool) : ∀ (L : List α) (p : Nat) (c c' : α), L[p]? = some c → (L.set p c').countP f + (if f c then 1 else 0) = L.countP f + (if f c' then 1 else 0)
  | [], p, c, c', h => by simp at h
  | x :: r, 0, c, c', h => by
    simp at h; subst h
    simp only [List.set_cons_zero, List.countP_cons]
    omega
  | x :: r, p + 1, c, c', h => by
    have ih := countP_set f r p c c' (by simpa using h)
    simp only [List.set_cons_succ, List.countP_cons]
    omega
theorem first_no {α : Type} (f : α → Bool) : ∀ (L : List α), L.countP f < L.length → ∃ (i : Nat) (c : α), L[i]? = some c ∧ f c = false ∧ ∀ (j : Nat) (x : α), j < i → L[j]? = some x → f x = true
  | [], h => by simp at h
  | x :: r, h => by
    cases hx : f x with
    | false => exact ⟨0, x, rfl, hx, fun j y hj => by omega⟩
    | true =>
      obtain ⟨i, c, h1, h2, h3⟩ := first_no f r (by simp [hx] at h; omega)
      refine ⟨i + 1, c, by simpa using h1, h2, ?_⟩
      intro j y hj hy
      cases j with
      | zero => simp at hy; subst hy; exact hx
      | succ j => exact h3 j y (by omega) (by simpa using hy)
theorem all_of_countP {α : Type} (f : α → Bool) (L : List α) (h : L.countP f = L.length) : ∀ c ∈ L, f c = true := by
  exact List.countP_eq_length.1 h
/-- what a conversion to uint and a remainder give -/
theorem u64_mod (n : Int) (m : Nat) (hm : 0 < m) : ∃ p : Nat, p < m ∧ (IntKind.u64.wrap n).tmod m = p := by
  have h0 : 0 ≤ IntKind.u64.wrap n := by simp [IntKind.wrap, IntKind.signed, IntKind.bits]; omega
  have h1 := Int.tmod_nonneg (m : Int) h0
  have h2 := Int.tmod_lt_of_pos (IntKind.u64.wrap n) (show (0 : Int) < m by omega)
  obtain ⟨p, hp⟩ := Int.eq_ofNat_of_zero_le h1
  exact ⟨p, by omega, hp⟩
end Go.Proofs.YtpimfoohpfkciaaDoor

/- Slices that a call has built itself by append. They speak of no program. No conditions. -/
namespace Go.Proofs.YtpimfoohpfkciaaDoor
open Go.RowKit

/-- v is a slice of the records L, built by the call: its blocks begin at 'base' -/
def Own {α : Type} (enc : α → List Value) (n base : Nat) (E : TypeId) (w : World) (v : Value) (L : List α) : Prop := w.ownsRow base E n v L.length (rows enc L)
section
variable {α : Type} {enc : α → List Value} {n base : Nat} {E : TypeId} {w w' : World} {v : Value} {L : List α}
theorem Own.nil (enc : α → List Value) (n base : Nat) (E : TypeId) (w : World) : Own enc n base E w (.slice none 0 0) [] := World.ownsRow_nil w base E n
/-- '[]T{}' -/
theorem Own.none (enc : α → List Value) (n : Nat) (E : TypeId) (w : World) (hb : base ≤ w.heap.size) : Own enc n base E (w.alloc (.cells #[] E)) (.slice (some ⟨w.heap.size, 0, none⟩) 0 0) [] :=
  World.ownsRow_made w #[] 0 hb (Nat.zero_le _) (by simp)
theorem Own.of_heap (h : Own enc n base E w v L) (e : w'.heap = w.heap) : Own enc n base E w' v L := by
  refine ⟨h.1, ?_⟩
  rw [e]
  exact h.2
theorem Own.alloc (h : Own enc n base E w v L) (o : Obj) : Own enc n base E (w.alloc o) v L := World.ownsRow.alloc h o
theorem Own.keep {S : List Nat} (h : Own enc n base E w v L) (k : Keep S w w') (hS : ∀ g, v.ownBlock = some g → g ∉ S) : Own enc n base E w' v L := by
  refine ⟨h.1, ?_⟩
  rcases h.2 with hn | ⟨g, cap, cur, hv, hb, hg, rest⟩
  · exact .inl hn
  · exact .inr ⟨g, cap, cur, hv, hb, by rw [k.block g (lt_of_block hg) (hS g (by rw [hv]; rfl))]; exact hg, rest⟩
theorem Own.keep0 (h : Own enc n base E w v L) (k : Keep [] w w') : Own enc n base E w' v L := h.keep k (by simp)
theorem Own.grown {row : Option Nat} (h : Own enc n base E w v L) (k : w.grownBy w' row) (hr : v.ownBlock = Option.none ∨ v.ownBlock ≠ row) : Own enc n base E w' v L := World.ownsRow.kept h k hr
theorem Own.lower {base' : Nat} (h : Own enc n base E w v L) (hb : base' ≤ base) : Own enc n base' E w v L := by
  refine ⟨h.1, ?_⟩
  rcases h.2 with hn | ⟨g, cap, cur, hv, hb', rest⟩
  · exact .inl hn
  · exact .inr ⟨g, cap, cur, hv, Nat.le_trans hb hb', rest⟩
theorem Own.sl (hn : ∀ x, (enc x).length = n) (h : Own enc n base E w v L) : Sl enc n w v L := by
  rcases h.2 with ⟨rfl, h0⟩ | ⟨g, cap, cur, rfl, hb, hg, h1, h2, h3, h4⟩
  · exact .inl ⟨Option.none, 0, rfl, Nat.zero_le _, List.eq_nil_of_length_eq_zero h0⟩
  · refine .inr ⟨g, 0, cap, rfl, h1, h2, fun i x hx k hk => ?_⟩
    have := rows_get' hn L i k x hx hk
    rw [← h4] at this
    rw [Nat.zero_add, cell_of_row w g _ _ _ _ hg, ← this]
    have hlt : i < L.length := (List.getElem?_eq_some_iff.1 hx).1
    have hm : (i + 1) * n ≤ L.length * n := Nat.mul_le_mul_right n hlt
    rw [Nat.add_mul] at hm
    rw [List.getElem?_take, if_pos (by omega)]
    simp
/-- the slice's shape, and its block -/
theorem Own.shape (h : Own enc n base E w v L) : ∃ a cap, v = .slice a L.length cap ∧ L.length ≤ maxLen := by
  rcases h.2 with ⟨rfl, h0⟩ | ⟨g, cap, cur, rfl, hb, hg, h1, h2, _⟩
  · exact ⟨_, 0, by rw [h0], by omega⟩
  · exact ⟨_, cap, rfl, by omega⟩
theorem Own.lt (h : Own enc n base E w v L) : ∀ k, v.ownBlock = some k → base ≤ k ∧ k < w.heap.size := World.ownsRow.lt h
end

/-- 'out = append(out, x)', out the call's own -/
theorem wpList_append1 {P : Program} {ops : Array Oper} {rest : List Oper} {o : Oper} {a : Act} {Q : Exit → Act → World → Prop} (hgd : o.guard = none) (s x : Operand) (t : TypeId)
    (ho : o.op = .call { callee := .builtin .append, args := #[s, x], argTypes := #[t, t] })
    {α : Type} {enc : α → List Value} {n base : Nat} {E : TypeId} {L : List α} {v : Value}
    (i : TypeInfo) (z : Value) (bytes : Nat) (ht : P.underlying t = some (.slice E)) (HI : Hid (P.info? E = some i ∧ i.zero = some z ∧ i.size = n ∧ i.bytes = bytes)) (hzs : z.cells.size = n) (hn0 : 0 < n)
    (hn : ∀ x, (enc x).length = n) (h1 : ∀ x, ∀ u ∈ enc x, u.oneCell' = true)
    (w0 w : World) (hb0 : base = w0.heap.size) (hk : Keep [] w0 w) (hs : a.eval s = v) (hown : Own enc n base E w v L) (y : α) (cs : List Value) (hcs : cs = enc y) (c : Nat) (hx : a.eval x = .slice (some ⟨w.heap.size, 0, none⟩) 1 c)
    (h63 : L.length + 1 ≤ maxLen) (hbytes : (L.length + 1) * bytes ≤ 140737488355328)
    (h : ∀ v' w', Own enc n base E w' v' (L ++ [y]) → Keep [] w0 w' → w.grownBy w' v.ownBlock → wpList P ops Q rest (a.put o.dst v') w') : wpList P ops Q (o :: rest) a (w.alloc (.cells cs.toArray E)) := by
  subst hcs hb0
  refine wpList_append_own _ hgd s x t ho w0.heap.size E i z n bytes ht HI.out.1 HI.out.2.1 HI.out.2.2.1 HI.out.2.2.2 hzs hn0 v L.length (rows enc L) hs (hown.alloc _) ⟨w.heap.size, 0, none⟩ 1 c (enc y) hx (by rw [hn]; omega) ?_ (h1 y) h63 hbytes (by have := hk.size; simp; omega) ?_
  · intro j u hj
    have hA := Blk.new w (enc y) E
    have : (⟨w.heap.size, 0, none⟩ : Addr).add j = ⟨w.heap.size, j, none⟩ := by unfold Addr.add; split <;> simp_all
    rw [this, hA.cell j]
    exact hj
  · intro v' w' hown' hg _
    have hg' : w.grownBy w' v.ownBlock := by
      have h0 := World.grownBy_alloc w (.cells (enc y).toArray E) v.ownBlock
      exact ⟨hg.os.trans h0.os, hg.tape.trans h0.tape, hg.output.trans h0.output, Nat.le_trans h0.size hg.size, fun k hk hne => (hg.block k (Nat.lt_of_lt_of_le hk h0.size) hne).trans (h0.block k hk hne)⟩
    refine h v' w' ?_ (hk.grown hg' fun k hk1 hk2 => absurd (hown.lt k hk1).1 (by omega)) hg'
    have : rows enc (L ++ [y]) = rows enc L ++ enc y := by simp [rows]
    unfold Own
    rw [this, List.length_append]
    exact hown'

/-- two slices that share no block -/
def Sep (v u : Value) : Prop := ∀ g, v.ownBlock = some g → u.ownBlock ≠ some g
theorem Sep.symm {v u : Value} (h : Sep v u) : Sep u v := fun g h1 h2 => h g h2 h1
theorem Sep.none_left (u : Value) : Sep (.slice none 0 0) u := fun g h => by simp [Value.ownBlock] at h
/-- a slice of a block that was not there yet -/
theorem Sep.fresh {α : Type} {enc : α → List Value} {n base : Nat} {E : TypeId} {L : List α} {v : Value} {w : World} (h : Own enc n base E w v L) {b : Nat} (hb : w.heap.size ≤ b) (l c : Nat) : Sep v (.slice (some ⟨b, 0, none⟩) l c) := fun g h1 h2 => by
  have := (h.lt g h1).2
  simp [Value.ownBlock] at h2
  omega
/-- what the append leaves besides -/
def Aside (w w' : World) (v v' : Value) : Prop := ∀ {β : Type} {e2 : β → List Value} {n2 b2 : Nat} {E2 : TypeId} {u : Value} {M : List β}, Own e2 n2 b2 E2 w u M → Sep v u → Own e2 n2 b2 E2 w' u M ∧ Sep v' u

/-- 'out = append(out, x)', out the call's own; of the call's other slices too -/
theorem wpList_append2 {P : Program} {ops : Array Oper} {rest : List Oper} {o : Oper} {a : Act} {Q : Exit → Act → World → Prop} (hgd : o.guard = none) (s x : Operand) (t : TypeId)
    (ho : o.op = .call { callee := .builtin .append, args := #[s, x], argTypes := #[t, t] })
    {α : Type} {enc : α → List Value} {n base : Nat} {E : TypeId} {L : List α} {v : Value}
    (i : TypeInfo) (z : Value) (bytes : Nat) (ht : P.underlying t = some (.slice E)) (HI : Hid (P.info? E = some i ∧ i.zero = some z ∧ i.size = n ∧ i.bytes = bytes)) (hzs : z.cells.size = n) (hn0 : 0 < n)
    (hn : ∀ x, (enc x).length = n) (h1 : ∀ x, ∀ u ∈ enc x, u.oneCell' = true)
    (w0 w : World) (hb0 : base = w0.heap.size) (hk : Keep [] w0 w) (hs : a.eval s = v) (hown : Own enc n base E w v L) (y : α) (cs : List Value) (hcs : cs = enc y) (c : Nat) (hx : a.eval x = .slice (some ⟨w.heap.size, 0, none⟩) 1 c)
    (h63 : L.length + 1 ≤ maxLen) (hbytes : (L.length + 1) * bytes ≤ 140737488355328)
    (h : ∀ v' w', Own enc n base E w' v' (L ++ [y]) → Keep [] w0 w' → Aside w w' v v' → wpList P ops Q rest (a.put o.dst v') w') : wpList P ops Q (o :: rest) a (w.alloc (.cells cs.toArray E)) := by
  subst hcs hb0
  refine wpList_append_own_at _ hgd s x t ho w0.heap.size E i z n bytes ht HI.out.1 HI.out.2.1 HI.out.2.2.1 HI.out.2.2.2 hzs hn0 v L.length (rows enc L) hs (hown.alloc _) ⟨w.heap.size, 0, none⟩ 1 c (enc y) hx (by rw [hn]; omega) ?_ (h1 y) h63 hbytes (by have := hk.size; simp; omega) ?_
  · intro j u hj
    have hA := Blk.new w (enc y) E
    have : (⟨w.heap.size, 0, none⟩ : Addr).add j = ⟨w.heap.size, j, none⟩ := by unfold Addr.add; split <;> simp_all
    rw [this, hA.cell j]
    exact hj
  · intro v' w' hown' hg _ hat
    have hg' : w.grownBy w' v.ownBlock := by
      have h0 := World.grownBy_alloc w (.cells (enc y).toArray E) v.ownBlock
      exact ⟨hg.os.trans h0.os, hg.tape.trans h0.tape, hg.output.trans h0.output, Nat.le_trans h0.size hg.size, fun k hk hne => (hg.block k (Nat.lt_of_lt_of_le hk h0.size) hne).trans (h0.block k hk hne)⟩
    refine h v' w' ?_ (hk.grown hg' fun k hk1 hk2 => absurd (hown.lt k hk1).1 (by omega)) ?_
    · have : rows enc (L ++ [y]) = rows enc L ++ enc y := by simp [rows]
      unfold Own
      rw [this, List.length_append]
      exact hown'
    · intro β e2 n2 b2 E2 u M hu hsep
      refine ⟨hu.grown hg' ?_, ?_⟩
      · cases hub : u.ownBlock with
        | none => exact .inl rfl
        | some g => exact .inr fun e => hsep g (e ▸ rfl) hub
      · intro g h3 h4
        rcases hat with h5 | h5
        · exact hsep g (h5 ▸ h3) h4
        · have h6 := (hu.lt g h4).2
          rw [h3] at h5
          simp at h5
          omega

/-! bytes, strings -/
/-- a byte in memory -/
def byteC (c : UInt8) : List Value := [.int .u8 (c.toNat : Nat)]
theorem byteC_length (c : UInt8) : (byteC c).length = 1 := rfl
theorem byteC_one (c : UInt8) : ∀ u ∈ byteC c, u.oneCell' = true := by simp [byteC, Value.oneCell']
/-- a string in memory -/
def strC (s : List UInt8) : List Value := [.string (S s)]
theorem strC_length (c : List UInt8) : (strC c).length = 1 := rfl
theorem strC_one (c : List UInt8) : ∀ u ∈ strC c, u.oneCell' = true := by simp [strC, Value.oneCell']

/-- 'string(b)' -/
theorem own_back {P : Program} {w : World} {base : Nat} {E : TypeId} {v : Value} {l : List UInt8} (h : Own byteC 1 base E w v l) (src dst : TypeId) (hs : P.underlying src = some (.slice E)) (he : P.underlying E = some (.int .u8)) (hd : P.underlying dst = some .string) :
    (convert src dst v).run P w = .ok (.string (S l)) w := by
  have hsl := h.sl byteC_length
  rcases h.2 with ⟨rfl, h0⟩ | ⟨g, cap, cur, rfl, _⟩
  · have : l = [] := List.eq_nil_of_length_eq_zero h0
    subst this
    exact run_convert_bytes_nil w src E hs he 0 0 dst hd
  · refine run_convert_bytes_back w src dst E ⟨g, 0, none⟩ cap l hs he hd (fun j hj => ?_)
    obtain ⟨b, off, cap', hv, _, _, hc⟩ := hsl.cell (i := j) (x := l[j]) (List.getElem?_eq_getElem hj)
    cases hv
    have ha : (⟨g, 0, none⟩ : Addr).add j = ⟨g, 0 + j * 1 + 0, none⟩ := by unfold Addr.add; split <;> simp_all
    rw [ha]
    exact hc 0 (by omega)
theorem S_get {l : List UInt8} {k : Nat} {c : UInt8} (h : l[k]? = some c) (hk : k < (S l).size) : (S l)[k]'hk = c := by
  obtain ⟨_, he⟩ := List.getElem?_eq_some_iff.1 h
  exact he
end Go.Proofs.YtpimfoohpfkciaaDoor

/- Layer 10, the document's functions: Low, IsToken, Text, Trim, Find. No conditions but on lengths. -/
namespace Go.Proofs.YtpimfoohpfkciaaDoor
open Go.RowKit Go.Shelf

theorem u8info : (Tryd.prog.info? 5).map (fun i => (i.zero, i.size, i.bytes)) = some (some (.int .u8 0), 1, 1) := by kernel_rfl

end Go.Proofs.YtpimfoohpfkciaaDoor

/- Layer 10, the document's functions: IsToken, Text, Trim, Find. No conditions but on lengths. -/
namespace Go.Proofs.YtpimfoohpfkciaaDoor
open Go.RowKit Go.Shelf

theorem nat_eq {a b : Nat} (h : a = b) : (((a : Nat) : Int) == ((b : Nat) : Int)) = true ∧ (((a : Nat) : Int) != ((b : Nat) : Int)) = false := by subst h; simp
theorem nat_ne {a b : Nat} (h : a ≠ b) : (((a : Nat) : Int) == ((b : Nat) : Int)) = false ∧ (((a : Nat) : Int) != ((b : Nat) : Int)) = true := by
  constructor <;> simp <;> omega

theorem indexByte_at {l : List UInt8} {c : UInt8} {o : Nat} (h : l[o]? = some c) (hn : ∀ j, j < o → l[j]? ≠ some c) : Lib.indexByte l c = o := by
  have hge := Lib.indexByte_ge l c
  by_cases h1 : Lib.indexByte l c = -1
  · exact absurd h (Lib.indexByte_none h1 o)
  · obtain ⟨o', ho⟩ : ∃ o' : Nat, Lib.indexByte l c = o' := ⟨(Lib.indexByte l c).toNat, by omega⟩
    obtain ⟨h2, h3⟩ := Lib.indexByte_some ho
    rcases Nat.lt_trichotomy o o' with h4 | h4 | h4
    · exact absurd h (h3 o h4)
    · omega
    · exact absurd h2 (hn o' h4)
theorem indexByte_no {l : List UInt8} {c : UInt8} (hn : ∀ j : Nat, l[j]? ≠ some c) : Lib.indexByte l c = -1 := by
  have hge := Lib.indexByte_ge l c
  by_cases h1 : Lib.indexByte l c = -1
  · exact h1
  · obtain ⟨o', ho⟩ : ∃ o' : Nat, Lib.indexByte l c = o' := ⟨(Lib.indexByte l c).toNat, by omega⟩
    exact absurd (Lib.indexByte_some ho).1 (hn o')
theorem indexByte_lt (l : List UInt8) (c : UInt8) : Lib.indexByte l c < l.length ∨ l = [] := by
  by_cases h : l = []
  · exact .inr h
  · refine .inl ?_
    have hge := Lib.indexByte_ge l c
    by_cases h1 : Lib.indexByte l c = -1
    · rw [h1]; have : 0 < l.length := List.length_pos_iff.2 h; omega
    · obtain ⟨o', ho⟩ : ∃ o' : Nat, Lib.indexByte l c = o' := ⟨(Lib.indexByte l c).toNat, by omega⟩
      have := (List.getElem?_eq_some_iff.1 (Lib.indexByte_some ho).1).1
      omega

theorem int_eq {a z : Int} (h : a = z) : (a == z) = true ∧ (a != z) = false := by subst h; simp
theorem int_ne {a z : Int} (h : a ≠ z) : (a == z) = false ∧ (a != z) = true := by simp [h]
def tok0 (b : UInt8) : Bool := (decide (97 ≤ b.toNat) && decide (b.toNat ≤ 122)) || (decide (65 ≤ b.toNat) && decide (b.toNat ≤ 90)) || (decide (48 ≤ b.toNat) && decide (b.toNat ≤ 57))
theorem tchar_eq (b : UInt8) : tchar b = (tok0 b || marks.contains b) := by
  rw [Lib.contains_iff_indexByte]
  rfl

theorem mark_step {j : Nat} {m c : UInt8} (h : marks[j]? = some m) : (tok0 c || (marks.take (j + 1)).contains c) = ((tok0 c || (marks.take j).contains c) || m == c) := by
  rw [take_snoc h, Bool.eq_iff_iff]
  generalize marks.take j = A
  simp only [List.contains_iff_mem, List.mem_append, List.mem_singleton, Bool.or_eq_true, beq_iff_eq]
  constructor
  · rintro (h | h | rfl)
    · exact .inl (.inl h)
    · exact .inl (.inr h)
    · exact .inr rfl
  · rintro ((h | h) | rfl)
    · exact .inl h
    · exact .inr (.inl h)
    · exact .inr (.inr rfl)

end Go.Proofs.YtpimfoohpfkciaaDoor

/- Layer 10, the document's functions: Trim, Parse, Same, Texts. No conditions but on lengths. -/
namespace Go.Proofs.YtpimfoohpfkciaaDoor
open Go.RowKit Go.Shelf

theorem trimRight_cons (b : UInt8) (r cs : List UInt8) : Lib.trimRightS (b :: r) cs = if Lib.trimRightS r cs = [] ∧ cs.contains b = true then [] else b :: Lib.trimRightS r cs := by
  unfold Lib.trimRightS
  rw [List.reverse_cons, List.dropWhile_append]
  by_cases h : r.reverse.dropWhile (cs.contains ·) = []
  · simp only [h, List.isEmpty_nil, if_true, List.reverse_nil, true_and]
    by_cases hb : cs.contains b = true
    · rw [List.dropWhile_cons, if_pos hb, if_pos hb]; rfl
    · rw [List.dropWhile_cons, if_neg hb]; simp only [hb]; rfl
  · have h2 : (r.reverse.dropWhile (cs.contains ·)).isEmpty = false := by simpa [List.isEmpty_iff] using h
    rw [h2]
    have h3 : (r.reverse.dropWhile (cs.contains ·)).reverse ≠ [] := by simpa using h
    simp only [Bool.false_eq_true, if_false, List.reverse_append, List.reverse_cons, List.reverse_nil, List.nil_append, List.singleton_append]
    rw [if_neg (fun h => h3 h.1)]
theorem trim_comm (cs : List UInt8) : ∀ l : List UInt8, Lib.trimLeftS (Lib.trimRightS l cs) cs = Lib.trimRightS (Lib.trimLeftS l cs) cs
  | [] => rfl
  | b :: r => by
    have ih := trim_comm cs r
    rw [trimRight_cons]
    by_cases hb : cs.contains b = true
    · have e1 : Lib.trimLeftS (b :: r) cs = Lib.trimLeftS r cs := by unfold Lib.trimLeftS; rw [List.dropWhile_cons, if_pos hb]
      rw [e1, ← ih]
      by_cases h : Lib.trimRightS r cs = []
      · rw [if_pos ⟨h, hb⟩, h]
      · rw [if_neg (fun h' => h h'.1)]
        unfold Lib.trimLeftS
        rw [List.dropWhile_cons, if_pos hb]
    · have e1 : Lib.trimLeftS (b :: r) cs = b :: r := by unfold Lib.trimLeftS; rw [List.dropWhile_cons, if_neg hb]
      rw [e1, if_neg (fun h' => hb h'.2), trimRight_cons, if_neg (fun h' => hb h'.2)]
      unfold Lib.trimLeftS
      rw [List.dropWhile_cons, if_neg hb]
theorem trimW_eq (l : List UInt8) : trimW l = Lib.trimRightS (Lib.trimLeftS l [32, 9]) [32, 9] := trim_comm _ _
theorem trimL_cons (b : UInt8) (r : List UInt8) : Lib.trimLeftS (b :: r) [32, 9] = if b.toNat = 32 ∨ b.toNat = 9 then Lib.trimLeftS r [32, 9] else b :: r := by
  have e : ([32, 9] : List UInt8).contains b = true ↔ (b.toNat = 32 ∨ b.toNat = 9) := by
    simp only [List.contains_iff_mem, List.mem_cons, List.not_mem_nil, or_false, ← UInt8.toNat_inj]
    exact Iff.rfl
  unfold Lib.trimLeftS
  rw [List.dropWhile_cons]
  by_cases h : b.toNat = 32 ∨ b.toNat = 9
  · rw [if_pos h, if_pos (e.2 h)]
  · rw [if_neg h, if_neg (fun h' => h (e.1 h'))]
theorem trimR_snoc (b : UInt8) (r : List UInt8) : Lib.trimRightS (r ++ [b]) [32, 9] = if b.toNat = 32 ∨ b.toNat = 9 then Lib.trimRightS r [32, 9] else r ++ [b] := by
  have := trimL_cons b r.reverse
  unfold Lib.trimLeftS at this
  unfold Lib.trimRightS
  rw [List.reverse_append]
  simp only [List.reverse_cons, List.reverse_nil, List.nil_append, List.singleton_append]
  rw [this]
  split
  · rfl
  · simp

theorem parseF_eq (l : List UInt8) : parseF l = if 0 ≤ Lib.indexByte l 58 ∧ isTok (l.take (Lib.indexByte l 58).toNat) = true ∧ isTxt (l.drop ((Lib.indexByte l 58).toNat + 1)) = true then some ⟨l.take (Lib.indexByte l 58).toNat, trimW (l.drop ((Lib.indexByte l 58).toNat + 1))⟩ else none := by
  unfold parseF Lib.cut
  rw [Lib.index_one]
  by_cases h : 0 ≤ Lib.indexByte l 58
  · simp only [if_pos h, List.length_singleton]
    by_cases h1 : isTok (l.take (Lib.indexByte l 58).toNat) = true
    · by_cases h2 : isTxt (l.drop ((Lib.indexByte l 58).toNat + 1)) = true
      · simp [h, h1, h2]
      · simp [h, h1, h2]
    · simp [h1]
  · simp only [if_neg h]
    simp [h]

theorem parse_none {l : List UInt8} (h : parseF l = none) : Ending.returned (.tuple #[.agg #[.string (S []), .string (S [])], .int .i64 3]) = .returned (.tuple #[.agg (parseV l).cells.toArray, .int .i64 (parseE l)]) := by
  unfold parseV parseE
  rw [h]
  rfl
theorem parse_some {l : List UInt8} {f : Fld} (h : parseF l = some f) : Ending.returned (.tuple #[.agg #[.string (S f.name), .string (S f.value)], .int .i64 0]) = .returned (.tuple #[.agg (parseV l).cells.toArray, .int .i64 (parseE l)]) := by
  unfold parseV parseE
  rw [h]
  rfl
/-- what ref.Parse hands back -/
def RefParse (l : List UInt8) (w : World) (e : Ending) (w' : World) : Prop := e = .returned (.tuple #[.agg (parseV l).cells.toArray, .int .i64 (parseE l)]) ∧ Keep [] w w'

@[go_sem] theorem eqFld (a b c d : ByteArray) (w : World) : (Op.equalIn 10000 44 (.agg #[.string a, .string b]) (.agg #[.string c, .string d])).run Tryd.prog w = .ok (a.toList == c.toList && b.toList == d.toList) w := by
  have u3 := Tryd.underlying9
  have a3 := Tryd.isAgg9
  have z3 := Tryd.sizeOf9
  have hS : Tryd.prog.underlying 44 = some (.struct (Tryd.prog.fieldsOf 44)) := by kernel_rfl
  have hp : Tryd.prog.stoodInHeld 44 = false := by kernel_rfl
  rw [show (10000 : Nat) = 9999 + 1 from rfl, run_equalIn_struct w 9999 44 _ _ hS hp]
  simp only [Program.fieldsOf, Tryd.underlying44]
  go_simp
  by_cases h1 : a.toList = c.toList <;> by_cases h2 : b.toList = d.toList <;> simp [h1, h2]

end Go.Proofs.YtpimfoohpfkciaaDoor

/- Layer 10: the lists' elements: cut, Cut. No conditions but on lengths. -/
namespace Go.Proofs.YtpimfoohpfkciaaDoor
open Go.RowKit Go.Shelf

/-- a text, cut at each byte that isn't in quotes; p: the part that has begun -/
def cutM (by' : UInt8) : List UInt8 → Bool → List UInt8 → List (List UInt8)
  | [], _, p => [trimW p]
  | c :: r, q, p =>
    if c.toNat = 34 then cutM by' r (!q) (p ++ [c])
    else if c.toNat = 92 ∧ q = true then
      match r with
      | [] => [trimW (p ++ [c])]
      | d :: r' => cutM by' r' q (p ++ [c, d])
    else if c = by' ∧ q = false then trimW p :: cutM by' r q []
    else cutM by' r q (p ++ [c])
def cutW (l : List UInt8) (b : UInt8) : List (List UInt8) := cutM b l false []
theorem drop_at {l : List UInt8} {k : Nat} {c : UInt8} (h : l[k]? = some c) : l.drop k = c :: l.drop (k + 1) := by
  obtain ⟨hl, hc⟩ := List.getElem?_eq_some_iff.1 h
  rw [List.drop_eq_getElem_cons hl, hc]
theorem cutM_quote {b c : UInt8} {r p : List UInt8} {q : Bool} (h : c.toNat = 34) : cutM b (c :: r) q p = cutM b r (!q) (p ++ [c]) := by
  rw [cutM.eq_def]; dsimp only; rw [if_pos h]
theorem cutM_slash {b c d : UInt8} {r p : List UInt8} (h : c.toNat = 92) : cutM b (c :: d :: r) true p = cutM b r true (p ++ [c, d]) := by
  rw [cutM.eq_def]; dsimp only; rw [if_neg (by omega), if_pos ⟨h, rfl⟩]
theorem cutM_slash_end {b c : UInt8} {p : List UInt8} (h : c.toNat = 92) : cutM b [c] true p = [trimW (p ++ [c])] := by
  rw [cutM.eq_def]; dsimp only; rw [if_neg (by omega), if_pos ⟨h, rfl⟩]
theorem cutM_by {b c : UInt8} {r p : List UInt8} (h : c.toNat ≠ 34) (hb : c = b) : cutM b (c :: r) false p = trimW p :: cutM b r false [] := by
  rw [cutM.eq_def]; dsimp only; rw [if_neg h, if_neg (by simp), if_pos ⟨hb, rfl⟩]
theorem cutM_plain {b c : UInt8} {r p : List UInt8} {q : Bool} (h : c.toNat ≠ 34) (h2 : ¬ (c.toNat = 92 ∧ q = true)) (hb : ¬ (c = b ∧ q = false)) : cutM b (c :: r) q p = cutM b r q (p ++ [c]) := by
  rw [cutM.eq_def]; dsimp only; rw [if_neg h, if_neg h2, if_neg hb]
theorem cutM_ne (b : UInt8) : ∀ (l : List UInt8) (q : Bool) (p : List UInt8), cutM b l q p ≠ []
  | [], _, _ => by simp [cutM]
  | [c], q, p => by
    rw [cutM.eq_def]; dsimp only
    split
    · exact cutM_ne b [] _ _
    · split
      · simp
      · split
        · simp
        · exact cutM_ne b [] _ _
  | c :: d :: r, q, p => by
    rw [cutM.eq_def]; dsimp only
    split
    · exact cutM_ne b (d :: r) _ _
    · split
      · exact cutM_ne b r _ _
      · split
        · simp
        · exact cutM_ne b (d :: r) _ _

theorem strinfo : (Tryd.prog.info? 9).map (fun i => (i.zero, i.size, i.bytes)) = some (some (.string ⟨#[]⟩), 1, 16) := by kernel_rfl
theorem u8info' : ∃ i0, Hid (Tryd.prog.info? 5 = some i0 ∧ i0.zero = some (.int .u8 0) ∧ i0.size = 1 ∧ i0.bytes = 1) := by
  obtain ⟨i0, hi, hz0, hz1, hz2⟩ := info_parts u8info
  exact ⟨i0, hi, hz0, hz1, hz2⟩
theorem strinfo' : ∃ i0, Hid (Tryd.prog.info? 9 = some i0 ∧ i0.zero = some (.string ⟨#[]⟩) ∧ i0.size = 1 ∧ i0.bytes = 16) := by
  obtain ⟨i0, hi, hz0, hz1, hz2⟩ := info_parts strinfo
  exact ⟨i0, hi, hz0, hz1, hz2⟩

theorem byteC_of {c : UInt8} {z : Int} (h : z = (c.toNat : Nat)) : [Value.int .u8 z] = byteC c := by rw [h]; rfl
theorem strC_of {c : List UInt8} {s : ByteArray} (h : s = S c) : [Value.string s] = strC c := by rw [h]; rfl
/-- what a call hands back that has made a slice of texts -/
def Texts (w : World) (M : List (List UInt8)) (e : Ending) (w' : World) : Prop := ∃ v, e = .returned v ∧ Own strC 1 w.heap.size 9 w' v M ∧ Keep [] w w'

end Go.Proofs.YtpimfoohpfkciaaDoor

/- Layer 1: numbers out of digits: digit, gather, bounded, isDec, Undec. No conditions but on lengths. -/
namespace Go.Proofs.YtpimfoohpfkciaaDoor
open Go.RowKit

def digV (b : UInt8) : Int := if 48 ≤ b.toNat ∧ b.toNat ≤ 57 then (b.toNat : Int) - 48 else if 97 ≤ b.toNat ∧ b.toNat ≤ 102 then (b.toNat : Int) - 97 + 10 else if 65 ≤ b.toNat ∧ b.toNat ≤ 70 then (b.toNat : Int) - 65 + 10 else 0
def digOk (b : UInt8) : Bool := decide (48 ≤ b.toNat ∧ b.toNat ≤ 57) || decide (97 ≤ b.toNat ∧ b.toNat ≤ 102) || decide (65 ≤ b.toNat ∧ b.toNat ≤ 70)
theorem digV_range (b : UInt8) : 0 ≤ digV b ∧ digV b ≤ 15 := by
  unfold digV
  split
  · omega
  · split
    · omega
    · split <;> omega
theorem dig_ret {a c : Int} {b d : Bool} (h : a = c) (h2 : b = d) : Ending.returned (.tuple #[.int .i64 a, .bool b]) = .returned (.tuple #[.int .i64 c, .bool d]) := by rw [h, h2]

set_option maxRecDepth 100000 in
set_option maxHeartbeats 1000000 in
theorem hexa_digit (b : UInt8) (w : World) :
    Calls Tryd.prog 87 #[.int .u8 b.toNat] w fun e w' => e = .returned (.tuple #[.int .i64 (digV b), .bool (digOk b)]) ∧ w = w' := by
  have hb := u8_nat b
  have hV : digV b = if 48 ≤ b.toNat ∧ b.toNat ≤ 57 then (b.toNat : Int) - 48 else if 97 ≤ b.toNat ∧ b.toNat ≤ 102 then (b.toNat : Int) - 97 + 10 else if 65 ≤ b.toNat ∧ b.toNat ≤ 70 then (b.toNat : Int) - 65 + 10 else 0 := rfl
  have hO : digOk b = (decide (48 ≤ b.toNat ∧ b.toNat ≤ 57) || decide (97 ≤ b.toNat ∧ b.toNat ≤ 102) || decide (65 ≤ b.toNat ∧ b.toNat ≤ 70)) := rfl
  generalize digV b = v at hV
  generalize digOk b = o at hO
  generalize b.toNat = x at *
  by_cases h1 : x < 48
  · have HV := Lib.hid (show v = 0 by rw [hV, if_neg (by omega), if_neg (by omega), if_neg (by omega)])
    have HO := Lib.hid (show o = false by rw [hO]; simp; omega)
    clear hV hO
    go_enter Tryd.func87, Tryd.ntmps87
    go_wp2
    go_ret2
    exact ⟨dig_ret HV.out.symm HO.out.symm, rfl⟩
  · by_cases h2 : x ≤ 57
    · have HV := Lib.hid (show v = (x : Int) - 48 by rw [hV, if_pos (by omega)])
      have HO := Lib.hid (show o = true by rw [hO]; simp; omega)
      clear hV hO
      go_enter Tryd.func87, Tryd.ntmps87
      go_wp2
      go_ret2
      exact ⟨dig_ret HV.out.symm HO.out.symm, rfl⟩
    · by_cases h3 : x < 65
      · have HV := Lib.hid (show v = 0 by rw [hV, if_neg (by omega), if_neg (by omega), if_neg (by omega)])
        have HO := Lib.hid (show o = false by rw [hO]; simp; omega)
        clear hV hO
        go_enter Tryd.func87, Tryd.ntmps87
        go_wp2
        go_ret2
        exact ⟨dig_ret HV.out.symm HO.out.symm, rfl⟩
      · by_cases h4 : x ≤ 70
        · have HV := Lib.hid (show v = (x : Int) + 32 - 97 + 10 by rw [hV, if_neg (by omega), if_neg (by omega), if_pos (by omega)]; omega)
          have HO := Lib.hid (show o = true by rw [hO]; simp; omega)
          clear hV hO
          go_enter Tryd.func87, Tryd.ntmps87
          go_wp2
          go_ret2
          exact ⟨dig_ret (by rw [HV.out]) HO.out.symm, rfl⟩
        · by_cases h5 : x < 97
          · have HV := Lib.hid (show v = 0 by rw [hV, if_neg (by omega), if_neg (by omega), if_neg (by omega)])
            have HO := Lib.hid (show o = false by rw [hO]; simp; omega)
            clear hV hO
            go_enter Tryd.func87, Tryd.ntmps87
            go_wp2
            go_ret2
            exact ⟨dig_ret HV.out.symm HO.out.symm, rfl⟩
          · by_cases h6 : x ≤ 102
            · have HV := Lib.hid (show v = (x : Int) - 97 + 10 by rw [hV, if_neg (by omega), if_pos (by omega)])
              have HO := Lib.hid (show o = true by rw [hO]; simp; omega)
              clear hV hO
              go_enter Tryd.func87, Tryd.ntmps87
              go_wp2
              go_ret2
              exact ⟨dig_ret HV.out.symm HO.out.symm, rfl⟩
            · have HV := Lib.hid (show v = 0 by rw [hV, if_neg (by omega), if_neg (by omega), if_neg (by omega)])
              have HO := Lib.hid (show o = false by rw [hO]; simp; omega)
              clear hV hO
              go_enter Tryd.func87, Tryd.ntmps87
              go_wp2
              go_ret2
              exact ⟨dig_ret HV.out.symm HO.out.symm, rfl⟩

/-- the number of digits; none: it is too great -/
def gatherM (m : Int) : List UInt8 → Int → Option Int
  | [], n => some n
  | b :: r, n => if n * m + digV b ≤ 4611686018427387904 then gatherM m r (n * m + digV b) else none
def gatherV (m : Int) (l : List UInt8) : Int := (gatherM m l 0).getD 0
def gatherOk (m : Int) (l : List UInt8) : Bool := (gatherM m l 0).isSome
theorem gather_test {n m v : Int} (hm : 0 < m) : (4611686018427387904 - v) / m < n ↔ ¬ n * m + v ≤ 4611686018427387904 := by
  rw [Int.not_le]
  constructor
  · intro h
    have := (Int.ediv_lt_iff_lt_mul hm).1 h
    omega
  · intro h
    exact (Int.ediv_lt_iff_lt_mul hm).2 (by omega)

set_option maxRecDepth 100000 in
set_option maxHeartbeats 1000000 in
theorem hexa_gather (l : List UInt8) (m : Int) (w : World) (hs : l.length ≤ maxLen) (h2 : 2 ≤ m) (h16 : m ≤ 16) :
    Calls Tryd.prog 77 #[.string (S l), .int .i64 m] w fun e w' => e = .returned (.tuple #[.int .i64 (gatherV m l), .bool (gatherOk m l)]) ∧ Keep [] w w' := by
  have hs' : l.length ≤ 9223372036854775807 := hs
  have hcv := conv_run w (S l)
  have hby := Bytes.conv w 5 l
  have hkp := conv_keep w 5 (S l)
  have hsz := S_size l
  have hV : gatherV m l = (gatherM m l 0).getD 0 := rfl
  have hO : gatherOk m l = (gatherM m l 0).isSome := rfl
  generalize gatherV m l = gv at hV
  generalize gatherOk m l = go at hO
  have HV := Lib.hid hV
  have HO := Lib.hid hO
  generalize Lib.bytesWorld w 5 (S l) = wb at hcv hby hkp
  generalize hX : w.heap.size = X at hcv hby
  have HB := Lib.hid hby
  have HK := Lib.hid hkp
  have HD := Lib.hid (fun (b : UInt8) (w1 : World) => hexa_digit b w1)
  clear hs hX hV hO hby hkp
  go_enter Tryd.func77, Tryd.ntmps77
  go_wp2_with fail
  go_loopg [4, 13] l.length (fun g nv i wr => ∃ (k : Nat) (n : Int), i = .int .i64 k ∧ nv = .int .i64 n ∧ k ≤ l.length ∧ g = l.length - k ∧ 0 ≤ n ∧ n ≤ 4611686018427387904 ∧ wb = wr ∧ Hid (gatherM m l 0 = gatherM m (l.drop k) n))
  case atStart => exact ⟨0, 0, rfl, rfl, Nat.zero_le _, by omega, by omega, by omega, rfl, Lib.hid rfl⟩
  case round =>
    obtain ⟨k, n, rfl, rfl, hk, hgk, hn0, hn1, rfl, HG⟩ := hrel
    by_cases hlt : k < l.length
    · obtain ⟨c, hg⟩ : ∃ c, l[k]? = some c := ⟨_, List.getElem?_eq_getElem hlt⟩
      have hc := HB.out.1 k c hg
      have hr := HG.out
      rw [drop_at hg, gatherM] at hr
      obtain ⟨v0, v1⟩ := digV_range c
      have hdc := HD.out c
      have ht := gather_test (n := n) (m := m) (v := digV c) (by omega)
      generalize digV c = v at hr v0 v1 hdc ht
      have hm0 : 0 ≤ n * m := Int.mul_nonneg hn0 (by omega)
      have HDC := Lib.hid hdc
      clear hg HG hdc
      by_cases hle : n * m + v ≤ 4611686018427387904
      · rw [if_pos hle] at hr
        have HR := Lib.hid hr
        have ht' : ¬ (4611686018427387904 - v) / m < n := fun h => (ht.1 h) hle
        have hm1 : n * m ≤ 4611686018427387904 := by omega
        clear hr ht
        go_wp2_with fail
        refine (HDC.out _).mono ?_
        rintro e w1 ⟨rfl, rfl⟩
        go_wp2_with fail
        go_roundg (l.length - (k + 1))
        case measure => omega
        case rel => exact ⟨k + 1, n * m + v, by go_num, rfl, by omega, rfl, by omega, by omega, rfl, HR⟩
      · rw [if_neg hle] at hr
        have HR := Lib.hid hr
        have ht' : (4611686018427387904 - v) / m < n := ht.2 hle
        clear hr ht hle
        go_wp2_with fail
        refine (HDC.out _).mono ?_
        rintro e w1 ⟨rfl, rfl⟩
        go_wp2_with fail
        go_ret2
        exact ⟨dig_ret (by rw [HV.out, HR.out]; rfl) (by rw [HO.out, HR.out]; rfl), HK.out⟩
    · have hke : k = l.length := by omega
      have hr := HG.out
      rw [hke, List.drop_length, gatherM] at hr
      have HR := Lib.hid hr
      clear hr hke
      go_wp2_with fail
      go_ret2
      exact ⟨dig_ret (by rw [HV.out, HR.out]; rfl) (by rw [HO.out, HR.out]; rfl), HK.out⟩

def boundV (m : Int) (l : List UInt8) (most : Int) : Int := match gatherM m l 0 with | some n => if most < n then 0 else n | none => 0
def boundE (m : Int) (l : List UInt8) (most : Int) : Int := match gatherM m l 0 with | some n => if most < n then 14 else 0 | none => 14
theorem two_ret {a c b d : Int} (h : a = c) (h2 : b = d) : Ending.returned (.tuple #[.int .i64 a, .int .i64 b]) = .returned (.tuple #[.int .i64 c, .int .i64 d]) := by rw [h, h2]
theorem gatherM_nonneg (m : Int) (hm : 0 ≤ m) : ∀ (l : List UInt8) (n r : Int), 0 ≤ n → gatherM m l n = some r → 0 ≤ r
  | [], n, r, h, e => by simp [gatherM] at e; omega
  | b :: s, n, r, h, e => by
    unfold gatherM at e
    split at e
    · have := digV_range b
      have := Int.mul_nonneg h hm
      exact gatherM_nonneg m hm s _ r (by omega) e
    · cases e
theorem boundV_range {m : Int} (hm : 0 ≤ m) (l : List UInt8) (most : Int) : (boundE m l most = 0 → 0 ≤ boundV m l most ∧ boundV m l most ≤ most) ∧ (boundE m l most ≠ 0 → boundV m l most = 0 ∧ boundE m l most = 14) := by
  unfold boundV boundE
  cases h : gatherM m l 0 with
  | none => simp
  | some n =>
    have := gatherM_nonneg m hm l 0 n (by omega) h
    dsimp only
    split
    · simp
    · simp; omega

set_option maxRecDepth 100000 in
set_option maxHeartbeats 1000000 in
theorem hexa_bounded (l : List UInt8) (m most : Int) (w : World) (hs : l.length ≤ maxLen) (h2 : 2 ≤ m) (h16 : m ≤ 16) :
    Calls Tryd.prog 63 #[.string (S l), .int .i64 m, .int .i64 most] w fun e w' => e = .returned (.tuple #[.int .i64 (boundV m l most), .int .i64 (boundE m l most)]) ∧ Keep [] w w' := by
  have hG := hexa_gather l m w hs h2 h16
  have hV : boundV m l most = (match gatherM m l 0 with | some n => if most < n then 0 else n | none => 0) := rfl
  have hE : boundE m l most = (match gatherM m l 0 with | some n => if most < n then 14 else 0 | none => 14) := rfl
  unfold gatherV gatherOk at hG
  generalize boundV m l most = v at hV
  generalize boundE m l most = e0 at hE
  cases hg : gatherM m l 0 with
  | none =>
    rw [hg] at hG hV hE
    change Calls _ _ _ _ (fun e w' => e = .returned (.tuple #[.int .i64 0, .bool false]) ∧ Keep [] w w') at hG
    have HG := Lib.hid hG
    have HV := Lib.hid hV
    have HE := Lib.hid hE
    clear hG hV hE hg hs
    go_enter Tryd.func63, Tryd.ntmps63
    go_wp2_with fail
    refine HG.out.mono ?_
    rintro e w1 ⟨rfl, hk1⟩
    have K1 := Lib.hid hk1
    clear hk1
    go_wp2_with fail
    go_ret2
    exact ⟨two_ret HV.out.symm HE.out.symm, K1.out⟩
  | some n =>
    rw [hg] at hG hV hE
    change Calls _ _ _ _ (fun e w' => e = .returned (.tuple #[.int .i64 n, .bool true]) ∧ Keep [] w w') at hG
    dsimp only at hV hE
    by_cases ht : most < n
    · rw [if_pos ht] at hV hE
      have HG := Lib.hid hG
      have HV := Lib.hid hV
      have HE := Lib.hid hE
      clear hG hV hE hg hs
      go_enter Tryd.func63, Tryd.ntmps63
      go_wp2_with fail
      refine HG.out.mono ?_
      rintro e w1 ⟨rfl, hk1⟩
      have K1 := Lib.hid hk1
      clear hk1
      go_wp2_with fail
      go_ret2
      exact ⟨two_ret HV.out.symm HE.out.symm, K1.out⟩
    · rw [if_neg ht] at hV hE
      have HG := Lib.hid hG
      have HV := Lib.hid hV
      have HE := Lib.hid hE
      clear hG hV hE hg hs
      go_enter Tryd.func63, Tryd.ntmps63
      go_wp2_with fail
      refine HG.out.mono ?_
      rintro e w1 ⟨rfl, hk1⟩
      have K1 := Lib.hid hk1
      clear hk1
      go_wp2_with fail
      go_ret2
      exact ⟨two_ret HV.out.symm HE.out.symm, K1.out⟩

def decB (b : UInt8) : Bool := decide (48 ≤ b.toNat) && decide (b.toNat ≤ 57)
def isDecM (l : List UInt8) : Bool := l.all decB && !l.isEmpty && (decide (l.length = 1) || decide (l.head? ≠ some 48))

set_option maxRecDepth 100000 in
set_option maxHeartbeats 1000000 in
theorem hexa_isDec (l : List UInt8) (w : World) (hs : l.length ≤ maxLen) :
    Calls Tryd.prog 62 #[.string (S l)] w fun e w' => e = .returned (.bool (isDecM l)) ∧ Keep [] w w' := by
  have hs' : l.length ≤ 9223372036854775807 := hs
  have hcv := conv_run w (S l)
  have hby := Bytes.conv w 5 l
  have hkp := conv_keep w 5 (S l)
  have hsz := S_size l
  have hD : isDecM l = (l.all decB && !l.isEmpty && (decide (l.length = 1) || decide (l.head? ≠ some 48))) := rfl
  generalize isDecM l = dv at hD
  generalize Lib.bytesWorld w 5 (S l) = wb at hcv hby hkp
  generalize hX : w.heap.size = X at hcv hby
  have HB := Lib.hid hby
  have HK := Lib.hid hkp
  have HD := Lib.hid hD
  clear hs hX hby hkp hD
  go_enter Tryd.func62, Tryd.ntmps62
  go_wp2_with fail
  go_loopg [8] l.length (fun g i wr => ∃ (k : Nat), i = .int .i64 k ∧ k ≤ l.length ∧ g = l.length - k ∧ wb = wr ∧ Hid ((l.take k).all decB = true))
  case atStart => exact ⟨0, rfl, Nat.zero_le _, by omega, rfl, Lib.hid rfl⟩
  case round =>
    obtain ⟨k, rfl, hk, hgk, rfl, HG⟩ := hrel
    by_cases hlt : k < l.length
    · obtain ⟨c, hg⟩ : ∃ c, l[k]? = some c := ⟨_, List.getElem?_eq_getElem hlt⟩
      have hc := HB.out.1 k c hg
      have hc8 := u8_nat c
      by_cases h1 : 48 ≤ c.toNat ∧ c.toNat ≤ 57
      · have HN : Hid ((l.take (k + 1)).all decB = true) := by
          rw [take_snoc hg, List.all_append, HG.out]
          simp [decB, h1, Hid]
        obtain ⟨h2, h3⟩ := h1
        clear hg HG
        go_wp2_with fail
        go_roundg (l.length - (k + 1))
        case measure => omega
        case rel => exact ⟨k + 1, by go_num, by omega, rfl, rfl, HN⟩
      · have hno : dv = false := by
          rw [HD.out]
          have : l.all decB = false := by
            rw [List.all_eq_false]
            exact ⟨c, List.mem_of_getElem? hg, by simp [decB]; omega⟩
          rw [this]; simp
        have HN := Lib.hid hno
        clear hg HG hno
        by_cases h2 : c.toNat < 48
        · go_wp2_with fail
          go_ret
          exact ⟨ret_bool HN.out.symm, HK.out⟩
        · have h3 : 57 < c.toNat := by omega
          clear h1
          go_wp2_with fail
          go_ret
          exact ⟨ret_bool HN.out.symm, HK.out⟩
    · have hke : k = l.length := by omega
      have hall := HG.out
      rw [hke, List.take_length] at hall
      have hD := HD.out
      rw [hall] at hD
      have HDD := Lib.hid hD
      clear hke hall hD HG
      cases l with
      | nil =>
        have q0 : (S []).toList = [] := S_toList []
        go_wp2_with fail
        go_ret
        exact ⟨ret_bool (by rw [HDD.out]; rfl), HK.out⟩
      | cons b r =>
        have q0 : (S (b :: r)).toList = b :: r := S_toList _
        have q1 : (S (b :: r))[0]'(by rw [hsz]; simp) = b := S_get rfl _
        cases r with
        | nil =>
          have hk1 : 1 ≤ k := by simp at hlt; omega
          go_wp2_with fail
          go_ret
          exact ⟨ret_bool (by rw [HDD.out]; rfl), HK.out⟩
        | cons b2 r2 =>
          have hk1 : r2.length + 1 + 1 ≤ k := by simp at hlt; omega
          have q2 : ((S (b :: b2 :: r2)).size) = r2.length + 1 + 1 := by rw [hsz]; simp
          obtain ⟨z1, z2⟩ := int_ne (show (r2.length : Int) + 1 + 1 ≠ 1 by omega)
          have hb8 := u8_nat b
          by_cases hb : b.toNat = 48
          · obtain ⟨z3, z4⟩ := int_eq (show ((b.toNat : Nat) : Int) = 48 by omega)
            have HF : Hid (dv = false) := by
              rw [HDD.out]
              have : b = 48 := UInt8.toNat_inj.1 hb
              simp [this, Hid]
            clear hb
            go_wp2_with fail
            go_ret
            exact ⟨ret_bool HF.out.symm, HK.out⟩
          · obtain ⟨z3, z4⟩ := int_ne (show ((b.toNat : Nat) : Int) ≠ 48 by omega)
            have HF : Hid (dv = true) := by
              rw [HDD.out]
              have : b ≠ 48 := fun h => hb (by rw [h]; rfl)
              simp [this, Hid]
            clear hb
            go_wp2_with fail
            go_ret
            exact ⟨ret_bool HF.out.symm, HK.out⟩

def undecV (l : List UInt8) (most : Int) : Int := if isDecM l then boundV 10 l most else 0
def undecE (l : List UInt8) (most : Int) : Int := if isDecM l then boundE 10 l most else 3
theorem undec_range (l : List UInt8) (most : Int) : (undecE l most = 0 → 0 ≤ undecV l most ∧ undecV l most ≤ most) ∧ (undecE l most ≠ 0 → undecV l most = 0 ∧ (undecE l most = 14 ∨ undecE l most = 3)) := by
  unfold undecV undecE
  have h := boundV_range (m := 10) (by omega) l most
  split
  · exact ⟨h.1, fun h2 => ⟨(h.2 h2).1, .inl (h.2 h2).2⟩⟩
  · simp

set_option maxRecDepth 100000 in
set_option maxHeartbeats 1000000 in
theorem hexa_Undec (l : List UInt8) (most : Int) (w : World) (hs : l.length ≤ maxLen) :
    Calls Tryd.prog 44 #[.string (S l), .int .i64 most] w fun e w' => e = .returned (.tuple #[.int .i64 (undecV l most), .int .i64 (undecE l most)]) ∧ Keep [] w w' := by
  have hD := hexa_isDec l w hs
  have hB := fun w1 => hexa_bounded l 10 most w1 hs (by omega) (by omega)
  have hV : undecV l most = if isDecM l then boundV 10 l most else 0 := rfl
  have hE : undecE l most = if isDecM l then boundE 10 l most else 3 := rfl
  generalize undecV l most = v at hV
  generalize undecE l most = e0 at hE
  cases hd : isDecM l with
  | true =>
    rw [hd] at hD hV hE
    rw [if_pos rfl] at hV hE
    have HD := Lib.hid hD
    have HB := Lib.hid hB
    have HV := Lib.hid hV
    have HE := Lib.hid hE
    clear hD hB hV hE hd hs
    go_enter Tryd.func44, Tryd.ntmps44
    go_wp2_with fail
    refine HD.out.mono ?_
    rintro e w1 ⟨rfl, hk1⟩
    have K1 := Lib.hid hk1
    clear hk1
    go_wp2_with fail
    refine (HB.out _).mono ?_
    rintro e w2 ⟨rfl, hk2⟩
    have K2 := Lib.hid (K1.out.trans hk2)
    clear hk2
    go_wp2_with fail
    go_ret2
    exact ⟨two_ret HV.out.symm HE.out.symm, K2.out⟩
  | false =>
    rw [hd] at hD hV hE
    rw [if_neg (by simp)] at hV hE
    have HD := Lib.hid hD
    have HV := Lib.hid hV
    have HE := Lib.hid hE
    clear hD hB hV hE hd hs
    go_enter Tryd.func44, Tryd.ntmps44
    go_wp2_with fail
    refine HD.out.mono ?_
    rintro e w1 ⟨rfl, hk1⟩
    have K1 := Lib.hid hk1
    clear hk1
    go_wp2_with fail
    go_ret2
    exact ⟨two_ret HV.out.symm HE.out.symm, K1.out⟩
end Go.Proofs.YtpimfoohpfkciaaDoor

/- Layer 1: Unhexnum, Value; the document's. No conditions but on lengths. -/
namespace Go.Proofs.YtpimfoohpfkciaaDoor
open Go.RowKit

def hexOk (l : List UInt8) : Bool := !l.isEmpty && decide (l.length ≤ 16) && l.all digOk
def unhexV (l : List UInt8) (most : Int) : Int := if hexOk l then boundV 16 l most else 0
def unhexE (l : List UInt8) (most : Int) : Int := if hexOk l then boundE 16 l most else 3
theorem unhex_range (l : List UInt8) (most : Int) : (unhexE l most = 0 → 0 ≤ unhexV l most ∧ unhexV l most ≤ most) ∧ (unhexE l most ≠ 0 → unhexV l most = 0 ∧ (unhexE l most = 14 ∨ unhexE l most = 3)) := by
  unfold unhexE unhexV
  have := boundV_range (m := 16) (by omega) l most
  cases hexOk l with
  | false => simp
  | true => simp only [if_true]; exact ⟨this.1, fun h => ⟨(this.2 h).1, .inl (this.2 h).2⟩⟩

set_option maxRecDepth 100000 in
set_option maxHeartbeats 1000000 in
theorem hexa_Unhexnum (l : List UInt8) (most : Int) (w : World) (hs : l.length ≤ maxLen) :
    Calls Tryd.prog 81 #[.string (S l), .int .i64 most] w fun e w' => e = .returned (.tuple #[.int .i64 (unhexV l most), .int .i64 (unhexE l most)]) ∧ Keep [] w w' := by
  have hs' : l.length ≤ 9223372036854775807 := hs
  have hcv := conv_run w (S l)
  have hby := Bytes.conv w 5 l
  have hkp := conv_keep w 5 (S l)
  have hsz := S_size l
  have hte := S_toList l
  have hV : unhexV l most = if hexOk l then boundV 16 l most else 0 := rfl
  have hE : unhexE l most = if hexOk l then boundE 16 l most else 3 := rfl
  have hO : hexOk l = (!l.isEmpty && decide (l.length ≤ 16) && l.all digOk) := rfl
  have hBd := fun w1 => hexa_bounded l 16 most w1 hs (by omega) (by omega)
  generalize unhexV l most = v at hV
  generalize unhexE l most = e0 at hE
  generalize Lib.bytesWorld w 5 (S l) = wb at hcv hby hkp
  generalize hX : w.heap.size = X at hcv hby
  have HB := Lib.hid hby
  have HK := Lib.hid hkp
  have HD := Lib.hid (fun (b : UInt8) (w1 : World) => hexa_digit b w1)
  have HBd := Lib.hid hBd
  clear hs hX hby hkp hBd
  by_cases h0 : l = []
  · have HF := Lib.hid (show v = 0 ∧ e0 = 3 by subst h0; rw [hV, hE, hO]; exact ⟨rfl, rfl⟩)
    have h0' : l.isEmpty = true := by rw [h0]; rfl
    clear hV hE hO h0
    go_enter Tryd.func81, Tryd.ntmps81
    go_wp2_with fail
    go_ret2
    exact ⟨two_ret HF.out.1.symm HF.out.2.symm, Keep.refl _ _⟩
  have h0' : l.isEmpty = false := by cases l with | nil => exact absurd rfl h0 | cons => rfl
  by_cases h16 : 16 < l.length
  · have HF := Lib.hid (show v = 0 ∧ e0 = 3 by rw [hV, hE, hO, decide_eq_false (show ¬ l.length ≤ 16 by omega)]; simp)
    have h16' : decide (((l.length : Nat) : Int) > 16) = true := by simp; omega
    clear hV hE hO h0
    go_enter Tryd.func81, Tryd.ntmps81
    go_wp2_with fail
    go_ret2
    exact ⟨two_ret HF.out.1.symm HF.out.2.symm, Keep.refl _ _⟩
  have h16' : decide (((l.length : Nat) : Int) > 16) = false := by simp; omega
  have hO2 : hexOk l = l.all digOk := by rw [hO, h0', decide_eq_true (show l.length ≤ 16 by omega)]; simp
  rw [hO2] at hV hE
  have HV := Lib.hid (And.intro hV hE)
  clear hV hE hO hO2 h0
  go_enter Tryd.func81, Tryd.ntmps81
  go_wp2_with fail
  go_loopg [20] l.length (fun g i wr => ∃ k : Nat, i = .int .i64 k ∧ k ≤ l.length ∧ g = l.length - k ∧ wb = wr ∧ Hid ((l.take k).all digOk = true))
  case atStart => exact ⟨0, rfl, Nat.zero_le _, by omega, rfl, by simp [Hid]⟩
  case round =>
    obtain ⟨k, rfl, hk, hgk, rfl, HA⟩ := hrel
    by_cases hlt : k < l.length
    · obtain ⟨c, hg⟩ : ∃ c, l[k]? = some c := ⟨_, List.getElem?_eq_getElem hlt⟩
      have hc := HB.out.1 k c hg
      have hdc := HD.out c
      have HG := Lib.hid hg
      clear hg
      cases hd : digOk c with
      | true =>
        rw [hd] at hdc
        have HA2 := Lib.hid (show (l.take (k + 1)).all digOk = true by rw [take_snoc HG.out, List.all_append, HA.out]; simp [hd])
        generalize digV c = x at hdc
        have HDC := Lib.hid hdc
        clear hd hdc
        go_wp2_with fail
        refine (HDC.out _).mono ?_
        rintro e w1 ⟨rfl, rfl⟩
        go_wp2_with fail
        go_roundg (l.length - (k + 1))
        case measure => omega
        case rel => exact ⟨k + 1, by go_num, by omega, rfl, rfl, HA2⟩
      | false =>
        rw [hd] at hdc
        have hno : l.all digOk = false := by rw [List.all_eq_false]; exact ⟨c, List.mem_of_getElem? HG.out, by simp [hd]⟩
        have HF := Lib.hid (show v = 0 ∧ e0 = 3 by rw [HV.out.1, HV.out.2, hno]; exact ⟨rfl, rfl⟩)
        generalize digV c = x at hdc
        have HDC := Lib.hid hdc
        clear hd hdc hno
        go_wp2_with fail
        refine (HDC.out _).mono ?_
        rintro e w1 ⟨rfl, rfl⟩
        go_wp2_with fail
        go_ret2
        exact ⟨two_ret HF.out.1.symm HF.out.2.symm, HK.out⟩
    · have hall := HA.out
      rw [List.take_of_length_le (by omega)] at hall
      have HF := Lib.hid (show v = boundV 16 l most ∧ e0 = boundE 16 l most by rw [HV.out.1, HV.out.2, hall]; exact ⟨rfl, rfl⟩)
      clear hall
      go_wp2_with fail
      refine (HBd.out _).mono ?_
      rintro e w1 ⟨rfl, k1⟩
      go_wp2_with fail
      go_ret2
      exact ⟨two_ret HF.out.1.symm HF.out.2.symm, HK.out.trans k1⟩

def hexN (l : List UInt8) (n : Int) : Int := l.foldl (fun n b => n * 16 + digV b) n
theorem hexN_ge : ∀ (l : List UInt8) (n : Int), 0 ≤ n → n ≤ hexN l n
  | [], n, _ => Int.le_refl _
  | b :: r, n, h => by
    have hv := digV_range b
    have := hexN_ge r (n * 16 + digV b) (by omega)
    show n ≤ hexN r (n * 16 + digV b)
    omega
theorem gather_fold : ∀ (l : List UInt8) (n : Int), 0 ≤ n → n ≤ 4611686018427387904 → gatherM 16 l n = if hexN l n ≤ 4611686018427387904 then some (hexN l n) else none
  | [], n, _, h => by rw [if_pos (show hexN [] n ≤ _ from h)]; rfl
  | b :: r, n, h0, h => by
    have hv := digV_range b
    show (if n * 16 + digV b ≤ 4611686018427387904 then gatherM 16 r (n * 16 + digV b) else none) = if hexN r (n * 16 + digV b) ≤ _ then some (hexN r (n * 16 + digV b)) else none
    by_cases h1 : n * 16 + digV b ≤ 4611686018427387904
    · rw [if_pos h1, gather_fold r _ (by omega) h1]
    · have := hexN_ge r (n * 16 + digV b) (by omega)
      rw [if_neg h1, if_neg (by omega)]
theorem hexN_lt : ∀ (l : List UInt8) (n : Int), 0 ≤ n → hexN l n < (n + 1) * 16 ^ l.length
  | [], n, _ => by show n < (n + 1) * 1; omega
  | b :: r, n, h => by
    have hv := digV_range b
    have h1 := hexN_lt r (n * 16 + digV b) (by omega)
    show hexN r (n * 16 + digV b) < (n + 1) * 16 ^ (r.length + 1)
    have h2 : (n * 16 + digV b + 1) * 16 ^ r.length ≤ (n + 1) * 16 * 16 ^ r.length := Int.mul_le_mul_of_nonneg_right (by omega) (Int.le_of_lt (Int.pow_pos (by omega)))
    rw [Int.pow_succ, Int.mul_comm (16 ^ r.length) 16, ← Int.mul_assoc]
    omega
theorem hexN_small (l : List UInt8) {k : Nat} (hk : k ≤ 15) : 0 ≤ hexN (l.take k) 0 ∧ hexN (l.take k) 0 < 1152921504606846976 := by
  have h1 := hexN_lt (l.take k) 0 (by omega)
  refine ⟨hexN_ge _ 0 (by omega), ?_⟩
  have h2 : (16 : Int) ^ (l.take k).length ≤ 16 ^ 15 := (show ∀ n : Fin 16, (16 : Int) ^ n.1 ≤ 16 ^ 15 by decide) ⟨(l.take k).length, by rw [List.length_take]; omega⟩
  have h3 : (16 : Int) ^ 15 = 1152921504606846976 := by decide
  omega
theorem hexN_snoc {l : List UInt8} {k : Nat} {c : UInt8} (h : l[k]? = some c) : hexN (l.take (k + 1)) 0 = hexN (l.take k) 0 * 16 + digV c := by
  rw [take_snoc h]; unfold hexN; rw [List.foldl_append]; rfl
theorem bound_fold (l : List UInt8) (most : Int) : boundV 16 l most = (if 4611686018427387904 < hexN l 0 ∨ most < hexN l 0 then 0 else hexN l 0) ∧ boundE 16 l most = (if 4611686018427387904 < hexN l 0 ∨ most < hexN l 0 then 14 else 0) := by
  unfold boundV boundE
  rw [gather_fold l 0 (by omega) (by omega)]
  by_cases h1 : hexN l 0 ≤ 4611686018427387904
  · rw [if_pos h1]
    by_cases h2 : most < hexN l 0
    · simp only [if_pos h2]; rw [if_pos (.inr h2), if_pos (.inr h2)]; exact ⟨rfl, rfl⟩
    · simp only [if_neg h2]; rw [if_neg (by omega), if_neg (by omega)]; exact ⟨rfl, rfl⟩
  · rw [if_neg h1, if_pos (.inl (by omega)), if_pos (.inl (by omega))]
    exact ⟨rfl, rfl⟩

end Go.Proofs.YtpimfoohpfkciaaDoor

/- Layer 10: the program's cut. No conditions but on lengths. -/
namespace Go.Proofs.YtpimfoohpfkciaaDoor
open Go.RowKit Go.Shelf

theorem piece_snoc {l : List UInt8} {k f : Nat} {c : UInt8} (h : l[k]? = some c) (hf : f ≤ k) : (l.take (k + 1)).drop f = (l.take k).drop f ++ [c] := by
  have hl := (List.getElem?_eq_some_iff.1 h).1
  rw [take_snoc h, List.drop_append_of_le_length (by simp; omega)]

set_option maxRecDepth 100000 in
set_option maxHeartbeats 2000000 in
theorem field_cut (l : List UInt8) (b : UInt8) (w : World) (hs : l.length ≤ 1048576) :
    Calls Tryd.prog 64 #[.string (S l), .int .u8 b.toNat] w (Texts w (cutW l b)) := by
  have hsz := S_size l
  have HT := Lib.hid (fun (p : List UInt8) (h : p.length ≤ 1048576) (w1 : World) => field_trim p w1 (show p.length ≤ 9223372036854775807 by omega))
  have HM := Lib.hid (show maxLen = 9223372036854775807 from rfl)
  obtain ⟨is, Hs⟩ := strinfo'
  go_enter Tryd.func64, Tryd.ntmps64
  go_wp2_with fail
  go_loopg [4, 5, 6, 7] (l.length + 1) (fun g o fv qv i wr => ∃ (k f : Nat) (O : List (List UInt8)) (q : Bool), i = .int .i64 k ∧ k ≤ l.length + 1 ∧ g = l.length + 1 - k ∧ fv = .int .i64 f ∧ f ≤ l.length ∧ f ≤ k ∧ qv = .bool q ∧
    Own strC 1 w.heap.size 9 wr o O ∧ Keep [] w wr ∧ O.length ≤ k ∧ Hid (cutW l b = O ++ cutM b (l.drop k) q ((l.take k).drop f)))
  case atStart =>
    exact ⟨0, 0, [], false, rfl, Nat.zero_le _, by omega, rfl, Nat.zero_le _, Nat.le_refl _, rfl, Own.nil strC 1 _ _ w, Keep.refl [] w, Nat.le_refl _, rfl⟩
  case round =>
    obtain ⟨k, f, O, q, rfl, hk, hgk, rfl, hfl, hfk, rfl, ho, hkr, hol, hcm⟩ := hrel
    have HO := Lib.hid ho
    have HK := Lib.hid hkr
    clear ho hkr
    by_cases hlt : k < l.length
    · obtain ⟨c, hg⟩ : ∃ c, l[k]? = some c := ⟨_, List.getElem?_eq_getElem hlt⟩
      have hc8 := u8_nat c
      have hget := S_get hg
      have HD := Lib.hid (drop_at hg)
      have HPS := Lib.hid (piece_snoc hg hfk)
      clear hg
      by_cases h34 : c.toNat = 34
      · obtain ⟨q1, q2⟩ := int_eq (show ((c.toNat : Nat) : Int) = 34 by omega)
        have hn : Hid (cutW l b = O ++ cutM b (l.drop (k + 1)) (!q) ((l.take (k + 1)).drop f)) := by rw [Hid, hcm.out, HD.out, cutM_quote h34, HPS.out]
        clear hcm
        go_wp2_with fail
        go_roundg (l.length + 1 - (k + 1))
        case measure => omega
        case rel => exact ⟨k + 1, f, O, !q, by go_num, by omega, rfl, rfl, hfl, by omega, rfl, HO.out, HK.out, by omega, hn⟩
      · obtain ⟨q1, q2⟩ := int_ne (show ((c.toNat : Nat) : Int) ≠ 34 by omega)
        cases q with
        | true =>
          by_cases h92 : c.toNat = 92
          · obtain ⟨q3, q4⟩ := int_eq (show ((c.toNat : Nat) : Int) = 92 by omega)
            have hn : Hid (cutW l b = O ++ cutM b (l.drop (k + 2)) true ((l.take (k + 2)).drop f)) := by
              by_cases hl2 : k + 1 < l.length
              · obtain ⟨d, hg2⟩ : ∃ d, l[k + 1]? = some d := ⟨_, List.getElem?_eq_getElem hl2⟩
                rw [Hid, hcm.out, HD.out, drop_at hg2, cutM_slash h92, piece_snoc hg2 (by omega), HPS.out]; simp
              · have e1 : l.drop (k + 1) = [] := List.drop_eq_nil_of_le (by omega)
                have e2 : l.drop (k + 2) = [] := List.drop_eq_nil_of_le (by omega)
                have e3 : l.take (k + 2) = l.take (k + 1) := by rw [List.take_of_length_le (by omega), List.take_of_length_le (by omega)]
                rw [Hid, hcm.out, HD.out, e1, cutM_slash_end h92, e2, e3, HPS.out]; rfl
            clear hcm
            go_wp2_with fail
            go_roundg (l.length + 1 - (k + 2))
            case measure => omega
            case rel => exact ⟨k + 2, f, O, true, by go_num, by omega, rfl, rfl, hfl, by omega, rfl, HO.out, HK.out, by omega, hn⟩
          · obtain ⟨q3, q4⟩ := int_ne (show ((c.toNat : Nat) : Int) ≠ 92 by omega)
            have hn : Hid (cutW l b = O ++ cutM b (l.drop (k + 1)) true ((l.take (k + 1)).drop f)) := by rw [Hid, hcm.out, HD.out, cutM_plain h34 (by simp [h92]) (by simp), HPS.out]
            clear hcm
            by_cases hb : c = b
            · obtain ⟨q5, q6⟩ := nat_eq (congrArg UInt8.toNat hb)
              have hbn := congrArg UInt8.toNat hb
              clear hb
              go_wp2_with fail
              go_roundg (l.length + 1 - (k + 1))
              case measure => omega
              case rel => exact ⟨k + 1, f, O, true, by go_num, by omega, rfl, rfl, hfl, by omega, rfl, HO.out, HK.out, by omega, hn⟩
            · obtain ⟨q5, q6⟩ := nat_ne (a := c.toNat) (b := b.toNat) (fun h => hb (UInt8.toNat_inj.1 h))
              clear hb
              go_wp2_with fail
              go_roundg (l.length + 1 - (k + 1))
              case measure => omega
              case rel => exact ⟨k + 1, f, O, true, by go_num, by omega, rfl, rfl, hfl, by omega, rfl, HO.out, HK.out, by omega, hn⟩
        | false =>
          have H92 : Hid (∃ z : Bool, (((c.toNat : Nat) : Int) == 92) = z) := ⟨_, rfl⟩
          obtain ⟨z, hz⟩ := H92.out
          by_cases hb : c = b
          · have hn : Hid (cutW l b = (O ++ [trimW ((l.take k).drop f)]) ++ cutM b (l.drop (k + 1)) false ((l.take (k + 1)).drop (k + 1))) := by
              rw [Hid, hcm.out, HD.out, cutM_by h34 hb, show (l.take (k + 1)).drop (k + 1) = [] from List.drop_eq_nil_of_le (by simp; omega)]; simp
            obtain ⟨q5, q6⟩ := nat_eq (congrArg UInt8.toNat hb)
            have hx := S_extract l f k
            have hpl : ((l.take k).drop f).length ≤ 1048576 := by simp; omega
            generalize (l.take k).drop f = p at hx hpl hn
            clear hcm hb HPS
            go_wp2_with (first
              | (go_at_call 26; go_must (refine (HT.out p (by exact hpl) _).mono ?_); rintro e w1 ⟨rfl, hk1⟩)
              | (at_builtin; go_must (refine wpList_append2 rfl _ _ 22 rfl is (.string ⟨#[]⟩) 16 Tryd.underlying22 Hs rfl (by decide) strC_length strC_one w w1 rfl (HK.out.trans hk1) (by rfl) (HO.out.keep0 hk1) (trimW p) _ (strC_of rfl) _ rfl (by have := HM.out; omega) (by omega) ?_); intro v' w2 hown' hk' hside)
              | fail)
            all_goals (
              go_roundg (l.length + 1 - (k + 1))
              case measure => omega
              case rel => exact ⟨k + 1, k + 1, O ++ [trimW p], false, by go_num, by omega, rfl, by go_num, by omega, Nat.le_refl _, rfl, hown', hk', by simp; omega, hn⟩)
          · have hn : Hid (cutW l b = O ++ cutM b (l.drop (k + 1)) false ((l.take (k + 1)).drop f)) := by rw [Hid, hcm.out, HD.out, cutM_plain h34 (by simp) (by simp [hb]), HPS.out]
            obtain ⟨q5, q6⟩ := nat_ne (a := c.toNat) (b := b.toNat) (fun h => hb (UInt8.toNat_inj.1 h))
            clear hcm
            cases z with
            | true =>
              have h92 : ((c.toNat : Nat) : Int) = 92 := by simpa using hz
              have hbn : c.toNat ≠ b.toNat := fun h => hb (UInt8.toNat_inj.1 h)
              obtain ⟨q7, q8⟩ := int_ne (show (92 : Int) ≠ ((b.toNat : Nat) : Int) by omega)
              clear hb
              go_wp2_with fail
              go_roundg (l.length + 1 - (k + 1))
              case measure => omega
              case rel => exact ⟨k + 1, f, O, false, by go_num, by omega, rfl, rfl, hfl, by omega, rfl, HO.out, HK.out, by omega, hn⟩
            | false =>
              clear hb
              go_wp2_with fail
              go_roundg (l.length + 1 - (k + 1))
              case measure => omega
              case rel => exact ⟨k + 1, f, O, false, by go_num, by omega, rfl, rfl, hfl, by omega, rfl, HO.out, HK.out, by omega, hn⟩
    · have hn : Hid (cutW l b = O ++ [trimW (l.drop f)]) := by
        rw [Hid, hcm.out, List.drop_eq_nil_of_le (by omega), List.take_of_length_le (by omega)]; rfl
      have hx : (S l).extract f l.length = S (l.drop f) := by rw [S_extract, List.take_of_length_le (Nat.le_refl _)]
      have hpl : (l.drop f).length ≤ 1048576 := by simp; omega
      generalize l.drop f = p at hx hpl hn
      clear hcm
      go_wp2_with (first
        | (go_at_call 26; go_must (refine (HT.out p (by exact hpl) _).mono ?_); rintro e w1 ⟨rfl, hk1⟩)
        | (at_builtin; go_must (refine wpList_append2 rfl _ _ 22 rfl is (.string ⟨#[]⟩) 16 Tryd.underlying22 Hs rfl (by decide) strC_length strC_one w w1 rfl (HK.out.trans hk1) (by rfl) (HO.out.keep0 hk1) (trimW p) _ (strC_of rfl) _ rfl (by have := HM.out; omega) (by omega) ?_); intro v' w2 hown' hk' hside)
        | fail)
      go_ret
      exact ⟨_, rfl, by rw [hn.out]; exact hown', hk'⟩
end Go.Proofs.YtpimfoohpfkciaaDoor

/- Layer 10: Get. No conditions but on lengths. -/
namespace Go.Proofs.YtpimfoohpfkciaaDoor
open Go.RowKit Go.Shelf

theorem Keep.load {w w' : World} (k : Keep [] w w') {a : Addr} {v : Value} (h : w.cell? a = some v) : w'.cell? a = some v :=
  (k.cell (World.block_lt_of_cell? w a h) (by simp)).trans h
def sameN (n : List UInt8) (f : Fld) : Bool := decide (lowW f.name = lowW n)
def getS (L : List Fld) (n : List UInt8) : List Fld := L.filter (sameN n)
def getV (L : List Fld) (n : List UInt8) : List UInt8 := match getS L n with | [] => [] | f :: _ => f.value
def getN (L : List Fld) (n : List UInt8) : Nat := (getS L n).length
theorem getN_le (L : List Fld) (n : List UInt8) : getN L n ≤ L.length := List.length_filter_le _ _
theorem getS_yes {L : List Fld} {n : List UInt8} {k : Nat} {x : Fld} (h : L[k]? = some x) (hs : lowW x.name = lowW n) : getS (L.take (k + 1)) n = getS (L.take k) n ++ [x] := by
  unfold getS
  rw [List.take_add_one, h, List.filter_append]
  simp [sameN, hs]
theorem getS_no {L : List Fld} {n : List UInt8} {k : Nat} {x : Fld} (h : L[k]? = some x) (hs : ¬ lowW x.name = lowW n) : getS (L.take (k + 1)) n = getS (L.take k) n := by
  unfold getS
  rw [List.take_add_one, h, List.filter_append]
  simp [sameN, hs]
theorem get_first {L : List Fld} {n : List UInt8} {k : Nat} {x : Fld} (h : L[k]? = some x) (hs : lowW x.name = lowW n) (h0 : getN (L.take k) n = 0) : getV (L.take (k + 1)) n = x.value ∧ getN (L.take (k + 1)) n = 1 := by
  have e : getS (L.take k) n = [] := List.eq_nil_of_length_eq_zero h0
  unfold getV getN
  rw [getS_yes h hs, e]
  simp
theorem get_more {L : List Fld} {n : List UInt8} {k : Nat} {x : Fld} (h : L[k]? = some x) (hs : lowW x.name = lowW n) (h0 : getN (L.take k) n ≠ 0) : getV (L.take (k + 1)) n = getV (L.take k) n ∧ getN (L.take (k + 1)) n = getN (L.take k) n + 1 := by
  unfold getV getN
  rw [getS_yes h hs]
  unfold getN at h0
  cases he : getS (L.take k) n with
  | nil => rw [he] at h0; simp at h0
  | cons a r => simp
theorem get_none {L : List Fld} {n : List UInt8} {k : Nat} {x : Fld} (h : L[k]? = some x) (hs : ¬ lowW x.name = lowW n) : getV (L.take (k + 1)) n = getV (L.take k) n ∧ getN (L.take (k + 1)) n = getN (L.take k) n := by
  unfold getV getN
  rw [getS_no h hs]
  exact ⟨rfl, rfl⟩
def GetOut (w : World) (L : List Fld) (n : List UInt8) (e : Ending) (w' : World) : Prop := e = .returned (.tuple #[.string (S (getV L n)), .int .i64 (getN L n)]) ∧ Keep [] w w'

set_option maxRecDepth 100000 in
set_option maxHeartbeats 1000000 in
theorem field_Get (va : Value) (L : List Fld) (n : List UInt8) (w : World) (ha : Sl Fld.cells 2 w va L) (hg : ∀ x ∈ L, x.name.length ≤ maxLen) (hn : n.length ≤ maxLen) :
    Calls Tryd.prog 13 #[va, .string (S n)] w (GetOut w L n) := by
  obtain ⟨aa, ca, rfl, hal⟩ := ha.shape
  have hal' : L.length ≤ 9223372036854775807 := hal
  have HA := Lib.hid ha
  have HG := Lib.hid hg
  have HN := Lib.hid hn
  have HL := Lib.hid (fun k => getN_le (L.take k) n)
  clear ha hg hn hal
  go_enter Tryd.func13, Tryd.ntmps13
  go_wp2_with fail
  go_loopg [4, 5, 10] L.length (fun g s c i wr => ∃ k : Nat, i = .int .i64 k ∧ k ≤ L.length ∧ g = L.length - k ∧ s = .string (S (getV (L.take k) n)) ∧ c = .int .i64 (getN (L.take k) n) ∧ Keep [] w wr)
  case atStart => exact ⟨0, rfl, Nat.zero_le _, by omega, rfl, rfl, Keep.refl [] w⟩
  case round =>
    obtain ⟨k, rfl, hk, hgk, rfl, rfl, hkr⟩ := hrel
    have hgl : getN (L.take k) n ≤ k := Nat.le_trans (HL.out k) (by simp; omega)
    by_cases hlt : k < L.length
    · obtain ⟨x, hx⟩ : ∃ x, L[k]? = some x := ⟨_, List.getElem?_eq_getElem hlt⟩
      obtain ⟨b1, o1, c1, e1, l1, m1, x1⟩ := HA.out.cell hx
      simp only [Value.slice.injEq] at e1
      obtain ⟨rfl, _, rfl⟩ := e1
      have a0 := x1 0 (by omega)
      have a1 := x1 1 (by omega)
      simp only [Fld.cells, List.getElem?_cons_zero, List.getElem?_cons_succ, Nat.add_zero] at a0 a1
      have A0 := Lib.hid a0
      have A1 := Lib.hid a1
      have HX := Lib.hid hx
      have HK := Lib.hid hkr
      have hb := HG.out x (List.mem_of_getElem? hx)
      have HB := Lib.hid hb
      clear hx x1 l1 m1 hb a0 a1 hkr
      have d0 := HK.out.load A0.out
      have hbA := Blk.newA wr #[.string (S x.name), .string (S x.value)] 44
      have HBA := Lib.hid hbA
      clear hbA
      have d2 := HK.out.load A1.out
      go_upto_region 4 with fail
      go_wp2_with fail
      refine (field_low x.name _ HB.out).mono ?_
      rintro e w1 ⟨rfl, hk1⟩
      go_wp2_with fail
      refine (field_low n _ HN.out).mono ?_
      rintro e w2 ⟨rfl, hk2⟩
      have HK2 := Lib.hid (((HK.out.alloc (.cells #[.string (S x.name), .string (S x.value)] 44)).trans hk1).trans hk2)
      have d1 := (hk1.trans hk2).load (HBA.out.get (k := 1) rfl)
      clear hk1 hk2 d0 d2
      by_cases hs : lowW x.name = lowW n
      · have h1 : ((S (lowW x.name)).toList == (S (lowW n)).toList) = true := by rw [hs]; simp
        have HS := Lib.hid hs
        clear hs
        by_cases h0 : getN (L.take k) n = 0
        · have hr := get_first HX.out HS.out h0
          have HR := Lib.hid hr
          clear hr
          go_wp2_with fail
          go_roundg (L.length - (k + 1))
          case measure => omega
          case rel => exact ⟨k + 1, by go_num, by omega, rfl, by rw [HR.out.1], by rw [HR.out.2]; simp, HK2.out⟩
        · have hr := get_more HX.out HS.out h0
          have HR := Lib.hid hr
          clear hr
          go_wp2_with fail
          go_roundg (L.length - (k + 1))
          case measure => omega
          case rel => exact ⟨k + 1, by go_num, by omega, rfl, by rw [HR.out.1], by rw [HR.out.2]; simp, HK2.out⟩
      · have h1 : ((S (lowW x.name)).toList == (S (lowW n)).toList) = false := by rw [S_toList, S_toList]; simpa using hs
        have HR := Lib.hid (get_none HX.out hs)
        clear hs
        go_wp2_with fail
        go_roundg (L.length - (k + 1))
        case measure => omega
        case rel => exact ⟨k + 1, by go_num, by omega, rfl, by rw [HR.out.1], by rw [HR.out.2], HK2.out⟩
    · have hke : L.take k = L := List.take_of_length_le (by omega)
      rw [hke]
      go_wp2_with fail
      go_ret2
      exact ⟨rfl, hkr⟩
end Go.Proofs.YtpimfoohpfkciaaDoor

/- Layer 10: Elements. No conditions but on lengths. -/
namespace Go.Proofs.YtpimfoohpfkciaaDoor
open Go.RowKit Go.Shelf

theorem Sep.of_base {α β : Type} {e1 : α → List Value} {e2 : β → List Value} {n1 n2 b1 b2 : Nat} {E1 E2 : TypeId} {w w' : World} {v u : Value} {L : List α} {M : List β} (h : Own e1 n1 b1 E1 w v L) (h2 : Own e2 n2 b2 E2 w' u M) (hb : w.heap.size ≤ b2) : Sep v u := fun g g1 g2 => by
  have := (h.lt g g1).2
  have := (h2.lt g g2).1
  omega
theorem cutM_length (b : UInt8) : ∀ (l : List UInt8) (q : Bool) (p : List UInt8), (cutM b l q p).length ≤ l.length + 1
  | [], _, _ => by simp [cutM]
  | [c], q, p => by
    rw [cutM.eq_def]; dsimp only
    split
    · have := cutM_length b [] (!q) (p ++ [c]); simp at this ⊢; omega
    · split
      · simp
      · split
        · have := cutM_length b [] q []; simp at this ⊢; omega
        · have := cutM_length b [] q (p ++ [c]); simp at this ⊢; omega
  | c :: d :: r, q, p => by
    rw [cutM.eq_def]; dsimp only
    split
    · have := cutM_length b (d :: r) (!q) (p ++ [c]); simp at this ⊢; omega
    · split
      · have := cutM_length b r q (p ++ [c, d]); simp at this ⊢; omega
      · split
        · have := cutM_length b (d :: r) q []; simp at this ⊢; omega
        · have := cutM_length b (d :: r) q (p ++ [c]); simp at this ⊢; omega
theorem cutW_length (l : List UInt8) (b : UInt8) : (cutW l b).length ≤ l.length + 1 := cutM_length b l _ _
def full (M : List (List UInt8)) : List (List UInt8) := M.filter (fun s => decide (s ≠ []))
def elsM (L : List Fld) (n : List UInt8) : List (List UInt8) := (getS L n).flatMap fun f => full (cutW f.value 44)
theorem els_yes {L : List Fld} {n : List UInt8} {k : Nat} {x : Fld} (h : L[k]? = some x) (hs : lowW x.name = lowW n) : elsM (L.take (k + 1)) n = elsM (L.take k) n ++ full (cutW x.value 44) := by
  unfold elsM
  rw [getS_yes h hs, List.flatMap_append]
  simp
theorem els_no {L : List Fld} {n : List UInt8} {k : Nat} {x : Fld} (h : L[k]? = some x) (hs : ¬ lowW x.name = lowW n) : elsM (L.take (k + 1)) n = elsM (L.take k) n := by
  unfold elsM
  rw [getS_no h hs]
theorem full_yes {M : List (List UInt8)} {j : Nat} {s : List UInt8} (h : M[j]? = some s) (hs : s ≠ []) : full (M.take (j + 1)) = full (M.take j) ++ [s] := by
  unfold full
  rw [List.take_add_one, h, List.filter_append]
  simp [hs]
theorem full_no {M : List (List UInt8)} {j : Nat} {s : List UInt8} (h : M[j]? = some s) (hs : s = []) : full (M.take (j + 1)) = full (M.take j) := by
  unfold full
  rw [List.take_add_one, h, List.filter_append]
  simp [hs]
theorem els_bound {a b m k : Nat} (h1 : a ≤ k * 1048577) (h2 : b ≤ m) (h3 : m ≤ 1048577) : a + b ≤ (k + 1) * 1048577 := by
  rw [Nat.add_mul, Nat.one_mul]
  exact Nat.add_le_add h1 (Nat.le_trans h2 h3)
theorem els_bound0 {a k : Nat} (h1 : a ≤ k * 1048577) : a ≤ (k + 1) * 1048577 := by
  rw [Nat.add_mul]
  exact Nat.le_add_right_of_le h1
theorem full_length (M : List (List UInt8)) : (full M).length ≤ M.length := List.length_filter_le _ _

end Go.Proofs.YtpimfoohpfkciaaDoor

/- Layer 10: the program's Elements. No conditions but on lengths. -/
namespace Go.Proofs.YtpimfoohpfkciaaDoor
open Go.RowKit Go.Shelf

set_option maxRecDepth 100000 in
set_option maxHeartbeats 2000000 in
theorem field_Elements (va : Value) (L : List Fld) (n : List UInt8) (w : World) (ha : Sl Fld.cells 2 w va L) (hg : ∀ x ∈ L, x.name.length ≤ 1048576 ∧ x.value.length ≤ 1048576) (hn : n.length ≤ 1048576) (hl : L.length ≤ 1024) :
    Calls Tryd.prog 45 #[va, .string (S n)] w (Texts w (elsM L n)) := by
  obtain ⟨aa, ca, rfl, _⟩ := ha.shape
  have HA := Lib.hid ha
  have HG := Lib.hid hg
  have HN := Lib.hid hn
  obtain ⟨is, Hs⟩ := strinfo'
  have HM := Lib.hid (show maxLen = 9223372036854775807 from rfl)
  clear ha hg hn
  go_enter Tryd.func45, Tryd.ntmps45
  go_wp2_with fail
  go_loopg [4, 11] L.length (fun g o i wr => ∃ k : Nat, i = .int .i64 k ∧ k ≤ L.length ∧ g = L.length - k ∧ Own strC 1 w.heap.size 9 wr o (elsM (L.take k) n) ∧ (elsM (L.take k) n).length ≤ k * 1048577 ∧ Keep [] w wr)
  case atStart => exact ⟨0, rfl, Nat.zero_le _, by omega, Own.nil strC 1 _ 9 w, Nat.zero_le _, Keep.refl [] w⟩
  case round =>
    obtain ⟨k, rfl, hk, hgk, ho, hol, hkr⟩ := hrel
    have HO := Lib.hid ho
    have HK := Lib.hid hkr
    clear ho hkr
    by_cases hlt : k < L.length
    · obtain ⟨x, hx⟩ : ∃ x, L[k]? = some x := ⟨_, List.getElem?_eq_getElem hlt⟩
      obtain ⟨b1, o1, c1, e1, l1, m1, x1⟩ := HA.out.cell hx
      simp only [Value.slice.injEq] at e1
      obtain ⟨rfl, _, rfl⟩ := e1
      have a0 := x1 0 (by omega)
      have a1 := x1 1 (by omega)
      simp only [Fld.cells, List.getElem?_cons_zero, List.getElem?_cons_succ, Nat.add_zero] at a0 a1
      have A0 := Lib.hid a0
      have A1 := Lib.hid a1
      have HX := Lib.hid hx
      have hb := HG.out x (List.mem_of_getElem? hx)
      have HB := Lib.hid hb
      clear hx x1 l1 m1 hb a0 a1
      have d0 := HK.out.load A0.out
      have hbA := Blk.newA wr #[.string (S x.name), .string (S x.value)] 44
      have HBA := Lib.hid hbA
      clear hbA
      have d2 := HK.out.load A1.out
      go_upto_region 4 with fail
      go_wp2_with fail
      refine (field_low x.name _ (show _ ≤ 9223372036854775807 by have := HB.out.1; omega)).mono ?_
      rintro e w1 ⟨rfl, hk1⟩
      go_wp2_with fail
      refine (field_low n _ (show _ ≤ 9223372036854775807 by have := HN.out; omega)).mono ?_
      rintro e w2 ⟨rfl, hk2⟩
      have HKA := (Keep.refl [] wr).alloc (.cells #[.string (S x.name), .string (S x.value)] 44)
      have HK2 := Lib.hid (((HK.out.trans HKA).trans hk1).trans hk2)
      have HKK := Lib.hid ((HKA.trans hk1).trans hk2)
      have d1 := (hk1.trans hk2).load (HBA.out.get (k := 1) rfl)
      clear hk1 hk2 d0 d2 HKA
      have HO2 := Lib.hid (HO.out.keep0 HKK.out)
      by_cases hs : lowW x.name = lowW n
      · have h1 : ((S (lowW x.name)).toList == (S (lowW n)).toList) = true := by rw [hs]; simp
        have HE := Lib.hid (els_yes HX.out hs)
        have HV := Lib.hid (Nat.le_trans (cutW_length x.value 44) (Nat.succ_le_succ HB.out.2))
        clear hs
        go_wp2_with fail
        refine (field_cut x.value 44 _ HB.out.2).mono ?_
        rintro e w3 ⟨vc, rfl, hc, hk3⟩
        have hsep := Sep.of_base HO2.out hc (Nat.le_refl _)
        have HO3 := HO2.out.keep0 hk3
        have HK3 := HK2.out.trans hk3
        have hc3 := hc.lower (base' := w.heap.size) HK2.out.size
        generalize hM : cutW x.value 44 = M at hc3 HE HV
        clear hc hk3 hM
        obtain ⟨ac, cc, rfl, hml⟩ := hc3.shape
        have hml' : M.length ≤ 9223372036854775807 := hml
        have H0 := Lib.hid (And.intro HO3 (And.intro hc3 (And.intro hsep HK3)))
        clear HO3 hc3 hsep HK3 hml
        go_wp2_with fail
        go_loopg [4, 25] M.length (fun g o2 j wz => ∃ m : Nat, j = .int .i64 m ∧ m ≤ M.length ∧ g = M.length - m ∧ Own strC 1 w.heap.size 9 wz o2 (elsM (L.take k) n ++ full (M.take m)) ∧
          Own strC 1 w.heap.size 9 wz (.slice ac M.length cc) M ∧ Sep o2 (.slice ac M.length cc) ∧ Keep [] w wz)
        case atStart => exact ⟨0, rfl, Nat.zero_le _, by omega, by simpa [full] using H0.out.1, H0.out.2.1, H0.out.2.2.1, H0.out.2.2.2⟩
        case round =>
          obtain ⟨m, rfl, hm, hgm, ho2, hc2, hsep2, hkz⟩ := hrel
          have HOz := Lib.hid ho2
          have HCz := Lib.hid hc2
          have HSz := Lib.hid hsep2
          have HKz := Lib.hid hkz
          clear ho2 hc2 hsep2 hkz
          by_cases hlm : m < M.length
          · obtain ⟨s, hs⟩ : ∃ s, M[m]? = some s := ⟨_, List.getElem?_eq_getElem hlm⟩
            obtain ⟨b2, o2, c2, e2, _, _, x2⟩ := (HCz.out.sl strC_length).cell hs
            simp only [Value.slice.injEq] at e2
            obtain ⟨rfl, _, rfl⟩ := e2
            have s0 := x2 0 (by omega)
            simp only [strC, List.getElem?_cons_zero, Nat.add_zero, Nat.mul_one] at s0
            have hte := S_toList s
            have HSS := Lib.hid hs
            clear x2 hs
            by_cases hse : s = []
            · have HF := Lib.hid (full_no HSS.out hse)
              subst hse
              have hq : (S []).toList = [] := S_toList []
              go_wp2_with fail
              go_roundg (M.length - (m + 1))
              case measure => omega
              case rel => exact ⟨m + 1, by go_num, by omega, rfl, by rw [HF.out]; exact HOz.out, HCz.out, HSz.out, HKz.out⟩
            · have HF := Lib.hid (full_yes HSS.out hse)
              have hie : s.isEmpty = false := by cases s <;> simp_all
              have hfl := full_length (M.take m)
              have hfl2 : (M.take m).length ≤ m := by simp; omega
              have hvv : M.length ≤ 1048577 := HV.out
              clear HV
              go_wp2_with (first
                | (at_builtin; go_must (refine wpList_append2 rfl _ _ 22 rfl is (.string ⟨#[]⟩) 16 Tryd.underlying22 Hs rfl (by decide) strC_length strC_one w wr rfl HKz.out (by rfl) HOz.out s _ (strC_of rfl) _ rfl (by have := HM.out; simp; omega) (by simp; omega) ?_); intro v' w4 hown' hk4 hside)
                | fail)
              have h5 := hside HCz.out HSz.out
              go_roundg (M.length - (m + 1))
              case measure => omega
              case rel => exact ⟨m + 1, by go_num, by omega, rfl, by rw [HF.out, ← List.append_assoc]; exact hown', h5.1, h5.2, hk4⟩
          · have hme : M.take m = M := List.take_of_length_le (by omega)
            have hfl := full_length M
            have hvv : M.length ≤ 1048577 := HV.out
            clear HV
            go_wp2_with fail
            go_roundg (L.length - (k + 1))
            case measure => omega
            case rel => exact ⟨k + 1, by go_num, by omega, rfl, by rw [HE.out, ← hme]; exact HOz.out, by rw [HE.out, List.length_append]; exact els_bound hol hfl hvv, HKz.out⟩
      · have h1 : ((S (lowW x.name)).toList == (S (lowW n)).toList) = false := by rw [S_toList, S_toList]; simpa using hs
        have HE := Lib.hid (els_no HX.out hs)
        clear hs
        go_wp2_with fail
        go_roundg (L.length - (k + 1))
        case measure => omega
        case rel => exact ⟨k + 1, by go_num, by omega, rfl, by rw [HE.out]; exact HO2.out, by rw [HE.out]; exact els_bound0 hol, HK2.out⟩
    · have hke : L.take k = L := List.take_of_length_le (by omega)
      rw [hke] at HO
      go_wp2_with fail
      go_ret
      exact ⟨_, rfl, HO.out, HK.out⟩
end Go.Proofs.YtpimfoohpfkciaaDoor

/- Layer 10: the head: next, begin. No conditions but on lengths. -/
namespace Go.Proofs.YtpimfoohpfkciaaDoor
open Go.RowKit Go.Shelf

def seenM (s : List UInt8) (at' : Nat) : List UInt8 := (s.take 4096).drop at'
def lineM (l : List UInt8) : Option (List UInt8) :=
  if Lib.hasSuffix l [13, 10] = true ∧ Lib.indexByte (Lib.trimSuffix l [13, 10]) 13 < 0 then some (Lib.trimSuffix l [13, 10]) else none
/-- the next line, where the text stands behind it, the error -/
def nextM (s : List UInt8) (at' : Nat) : List UInt8 × Nat × Int :=
  if Lib.indexByte (seenM s at') 10 < 0 then ([], at', if 4096 ≤ s.length then 4 else 17)
  else match lineM ((seenM s at').take ((Lib.indexByte (seenM s at') 10).toNat + 1)) with
    | none => ([], at' + ((Lib.indexByte (seenM s at') 10).toNat + 1), 3)
    | some l => (l, at' + ((Lib.indexByte (seenM s at') 10).toNat + 1), 0)

/-- the head as it is read: W: the world before the call; b: its block -/
def Hd (W w : World) (b : Nat) (st : List UInt8) (F : List Fld) (at' : Nat) : Prop :=
  ∃ fv, Blk w b 78 [.string (S st), fv, .int .i64 at'] ∧ Own Fld.cells 2 W.heap.size 44 w fv F ∧ (∀ g, fv.ownBlock = some g → g ≠ b) ∧ W.heap.size ≤ b ∧ Keep [] W w
theorem Hd.step {W w w' : World} {b : Nat} {st : List UInt8} {F : List Fld} {at' : Nat} (h : Hd W w b st F at') (k : Keep [] w w') : Hd W w' b st F at' := by
  obtain ⟨fv, h1, h2, h3, h4, h5⟩ := h
  exact ⟨fv, k.blk h1 (by simp), h2.keep0 k, h3, h4, h5.trans k⟩

set_option maxRecDepth 100000 in
set_option maxHeartbeats 1000000 in
theorem head_next (W : World) (s : List UInt8) (b : Nat) (st : List UInt8) (F : List Fld) (at' : Nat) (w : World) (h : Hd W w b st F at') (hs : s.length ≤ 1048576) (ha : at' ≤ s.length) (ha2 : at' ≤ 4096) :
    Calls Tryd.prog 59 #[.pointer (some ⟨b, 0, none⟩), .string (S s)] w fun e w' => e = .returned (.tuple #[.string (S (nextM s at').1), .int .i64 (nextM s at').2.2]) ∧ Hd W w' b st F (nextM s at').2.1 := by
  obtain ⟨fv, h1, h2, h3, h4, h5⟩ := h
  have c0 := h1.get (k := 2) rfl
  have f0 := h1.frozen
  have hlt := h1.lt
  have H := Lib.hid (And.intro h1 (And.intro h2 (And.intro h3 (And.intro h4 h5))))
  clear h1 h2 h3 h4 h5
  have hsz := S_size s
  have hx : (S s).extract at' (min ((s.length : Nat) : Int) 4096).toNat = S (seenM s at') := by
    have e : (min ((s.length : Nat) : Int) 4096).toNat = min s.length 4096 := by omega
    rw [e, S_extract]
    unfold seenM
    congr 2
    rw [Nat.min_comm, List.take_eq_take_iff]
    omega
  have hix := Tryd.strings_IndexByte (S (seenM s at')) 10
  have ec : ((10 : Int)).toNat.toUInt8 = 10 := rfl
  rw [ec, S_list] at hix
  have hseen : (seenM s at').length + at' ≤ 4096 ∧ (seenM s at').length + at' ≤ s.length := by unfold seenM; simp; omega
  obtain ⟨hq1, hq2⟩ := hseen
  have hN : nextM s at' = (if Lib.indexByte (seenM s at') 10 < 0 then ([], at', if 4096 ≤ s.length then 4 else 17)
    else match lineM ((seenM s at').take ((Lib.indexByte (seenM s at') 10).toNat + 1)) with
      | none => ([], at' + ((Lib.indexByte (seenM s at') 10).toNat + 1), 3)
      | some l => (l, at' + ((Lib.indexByte (seenM s at') 10).toNat + 1), 0) : List UInt8 × Nat × Int) := rfl
  generalize seenM s at' = l at hx hix hq1 hq2 hN
  have hsl := S_size l
  have hge := Lib.indexByte_ge l 10
  by_cases hi : Lib.indexByte l 10 = -1
  · rw [hi] at hix hN
    rw [if_pos (by omega)] at hN
    by_cases hbig : 4096 ≤ s.length
    · rw [if_pos hbig] at hN
      have HN := Lib.hid hN
      clear hN hi hge
      go_enter Tryd.func59, Tryd.ntmps59
      go_wp2_with fail
      refine (hix _).mono ?_
      rintro e w1 ⟨rfl, rfl⟩
      go_wp2_with fail
      go_ret2
      rw [HN.out]
      exact ⟨rfl, fv, H.out⟩
    · rw [if_neg hbig] at hN
      have HN := Lib.hid hN
      clear hN hi hge
      go_enter Tryd.func59, Tryd.ntmps59
      go_wp2_with fail
      refine (hix _).mono ?_
      rintro e w1 ⟨rfl, rfl⟩
      go_wp2_with fail
      go_ret2
      rw [HN.out]
      exact ⟨rfl, fv, H.out⟩
  · obtain ⟨o, ho⟩ : ∃ o : Nat, Lib.indexByte l 10 = o := ⟨(Lib.indexByte l 10).toNat, by omega⟩
    have hol := (List.getElem?_eq_some_iff.1 (Lib.indexByte_some ho).1).1
    rw [ho] at hix hN
    rw [if_neg (by omega), Int.toNat_natCast] at hN
    have hx3 : (S l).extract 0 (o + 1) = S (l.take (o + 1)) := by rw [S_extract]; simp
    have hcs := fun w1 => Tryd.strings_CutSuffix (S (l.take (o + 1))) ⟨#[13, 10]⟩ w1 (by rw [S_size]; simp; omega)
    rw [S_list] at hcs
    change ∀ w1, Calls Tryd.prog 75 #[.string (S (l.take (o + 1))), .string ⟨#[13, 10]⟩] w1 fun e w' => e = .returned (.tuple #[.string (S (Lib.trimSuffix (l.take (o + 1)) [13, 10])), .bool (Lib.hasSuffix (l.take (o + 1)) [13, 10])]) ∧ w' = w1 at hcs
    have hL : lineM (l.take (o + 1)) = if Lib.hasSuffix (l.take (o + 1)) [13, 10] = true ∧ Lib.indexByte (Lib.trimSuffix (l.take (o + 1)) [13, 10]) 13 < 0 then some (Lib.trimSuffix (l.take (o + 1)) [13, 10]) else none := rfl
    have hi2 := Tryd.strings_IndexByte (S (Lib.trimSuffix (l.take (o + 1)) [13, 10])) 13
    have ec2 : ((13 : Int)).toNat.toUInt8 = 13 := rfl
    rw [ec2, S_list] at hi2
    generalize Lib.trimSuffix (l.take (o + 1)) [13, 10] = tl at hcs hi2 hL
    have hge2 := Lib.indexByte_ge tl 13
    have hset : ∀ w1 : World, w1 = w → Hd W (w1.setCell ⟨b, 2, none⟩ (.int .i64 (((at' + (o + 1) : Nat) : Int)))) b st F (at' + (o + 1)) := by
      rintro w1 rfl
      obtain ⟨h1, h2, h3, h4, h5⟩ := H.out
      have hk : Keep [b] w1 (w1.setCell ⟨b, 2, none⟩ (.int .i64 (((at' + (o + 1) : Nat) : Int)))) := (Keep.refl [b] w1).setCell _ _ (by simp)
      exact ⟨fv, h1.set 2 _, h2.keep hk (fun g hg => by simpa using h3 g hg), h3, h4, h5.setCell _ _ (by simp; omega)⟩
    have HS := Lib.hid hset
    clear hset hi hge ho
    cases hsf : Lib.hasSuffix (l.take (o + 1)) [13, 10] with
    | false =>
      rw [hsf, if_neg (by simp)] at hL
      rw [hL] at hN
      rw [hsf] at hcs
      have HN := Lib.hid hN
      clear hN hL hi2 hge2 hsf
      go_enter Tryd.func59, Tryd.ntmps59
      go_wp2_with fail
      refine (hix _).mono ?_
      rintro e w1 ⟨rfl, rfl⟩
      go_wp2_with fail
      refine (hcs _).mono ?_
      rintro e w2 ⟨rfl, rfl⟩
      go_wp2_with fail
      go_ret2
      rw [HN.out]
      exact ⟨rfl, HS.out _ rfl⟩
    | true =>
      rw [hsf] at hL hcs
      by_cases h13 : Lib.indexByte tl 13 < 0
      · rw [if_pos ⟨rfl, h13⟩] at hL
        rw [hL] at hN
        have HN := Lib.hid hN
        have hm1 : Lib.indexByte tl 13 = -1 := by omega
        rw [hm1] at hi2
        clear hN hL hge2 hsf h13 hm1
        go_enter Tryd.func59, Tryd.ntmps59
        go_wp2_with fail
        refine (hix _).mono ?_
        rintro e w1 ⟨rfl, rfl⟩
        go_wp2_with fail
        refine (hcs _).mono ?_
        rintro e w2 ⟨rfl, rfl⟩
        go_wp2_with fail
        refine (hi2 _).mono ?_
        rintro e w3 ⟨rfl, rfl⟩
        go_wp2_with fail
        go_ret2
        rw [HN.out]
        exact ⟨rfl, HS.out _ rfl⟩
      · rw [if_neg (fun h => h13 h.2)] at hL
        rw [hL] at hN
        have HN := Lib.hid hN
        obtain ⟨o2, ho2⟩ : ∃ o : Nat, Lib.indexByte tl 13 = o := ⟨(Lib.indexByte tl 13).toNat, by omega⟩
        rw [ho2] at hi2
        clear hN hL hge2 hsf h13 ho2
        go_enter Tryd.func59, Tryd.ntmps59
        go_wp2_with fail
        refine (hix _).mono ?_
        rintro e w1 ⟨rfl, rfl⟩
        go_wp2_with fail
        refine (hcs _).mono ?_
        rintro e w2 ⟨rfl, rfl⟩
        go_wp2_with fail
        refine (hi2 _).mono ?_
        rintro e w3 ⟨rfl, rfl⟩
        go_wp2_with fail
        go_ret2
        rw [HN.out]
        exact ⟨rfl, HS.out _ rfl⟩
end Go.Proofs.YtpimfoohpfkciaaDoor

/- Layer 10: the head: begin, add. No conditions but on lengths. -/
namespace Go.Proofs.YtpimfoohpfkciaaDoor
open Go.RowKit Go.Shelf

/-- the append as a step of a region that draws -/
theorem step_append3 {P : Program} {ops : Array Oper} {o : Oper} {a : Act} {w : World} {K : Act → World → Prop} {Q : Exit → Act → World → Prop} {X : Prop} (hgd : o.guard = none) (s x : Operand) (t : TypeId)
    (ho : o.op = .call { callee := .builtin .append, args := #[s, x], argTypes := #[t, t] })
    {α : Type} {enc : α → List Value} {n base : Nat} {E : TypeId} {L : List α} {v : Value}
    (i : TypeInfo) (z : Value) (bytes : Nat) (ht : P.underlying t = some (.slice E)) (HI : Hid (P.info? E = some i ∧ i.zero = some z ∧ i.size = n ∧ i.bytes = bytes)) (hzs : z.cells.size = n) (hn0 : 0 < n)
    (hn : ∀ x, (enc x).length = n) (h1 : ∀ x, ∀ u ∈ enc x, u.oneCell' = true)
    (hs : a.eval s = v) (hown : Own enc n base E w v L) (y : α) (B c : Nat) (hx : a.eval x = .slice (some ⟨B, 0, none⟩) 1 c) (hB : Blk w B E (enc y))
    (h63 : L.length + 1 ≤ maxLen) (hbytes : (L.length + 1) * bytes ≤ 140737488355328) (hbase : base ≤ w.heap.size)
    (h : ∀ g cap w', Own enc n base E w' (.slice (some ⟨g, 0, none⟩) (L.length + 1) cap) (L ++ [y]) → w.grownBy w' v.ownBlock → (v.ownBlock = some g ∨ g = w.heap.size) → K (a.put o.dst (.slice (some ⟨g, 0, none⟩) (L.length + 1) cap)) w') :
    if Region.wanted o (yielded ops a.tmps) = true then Oper.wp P o a w K Q else X := by
  refine step_append_lies _ hgd s x t ho base E i z n bytes ht HI.out.1 HI.out.2.1 HI.out.2.2.1 HI.out.2.2.2 hzs hn0 v L.length (rows enc L) hs hown ⟨B, 0, none⟩ 1 c (enc y) hx (by rw [hn]; omega) ?_ (h1 y) (by omega) h63 hbytes hbase _ rfl ?_
  · intro j u hj
    have : (⟨B, 0, none⟩ : Addr).add j = ⟨B, j, none⟩ := by unfold Addr.add; split <;> simp_all
    rw [this, hB.cell j]
    exact hj
  · intro g cap w' hown' hg hat _
    refine h g cap w' ?_ hg hat
    have : rows enc (L ++ [y]) = rows enc L ++ enc y := by simp [rows]
    unfold Own
    rw [this, List.length_append]
    exact hown'

def beginE (l : List UInt8) : Int := if l = [] then 3 else if 1024 < l.length then 4 else 0
set_option maxRecDepth 100000 in
set_option maxHeartbeats 1000000 in
theorem head_begin (W : World) (l : List UInt8) (b : Nat) (st : List UInt8) (F : List Fld) (at' : Nat) (w : World) (h : Hd W w b st F at') (hs : l.length ≤ 1048576) :
    Calls Tryd.prog 60 #[.pointer (some ⟨b, 0, none⟩), .string (S l)] w fun e w' => e = .returned (.int .i64 (beginE l)) ∧ Hd W w' b (if beginE l = 0 then l else st) F at' := by
  have hsz := S_size l
  have hte := S_toList l
  have H := Lib.hid h
  obtain ⟨fv, h1, h2, h3, h4, h5⟩ := h
  have c0 := h1.get (k := 0) rfl
  have f0 := h1.frozen
  have hlt := h1.lt
  have hset : Hd W (w.setCell ⟨b, 0, none⟩ (.string (S l))) b l F at' := by
    have hk : Keep [b] w (w.setCell ⟨b, 0, none⟩ (.string (S l))) := (Keep.refl [b] w).setCell _ _ (by simp)
    exact ⟨fv, h1.set 0 _, h2.keep hk (fun g hg => by simpa using h3 g hg), h3, h4, h5.setCell _ _ (by simp; omega)⟩
  have HS := Lib.hid hset
  clear h1 h2 h3 h4 h5 hset
  by_cases he : l = []
  · have hb : beginE l = 3 := if_pos he
    have hee : l.isEmpty = true := by simp [he]
    rw [hb]
    clear he
    go_enter Tryd.func60, Tryd.ntmps60
    go_wp2_with fail
    go_ret
    exact ⟨rfl, H.out⟩
  · have hee : l.isEmpty = false := by cases l <;> simp_all
    by_cases hl : 1024 < l.length
    · have hb : beginE l = 4 := by unfold beginE; rw [if_neg he, if_pos hl]
      rw [hb]
      clear he
      go_enter Tryd.func60, Tryd.ntmps60
      go_wp2_with fail
      go_ret
      exact ⟨rfl, H.out⟩
    · have hb : beginE l = 0 := by unfold beginE; rw [if_neg he, if_neg hl]
      rw [hb]
      clear he
      go_enter Tryd.func60, Tryd.ntmps60
      go_wp2_with fail
      go_ret
      exact ⟨rfl, HS.out⟩

theorem fldinfo : (Tryd.prog.info? 44).map (fun i => (i.zero, i.size, i.bytes)) = some (some (.agg #[.string ⟨#[]⟩, .string ⟨#[]⟩]), 2, 32) := by kernel_rfl
theorem fldinfo' : ∃ i0, Hid (Tryd.prog.info? 44 = some i0 ∧ i0.zero = some (.agg #[.string ⟨#[]⟩, .string ⟨#[]⟩]) ∧ i0.size = 2 ∧ i0.bytes = 32) := by
  obtain ⟨i0, hi, hz0, hz1, hz2⟩ := info_parts fldinfo
  exact ⟨i0, hi, hz0, hz1, hz2⟩
theorem Fld.one (f : Fld) : ∀ u ∈ f.cells, u.oneCell' = true := by simp [Fld.cells, Value.oneCell']

/-- the fields behind a line more, and the error -/
def addM (F : List Fld) (l : List UInt8) : List Fld × Int :=
  match parseF l with
  | none => (F, 3)
  | some f => if 32 ≤ F.length then (F, 4) else (F ++ [f], 0)
set_option maxRecDepth 100000 in
set_option maxHeartbeats 1000000 in
theorem head_add (W : World) (hm : ML W) (l : List UInt8) (b : Nat) (st : List UInt8) (F : List Fld) (at' : Nat) (w : World) (h : Hd W w b st F at') (hs : l.length ≤ 1048576) :
    Calls Tryd.prog 61 #[.pointer (some ⟨b, 0, none⟩), .string (S l)] w fun e w' => e = .returned (.int .i64 (addM F l).2) ∧ Hd W w' b st (addM F l).1 at' := by
  have hP := field_Parse l w (hm.keep h.choose_spec.2.2.2.2 (by simp)) (by omega)
  have hA : addM F l = (match parseF l with | none => (F, 3) | some f => if 32 ≤ F.length then (F, 4) else (F ++ [f], 0)) := rfl
  obtain ⟨is, Hs⟩ := fldinfo'
  cases hp : parseF l with
  | none =>
    have e1 : parseV l = ⟨[], []⟩ := by unfold parseV; rw [hp]; rfl
    have e2 : parseE l = 3 := by unfold parseE; rw [hp]; rfl
    rw [e1, e2] at hP
    rw [hp] at hA
    change Calls _ _ _ _ (fun e w' => e = .returned (.tuple #[.agg #[.string (S []), .string (S [])], .int .i64 3]) ∧ Keep [] w w') at hP
    have H := Lib.hid h
    have HA := Lib.hid hA
    clear h hA hp e1 e2
    go_enter Tryd.func61, Tryd.ntmps61
    go_wp2_with fail
    refine hP.mono ?_
    rintro e w1 ⟨rfl, hk1⟩
    have H1 := Lib.hid ((H.out.step hk1).step ((Keep.refl [] w1).alloc (.cells #[.string (S []), .string (S [])] 44)))
    clear hk1
    go_wp2_with fail
    go_ret
    rw [HA.out]
    exact ⟨rfl, H1.out⟩
  | some f =>
    have e1 : parseV l = f := by unfold parseV; rw [hp]; rfl
    have e2 : parseE l = 0 := by unfold parseE; rw [hp]; rfl
    rw [e1, e2] at hP
    rw [hp] at hA
    change Calls _ _ _ _ (fun e w' => e = .returned (.tuple #[.agg #[.string (S f.name), .string (S f.value)], .int .i64 0]) ∧ Keep [] w w') at hP
    have H := Lib.hid h
    clear h hp e1 e2
    by_cases h32 : 32 ≤ F.length
    · dsimp only at hA
      rw [if_pos h32] at hA
      have HA := Lib.hid hA
      clear hA
      go_enter Tryd.func61, Tryd.ntmps61
      go_wp2_with fail
      refine hP.mono ?_
      rintro e w1 ⟨rfl, hk1⟩
      have H1 := Lib.hid ((H.out.step hk1).step ((Keep.refl [] w1).alloc (.cells #[.string (S f.name), .string (S f.value)] 44)))
      obtain ⟨fv, h1, h2, h3, h4, h5⟩ := H1.out
      obtain ⟨fa, fc, rfl, hml⟩ := h2.shape
      have hml' : F.length ≤ 9223372036854775807 := hml
      have c1 := h1.get (k := 1) rfl
      clear hk1 h1 h2 h3 h4 h5 hml
      go_wp2_with fail
      go_ret
      rw [HA.out]
      exact ⟨rfl, H1.out⟩
    · dsimp only at hA
      rw [if_neg h32] at hA
      have HA := Lib.hid hA
      clear hA
      go_enter Tryd.func61, Tryd.ntmps61
      go_wp2_with fail
      refine hP.mono ?_
      rintro e w1 ⟨rfl, hk1⟩
      have H1 := Lib.hid ((H.out.step hk1).step ((Keep.refl [] w1).alloc (.cells #[.string (S f.name), .string (S f.value)] 44)))
      have hbA := Blk.newA w1 #[.string (S f.name), .string (S f.value)] 44
      generalize hwa : w1.alloc (.cells #[.string (S f.name), .string (S f.value)] 44) = wa at H1 hbA
      obtain ⟨fv, h1, h2, h3, h4, h5⟩ := H1.out
      obtain ⟨fa, fc, rfl, hml⟩ := h2.shape
      have hml' : F.length ≤ 9223372036854775807 := hml
      have c1 := h1.get (k := 1) rfl
      have f1 := h1.frozen
      have hlt := h1.lt
      have d0 := hbA.get (k := 0) rfl
      have d1 := hbA.get (k := 1) rfl
      go_upto_region 6 with fail
      have hoA := (h2.of_heap (w' := wa.drew) rfl).alloc (.cells #[.string (S f.name), .string (S f.value)] 44)
      have hbB := Blk.newA wa.drew #[.string (S f.name), .string (S f.value)] 44
      have hbb := (h1.drew).alloc (.cells #[.string (S f.name), .string (S f.value)] 44)
      have hkB := (h5.drew).alloc (.cells #[.string (S f.name), .string (S f.value)] 44)
      have HOA := Lib.hid hoA
      have HBB := Lib.hid hbB
      have Hbb := Lib.hid hbb
      have HKB := Lib.hid hkB
      have HM := Lib.hid (show maxLen = 9223372036854775807 from rfl)
      have H3 := Lib.hid h3
      have hWb := h4
      clear hoA hbB hbb hkB h1 h2 h3 h5 hml hk1 hwa H1 hbA
      go_cut [] (fun wx => Hd W wx b st (F ++ [f]) at')
      case first =>
        go_region_law (
          refine step_append3 rfl (.tmp 27) (.tmp 29) 35 rfl is (.agg #[.string ⟨#[]⟩, .string ⟨#[]⟩]) 32 Tryd.underlying35 Hs rfl (by decide) Fld.cells_length Fld.one (by simp [Act.eval]) HOA.out f wa.heap.size 1 (by simp [Act.eval]) HBB.out (by have := HM.out; omega) (by omega) HKB.out.size ?_
          intro g cap w2 hown hgrow hat
          have hb2 : Blk w2 b 78 [.string (S st), .slice fa F.length fc, .int .i64 at'] := (hgrow.block b Hbb.out.lt (fun e => H3.out b e.symm rfl)).trans Hbb.out
          have e1 := hb2.get (k := 1) rfl
          have e2 := hb2.frozen
          have e3 := hb2.lt)
        all_goals (
          go_wp2_with fail
          go_meet
          have hk2 : Keep [] W w2 := HKB.out.grown hgrow (fun k hk1 hk2 => absurd (HOA.out.lt k hk1).1 (by omega))
          have hgb : g ≠ b := by
            rcases hat with h | h
            · exact H3.out g h
            · intro e
              have h' : g = wa.heap.size + 1 := h.trans (by simp)
              have : b < wa.heap.size := hlt
              omega
          have hks : Keep [b] w2 (w2.setCell ⟨b, 1, none⟩ (.slice (some ⟨g, 0, none⟩) (F.length + 1) cap)) := (Keep.refl [b] w2).setCell _ _ (by simp)
          exact ⟨.slice (some ⟨g, 0, none⟩) (F.length + 1) cap, hb2.set 1 _, hown.keep hks (fun k hk => by simp [Value.ownBlock] at hk; subst hk; simpa using hgb), fun k hk => by simp [Value.ownBlock] at hk; subst hk; exact hgb, hWb, hk2.setCell _ _ (by simp; omega)⟩)
      case rest =>
        have HC := Lib.hid hcut
        clear hcut
        go_wp2_with fail
        go_ret
        rw [HA.out]
        exact ⟨rfl, HC.out⟩
end Go.Proofs.YtpimfoohpfkciaaDoor
