/- Parts of the proof of StockReplays, in order. No conditions but those that each theorem states. -/
import Derived.Test.YtkghgaopcgcheaaGreatDoorYStockReplays0
import Derived.Test.YtkghgaopcgcheaaGreatDoorProg
import Derived.WalkKit
import Derived.WalkSpells
import Derived.WalkLawsBesides
import Derived.Lib.Hide
import Derived.Deep.QuietTactic
import Derived.BigQuiet
import Derived.Lib.Strings
import Derived.Lib.IndexLaws
import Derived.Lib.IndexMore
import Derived.Lib.SlTrimSet
import Derived.Lib.ConvBytes
import Derived.Shelf.Strings.Builder1
import Derived.Shelf.Strings.Trim
import Derived.Shelf.Small.Utf8
import Derived.Shelf.Small.Bits
import Derived.Shelf.Small.Strs
import Derived.Shelf.Small.Wraps
import Derived.Shelf.Strings.BuilderF
import Derived.Shelf.Strings.BuilderK
import Derived.Shelf.Strconv.Itoa0
import Derived.Shelf.Strconv.Itoa1
import Derived.Shelf.LaysM
import Derived.Shelf.Strconv.Itoa2
import Derived.Shelf.Strconv.Itoa3
import Derived.Shelf.Strings.Search1
import Derived.Shelf.Strings.Search2
import Derived.Shelf.Strings.Search3
import Derived.Shelf.Strings.Shaped
import Derived.Shelf.Sort.Plain
import Derived.Shelf.Strings.Prefix
import Derived.Shelf.Strings.Runes
import Derived.Shelf.Strings.AsciiSet
import Derived.Shelf.Unicode.DecodeSlow
import Derived.Shelf.Strings.BuilderCap
import Derived.Shelf.Slices.In.SortNone
import Derived.Shelf.Strings.SlTrimAscii
import Derived.ProofKit
import Derived.OpenShut
import Derived.ShutString
import Derived.ChangeOld
import Derived.Deep.Slices
import Derived.Deep.Strs
import Derived.Maps.AppendAt
import Derived.Deep.LoopGhost
import Derived.Deep.RegionHeld3
import Derived.Deep.Cut
import Derived.Deep.DeepCutAuto
import Derived.Deep.CutRange
import Derived.Deep.CutBlock
import Derived.Lib.IndexAny
set_option maxRecDepth 100000
set_option maxHeartbeats 16000000
set_option linter.unusedSimpArgs false
set_option linter.unusedVariables false
namespace Go.Proofs.YtkghgaopcgcheaaGreatDoor
open Go.RowKit
def Blk (w : World) (b : Nat) (T : TypeId) (xs : List Value) : Prop := w.heap[b]? = some (.cells xs.toArray T (0, 0))
theorem Blk.lt {w : World} {b : Nat} {T : TypeId} {xs : List Value} (h : Blk w b T xs) : b < w.heap.size := lt_of_block h
theorem Blk.cell {w : World} {b : Nat} {T : TypeId} {xs : List Value} (h : Blk w b T xs) (k : Nat) : w.cell? ⟨b, k, none⟩ = xs[k]? := by
  have h' : w.heap[b]? = some (.cells xs.toArray T (0, 0)) := h; rw [cell_of_row w b k _ _ _ h']; simp
theorem Blk.frozen {w : World} {b : Nat} {T : TypeId} {xs : List Value} (h : Blk w b T xs) (k : Nat) : w.frozen? ⟨b, k, none⟩ = false := frozen_of_row w b k _ _ h
theorem Blk.get {w : World} {b : Nat} {T : TypeId} {xs : List Value} (h : Blk w b T xs) {k : Nat} {v : Value} (hv : xs[k]? = some v) : w.cell? ⟨b, k, none⟩ = some v := (h.cell k).trans hv
theorem Blk.set {w : World} {b : Nat} {T : TypeId} {xs : List Value} (h : Blk w b T xs) (k : Nat) (v : Value) : Blk (w.setCell ⟨b, k, none⟩ v) b T (xs.set k v) := by
  have h' := heap_setCell_same w b k xs.toArray T v h; unfold Blk; rw [h']; simp
theorem Blk.setOther {w : World} {b : Nat} {T : TypeId} {xs : List Value} (h : Blk w b T xs) {a : Addr} (hb : b ≠ a.block) (v : Value) : Blk (w.setCell a v) b T xs := by
  unfold Blk; rw [heap_setCell_other w a b v hb]; exact h
theorem Blk.alloc {w : World} {b : Nat} {T : TypeId} {xs : List Value} (h : Blk w b T xs) (o : Obj) : Blk (w.alloc o) b T xs := by
  unfold Blk; rw [Below.heap_alloc w o b h.lt]; exact h
theorem Blk.drew {w : World} {b : Nat} {T : TypeId} {xs : List Value} (h : Blk w b T xs) : Blk w.drew b T xs := h
theorem Blk.drewN {w : World} {b : Nat} {T : TypeId} {xs : List Value} (h : Blk w b T xs) (n : Nat) : Blk (w.drewN n) b T xs := h
theorem Blk.new (w : World) (xs : List Value) (T : TypeId) : Blk (w.alloc (.cells xs.toArray T)) w.heap.size T xs := heap_alloc_new w _
theorem Blk.newA (w : World) (xs : Array Value) (T : TypeId) : Blk (w.alloc (.cells xs T)) w.heap.size T xs.toList := by
  have h := heap_alloc_new w (.cells xs T); simpa [Blk] using h
structure Keep (S : List Nat) (w w' : World) : Prop where
  os : w'.os = w.os
  tape : w'.tape = w.tape
  output : w'.output = w.output
  size : w.heap.size ≤ w'.heap.size
  block : ∀ k, k < w.heap.size → k ∉ S → w'.heap[k]? = w.heap[k]?
theorem Keep.refl (S : List Nat) (w : World) : Keep S w w := ⟨rfl, rfl, rfl, Nat.le_refl _, fun _ _ _ => rfl⟩
theorem Keep.mono {S S' : List Nat} {w w' : World} (h : Keep S w w') (hs : ∀ k ∈ S, k < w.heap.size → k ∈ S') : Keep S' w w' :=
  ⟨h.os, h.tape, h.output, h.size, fun k hk hn => h.block k hk fun hm => hn (hs k hm hk)⟩
theorem Keep.trans {S : List Nat} {a b c : World} (h : Keep S a b) (k : Keep S b c) : Keep S a c :=
  ⟨k.os.trans h.os, k.tape.trans h.tape, k.output.trans h.output, Nat.le_trans h.size k.size,
    fun i hi hn => (k.block i (Nat.lt_of_lt_of_le hi h.size) hn).trans (h.block i hi hn)⟩
theorem Keep.trans' {S S' : List Nat} {a b c : World} (h : Keep S a b) (k : Keep S' b c) (hs : ∀ x ∈ S', x < a.heap.size → x ∈ S) : Keep S a c :=
  ⟨k.os.trans h.os, k.tape.trans h.tape, k.output.trans h.output, Nat.le_trans h.size k.size,
    fun i hi hn => (k.block i (Nat.lt_of_lt_of_le hi h.size) fun hm => hn (hs i hm hi)).trans (h.block i hi hn)⟩
theorem Keep.drew {S : List Nat} {a w : World} (h : Keep S a w) : Keep S a w.drew := ⟨h.os, h.tape, h.output, h.size, h.block⟩
theorem Keep.drewN {S : List Nat} {a w : World} (h : Keep S a w) (n : Nat) : Keep S a (w.drewN n) := ⟨h.os, h.tape, h.output, h.size, h.block⟩
theorem Keep.alloc {S : List Nat} {a w : World} (h : Keep S a w) (o : Obj) : Keep S a (w.alloc o) :=
  h.trans ⟨rfl, rfl, rfl, by simp, fun k hk _ => Below.heap_alloc _ _ _ hk⟩
theorem Keep.setCell {S : List Nat} {a w : World} (h : Keep S a w) (p : Addr) (u : Value) (hp : p.block < a.heap.size → p.block ∈ S) : Keep S a (w.setCell p u) :=
  h.trans' (S' := [p.block]) ⟨rfl, rfl, rfl, by simp, fun k _ hn => Below.heap_setCell _ _ _ _ (by simpa using hn)⟩ (by simpa using hp)
theorem Keep.grown {S : List Nat} {a w w' : World} {row : Option Nat} (h : Keep S a w) (hg : w.grownBy w' row) (hr : ∀ k, row = some k → k < a.heap.size → k ∈ S) : Keep S a w' :=
  ⟨hg.os.trans h.os, hg.tape.trans h.tape, hg.output.trans h.output, Nat.le_trans h.size hg.size,
    fun i hi hn => (hg.block i (Nat.lt_of_lt_of_le hi h.size) (fun e => hn (hr i e.symm hi))).trans (h.block i hi hn)⟩
theorem Keep.of_below {w w' : World} (h : Below w.heap.size w w') (S : List Nat) : Keep S w w' := ⟨h.os, h.tape, h.output, h.size, fun k hk _ => h.block k hk⟩
theorem Keep.below {S : List Nat} {w w' : World} (h : Keep S w w') (hs : ∀ k ∈ S, w.heap.size ≤ k) : Below w.heap.size w w' :=
  ⟨h.os, h.tape, h.output, h.size, fun k hk => h.block k hk fun hm => by have := hs k hm; omega⟩
theorem Keep.blk {S : List Nat} {w w' : World} (h : Keep S w w') {b : Nat} {T : TypeId} {xs : List Value} (hb : Blk w b T xs) (hn : b ∉ S) : Blk w' b T xs := by
  unfold Blk; rw [h.block b hb.lt hn]; exact hb
theorem Keep.heap {S : List Nat} {w w' : World} (h : Keep S w w') {b : Nat} {o : Obj} (hb : w.heap[b]? = some o) (hn : b ∉ S) : w'.heap[b]? = some o := by
  rw [h.block b (lt_of_block hb) hn]; exact hb
theorem Keep.cell {S : List Nat} {w w' : World} (h : Keep S w w') {p : Addr} (hp : p.block < w.heap.size) (hn : p.block ∉ S) : w'.cell? p = w.cell? p :=
  World.cell?_of_block (w := w) (h.block p.block hp hn)
def rows {α : Type} (enc : α → List Value) (L : List α) : List Value := L.flatMap enc
theorem rows_length {α : Type} {enc : α → List Value} {n : Nat} (hn : ∀ x, (enc x).length = n) (L : List α) : (rows enc L).length = n * L.length := by
  induction L with
  | nil => simp [rows]
  | cons x r ih =>
    simp only [rows, List.flatMap_cons, List.length_append, hn, List.length_cons] at *; rw [ih, Nat.mul_add]; omega
theorem rows_get {α : Type} {enc : α → List Value} {n : Nat} (hn : ∀ x, (enc x).length = n) : ∀ (L : List α) (i k : Nat) (x : α), L[i]? = some x → k < n → (rows enc L)[n * i + k]? = (enc x)[k]?
  | [], i, k, x, h, _ => by simp at h
  | y :: r, 0, k, x, h, hk => by
    simp at h; subst h
    simp only [rows, List.flatMap_cons, Nat.mul_zero, Nat.zero_add]; rw [List.getElem?_append_left (by rw [hn]; exact hk)]
  | y :: r, i + 1, k, x, h, hk => by
    have ih := rows_get hn r i k x (by simpa using h) hk; simp only [rows, List.flatMap_cons]; rw [List.getElem?_append_right (by rw [hn, Nat.mul_add]; omega), hn]; rw [show n * (i + 1) + k - n = n * i + k from by rw [Nat.mul_add]; omega]; exact ih
theorem rows_get' {α : Type} {enc : α → List Value} {n : Nat} (hn : ∀ x, (enc x).length = n) (L : List α) (i k : Nat) (x : α) (h : L[i]? = some x) (hk : k < n) : (rows enc L)[i * n + k]? = (enc x)[k]? := by
  rw [Nat.mul_comm]; exact rows_get hn L i k x h hk
theorem rows_set {α : Type} {enc : α → List Value} {n : Nat} (hn : ∀ x, (enc x).length = n) : ∀ (L : List α) (i k : Nat) (x y : α) (v : Value), L[i]? = some x → k < n → enc y = (enc x).set k v → (rows enc L).set (n * i + k) v = rows enc (L.set i y)
  | [], i, k, x, y, v, h, _, _ => by simp at h
  | z :: r, 0, k, x, y, v, h, hk, e => by
    simp at h; subst h
    simp only [rows, List.flatMap_cons, Nat.mul_zero, Nat.zero_add, sqC]; rw [List.set_append_left _ _ (by rw [hn]; exact hk), e]
  | z :: r, i + 1, k, x, y, v, h, hk, e => by
    have ih := rows_set hn r i k x y v (by simpa using h) hk e; simp only [rows, List.flatMap_cons, sqB] at *; rw [List.set_append_right _ _ (by rw [hn, Nat.mul_add]; omega), hn]; rw [show n * (i + 1) + k - n = n * i + k from by rw [Nat.mul_add]; omega, ih]
theorem rows_set' {α : Type} {enc : α → List Value} {n : Nat} (hn : ∀ x, (enc x).length = n) (L : List α) (i k : Nat) (x y : α) (v : Value) (h : L[i]? = some x) (hk : k < n) (e : enc y = (enc x).set k v) : (rows enc L).set (i * n + k) v = rows enc (L.set i y) := by
  rw [Nat.mul_comm]; exact rows_set hn L i k x y v h hk e
theorem made_rows {α : Type} {enc : α → List Value} {n : Nat} (hn : ∀ x, (enc x).length = n) (h0 : 0 < n) (x : α) (m : Nat) : (madeCells (enc x).toArray (m * n)).toList = rows enc (List.replicate m x) := by
  apply List.ext_getElem?; intro j; by_cases hj : j < m * n
  · have hq : j / n < m := Nat.div_lt_of_lt_mul (by rw [Nat.mul_comm]; exact hj); have hr : j % n < n := Nat.mod_lt _ h0; have e : j = n * (j / n) + j % n := (Nat.div_add_mod j n).symm; have hg := rows_get hn (List.replicate m x) (j / n) (j % n) x (by simp [hq]) hr; rw [← e] at hg; rw [hg]; have hj' : j % n < (enc x).length := by rw [hn]; exact hr
    simp [madeCells, hj, hn]; rw [List.getElem?_eq_getElem hj']; rfl
  · rw [List.getElem?_eq_none (by simp [madeCells]; omega), List.getElem?_eq_none (by rw [rows_length hn]; simp; rw [Nat.mul_comm]; omega)]
theorem list_set_self {α : Type} : ∀ (L : List α) (i : Nat) (x : α), L[i]? = some x → L.set i x = L
  | [], i, x, h => by simp at h
  | y :: r, 0, x, h => by simp at h; simp [h]
  | y :: r, i + 1, x, h => by simp at h; simp [list_set_self r i x h]
def Ext (w : World) : Type := { w' : World // Keep [] w w' }
instance (w : World) : Nonempty (Ext w) := ⟨⟨w, Keep.refl _ _⟩⟩
def S (l : List UInt8) : ByteArray := ⟨l.toArray⟩
theorem S_list (l : List UInt8) : (S l).data.toList = l := by simp [S]
theorem S_size (l : List UInt8) : (S l).size = l.length := rfl
theorem S_of (s : ByteArray) : S s.data.toList = s := by
  apply ByteArray.ext; simp [S]
theorem S_toList (l : List UInt8) : (S l).toList = l := by rw [ByteArray.toList_eq, S_list]
theorem u8_nat (b : UInt8) : b.toNat < 256 := b.toNat_lt
theorem conv_keep (w : World) (e : TypeId) (s : ByteArray) : Keep [] w (Lib.bytesWorld w e s) := by
  refine ⟨?_, ?_, ?_, by rw [Lib.bytesWorld_size]; omega, fun k hk _ => Lib.bytesWorld_at_old w e s k hk⟩
  · simp [Lib.bytesWorld, World.freeze]; rfl
  · simp [Lib.bytesWorld, World.freeze]
  · simp [Lib.bytesWorld, World.freeze]; rfl
theorem conv_at (w : World) (e : TypeId) {l : List UInt8} {k : Nat} {c : UInt8} (h : l[k]? = some c) : (Lib.bytesWorld w e (S l)).cell? ⟨w.heap.size, k, none⟩ = some (.int .u8 (c.toNat : Nat)) := by
  have hlt : k < l.length := by
    rcases Nat.lt_or_ge k l.length with h' | h'
    · exact h'
    · rw [List.getElem?_eq_none h'] at h; cases h
  rw [Lib.bytesWorld_cell w e (S l) k (by rw [S_size]; exact hlt), S_list]; simp [List.getD, h]
theorem take_snoc {l : List UInt8} {k : Nat} {c : UInt8} (h : l[k]? = some c) : l.take (k + 1) = l.take k ++ [c] := by
  rw [List.take_add_one, h]; rfl
theorem S_extract (l : List UInt8) (a b : Nat) : (S l).extract a b = S ((l.take b).drop a) := by
  apply ByteArray.ext; apply Array.toList_inj.1; rw [Lib.extract_data, S_list]; simp [S, List.drop_take]
theorem S_append (a b : List UInt8) : S a ++ S b = S (a ++ b) := ByteArray.mk_append_mk a b
theorem ret_bool {a b : Bool} (h : a = b) : Ending.returned (.bool a) = Ending.returned (.bool b) := by rw [h]
theorem ret_int {k : IntKind} {a b : Int} (h : a = b) : Ending.returned (.int k a) = Ending.returned (.int k b) := by rw [h]
end Go.Proofs.YtkghgaopcgcheaaGreatDoor
namespace Go.Proofs
open Go.Shelf
def Tryz.lays169_ren : Go.Shelf.Ren := ⟨fun | 169 => 147 | n => n, fun | 70 => 209 | 9 => 9 | 0 => 0 | 72 => 211 | 37 => 126 | 127 => 247 | 3 => 3 | 5 => 5 | n => n, fun | n => n⟩
theorem Tryz.lays169 : Go.Proofs.Lays.n169 Tryz.prog Tryz.lays169_ren := {
  mixed := by kernel_rfl
  f169 := Tryz.func147.trans (congrArg some (by kernel_rfl))
  t0 := Tryz.underlying0
  a0 := Tryz.isAgg0
  z0 := Tryz.sizeOf0
  v0 := Tryz.zeroValue0
  t3 := Tryz.underlying3
  a3 := Tryz.isAgg3
  z3 := Tryz.sizeOf3
  v3 := Tryz.zeroValue3
  t9 := Tryz.underlying9
  a9 := Tryz.isAgg9
  z9 := Tryz.sizeOf9
  v9 := Tryz.zeroValue9
  t37 := Tryz.underlying126
  a37 := Tryz.isAgg126
  z37 := Tryz.sizeOf126
  v37 := Tryz.zeroValue126
  t70 := Tryz.underlying209
  a70 := Tryz.isAgg209
  z70 := Tryz.sizeOf209
  v70 := Tryz.zeroValue209
  t72 := Tryz.underlying211
  a72 := Tryz.isAgg211
  z72 := Tryz.sizeOf211
  v72 := Tryz.zeroValue211
  t127 := Tryz.underlying247
  a127 := Tryz.isAgg247
  z127 := Tryz.sizeOf247
  v127 := Tryz.zeroValue247 }
theorem Tryz.Builder_Extra_169 : Builder.Extra Tryz.prog Tryz.lays169_ren := {
  sizeBuilder := by kernel_rfl
  liesBuilder := by kernel_rfl
  t5 := Tryz.underlying5
  a5 := Tryz.isAgg5
  z5 := Tryz.sizeOf5
  v5 := Tryz.zeroValue5
  infoByte := by kernel_rfl
  cellsByte := by kernel_rfl
  sizeByte := by kernel_rfl
  neB5 := by decide }
open Go.RowKit in
theorem Tryz.Builder_String_any (B b : Nat) (l : List UInt8) (w : World) (h : Lib.IsBuilder 211 5 B b (Lib.byteCells l) w) (hBw : B ≤ w.heap.size) :
    Calls Tryz.prog 147 #[.pointer (some ⟨b, 0, none⟩)] w fun e w' => e = .returned (.string ⟨l.toArray⟩) ∧ Below B w w' := Any.Builder_String_any Tryz.lays169 Tryz.Builder_Extra_169 B b l w h hBw
def Tryz.lays161_ren : Go.Shelf.Ren := ⟨fun | 161 => 186 | 231 => 216 | 227 => 217 | 233 => 218 | 235 => 219 | 228 => 242 | 197 => 214 | 151 => 243 | 260 => 240 | 152 => 262 | 137 => 153 | 119 => 270 | 224 => 260 | 225 => 259 | 217 => 188 | 266 => 221 | n => n, fun | 9 => 9 | 4 => 4 | 3 => 3 | 5 => 5 | 117 => 271 | 116 => 270 | 0 => 0 | 124 => 274 | 105 => 266 | 21 => 21 | 119 => 302 | 46 => 221 | 139 => 305 | 138 => 304 | n => n, fun | 3 => 3 | 4 => 4 | n => n⟩
theorem Tryz.lays161 : Go.Proofs.Lays.n161 Tryz.prog Tryz.lays161_ren := {
  mixed := by kernel_rfl
  f119 := Tryz.func270.trans (congrArg some (by kernel_rfl))
  f137 := Tryz.func153.trans (congrArg some (by kernel_rfl))
  f151 := Tryz.func243.trans (congrArg some (by kernel_rfl))
  f152 := Tryz.func262.trans (congrArg some (by kernel_rfl))
  f161 := Tryz.func186.trans (congrArg some (by kernel_rfl))
  f197 := Tryz.func214.trans (congrArg some (by kernel_rfl))
  f217 := Tryz.func188.trans (congrArg some (by kernel_rfl))
  f224 := Tryz.func260.trans (congrArg some (by kernel_rfl))
  f225 := Tryz.func259.trans (congrArg some (by kernel_rfl))
  f227 := Tryz.func217.trans (congrArg some (by kernel_rfl))
  f228 := Tryz.func242.trans (congrArg some (by kernel_rfl))
  f231 := Tryz.func216.trans (congrArg some (by kernel_rfl))
  f233 := Tryz.func218.trans (congrArg some (by kernel_rfl))
  f235 := Tryz.func219.trans (congrArg some (by kernel_rfl))
  f260 := Tryz.func240.trans (congrArg some (by kernel_rfl))
  f266 := Tryz.func221.trans (congrArg some (by kernel_rfl))
  t0 := Tryz.underlying0
  a0 := Tryz.isAgg0
  z0 := Tryz.sizeOf0
  v0 := Tryz.zeroValue0
  t3 := Tryz.underlying3
  a3 := Tryz.isAgg3
  z3 := Tryz.sizeOf3
  v3 := Tryz.zeroValue3
  t4 := Tryz.underlying4
  a4 := Tryz.isAgg4
  z4 := Tryz.sizeOf4
  v4 := Tryz.zeroValue4
  t5 := Tryz.underlying5
  a5 := Tryz.isAgg5
  z5 := Tryz.sizeOf5
  v5 := Tryz.zeroValue5
  t9 := Tryz.underlying9
  a9 := Tryz.isAgg9
  z9 := Tryz.sizeOf9
  v9 := Tryz.zeroValue9
  t21 := Tryz.underlying21
  a21 := Tryz.isAgg21
  z21 := Tryz.sizeOf21
  v21 := Tryz.zeroValue21
  t46 := Tryz.underlying221
  a46 := Tryz.isAgg221
  z46 := Tryz.sizeOf221
  v46 := Tryz.zeroValue221
  t105 := Tryz.underlying266
  a105 := Tryz.isAgg266
  z105 := Tryz.sizeOf266
  v105 := Tryz.zeroValue266
  t116 := Tryz.underlying270
  a116 := Tryz.isAgg270
  z116 := Tryz.sizeOf270
  t117 := Tryz.underlying271
  a117 := Tryz.isAgg271
  z117 := Tryz.sizeOf271
  v117 := Tryz.zeroValue271
  t119 := Tryz.underlying302
  a119 := Tryz.isAgg302
  z119 := Tryz.sizeOf302
  t124 := Tryz.underlying274
  a124 := Tryz.isAgg274
  z124 := Tryz.sizeOf274
  v124 := Tryz.zeroValue274
  t138 := Tryz.underlying304
  a138 := Tryz.isAgg304
  z138 := Tryz.sizeOf304
  v138 := Tryz.zeroValue304
  t139 := Tryz.underlying305
  a139 := Tryz.isAgg305
  z139 := Tryz.sizeOf305
  v139 := Tryz.zeroValue305
  g3 := by kernel_rfl
  g4 := by kernel_rfl }
def Tryz.lays160_ren : Go.Shelf.Ren := ⟨fun | 160 => 220 | 232 => 244 | 231 => 216 | 227 => 217 | 234 => 245 | 233 => 218 | 236 => 246 | 235 => 219 | 228 => 242 | 271 => 263 | 151 => 243 | 197 => 214 | 120 => 271 | 152 => 262 | 260 => 240 | 137 => 153 | 119 => 270 | 224 => 260 | 225 => 259 | 217 => 188 | 266 => 221 | n => n, fun | 9 => 9 | 4 => 4 | 3 => 3 | 5 => 5 | 117 => 271 | 116 => 270 | 0 => 0 | 124 => 274 | 21 => 21 | 105 => 266 | 46 => 221 | 119 => 302 | 139 => 305 | 138 => 304 | n => n, fun | 3 => 3 | 4 => 4 | n => n⟩
theorem Tryz.lays160 : Go.Proofs.Lays.n160 Tryz.prog Tryz.lays160_ren := {
  mixed := by kernel_rfl
  f119 := Tryz.func270.trans (congrArg some (by kernel_rfl))
  f120 := Tryz.func271.trans (congrArg some (by kernel_rfl))
  f137 := Tryz.func153.trans (congrArg some (by kernel_rfl))
  f151 := Tryz.func243.trans (congrArg some (by kernel_rfl))
  f152 := Tryz.func262.trans (congrArg some (by kernel_rfl))
  f160 := Tryz.func220.trans (congrArg some (by kernel_rfl))
  f197 := Tryz.func214.trans (congrArg some (by kernel_rfl))
  f217 := Tryz.func188.trans (congrArg some (by kernel_rfl))
  f224 := Tryz.func260.trans (congrArg some (by kernel_rfl))
  f225 := Tryz.func259.trans (congrArg some (by kernel_rfl))
  f227 := Tryz.func217.trans (congrArg some (by kernel_rfl))
  f228 := Tryz.func242.trans (congrArg some (by kernel_rfl))
  f231 := Tryz.func216.trans (congrArg some (by kernel_rfl))
  f232 := Tryz.func244.trans (congrArg some (by kernel_rfl))
  f233 := Tryz.func218.trans (congrArg some (by kernel_rfl))
  f234 := Tryz.func245.trans (congrArg some (by kernel_rfl))
  f235 := Tryz.func219.trans (congrArg some (by kernel_rfl))
  f236 := Tryz.func246.trans (congrArg some (by kernel_rfl))
  f260 := Tryz.func240.trans (congrArg some (by kernel_rfl))
  f266 := Tryz.func221.trans (congrArg some (by kernel_rfl))
  f271 := Tryz.func263.trans (congrArg some (by kernel_rfl))
  t0 := Tryz.underlying0
  a0 := Tryz.isAgg0
  z0 := Tryz.sizeOf0
  v0 := Tryz.zeroValue0
  t3 := Tryz.underlying3
  a3 := Tryz.isAgg3
  z3 := Tryz.sizeOf3
  v3 := Tryz.zeroValue3
  t4 := Tryz.underlying4
  a4 := Tryz.isAgg4
  z4 := Tryz.sizeOf4
  v4 := Tryz.zeroValue4
  t5 := Tryz.underlying5
  a5 := Tryz.isAgg5
  z5 := Tryz.sizeOf5
  v5 := Tryz.zeroValue5
  t9 := Tryz.underlying9
  a9 := Tryz.isAgg9
  z9 := Tryz.sizeOf9
  v9 := Tryz.zeroValue9
  t21 := Tryz.underlying21
  a21 := Tryz.isAgg21
  z21 := Tryz.sizeOf21
  v21 := Tryz.zeroValue21
  t46 := Tryz.underlying221
  a46 := Tryz.isAgg221
  z46 := Tryz.sizeOf221
  v46 := Tryz.zeroValue221
  t105 := Tryz.underlying266
  a105 := Tryz.isAgg266
  z105 := Tryz.sizeOf266
  v105 := Tryz.zeroValue266
  t116 := Tryz.underlying270
  a116 := Tryz.isAgg270
  z116 := Tryz.sizeOf270
  t117 := Tryz.underlying271
  a117 := Tryz.isAgg271
  z117 := Tryz.sizeOf271
  v117 := Tryz.zeroValue271
  t119 := Tryz.underlying302
  a119 := Tryz.isAgg302
  z119 := Tryz.sizeOf302
  t124 := Tryz.underlying274
  a124 := Tryz.isAgg274
  z124 := Tryz.sizeOf274
  v124 := Tryz.zeroValue274
  t138 := Tryz.underlying304
  a138 := Tryz.isAgg304
  z138 := Tryz.sizeOf304
  v138 := Tryz.zeroValue304
  t139 := Tryz.underlying305
  a139 := Tryz.isAgg305
  z139 := Tryz.sizeOf305
  v139 := Tryz.zeroValue305
  g3 := by kernel_rfl
  g4 := by kernel_rfl }
def Tryz.lays137_ren : Go.Shelf.Ren := ⟨fun | 137 => 153 | 217 => 188 | 266 => 221 | n => n, fun | 9 => 9 | 5 => 5 | 3 => 3 | n => n, fun | n => n⟩
theorem Tryz.lays137 : Go.Proofs.Lays.n137 Tryz.prog Tryz.lays137_ren := {
  mixed := by kernel_rfl
  f137 := Tryz.func153.trans (congrArg some (by kernel_rfl))
  f217 := Tryz.func188.trans (congrArg some (by kernel_rfl))
  f266 := Tryz.func221.trans (congrArg some (by kernel_rfl))
  t3 := Tryz.underlying3
  a3 := Tryz.isAgg3
  z3 := Tryz.sizeOf3
  v3 := Tryz.zeroValue3
  t5 := Tryz.underlying5
  a5 := Tryz.isAgg5
  z5 := Tryz.sizeOf5
  v5 := Tryz.zeroValue5
  t9 := Tryz.underlying9
  a9 := Tryz.isAgg9
  z9 := Tryz.sizeOf9
  v9 := Tryz.zeroValue9 }
open Go.RowKit in
theorem Tryz.strings_IndexByte (s : ByteArray) (c : Int) (w : World) :
    Calls Tryz.prog 153 #[.string s, .int .u8 c] w fun e w' => e = .returned (.int .i64 (Lib.indexByte s.data.toList c.toNat.toUInt8)) ∧ w' = w := Any.strings_IndexByte Tryz.lays137 s c w
def Tryz.lays210_ren : Go.Shelf.Ren := ⟨fun | 210 => 200 | 206 => 139 | n => n, fun | 9 => 9 | 4 => 4 | 3 => 3 | n => n, fun | n => n⟩
def Tryz.lays103_ren : Go.Shelf.Ren := ⟨fun | 103 => 170 | 210 => 200 | 206 => 139 | n => n, fun | 9 => 9 | 4 => 4 | 24 => 235 | 3 => 3 | n => n, fun | n => n⟩
theorem Tryz.lays103 : Go.Proofs.Lays.n103 Tryz.prog Tryz.lays103_ren := {
  mixed := by kernel_rfl
  f103 := Tryz.func170.trans (congrArg some (by kernel_rfl))
  f206 := Tryz.func139.trans (congrArg some (by kernel_rfl))
  f210 := Tryz.func200.trans (congrArg some (by kernel_rfl))
  t3 := Tryz.underlying3
  a3 := Tryz.isAgg3
  z3 := Tryz.sizeOf3
  v3 := Tryz.zeroValue3
  t4 := Tryz.underlying4
  a4 := Tryz.isAgg4
  z4 := Tryz.sizeOf4
  v4 := Tryz.zeroValue4
  t9 := Tryz.underlying9
  a9 := Tryz.isAgg9
  z9 := Tryz.sizeOf9
  v9 := Tryz.zeroValue9
  t24 := Tryz.underlying235
  a24 := Tryz.isAgg235
  z24 := Tryz.sizeOf235
  v24 := Tryz.zeroValue235 }
open Go.RowKit in
theorem Tryz.strings_CutPrefix (s p : ByteArray) (w : World) :
    Calls Tryz.prog 170 #[.string s, .string p] w fun e w' => e = .returned (.tuple #[.string ⟨(Lib.trimPrefix s.data.toList p.data.toList).toArray⟩, .bool (Lib.hasPrefix s.data.toList p.data.toList)]) ∧ w' = w := Any.strings_CutPrefix Tryz.lays103 s p w
def Tryz.laysM246_ren : Go.Shelf.Ren := ⟨fun | 246 => 222 | 283 => 247 | 284 => 248 | 285 => 249 | 286 => 250 | 129 => 237 | 317 => 264 | 318 => 265 | 319 => 266 | 320 => 267 | 337 => 272 | 338 => 273 | n => n, fun | 2 => 2 | 3 => 3 | 9 => 9 | 4 => 4 | 171 => 290 | 0 => 0 | 53 => 219 | 37 => 126 | 5 => 5 | 173 => 292 | 212 => 309 | 51 => 161 | 20 => 20 | 213 => 310 | 46 => 221 | 232 => 24 | 233 => 227 | n => n, fun | 17 => 5 | 18 => 7 | 19 => 8 | n => n⟩
def Tryz.laysM243_ren : Go.Shelf.Ren := ⟨fun | 243 => 190 | 246 => 222 | 283 => 247 | 284 => 248 | 285 => 249 | 286 => 250 | 129 => 237 | 317 => 264 | 318 => 265 | 319 => 266 | 320 => 267 | 337 => 272 | 338 => 273 | n => n, fun | 3 => 3 | 9 => 9 | 2 => 2 | 4 => 4 | 171 => 290 | 0 => 0 | 53 => 219 | 37 => 126 | 5 => 5 | 173 => 292 | 212 => 309 | 51 => 161 | 20 => 20 | 213 => 310 | 46 => 221 | 232 => 24 | 233 => 227 | n => n, fun | 17 => 5 | 18 => 7 | 19 => 8 | n => n⟩
def Tryz.laysM171_ren : Go.Shelf.Ren := ⟨fun | 171 => 157 | 243 => 190 | 246 => 222 | 283 => 247 | 284 => 248 | 285 => 249 | 286 => 250 | 129 => 237 | 317 => 264 | 318 => 265 | 319 => 266 | 320 => 267 | 337 => 272 | 338 => 273 | n => n, fun | 3 => 3 | 9 => 9 | 2 => 2 | 4 => 4 | 171 => 290 | 0 => 0 | 53 => 219 | 37 => 126 | 5 => 5 | 173 => 292 | 212 => 309 | 51 => 161 | 20 => 20 | 213 => 310 | 46 => 221 | 232 => 24 | 233 => 227 | n => n, fun | 17 => 5 | 18 => 7 | 19 => 8 | n => n⟩
theorem Tryz.laysM171 : Go.Proofs.LaysM.n171 Tryz.prog Tryz.laysM171_ren := {
  mixed := by kernel_rfl
  f129 := Tryz.func237.trans (congrArg some (by kernel_rfl))
  f171 := Tryz.func157.trans (congrArg some (by kernel_rfl))
  f243 := Tryz.func190.trans (congrArg some (by kernel_rfl))
  f246 := Tryz.func222.trans (congrArg some (by kernel_rfl))
  f283 := Tryz.func247.trans (congrArg some (by kernel_rfl))
  f284 := Tryz.func248.trans (congrArg some (by kernel_rfl))
  f285 := Tryz.func249.trans (congrArg some (by kernel_rfl))
  f286 := Tryz.func250.trans (congrArg some (by kernel_rfl))
  f317 := Tryz.func264.trans (congrArg some (by kernel_rfl))
  f318 := Tryz.func265.trans (congrArg some (by kernel_rfl))
  f319 := Tryz.func266.trans (congrArg some (by kernel_rfl))
  f320 := Tryz.func267.trans (congrArg some (by kernel_rfl))
  f337 := Tryz.func272.trans (congrArg some (by kernel_rfl))
  f338 := Tryz.func273.trans (congrArg some (by kernel_rfl))
  t0 := Tryz.underlying0
  a0 := Tryz.isAgg0
  z0 := Tryz.sizeOf0
  v0 := Tryz.zeroValue0
  t2 := Tryz.underlying2
  a2 := Tryz.isAgg2
  z2 := Tryz.sizeOf2
  v2 := Tryz.zeroValue2
  t3 := Tryz.underlying3
  a3 := Tryz.isAgg3
  z3 := Tryz.sizeOf3
  v3 := Tryz.zeroValue3
  t4 := Tryz.underlying4
  a4 := Tryz.isAgg4
  z4 := Tryz.sizeOf4
  v4 := Tryz.zeroValue4
  t5 := Tryz.underlying5
  a5 := Tryz.isAgg5
  z5 := Tryz.sizeOf5
  v5 := Tryz.zeroValue5
  t9 := Tryz.underlying9
  a9 := Tryz.isAgg9
  z9 := Tryz.sizeOf9
  v9 := Tryz.zeroValue9
  t20 := Tryz.underlying20
  a20 := Tryz.isAgg20
  z20 := Tryz.sizeOf20
  v20 := Tryz.zeroValue20
  t37 := Tryz.underlying126
  a37 := Tryz.isAgg126
  z37 := Tryz.sizeOf126
  v37 := Tryz.zeroValue126
  t46 := Tryz.underlying221
  a46 := Tryz.isAgg221
  z46 := Tryz.sizeOf221
  v46 := Tryz.zeroValue221
  t51 := Tryz.underlying161
  a51 := Tryz.isAgg161
  z51 := Tryz.sizeOf161
  v51 := Tryz.zeroValue161
  t53 := Tryz.underlying219
  a53 := Tryz.isAgg219
  z53 := Tryz.sizeOf219
  v53 := Tryz.zeroValue219
  t171 := Tryz.underlying290
  a171 := Tryz.isAgg290
  z171 := Tryz.sizeOf290
  v171 := Tryz.zeroValue290
  t173 := Tryz.underlying292
  a173 := Tryz.isAgg292
  z173 := Tryz.sizeOf292
  v173 := Tryz.zeroValue292
  t212 := Tryz.underlying309
  a212 := Tryz.isAgg309
  z212 := Tryz.sizeOf309
  v212 := Tryz.zeroValue309
  t213 := Tryz.underlying310
  a213 := Tryz.isAgg310
  z213 := Tryz.sizeOf310
  t232 := Tryz.underlying24
  a232 := Tryz.isAgg24
  z232 := Tryz.sizeOf24
  v232 := Tryz.zeroValue24
  t233 := Tryz.underlying227
  a233 := Tryz.isAgg227
  z233 := Tryz.sizeOf227
  v233 := Tryz.zeroValue227
  g17 := by kernel_rfl
  g18 := by kernel_rfl
  g19 := by kernel_rfl
  i0 := by kernel_rfl
  i2 := by kernel_rfl
  i3 := by kernel_rfl
  i4 := by kernel_rfl
  i5 := by kernel_rfl
  i9 := by kernel_rfl
  i20 := by kernel_rfl
  i37 := by kernel_rfl
  i46 := by kernel_rfl
  i51 := by kernel_rfl
  i53 := by kernel_rfl
  i171 := by kernel_rfl
  i173 := by kernel_rfl
  i212 := by kernel_rfl
  i232 := by kernel_rfl
  i233 := by kernel_rfl
  m17 := by kernel_rfl
  m18 := by kernel_rfl
  m19 := by kernel_rfl }
open Go.RowKit Go.Sort Go.Lib in
theorem Tryz.strconv_Itoa (n : Int) (h0 : -9223372036854775808 ≤ n) (h1 : n ≤ 9223372036854775807) (w : World) (htab : Lib.TabIs Tryz.prog w "internal/strconv.uint64pow10" .u64 Lib.pow10Tab) :
    Calls Tryz.prog 157 #[.int .i64 n] w fun e w' => e = .returned (.string ⟨(Lib.itoa n).toArray⟩) ∧ ∃ k os, w' = grow (w.drewN k) os := Any.strconv_Itoa Tryz.laysM171 n h0 h1 w htab
def Tryz.lays219_ren : Go.Shelf.Ren := ⟨fun | 219 => 241 | 217 => 188 | 225 => 259 | 224 => 260 | 267 => 261 | 266 => 221 | 314 => 269 | n => n, fun | 9 => 9 | 3 => 3 | 4 => 4 | 5 => 5 | 46 => 221 | 146 => 315 | 51 => 161 | n => n, fun | 1 => 2 | n => n⟩
def Tryz.lays143_ren : Go.Shelf.Ren := ⟨fun | 143 => 215 | 219 => 241 | 217 => 188 | 225 => 259 | 224 => 260 | 267 => 261 | 266 => 221 | 314 => 269 | n => n, fun | 9 => 9 | 3 => 3 | 4 => 4 | 5 => 5 | 46 => 221 | 146 => 315 | 51 => 161 | n => n, fun | 1 => 2 | n => n⟩
theorem Tryz.lays143 : Go.Proofs.Lays.n143 Tryz.prog Tryz.lays143_ren := {
  mixed := by kernel_rfl
  f143 := Tryz.func215.trans (congrArg some (by kernel_rfl))
  f217 := Tryz.func188.trans (congrArg some (by kernel_rfl))
  f219 := Tryz.func241.trans (congrArg some (by kernel_rfl))
  f224 := Tryz.func260.trans (congrArg some (by kernel_rfl))
  f225 := Tryz.func259.trans (congrArg some (by kernel_rfl))
  f266 := Tryz.func221.trans (congrArg some (by kernel_rfl))
  f267 := Tryz.func261.trans (congrArg some (by kernel_rfl))
  f314 := Tryz.func269.trans (congrArg some (by kernel_rfl))
  t3 := Tryz.underlying3
  a3 := Tryz.isAgg3
  z3 := Tryz.sizeOf3
  v3 := Tryz.zeroValue3
  t4 := Tryz.underlying4
  a4 := Tryz.isAgg4
  z4 := Tryz.sizeOf4
  v4 := Tryz.zeroValue4
  t5 := Tryz.underlying5
  a5 := Tryz.isAgg5
  z5 := Tryz.sizeOf5
  v5 := Tryz.zeroValue5
  t9 := Tryz.underlying9
  a9 := Tryz.isAgg9
  z9 := Tryz.sizeOf9
  v9 := Tryz.zeroValue9
  t46 := Tryz.underlying221
  a46 := Tryz.isAgg221
  z46 := Tryz.sizeOf221
  v46 := Tryz.zeroValue221
  t51 := Tryz.underlying161
  a51 := Tryz.isAgg161
  z51 := Tryz.sizeOf161
  v51 := Tryz.zeroValue161
  t146 := Tryz.underlying315
  a146 := Tryz.isAgg315
  z146 := Tryz.sizeOf315
  v146 := Tryz.zeroValue315
  g1 := by kernel_rfl }
open Go.RowKit Go.Lib in
theorem Tryz.strings_Index_one (s : ByteArray) (c : UInt8) (w : World) :
    Calls Tryz.prog 215 #[.string s, .string ⟨#[c]⟩] w fun e w' => e = .returned (.int .i64 (Lib.indexByte s.data.toList c)) ∧ w' = w := Any.strings_Index_one Tryz.lays143 s c w
def Tryz.lays190_ren : Go.Shelf.Ren := ⟨fun | 190 => 168 | 125 => 199 | 258 => 198 | 128 => 236 | 129 => 237 | 302 => 227 | 303 => 228 | 304 => 229 | 305 => 230 | 306 => 231 | 307 => 232 | 308 => 233 | 309 => 234 | 310 => 235 | 333 => 252 | 329 => 253 | 330 => 254 | 334 => 255 | 335 => 256 | 336 => 226 | 344 => 268 | n => n, fun | 31 => 118 | 9 => 9 | 3 => 3 | 46 => 221 | 0 => 0 | 51 => 161 | 53 => 219 | 4 => 4 | 183 => 281 | 182 => 280 | 131 => 181 | 5 => 5 | 218 => 294 | 222 => 298 | 228 => 312 | 229 => 60 | n => n, fun | n => n⟩
theorem Tryz.lays190 : Go.Proofs.Lays.n190 Tryz.prog Tryz.lays190_ren := {
  mixed := by kernel_rfl
  f125 := Tryz.func199.trans (congrArg some (by kernel_rfl))
  f128 := Tryz.func236.trans (congrArg some (by kernel_rfl))
  f129 := Tryz.func237.trans (congrArg some (by kernel_rfl))
  f190 := Tryz.func168.trans (congrArg some (by kernel_rfl))
  f258 := Tryz.func198.trans (congrArg some (by kernel_rfl))
  f302 := Tryz.func227.trans (congrArg some (by kernel_rfl))
  f303 := Tryz.func228.trans (congrArg some (by kernel_rfl))
  f304 := Tryz.func229.trans (congrArg some (by kernel_rfl))
  f305 := Tryz.func230.trans (congrArg some (by kernel_rfl))
  f306 := Tryz.func231.trans (congrArg some (by kernel_rfl))
  f307 := Tryz.func232.trans (congrArg some (by kernel_rfl))
  f308 := Tryz.func233.trans (congrArg some (by kernel_rfl))
  f309 := Tryz.func234.trans (congrArg some (by kernel_rfl))
  f310 := Tryz.func235.trans (congrArg some (by kernel_rfl))
  f329 := Tryz.func253.trans (congrArg some (by kernel_rfl))
  f330 := Tryz.func254.trans (congrArg some (by kernel_rfl))
  f333 := Tryz.func252.trans (congrArg some (by kernel_rfl))
  f334 := Tryz.func255.trans (congrArg some (by kernel_rfl))
  f335 := Tryz.func256.trans (congrArg some (by kernel_rfl))
  f336 := Tryz.func226.trans (congrArg some (by kernel_rfl))
  f344 := Tryz.func268.trans (congrArg some (by kernel_rfl))
  t0 := Tryz.underlying0
  a0 := Tryz.isAgg0
  z0 := Tryz.sizeOf0
  v0 := Tryz.zeroValue0
  t3 := Tryz.underlying3
  a3 := Tryz.isAgg3
  z3 := Tryz.sizeOf3
  v3 := Tryz.zeroValue3
  t4 := Tryz.underlying4
  a4 := Tryz.isAgg4
  z4 := Tryz.sizeOf4
  v4 := Tryz.zeroValue4
  t5 := Tryz.underlying5
  a5 := Tryz.isAgg5
  z5 := Tryz.sizeOf5
  v5 := Tryz.zeroValue5
  t9 := Tryz.underlying9
  a9 := Tryz.isAgg9
  z9 := Tryz.sizeOf9
  v9 := Tryz.zeroValue9
  t31 := Tryz.underlying118
  a31 := Tryz.isAgg118
  z31 := Tryz.sizeOf118
  v31 := Tryz.zeroValue118
  t46 := Tryz.underlying221
  a46 := Tryz.isAgg221
  z46 := Tryz.sizeOf221
  v46 := Tryz.zeroValue221
  t51 := Tryz.underlying161
  a51 := Tryz.isAgg161
  z51 := Tryz.sizeOf161
  v51 := Tryz.zeroValue161
  t53 := Tryz.underlying219
  a53 := Tryz.isAgg219
  z53 := Tryz.sizeOf219
  v53 := Tryz.zeroValue219
  t131 := Tryz.underlying181
  a131 := Tryz.isAgg181
  z131 := Tryz.sizeOf181
  v131 := Tryz.zeroValue181
  t182 := Tryz.underlying280
  a182 := Tryz.isAgg280
  z182 := Tryz.sizeOf280
  v182 := Tryz.zeroValue280
  t183 := Tryz.underlying281
  a183 := Tryz.isAgg281
  z183 := Tryz.sizeOf281
  v183 := Tryz.zeroValue281
  t218 := Tryz.underlying294
  a218 := Tryz.isAgg294
  z218 := Tryz.sizeOf294
  v218 := Tryz.zeroValue294
  t222 := Tryz.underlying298
  a222 := Tryz.isAgg298
  z222 := Tryz.sizeOf298
  v222 := Tryz.zeroValue298
  t228 := Tryz.underlying312
  a228 := Tryz.isAgg312
  z228 := Tryz.sizeOf312
  v228 := Tryz.zeroValue312
  t229 := Tryz.underlying60
  a229 := Tryz.isAgg60
  z229 := Tryz.sizeOf60
  v229 := Tryz.zeroValue60 }
open Go.Sort Go.RowKit in
theorem Tryz.slices_Sort_string (blk off cap : Nat) (ss : List (List UInt8)) (w : World) (hH : Holds encStr w blk off ss.toArray) (hblk : blk < w.heap.size) (hsz : ss.length < 4611686018427387904) :
    Calls Tryz.prog 168 #[.slice (some ⟨blk, off, none⟩) ss.length cap] w fun e w' =>
      e = .returned (.tuple #[]) ∧ ∃ n os, w' = grow (putRow encStr (Sort.ahead w n) blk off (ss.mergeSort fun x y => decide (x ≤ y)).toArray) os := Any.slices_Sort_string Tryz.lays190 blk off cap ss w hH hblk hsz
def Tryz.lays99_ren : Go.Shelf.Ren := ⟨fun | 99 => 85 | 206 => 139 | n => n, fun | 9 => 9 | 4 => 4 | 3 => 3 | n => n, fun | n => n⟩
theorem Tryz.lays99 : Go.Proofs.Lays.n99 Tryz.prog Tryz.lays99_ren := {
  mixed := by kernel_rfl
  f99 := Tryz.func85.trans (congrArg some (by kernel_rfl))
  f206 := Tryz.func139.trans (congrArg some (by kernel_rfl))
  t3 := Tryz.underlying3
  a3 := Tryz.isAgg3
  z3 := Tryz.sizeOf3
  v3 := Tryz.zeroValue3
  t4 := Tryz.underlying4
  a4 := Tryz.isAgg4
  z4 := Tryz.sizeOf4
  v4 := Tryz.zeroValue4
  t9 := Tryz.underlying9
  a9 := Tryz.isAgg9
  z9 := Tryz.sizeOf9
  v9 := Tryz.zeroValue9 }
open Go.RowKit Go.Lib in
theorem Tryz.strings_HasPrefix (s p : ByteArray) (w : World) :
    Calls Tryz.prog 85 #[.string s, .string p] w fun e w' => e = .returned (.bool (Lib.hasPrefix s.data.toList p.data.toList)) ∧ w' = w := Any.strings_HasPrefix Tryz.lays99 s p w
open Go.RowKit Go.Sort in
theorem Tryz.slices_Sort_string_none (p : Option Addr) (cap : Nat) (w : World) :
    Calls Tryz.prog 168 #[.slice p 0 cap] w fun e w' => e = .returned (.tuple #[]) ∧ w' = w := Any.slices_Sort_string_none Tryz.lays190 p cap w
end Go.Proofs
namespace Go.Proofs.YtkghgaopcgcheaaGreatDoor
open Go.RowKit Go.Shelf
theorem conv_run (w : World) (s : ByteArray) : (convert 9 126 (.string s)).run Tryz.prog w = .ok (.slice (some ⟨w.heap.size, 0, none⟩) s.size (grownCap w s.size 0 5)) (Lib.bytesWorld w 5 s) :=
  Lib.run_convert_string_bytes w 9 126 5 s Tryz.underlying9 Tryz.underlying126 Tryz.underlying5
end Go.Proofs.YtkghgaopcgcheaaGreatDoor
namespace Go.Proofs.YtkghgaopcgcheaaGreatDoor
open Go.RowKit Go.ChangeShapes Go.WideShapes
def Sl {α : Type} (enc : α → List Value) (n : Nat) (w : World) (v : Value) (L : List α) : Prop :=
  (∃ a cap, v = .slice a 0 cap ∧ cap ≤ maxLen ∧ L = []) ∨
  ∃ b off cap, v = .slice (some ⟨b, off, none⟩) L.length cap ∧ L.length ≤ cap ∧ cap ≤ maxLen ∧
    ∀ i x, L[i]? = some x → ∀ k, k < n → w.cell? ⟨b, off + i * n + k, none⟩ = (enc x)[k]?
theorem Sl.keep {α : Type} {enc : α → List Value} {n : Nat} (hn : ∀ x, (enc x).length = n) (_ : 0 < n) {W w w' : World} {v : Value} {L : List α} {S : List Nat}
    (h : Sl enc n w v L) (hW : Sl enc n W v L) (k : Keep S w w') (hS : ∀ b ∈ S, W.heap.size ≤ b) (hsz : W.heap.size ≤ w.heap.size) : Sl enc n w' v L := by
  rcases h with h | ⟨b, off, cap, rfl, h1, h2, h3⟩
  · exact .inl h
  · refine .inr ⟨b, off, cap, rfl, h1, h2, fun i x hx j hj => ?_⟩; rw [← h3 i x hx j hj]; rcases hW with ⟨_, _, hv, _, rfl⟩ | ⟨b', off', cap', hv, _, _, h3'⟩
    · simp at hx
    · cases hv; have hc := h3' i x hx j hj; have : j < (enc x).length := by rw [hn]; exact hj
      rw [List.getElem?_eq_getElem this] at hc; have hlt := World.block_lt_of_cell? W _ hc; refine k.cell (by have := hlt; simp at this; simp; omega) ?_; intro hm; have := hS _ hm; simp at hlt this; omega
theorem Sl.cell {α : Type} {enc : α → List Value} {n : Nat} {w : World} {v : Value} {L : List α} (h : Sl enc n w v L) {i : Nat} {x : α} (hi : L[i]? = some x) :
    ∃ b off cap, v = .slice (some ⟨b, off, none⟩) L.length cap ∧ L.length ≤ cap ∧ cap ≤ maxLen ∧ ∀ k, k < n → w.cell? ⟨b, off + i * n + k, none⟩ = (enc x)[k]? := by
  rcases h with ⟨_, _, _, _, rfl⟩ | ⟨b, off, cap, hv, h1, h2, h3⟩
  · simp at hi
  · exact ⟨b, off, cap, hv, h1, h2, h3 i x hi⟩
theorem Sl.shape {α : Type} {enc : α → List Value} {n : Nat} {w : World} {v : Value} {L : List α} (h : Sl enc n w v L) : ∃ a cap, v = .slice a L.length cap ∧ L.length ≤ maxLen := by
  rcases h with ⟨a, cap, hv, hc, rfl⟩ | ⟨b, off, cap, hv, h1, h2, h3⟩
  · exact ⟨a, cap, hv, Nat.zero_le _⟩
  · exact ⟨_, cap, hv, by omega⟩
theorem take_drop_one {cs : List Value} {k : Nat} {v : Value} (h : (cs.drop k).take 1 = [v]) : cs[k]? = some v := by
  have : ((cs.drop k).take 1)[0]? = some v := by rw [h]; rfl
  simpa [List.getElem?_take, List.getElem?_drop] using this
theorem list_eq_of {l m : List Value} {n : Nat} (hl : l.length = n) (hm : m.length = n) (h : ∀ i, i < n → l[i]? = m[i]?) : l = m := by
  apply List.ext_getElem?; intro i; by_cases hi : i < n
  · exact h i hi
  · rw [List.getElem?_eq_none (by omega), List.getElem?_eq_none (by omega)]
section
variable {H : Type} {enc : TypeId × Value → H} {P : Program} {w : World} {base : Nat} {spare : Nat → Bool} {held : Bool}
theorem field_int {t : TypeId} {k : IntKind} {n o : Nat} {cs : List Value} {y : DataW H × List MemPlace} (ht : P.underlying t = some (.int k)) (hc : P.cellsOf t = 1) (h : DataW.trod enc P w base spare held n t ((cs.drop o).take (P.cellsOf t)) = some y) :
    ∃ v, cs[o]? = some (.int k v) ∧ (Lit.int k v).wf = true := by
  obtain ⟨v, hv, _, hw⟩ := DataW.trod_int ht h; rw [hc] at hv; exact ⟨v, take_drop_one hv, hw⟩
end
def in64 (n : Int) : Prop := -9223372036854775808 ≤ n ∧ n ≤ 9223372036854775807
theorem in64_of {n : Int} (h : (Lit.int .i64 n).wf = true) : in64 n := by simpa [in64, Lit.wf, IntKind.min, IntKind.max, IntKind.signed, IntKind.bits] using h
end Go.Proofs.YtkghgaopcgcheaaGreatDoor
namespace Go.Proofs.YtkghgaopcgcheaaGreatDoor
open Go.RowKit
def Own {α : Type} (enc : α → List Value) (n base : Nat) (E : TypeId) (w : World) (v : Value) (L : List α) : Prop := w.ownsRow base E n v L.length (rows enc L)
section
variable {α : Type} {enc : α → List Value} {n base : Nat} {E : TypeId} {w w' : World} {v : Value} {L : List α}
theorem Own.nil (enc : α → List Value) (n base : Nat) (E : TypeId) (w : World) : Own enc n base E w (.slice none 0 0) [] := World.ownsRow_nil w base E n
theorem Own.none (enc : α → List Value) (n : Nat) (E : TypeId) (w : World) (hb : base ≤ w.heap.size) : Own enc n base E (w.alloc (.cells #[] E)) (.slice (some ⟨w.heap.size, 0, none⟩) 0 0) [] :=
  World.ownsRow_made w #[] 0 hb (Nat.zero_le _) (by simp)
theorem Own.alloc (h : Own enc n base E w v L) (o : Obj) : Own enc n base E (w.alloc o) v L := World.ownsRow.alloc h o
theorem Own.keep {S : List Nat} (h : Own enc n base E w v L) (k : Keep S w w') (hS : ∀ g, v.ownBlock = some g → g ∉ S) : Own enc n base E w' v L := by
  refine ⟨h.1, ?_⟩; rcases h.2 with hn | ⟨g, cap, cur, hv, hb, hg, rest⟩
  · exact .inl hn
  · exact .inr ⟨g, cap, cur, hv, hb, by rw [k.block g (lt_of_block hg) (hS g (by rw [hv]; rfl))]; exact hg, rest⟩
theorem Own.keep0 (h : Own enc n base E w v L) (k : Keep [] w w') : Own enc n base E w' v L := h.keep k (by simp)
theorem Own.grown {row : Option Nat} (h : Own enc n base E w v L) (k : w.grownBy w' row) (hr : v.ownBlock = Option.none ∨ v.ownBlock ≠ row) : Own enc n base E w' v L := World.ownsRow.kept h k hr
theorem Own.lower {base' : Nat} (h : Own enc n base E w v L) (hb : base' ≤ base) : Own enc n base' E w v L := by
  refine ⟨h.1, ?_⟩; rcases h.2 with hn | ⟨g, cap, cur, hv, hb', rest⟩
  · exact .inl hn
  · exact .inr ⟨g, cap, cur, hv, Nat.le_trans hb hb', rest⟩
theorem Own.sl (hn : ∀ x, (enc x).length = n) (h : Own enc n base E w v L) : Sl enc n w v L := by
  rcases h.2 with ⟨rfl, h0⟩ | ⟨g, cap, cur, rfl, hb, hg, h1, h2, h3, h4⟩
  · exact .inl ⟨Option.none, 0, rfl, Nat.zero_le _, List.eq_nil_of_length_eq_zero h0⟩
  · refine .inr ⟨g, 0, cap, rfl, h1, h2, fun i x hx k hk => ?_⟩; have := rows_get' hn L i k x hx hk; rw [← h4] at this; rw [Nat.zero_add, cell_of_row w g _ _ _ _ hg, ← this]; have hlt : i < L.length := (List.getElem?_eq_some_iff.1 hx).1; have hm : (i + 1) * n ≤ L.length * n := Nat.mul_le_mul_right n hlt; rw [Nat.add_mul] at hm; rw [List.getElem?_take, if_pos (by omega)]; simp
theorem Own.shape (h : Own enc n base E w v L) : ∃ a cap, v = .slice a L.length cap ∧ L.length ≤ maxLen := by
  rcases h.2 with ⟨rfl, h0⟩ | ⟨g, cap, cur, rfl, hb, hg, h1, h2, _⟩
  · exact ⟨_, 0, by rw [h0], by omega⟩
  · exact ⟨_, cap, rfl, by omega⟩
theorem Own.lt (h : Own enc n base E w v L) : ∀ k, v.ownBlock = some k → base ≤ k ∧ k < w.heap.size := World.ownsRow.lt h
end
theorem wpList_append1 {P : Program} {ops : Array Oper} {rest : List Oper} {o : Oper} {a : Act} {Q : Exit → Act → World → Prop} (hgd : o.guard = none) (s x : Operand) (t : TypeId)
    (ho : o.op = .call { callee := .builtin .append, args := #[s, x], argTypes := #[t, t] })
    {α : Type} {enc : α → List Value} {n base : Nat} {E : TypeId} {L : List α} {v : Value}
    (i : TypeInfo) (z : Value) (bytes : Nat) (ht : P.underlying t = some (.slice E)) (HI : Hid (P.info? E = some i ∧ i.zero = some z ∧ i.size = n ∧ i.bytes = bytes)) (hzs : z.cells.size = n) (hn0 : 0 < n)
    (hn : ∀ x, (enc x).length = n) (h1 : ∀ x, ∀ u ∈ enc x, u.oneCell' = true)
    (w0 w : World) (hb0 : base = w0.heap.size) (hk : Keep [] w0 w) (hs : a.eval s = v) (hown : Own enc n base E w v L) (y : α) (cs : List Value) (hcs : cs = enc y) (c : Nat) (hx : a.eval x = .slice (some ⟨w.heap.size, 0, none⟩) 1 c)
    (h63 : L.length + 1 ≤ maxLen) (hbytes : (L.length + 1) * bytes ≤ 140737488355328)
    (h : ∀ v' w', Own enc n base E w' v' (L ++ [y]) → Keep [] w0 w' → w.grownBy w' v.ownBlock → wpList P ops Q rest (a.put o.dst v') w') : wpList P ops Q (o :: rest) a (w.alloc (.cells cs.toArray E)) := by
  subst hcs hb0; refine wpList_append_own _ hgd s x t ho w0.heap.size E i z n bytes ht HI.out.1 HI.out.2.1 HI.out.2.2.1 HI.out.2.2.2 hzs hn0 v L.length (rows enc L) hs (hown.alloc _) ⟨w.heap.size, 0, none⟩ 1 c (enc y) hx (by rw [hn]; omega) ?_ (h1 y) h63 hbytes (by have := hk.size; simp; omega) ?_
  · intro j u hj; have hA := Blk.new w (enc y) E; have : (⟨w.heap.size, 0, none⟩ : Addr).add j = ⟨w.heap.size, j, none⟩ := by unfold Addr.add; split <;> simp_all
    rw [this, hA.cell j]; exact hj
  · intro v' w' hown' hg _
    have hg' : w.grownBy w' v.ownBlock := by
      have h0 := World.grownBy_alloc w (.cells (enc y).toArray E) v.ownBlock; exact ⟨hg.os.trans h0.os, hg.tape.trans h0.tape, hg.output.trans h0.output, Nat.le_trans h0.size hg.size, fun k hk hne => (hg.block k (Nat.lt_of_lt_of_le hk h0.size) hne).trans (h0.block k hk hne)⟩
    refine h v' w' ?_ (hk.grown hg' fun k hk1 hk2 => absurd (hown.lt k hk1).1 (by omega)) hg'; have : rows enc (L ++ [y]) = rows enc L ++ enc y := by simp [rows]
    unfold Own; rw [this, List.length_append]; exact hown'
def Sep (v u : Value) : Prop := ∀ g, v.ownBlock = some g → u.ownBlock ≠ some g
def Aside (w w' : World) (v v' : Value) : Prop := ∀ {β : Type} {e2 : β → List Value} {n2 b2 : Nat} {E2 : TypeId} {u : Value} {M : List β}, Own e2 n2 b2 E2 w u M → Sep v u → Own e2 n2 b2 E2 w' u M ∧ Sep v' u
theorem wpList_append2 {P : Program} {ops : Array Oper} {rest : List Oper} {o : Oper} {a : Act} {Q : Exit → Act → World → Prop} (hgd : o.guard = none) (s x : Operand) (t : TypeId)
    (ho : o.op = .call { callee := .builtin .append, args := #[s, x], argTypes := #[t, t] })
    {α : Type} {enc : α → List Value} {n base : Nat} {E : TypeId} {L : List α} {v : Value}
    (i : TypeInfo) (z : Value) (bytes : Nat) (ht : P.underlying t = some (.slice E)) (HI : Hid (P.info? E = some i ∧ i.zero = some z ∧ i.size = n ∧ i.bytes = bytes)) (hzs : z.cells.size = n) (hn0 : 0 < n)
    (hn : ∀ x, (enc x).length = n) (h1 : ∀ x, ∀ u ∈ enc x, u.oneCell' = true)
    (w0 w : World) (hb0 : base = w0.heap.size) (hk : Keep [] w0 w) (hs : a.eval s = v) (hown : Own enc n base E w v L) (y : α) (cs : List Value) (hcs : cs = enc y) (c : Nat) (hx : a.eval x = .slice (some ⟨w.heap.size, 0, none⟩) 1 c)
    (h63 : L.length + 1 ≤ maxLen) (hbytes : (L.length + 1) * bytes ≤ 140737488355328)
    (h : ∀ v' w', Own enc n base E w' v' (L ++ [y]) → Keep [] w0 w' → Aside w w' v v' → wpList P ops Q rest (a.put o.dst v') w') : wpList P ops Q (o :: rest) a (w.alloc (.cells cs.toArray E)) := by
  subst hcs hb0; refine wpList_append_own_at _ hgd s x t ho w0.heap.size E i z n bytes ht HI.out.1 HI.out.2.1 HI.out.2.2.1 HI.out.2.2.2 hzs hn0 v L.length (rows enc L) hs (hown.alloc _) ⟨w.heap.size, 0, none⟩ 1 c (enc y) hx (by rw [hn]; omega) ?_ (h1 y) h63 hbytes (by have := hk.size; simp; omega) ?_
  · intro j u hj; have hA := Blk.new w (enc y) E; have : (⟨w.heap.size, 0, none⟩ : Addr).add j = ⟨w.heap.size, j, none⟩ := by unfold Addr.add; split <;> simp_all
    rw [this, hA.cell j]; exact hj
  · intro v' w' hown' hg _ hat
    have hg' : w.grownBy w' v.ownBlock := by
      have h0 := World.grownBy_alloc w (.cells (enc y).toArray E) v.ownBlock; exact ⟨hg.os.trans h0.os, hg.tape.trans h0.tape, hg.output.trans h0.output, Nat.le_trans h0.size hg.size, fun k hk hne => (hg.block k (Nat.lt_of_lt_of_le hk h0.size) hne).trans (h0.block k hk hne)⟩
    refine h v' w' ?_ (hk.grown hg' fun k hk1 hk2 => absurd (hown.lt k hk1).1 (by omega)) ?_
    · have : rows enc (L ++ [y]) = rows enc L ++ enc y := by simp [rows]
      unfold Own; rw [this, List.length_append]; exact hown'
    · intro β e2 n2 b2 E2 u M hu hsep; refine ⟨hu.grown hg' ?_, ?_⟩
      · cases hub : u.ownBlock with
        | none => exact .inl rfl
        | some g => exact .inr fun e => hsep g (e ▸ rfl) hub
      · intro g h3 h4; rcases hat with h5 | h5
        · exact hsep g (h5 ▸ h3) h4
        · have h6 := (hu.lt g h4).2; rw [h3] at h5; simp at h5; omega
def byteC (c : UInt8) : List Value := [.int .u8 (c.toNat : Nat)]
theorem byteC_length (c : UInt8) : (byteC c).length = 1 := rfl
theorem byteC_one (c : UInt8) : ∀ u ∈ byteC c, u.oneCell' = true := by simp [byteC, Value.oneCell']
def strC (s : List UInt8) : List Value := [.string (S s)]
theorem strC_length (c : List UInt8) : (strC c).length = 1 := rfl
theorem own_back {P : Program} {w : World} {base : Nat} {E : TypeId} {v : Value} {l : List UInt8} (h : Own byteC 1 base E w v l) (src dst : TypeId) (hs : P.underlying src = some (.slice E)) (he : P.underlying E = some (.int .u8)) (hd : P.underlying dst = some .string) :
    (convert src dst v).run P w = .ok (.string (S l)) w := by
  have hsl := h.sl byteC_length; rcases h.2 with ⟨rfl, h0⟩ | ⟨g, cap, cur, rfl, _⟩
  · have : l = [] := List.eq_nil_of_length_eq_zero h0; subst this; exact run_convert_bytes_nil w src E hs he 0 0 dst hd
  · refine run_convert_bytes_back w src dst E ⟨g, 0, none⟩ cap l hs he hd (fun j hj => ?_); obtain ⟨b, off, cap', hv, _, _, hc⟩ := hsl.cell (i := j) (x := l[j]) (List.getElem?_eq_getElem hj); cases hv; have ha : (⟨g, 0, none⟩ : Addr).add j = ⟨g, 0 + j * 1 + 0, none⟩ := by unfold Addr.add; split <;> simp_all
    rw [ha]; exact hc 0 (by omega)
theorem S_get {l : List UInt8} {k : Nat} {c : UInt8} (h : l[k]? = some c) (hk : k < (S l).size) : (S l)[k]'hk = c := by
  obtain ⟨_, he⟩ := List.getElem?_eq_some_iff.1 h; exact he
end Go.Proofs.YtkghgaopcgcheaaGreatDoor
namespace Go.Proofs.YtkghgaopcgcheaaGreatDoor
open Go.RowKit Go.Shelf
theorem u8info : (Tryz.prog.info? 5).map (fun i => (i.zero, i.size, i.bytes)) = some (some (.int .u8 0), 1, 1) := by kernel_rfl
theorem nat_eq {a b : Nat} (h : a = b) : (((a : Nat) : Int) == ((b : Nat) : Int)) = true ∧ (((a : Nat) : Int) != ((b : Nat) : Int)) = false := by subst h; simp
theorem nat_ne {a b : Nat} (h : a ≠ b) : (((a : Nat) : Int) == ((b : Nat) : Int)) = false ∧ (((a : Nat) : Int) != ((b : Nat) : Int)) = true := by
  constructor <;> simp <;> omega
theorem indexByte_at {l : List UInt8} {c : UInt8} {o : Nat} (h : l[o]? = some c) (hn : ∀ j, j < o → l[j]? ≠ some c) : Lib.indexByte l c = o := by
  have hge := Lib.indexByte_ge l c; by_cases h1 : Lib.indexByte l c = -1
  · exact absurd h (Lib.indexByte_none h1 o)
  · obtain ⟨o', ho⟩ : ∃ o' : Nat, Lib.indexByte l c = o' := ⟨(Lib.indexByte l c).toNat, by omega⟩
    obtain ⟨h2, h3⟩ := Lib.indexByte_some ho; rcases Nat.lt_trichotomy o o' with h4 | h4 | h4
    · exact absurd h (h3 o h4)
    · omega
    · exact absurd h2 (hn o' h4)
theorem int_eq {a z : Int} (h : a = z) : (a == z) = true ∧ (a != z) = false := by subst h; simp
theorem int_ne {a z : Int} (h : a ≠ z) : (a == z) = false ∧ (a != z) = true := by simp [h]
def full (M : List (List UInt8)) : List (List UInt8) := M.filter (fun s => decide (s ≠ []))
end Go.Proofs.YtkghgaopcgcheaaGreatDoor
