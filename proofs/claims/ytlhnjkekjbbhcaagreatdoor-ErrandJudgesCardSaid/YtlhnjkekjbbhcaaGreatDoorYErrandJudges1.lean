/- Parts of the proof of ErrandJudges, in order. No conditions but those that each theorem states. -/
import Derived.Test.YtlhnjkekjbbhcaaGreatDoorYErrandJudges0
import Derived.Test.YtlhnjkekjbbhcaaGreatDoorProg
import Derived.WalkKit
import Derived.WalkSpells
import Derived.WalkLawsBesides
import Derived.Lib.Hide
import Derived.Deep.QuietTactic
import Derived.BigQuiet
import Derived.Lib.Strings
import Derived.Lib.IndexLaws
import Derived.Lib.IndexMore
import Derived.Lib.SlTrimSet
import Derived.Lib.ConvBytes
import Derived.Shelf.Strings.Builder1
import Derived.Shelf.Strings.Trim
import Derived.Shelf.Small.Utf8
import Derived.Shelf.Small.Strs
import Derived.Shelf.Small.Wraps
import Derived.Shelf.Strings.BuilderF
import Derived.Shelf.Strings.BuilderK
import Derived.Shelf.Strconv.Itoa0
import Derived.Shelf.Strconv.Itoa1
import Derived.Shelf.LaysM
import Derived.Shelf.Strconv.Itoa2
import Derived.Shelf.Strconv.Itoa3
import Derived.Shelf.Strings.Search1
import Derived.Shelf.Strings.Search2
import Derived.Shelf.Strings.Search3
import Derived.Shelf.Strings.Cut
import Derived.Shelf.Strings.Shaped
import Derived.Shelf.Strings.LastIndex
import Derived.Shelf.Strings.LastIndexAll
import Derived.Shelf.Strings.Prefix
import Derived.Shelf.Strings.Runes
import Derived.Shelf.Strings.AsciiSet
import Derived.Shelf.Unicode.DecodeSlow
import Derived.Shelf.Strings.BuilderCap
import Derived.Ground.PaProg
import Derived.Shelf.Path.Small
import Derived.Shelf.Strings.SlTrimAscii
import Derived.Deep.RegionHeld3
import Derived.Deep.Cut
import Derived.Deep.DeepCutAuto
import Derived.Deep.LoopGhost
import Derived.ProofKit
import Derived.OpenShut
import Derived.ShutString
import Derived.ChangeOld
import Derived.Deep.Slices
import Derived.Deep.Strs
namespace Go.Proofs.YtlhnjkekjbbhcaaGreatDoor
open Go.RowKit
def Blk (w : World) (b : Nat) (T : TypeId) (xs : List Value) : Prop := w.heap[b]? = some (.cells xs.toArray T (0, 0))
theorem Blk.lt {w : World} {b : Nat} {T : TypeId} {xs : List Value} (h : Blk w b T xs) : b < w.heap.size := lt_of_block h
theorem Blk.cell {w : World} {b : Nat} {T : TypeId} {xs : List Value} (h : Blk w b T xs) (k : Nat) : w.cell? ⟨b, k, none⟩ = xs[k]? := by
  have h' : w.heap[b]? = some (.cells xs.toArray T (0, 0)) := h; rw [cell_of_row w b k _ _ _ h']; simp
theorem Blk.frozen {w : World} {b : Nat} {T : TypeId} {xs : List Value} (h : Blk w b T xs) (k : Nat) : w.frozen? ⟨b, k, none⟩ = false := frozen_of_row w b k _ _ h
theorem Blk.get {w : World} {b : Nat} {T : TypeId} {xs : List Value} (h : Blk w b T xs) {k : Nat} {v : Value} (hv : xs[k]? = some v) : w.cell? ⟨b, k, none⟩ = some v := (h.cell k).trans hv
theorem Blk.set {w : World} {b : Nat} {T : TypeId} {xs : List Value} (h : Blk w b T xs) (k : Nat) (v : Value) : Blk (w.setCell ⟨b, k, none⟩ v) b T (xs.set k v) := by
  have h' := heap_setCell_same w b k xs.toArray T v h; unfold Blk; rw [h']; simp
theorem Blk.setOther {w : World} {b : Nat} {T : TypeId} {xs : List Value} (h : Blk w b T xs) {a : Addr} (hb : b ≠ a.block) (v : Value) : Blk (w.setCell a v) b T xs := by
  unfold Blk; rw [heap_setCell_other w a b v hb]; exact h
theorem Blk.alloc {w : World} {b : Nat} {T : TypeId} {xs : List Value} (h : Blk w b T xs) (o : Obj) : Blk (w.alloc o) b T xs := by
  unfold Blk; rw [Below.heap_alloc w o b h.lt]; exact h
theorem Blk.drew {w : World} {b : Nat} {T : TypeId} {xs : List Value} (h : Blk w b T xs) : Blk w.drew b T xs := h
theorem Blk.new (w : World) (xs : List Value) (T : TypeId) : Blk (w.alloc (.cells xs.toArray T)) w.heap.size T xs := heap_alloc_new w _
theorem Blk.newA (w : World) (xs : Array Value) (T : TypeId) : Blk (w.alloc (.cells xs T)) w.heap.size T xs.toList := by
  have h := heap_alloc_new w (.cells xs T); simpa [Blk] using h
structure Keep (S : List Nat) (w w' : World) : Prop where
  os : w'.os = w.os
  tape : w'.tape = w.tape
  output : w'.output = w.output
  size : w.heap.size ≤ w'.heap.size
  block : ∀ k, k < w.heap.size → k ∉ S → w'.heap[k]? = w.heap[k]?
theorem Keep.refl (S : List Nat) (w : World) : Keep S w w := ⟨rfl, rfl, rfl, Nat.le_refl _, fun _ _ _ => rfl⟩
theorem Keep.mono {S S' : List Nat} {w w' : World} (h : Keep S w w') (hs : ∀ k ∈ S, k < w.heap.size → k ∈ S') : Keep S' w w' :=
  ⟨h.os, h.tape, h.output, h.size, fun k hk hn => h.block k hk fun hm => hn (hs k hm hk)⟩
theorem Keep.trans {S : List Nat} {a b c : World} (h : Keep S a b) (k : Keep S b c) : Keep S a c :=
  ⟨k.os.trans h.os, k.tape.trans h.tape, k.output.trans h.output, Nat.le_trans h.size k.size,
    fun i hi hn => (k.block i (Nat.lt_of_lt_of_le hi h.size) hn).trans (h.block i hi hn)⟩
theorem Keep.trans' {S S' : List Nat} {a b c : World} (h : Keep S a b) (k : Keep S' b c) (hs : ∀ x ∈ S', x < a.heap.size → x ∈ S) : Keep S a c :=
  ⟨k.os.trans h.os, k.tape.trans h.tape, k.output.trans h.output, Nat.le_trans h.size k.size,
    fun i hi hn => (k.block i (Nat.lt_of_lt_of_le hi h.size) fun hm => hn (hs i hm hi)).trans (h.block i hi hn)⟩
theorem Keep.drew {S : List Nat} {a w : World} (h : Keep S a w) : Keep S a w.drew := ⟨h.os, h.tape, h.output, h.size, h.block⟩
theorem Keep.drewN {S : List Nat} {a w : World} (h : Keep S a w) (n : Nat) : Keep S a (w.drewN n) := ⟨h.os, h.tape, h.output, h.size, h.block⟩
theorem Keep.alloc {S : List Nat} {a w : World} (h : Keep S a w) (o : Obj) : Keep S a (w.alloc o) :=
  h.trans ⟨rfl, rfl, rfl, by simp, fun k hk _ => Below.heap_alloc _ _ _ hk⟩
theorem Keep.setCell {S : List Nat} {a w : World} (h : Keep S a w) (p : Addr) (u : Value) (hp : p.block < a.heap.size → p.block ∈ S) : Keep S a (w.setCell p u) :=
  h.trans' (S' := [p.block]) ⟨rfl, rfl, rfl, by simp, fun k _ hn => Below.heap_setCell _ _ _ _ (by simpa using hn)⟩ (by simpa using hp)
theorem Keep.grown {S : List Nat} {a w w' : World} {row : Option Nat} (h : Keep S a w) (hg : w.grownBy w' row) (hr : ∀ k, row = some k → k < a.heap.size → k ∈ S) : Keep S a w' :=
  ⟨hg.os.trans h.os, hg.tape.trans h.tape, hg.output.trans h.output, Nat.le_trans h.size hg.size,
    fun i hi hn => (hg.block i (Nat.lt_of_lt_of_le hi h.size) (fun e => hn (hr i e.symm hi))).trans (h.block i hi hn)⟩
theorem Keep.of_below {w w' : World} (h : Below w.heap.size w w') (S : List Nat) : Keep S w w' := ⟨h.os, h.tape, h.output, h.size, fun k hk _ => h.block k hk⟩
theorem Keep.below {S : List Nat} {w w' : World} (h : Keep S w w') (hs : ∀ k ∈ S, w.heap.size ≤ k) : Below w.heap.size w w' :=
  ⟨h.os, h.tape, h.output, h.size, fun k hk => h.block k hk fun hm => by have := hs k hm; omega⟩
theorem Keep.blk {S : List Nat} {w w' : World} (h : Keep S w w') {b : Nat} {T : TypeId} {xs : List Value} (hb : Blk w b T xs) (hn : b ∉ S) : Blk w' b T xs := by
  unfold Blk; rw [h.block b hb.lt hn]; exact hb
theorem Keep.cell {S : List Nat} {w w' : World} (h : Keep S w w') {p : Addr} (hp : p.block < w.heap.size) (hn : p.block ∉ S) : w'.cell? p = w.cell? p :=
  World.cell?_of_block (w := w) (h.block p.block hp hn)
def rows {α : Type} (enc : α → List Value) (L : List α) : List Value := L.flatMap enc
theorem rows_length {α : Type} {enc : α → List Value} {n : Nat} (hn : ∀ x, (enc x).length = n) (L : List α) : (rows enc L).length = n * L.length := by
  induction L with
  | nil => simp [rows]
  | cons x r ih =>
    simp only [rows, List.flatMap_cons, List.length_append, hn, List.length_cons] at *; rw [ih, Nat.mul_add]; omega
theorem rows_get {α : Type} {enc : α → List Value} {n : Nat} (hn : ∀ x, (enc x).length = n) : ∀ (L : List α) (i k : Nat) (x : α), L[i]? = some x → k < n → (rows enc L)[n * i + k]? = (enc x)[k]?
  | [], i, k, x, h, _ => by simp at h
  | y :: r, 0, k, x, h, hk => by
    simp at h; subst h
    simp only [rows, List.flatMap_cons, Nat.mul_zero, Nat.zero_add]; rw [List.getElem?_append_left (by rw [hn]; exact hk)]
  | y :: r, i + 1, k, x, h, hk => by
    have ih := rows_get hn r i k x (by simpa using h) hk; simp only [rows, List.flatMap_cons]; rw [List.getElem?_append_right (by rw [hn, Nat.mul_add]; omega), hn]; rw [show n * (i + 1) + k - n = n * i + k from by rw [Nat.mul_add]; omega]; exact ih
theorem rows_get' {α : Type} {enc : α → List Value} {n : Nat} (hn : ∀ x, (enc x).length = n) (L : List α) (i k : Nat) (x : α) (h : L[i]? = some x) (hk : k < n) : (rows enc L)[i * n + k]? = (enc x)[k]? := by
  rw [Nat.mul_comm]; exact rows_get hn L i k x h hk
theorem list_set_self {α : Type} : ∀ (L : List α) (i : Nat) (x : α), L[i]? = some x → L.set i x = L
  | [], i, x, h => by simp at h
  | y :: r, 0, x, h => by simp at h; simp [h]
  | y :: r, i + 1, x, h => by simp at h; simp [list_set_self r i x h]
def Ext (w : World) : Type := { w' : World // Keep [] w w' }
def ext (w : World) (x : Ext w) : World := x.1
instance (w : World) : Nonempty (Ext w) := ⟨⟨w, Keep.refl _ _⟩⟩
theorem ext_keep (w : World) (x : Ext w) : Keep [] w (ext w x) := x.2
theorem Calls.quiet_ext {P : Program} {f : FuncId} {args : Array Value} {w : World} {n : Ext w} {v : Value}
    (h : Calls P f args (ext w n) fun e w' => e = .returned v ∧ Keep [] (ext w n) w') : Calls P f args (ext w n) fun e w'' => e = .returned v ∧ ∃ m, w'' = ext w m :=
  h.mono fun _ w' ⟨he, hk⟩ => ⟨he, ⟨w', (ext_keep w n).trans hk⟩, rfl⟩
theorem Calls.quiet_ext_same {P : Program} {f : FuncId} {args : Array Value} {w : World} {n : Ext w} {v : Value}
    (h : Calls P f args (ext w n) fun e w' => e = .returned v ∧ ext w n = w') : Calls P f args (ext w n) fun e w'' => e = .returned v ∧ ∃ m, w'' = ext w m :=
  h.mono fun _ _ ⟨he, hk⟩ => ⟨he, n, hk.symm⟩
theorem wp_region_ext_lit {P : Program} {id : Nat} {Q : Exit → Act → World → Prop} {a : Act} {w : World} {l : List Oper} (hm : P.follows .mixedOrders = true) (hB : Region.lexB .any l.toArray = true)
    (h : wpQuiet P l.toArray (fun w' => ∃ n, w' = ext w n) (fun a' => ∀ w', (∃ n, w' = ext w n) → Q .normal a' w') l a) : (Code.region id l.toArray true).wp P Q a w :=
  wp_region_quiet (C := fun w' => ∃ n, w' = ext w n) hm hB ⟨⟨w.drew, (Keep.refl _ _).drew⟩, rfl⟩ (by simpa using h)
def S (l : List UInt8) : ByteArray := ⟨l.toArray⟩
theorem S_list (l : List UInt8) : (S l).data.toList = l := by simp [S]
theorem S_size (l : List UInt8) : (S l).size = l.length := rfl
theorem S_of (s : ByteArray) : S s.data.toList = s := by
  apply ByteArray.ext; simp [S]
theorem S_toList (l : List UInt8) : (S l).toList = l := by rw [ByteArray.toList_eq, S_list]
theorem u8_nat (b : UInt8) : b.toNat < 256 := b.toNat_lt
theorem conv_keep (w : World) (e : TypeId) (s : ByteArray) : Keep [] w (Lib.bytesWorld w e s) := by
  refine ⟨?_, ?_, ?_, by rw [Lib.bytesWorld_size]; omega, fun k hk _ => Lib.bytesWorld_at_old w e s k hk⟩
  · simp [Lib.bytesWorld, World.freeze]; rfl
  · simp [Lib.bytesWorld, World.freeze]
  · simp [Lib.bytesWorld, World.freeze]; rfl
theorem conv_at (w : World) (e : TypeId) {l : List UInt8} {k : Nat} {c : UInt8} (h : l[k]? = some c) : (Lib.bytesWorld w e (S l)).cell? ⟨w.heap.size, k, none⟩ = some (.int .u8 (c.toNat : Nat)) := by
  have hlt : k < l.length := by
    rcases Nat.lt_or_ge k l.length with h' | h'
    · exact h'
    · rw [List.getElem?_eq_none h'] at h; cases h
  rw [Lib.bytesWorld_cell w e (S l) k (by rw [S_size]; exact hlt), S_list]; simp [List.getD, h]
theorem take_snoc {l : List UInt8} {k : Nat} {c : UInt8} (h : l[k]? = some c) : l.take (k + 1) = l.take k ++ [c] := by
  rw [List.take_add_one, h]; rfl
theorem S_extract (l : List UInt8) (a b : Nat) : (S l).extract a b = S ((l.take b).drop a) := by
  apply ByteArray.ext; apply Array.toList_inj.1; rw [Lib.extract_data, S_list]; simp [S, List.drop_take]
theorem S_append (a b : List UInt8) : S a ++ S b = S (a ++ b) := ByteArray.mk_append_mk a b
theorem ret_bool {a b : Bool} (h : a = b) : Ending.returned (.bool a) = Ending.returned (.bool b) := by rw [h]
theorem ret_str {a b : ByteArray} (h : a = b) : Ending.returned (.string a) = Ending.returned (.string b) := by rw [h]
theorem ret_int {k : IntKind} {a b : Int} (h : a = b) : Ending.returned (.int k a) = Ending.returned (.int k b) := by rw [h]
theorem conv_free (w : World) (e : TypeId) (s : ByteArray) {k : Nat} (h : k < s.size) : (Lib.bytesWorld w e s).frozen? ⟨w.heap.size, k, none⟩ = false := by
  have hb := Lib.bytesWorld_at_new w e s
  have hsz : s.size ≤ (Lib.bytesCells w e s).size := by
    have : s.data.size = s.size := rfl; simp [Lib.bytesCells, this]
  simp only [World.frozen?, hb]; simp; intro h'; omega
def marks : List UInt8 := [33, 35, 36, 37, 38, 39, 42, 43, 45, 46, 94, 95, 96, 124, 126]
def tchar (b : UInt8) : Bool := (decide (97 ≤ b.toNat) && decide (b.toNat ≤ 122)) || (decide (65 ≤ b.toNat) && decide (b.toNat ≤ 90)) || (decide (48 ≤ b.toNat) && decide (b.toNat ≤ 57)) || decide (0 ≤ Lib.indexByte marks b)
def isTok (l : List UInt8) : Bool := l.all tchar && !l.isEmpty
def textB (b : UInt8) : Bool := !(decide (b.toNat < 32) && b.toNat != 9 || b.toNat == 127)
def isTxt (l : List UInt8) : Bool := l.all textB
def trimW (l : List UInt8) : List UInt8 := Lib.trimS l [32, 9]
def lowB (b : UInt8) : UInt8 := if 65 ≤ b.toNat ∧ b.toNat ≤ 90 then b + 32 else b
def lowW (l : List UInt8) : List UInt8 := l.map lowB
structure Fld where
  name : List UInt8
  value : List UInt8
  deriving DecidableEq, Inhabited
def Fld.cells (f : Fld) : List Value := [.string (S f.name), .string (S f.value)]
theorem Fld.cells_length (f : Fld) : f.cells.length = 2 := rfl
def parseF (l : List UInt8) : Option Fld :=
  let c := Lib.cut l [58]
  if c.2.2 && isTok c.1 && isTxt c.2.1 then some ⟨c.1, trimW c.2.1⟩ else none
def parseV (l : List UInt8) : Fld := (parseF l).getD ⟨[], []⟩
def parseE (l : List UInt8) : Int := if (parseF l).isSome then 0 else 3
def goodF (f : Fld) : Bool := isTok f.name && isTxt f.value && trimW f.value == f.value
def printF (f : Fld) : List UInt8 := f.name ++ [58, 32] ++ f.value
end Go.Proofs.YtlhnjkekjbbhcaaGreatDoor
namespace Go.Proofs
open Go.Shelf
def Tryz.lays170_ren : Go.Shelf.Ren := ⟨fun | 170 => 137 | n => n, fun | 70 => 172 | 3 => 3 | 0 => 0 | 72 => 174 | 37 => 143 | 5 => 5 | n => n, fun | n => n⟩
theorem Tryz.lays170 : Go.Proofs.Lays.n170 Tryz.prog Tryz.lays170_ren := {
  mixed := by kernel_rfl
  f170 := Tryz.func137.trans (congrArg some (by kernel_rfl))
  t0 := Tryz.underlying0
  a0 := Tryz.isAgg0
  z0 := Tryz.sizeOf0
  v0 := Tryz.zeroValue0
  t3 := Tryz.underlying3
  a3 := Tryz.isAgg3
  z3 := Tryz.sizeOf3
  v3 := Tryz.zeroValue3
  t37 := Tryz.underlying143
  a37 := Tryz.isAgg143
  z37 := Tryz.sizeOf143
  v37 := Tryz.zeroValue143
  t70 := Tryz.underlying172
  a70 := Tryz.isAgg172
  z70 := Tryz.sizeOf172
  v70 := Tryz.zeroValue172
  t72 := Tryz.underlying174
  a72 := Tryz.isAgg174
  z72 := Tryz.sizeOf174
  v72 := Tryz.zeroValue174 }
open Go.RowKit in
theorem Tryz.Builder_Len (B b : Nat) (bs : List Value) (w : World) (h : Lib.IsBuilder 174 5 B b bs w) :
    Calls Tryz.prog 137 #[.pointer (some ⟨b, 0, none⟩)] w fun e w' => e = .returned (.int .i64 bs.length) ∧ w' = w := Any.Builder_Len Tryz.lays170 B b bs w h
def Tryz.lays169_ren : Go.Shelf.Ren := ⟨fun | 169 => 138 | n => n, fun | 70 => 172 | 9 => 9 | 0 => 0 | 72 => 174 | 37 => 143 | 127 => 204 | 3 => 3 | 5 => 5 | n => n, fun | n => n⟩
theorem Tryz.lays169 : Go.Proofs.Lays.n169 Tryz.prog Tryz.lays169_ren := {
  mixed := by kernel_rfl
  f169 := Tryz.func138.trans (congrArg some (by kernel_rfl))
  t0 := Tryz.underlying0
  a0 := Tryz.isAgg0
  z0 := Tryz.sizeOf0
  v0 := Tryz.zeroValue0
  t3 := Tryz.underlying3
  a3 := Tryz.isAgg3
  z3 := Tryz.sizeOf3
  v3 := Tryz.zeroValue3
  t9 := Tryz.underlying9
  a9 := Tryz.isAgg9
  z9 := Tryz.sizeOf9
  v9 := Tryz.zeroValue9
  t37 := Tryz.underlying143
  a37 := Tryz.isAgg143
  z37 := Tryz.sizeOf143
  v37 := Tryz.zeroValue143
  t70 := Tryz.underlying172
  a70 := Tryz.isAgg172
  z70 := Tryz.sizeOf172
  v70 := Tryz.zeroValue172
  t72 := Tryz.underlying174
  a72 := Tryz.isAgg174
  z72 := Tryz.sizeOf174
  v72 := Tryz.zeroValue174
  t127 := Tryz.underlying204
  a127 := Tryz.isAgg204
  z127 := Tryz.sizeOf204
  v127 := Tryz.zeroValue204 }
theorem Tryz.Builder_Extra_169 : Builder.Extra Tryz.prog Tryz.lays169_ren := {
  sizeBuilder := by kernel_rfl
  liesBuilder := by kernel_rfl
  t5 := Tryz.underlying5
  a5 := Tryz.isAgg5
  z5 := Tryz.sizeOf5
  v5 := Tryz.zeroValue5
  infoByte := by kernel_rfl
  cellsByte := by kernel_rfl
  sizeByte := by kernel_rfl
  neB5 := by decide }
open Go.RowKit in
theorem Tryz.Builder_String_any (B b : Nat) (l : List UInt8) (w : World) (h : Lib.IsBuilder 174 5 B b (Lib.byteCells l) w) (hBw : B ≤ w.heap.size) :
    Calls Tryz.prog 138 #[.pointer (some ⟨b, 0, none⟩)] w fun e w' => e = .returned (.string ⟨l.toArray⟩) ∧ Below B w w' := Any.Builder_String_any Tryz.lays169 Tryz.Builder_Extra_169 B b l w h hBw
def Tryz.lays161_ren : Go.Shelf.Ren := ⟨fun | 161 => 146 | 231 => 182 | 227 => 183 | 233 => 184 | 235 => 185 | 228 => 212 | 197 => 180 | 151 => 213 | 260 => 211 | 152 => 233 | 137 => 97 | 119 => 245 | 224 => 231 | 225 => 230 | 217 => 148 | 266 => 187 | n => n, fun | 9 => 9 | 4 => 4 | 3 => 3 | 5 => 5 | 117 => 210 | 116 => 209 | 0 => 0 | 124 => 213 | 105 => 205 | 21 => 21 | 119 => 235 | 46 => 60 | 139 => 238 | 138 => 237 | n => n, fun | 3 => 2 | 4 => 3 | n => n⟩
theorem Tryz.lays161 : Go.Proofs.Lays.n161 Tryz.prog Tryz.lays161_ren := {
  mixed := by kernel_rfl
  f119 := Tryz.func245.trans (congrArg some (by kernel_rfl))
  f137 := Tryz.func97.trans (congrArg some (by kernel_rfl))
  f151 := Tryz.func213.trans (congrArg some (by kernel_rfl))
  f152 := Tryz.func233.trans (congrArg some (by kernel_rfl))
  f161 := Tryz.func146.trans (congrArg some (by kernel_rfl))
  f197 := Tryz.func180.trans (congrArg some (by kernel_rfl))
  f217 := Tryz.func148.trans (congrArg some (by kernel_rfl))
  f224 := Tryz.func231.trans (congrArg some (by kernel_rfl))
  f225 := Tryz.func230.trans (congrArg some (by kernel_rfl))
  f227 := Tryz.func183.trans (congrArg some (by kernel_rfl))
  f228 := Tryz.func212.trans (congrArg some (by kernel_rfl))
  f231 := Tryz.func182.trans (congrArg some (by kernel_rfl))
  f233 := Tryz.func184.trans (congrArg some (by kernel_rfl))
  f235 := Tryz.func185.trans (congrArg some (by kernel_rfl))
  f260 := Tryz.func211.trans (congrArg some (by kernel_rfl))
  f266 := Tryz.func187.trans (congrArg some (by kernel_rfl))
  t0 := Tryz.underlying0
  a0 := Tryz.isAgg0
  z0 := Tryz.sizeOf0
  v0 := Tryz.zeroValue0
  t3 := Tryz.underlying3
  a3 := Tryz.isAgg3
  z3 := Tryz.sizeOf3
  v3 := Tryz.zeroValue3
  t4 := Tryz.underlying4
  a4 := Tryz.isAgg4
  z4 := Tryz.sizeOf4
  v4 := Tryz.zeroValue4
  t5 := Tryz.underlying5
  a5 := Tryz.isAgg5
  z5 := Tryz.sizeOf5
  v5 := Tryz.zeroValue5
  t9 := Tryz.underlying9
  a9 := Tryz.isAgg9
  z9 := Tryz.sizeOf9
  v9 := Tryz.zeroValue9
  t21 := Tryz.underlying21
  a21 := Tryz.isAgg21
  z21 := Tryz.sizeOf21
  v21 := Tryz.zeroValue21
  t46 := Tryz.underlying60
  a46 := Tryz.isAgg60
  z46 := Tryz.sizeOf60
  v46 := Tryz.zeroValue60
  t105 := Tryz.underlying205
  a105 := Tryz.isAgg205
  z105 := Tryz.sizeOf205
  v105 := Tryz.zeroValue205
  t116 := Tryz.underlying209
  a116 := Tryz.isAgg209
  z116 := Tryz.sizeOf209
  t117 := Tryz.underlying210
  a117 := Tryz.isAgg210
  z117 := Tryz.sizeOf210
  v117 := Tryz.zeroValue210
  t119 := Tryz.underlying235
  a119 := Tryz.isAgg235
  z119 := Tryz.sizeOf235
  t124 := Tryz.underlying213
  a124 := Tryz.isAgg213
  z124 := Tryz.sizeOf213
  v124 := Tryz.zeroValue213
  t138 := Tryz.underlying237
  a138 := Tryz.isAgg237
  z138 := Tryz.sizeOf237
  v138 := Tryz.zeroValue237
  t139 := Tryz.underlying238
  a139 := Tryz.isAgg238
  z139 := Tryz.sizeOf238
  v139 := Tryz.zeroValue238
  g3 := by kernel_rfl
  g4 := by kernel_rfl }
def Tryz.lays160_ren : Go.Shelf.Ren := ⟨fun | 160 => 186 | 232 => 214 | 231 => 182 | 227 => 183 | 234 => 215 | 233 => 184 | 236 => 216 | 235 => 185 | 228 => 212 | 271 => 234 | 151 => 213 | 197 => 180 | 120 => 246 | 152 => 233 | 260 => 211 | 137 => 97 | 119 => 245 | 224 => 231 | 225 => 230 | 217 => 148 | 266 => 187 | n => n, fun | 9 => 9 | 4 => 4 | 3 => 3 | 5 => 5 | 117 => 210 | 116 => 209 | 0 => 0 | 124 => 213 | 21 => 21 | 105 => 205 | 46 => 60 | 119 => 235 | 139 => 238 | 138 => 237 | n => n, fun | 3 => 2 | 4 => 3 | n => n⟩
theorem Tryz.lays160 : Go.Proofs.Lays.n160 Tryz.prog Tryz.lays160_ren := {
  mixed := by kernel_rfl
  f119 := Tryz.func245.trans (congrArg some (by kernel_rfl))
  f120 := Tryz.func246.trans (congrArg some (by kernel_rfl))
  f137 := Tryz.func97.trans (congrArg some (by kernel_rfl))
  f151 := Tryz.func213.trans (congrArg some (by kernel_rfl))
  f152 := Tryz.func233.trans (congrArg some (by kernel_rfl))
  f160 := Tryz.func186.trans (congrArg some (by kernel_rfl))
  f197 := Tryz.func180.trans (congrArg some (by kernel_rfl))
  f217 := Tryz.func148.trans (congrArg some (by kernel_rfl))
  f224 := Tryz.func231.trans (congrArg some (by kernel_rfl))
  f225 := Tryz.func230.trans (congrArg some (by kernel_rfl))
  f227 := Tryz.func183.trans (congrArg some (by kernel_rfl))
  f228 := Tryz.func212.trans (congrArg some (by kernel_rfl))
  f231 := Tryz.func182.trans (congrArg some (by kernel_rfl))
  f232 := Tryz.func214.trans (congrArg some (by kernel_rfl))
  f233 := Tryz.func184.trans (congrArg some (by kernel_rfl))
  f234 := Tryz.func215.trans (congrArg some (by kernel_rfl))
  f235 := Tryz.func185.trans (congrArg some (by kernel_rfl))
  f236 := Tryz.func216.trans (congrArg some (by kernel_rfl))
  f260 := Tryz.func211.trans (congrArg some (by kernel_rfl))
  f266 := Tryz.func187.trans (congrArg some (by kernel_rfl))
  f271 := Tryz.func234.trans (congrArg some (by kernel_rfl))
  t0 := Tryz.underlying0
  a0 := Tryz.isAgg0
  z0 := Tryz.sizeOf0
  v0 := Tryz.zeroValue0
  t3 := Tryz.underlying3
  a3 := Tryz.isAgg3
  z3 := Tryz.sizeOf3
  v3 := Tryz.zeroValue3
  t4 := Tryz.underlying4
  a4 := Tryz.isAgg4
  z4 := Tryz.sizeOf4
  v4 := Tryz.zeroValue4
  t5 := Tryz.underlying5
  a5 := Tryz.isAgg5
  z5 := Tryz.sizeOf5
  v5 := Tryz.zeroValue5
  t9 := Tryz.underlying9
  a9 := Tryz.isAgg9
  z9 := Tryz.sizeOf9
  v9 := Tryz.zeroValue9
  t21 := Tryz.underlying21
  a21 := Tryz.isAgg21
  z21 := Tryz.sizeOf21
  v21 := Tryz.zeroValue21
  t46 := Tryz.underlying60
  a46 := Tryz.isAgg60
  z46 := Tryz.sizeOf60
  v46 := Tryz.zeroValue60
  t105 := Tryz.underlying205
  a105 := Tryz.isAgg205
  z105 := Tryz.sizeOf205
  v105 := Tryz.zeroValue205
  t116 := Tryz.underlying209
  a116 := Tryz.isAgg209
  z116 := Tryz.sizeOf209
  t117 := Tryz.underlying210
  a117 := Tryz.isAgg210
  z117 := Tryz.sizeOf210
  v117 := Tryz.zeroValue210
  t119 := Tryz.underlying235
  a119 := Tryz.isAgg235
  z119 := Tryz.sizeOf235
  t124 := Tryz.underlying213
  a124 := Tryz.isAgg213
  z124 := Tryz.sizeOf213
  v124 := Tryz.zeroValue213
  t138 := Tryz.underlying237
  a138 := Tryz.isAgg237
  z138 := Tryz.sizeOf237
  v138 := Tryz.zeroValue237
  t139 := Tryz.underlying238
  a139 := Tryz.isAgg238
  z139 := Tryz.sizeOf238
  v139 := Tryz.zeroValue238
  g3 := by kernel_rfl
  g4 := by kernel_rfl }
def Tryz.lays137_ren : Go.Shelf.Ren := ⟨fun | 137 => 97 | 217 => 148 | 266 => 187 | n => n, fun | 9 => 9 | 5 => 5 | 3 => 3 | n => n, fun | n => n⟩
theorem Tryz.lays137 : Go.Proofs.Lays.n137 Tryz.prog Tryz.lays137_ren := {
  mixed := by kernel_rfl
  f137 := Tryz.func97.trans (congrArg some (by kernel_rfl))
  f217 := Tryz.func148.trans (congrArg some (by kernel_rfl))
  f266 := Tryz.func187.trans (congrArg some (by kernel_rfl))
  t3 := Tryz.underlying3
  a3 := Tryz.isAgg3
  z3 := Tryz.sizeOf3
  v3 := Tryz.zeroValue3
  t5 := Tryz.underlying5
  a5 := Tryz.isAgg5
  z5 := Tryz.sizeOf5
  v5 := Tryz.zeroValue5
  t9 := Tryz.underlying9
  a9 := Tryz.isAgg9
  z9 := Tryz.sizeOf9
  v9 := Tryz.zeroValue9 }
open Go.RowKit in
theorem Tryz.strings_IndexByte (s : ByteArray) (c : Int) (w : World) :
    Calls Tryz.prog 97 #[.string s, .int .u8 c] w fun e w' => e = .returned (.int .i64 (Lib.indexByte s.data.toList c.toNat.toUInt8)) ∧ w' = w := Any.strings_IndexByte Tryz.lays137 s c w
def Tryz.lays103_ren : Go.Shelf.Ren := ⟨fun | 103 => 74 | 210 => 121 | 206 => 167 | n => n, fun | 9 => 9 | 4 => 4 | 24 => 121 | 3 => 3 | n => n, fun | n => n⟩
theorem Tryz.lays103 : Go.Proofs.Lays.n103 Tryz.prog Tryz.lays103_ren := {
  mixed := by kernel_rfl
  f103 := Tryz.func74.trans (congrArg some (by kernel_rfl))
  f206 := Tryz.func167.trans (congrArg some (by kernel_rfl))
  f210 := Tryz.func121.trans (congrArg some (by kernel_rfl))
  t3 := Tryz.underlying3
  a3 := Tryz.isAgg3
  z3 := Tryz.sizeOf3
  v3 := Tryz.zeroValue3
  t4 := Tryz.underlying4
  a4 := Tryz.isAgg4
  z4 := Tryz.sizeOf4
  v4 := Tryz.zeroValue4
  t9 := Tryz.underlying9
  a9 := Tryz.isAgg9
  z9 := Tryz.sizeOf9
  v9 := Tryz.zeroValue9
  t24 := Tryz.underlying121
  a24 := Tryz.isAgg121
  z24 := Tryz.sizeOf121
  v24 := Tryz.zeroValue121 }
open Go.RowKit in
theorem Tryz.strings_CutPrefix (s p : ByteArray) (w : World) :
    Calls Tryz.prog 74 #[.string s, .string p] w fun e w' => e = .returned (.tuple #[.string ⟨(Lib.trimPrefix s.data.toList p.data.toList).toArray⟩, .bool (Lib.hasPrefix s.data.toList p.data.toList)]) ∧ w' = w := Any.strings_CutPrefix Tryz.lays103 s p w
def Tryz.lays104_ren : Go.Shelf.Ren := ⟨fun | 104 => 222 | 211 => 238 | 207 => 249 | n => n, fun | 9 => 9 | 4 => 4 | 24 => 121 | 3 => 3 | n => n, fun | n => n⟩
theorem Tryz.lays104 : Go.Proofs.Lays.n104 Tryz.prog Tryz.lays104_ren := {
  mixed := by kernel_rfl
  f104 := Tryz.func222.trans (congrArg some (by kernel_rfl))
  f207 := Tryz.func249.trans (congrArg some (by kernel_rfl))
  f211 := Tryz.func238.trans (congrArg some (by kernel_rfl))
  t3 := Tryz.underlying3
  a3 := Tryz.isAgg3
  z3 := Tryz.sizeOf3
  v3 := Tryz.zeroValue3
  t4 := Tryz.underlying4
  a4 := Tryz.isAgg4
  z4 := Tryz.sizeOf4
  v4 := Tryz.zeroValue4
  t9 := Tryz.underlying9
  a9 := Tryz.isAgg9
  z9 := Tryz.sizeOf9
  v9 := Tryz.zeroValue9
  t24 := Tryz.underlying121
  a24 := Tryz.isAgg121
  z24 := Tryz.sizeOf121
  v24 := Tryz.zeroValue121 }
open Go.RowKit in
theorem Tryz.strings_CutSuffix (s p : ByteArray) (w : World) (hs : s.size ≤ 9223372036854775807) :
    Calls Tryz.prog 222 #[.string s, .string p] w fun e w' => e = .returned (.tuple #[.string ⟨(Lib.trimSuffix s.data.toList p.data.toList).toArray⟩, .bool (Lib.hasSuffix s.data.toList p.data.toList)]) ∧ w' = w := Any.strings_CutSuffix Tryz.lays104 s p w hs
def Tryz.lays219_ren : Go.Shelf.Ren := ⟨fun | 219 => 209 | 217 => 148 | 225 => 230 | 224 => 231 | 267 => 232 | 266 => 187 | 314 => 244 | n => n, fun | 9 => 9 | 3 => 3 | 4 => 4 | 5 => 5 | 46 => 60 | 146 => 218 | 51 => 217 | n => n, fun | 1 => 1 | n => n⟩
def Tryz.lays143_ren : Go.Shelf.Ren := ⟨fun | 143 => 181 | 219 => 209 | 217 => 148 | 225 => 230 | 224 => 231 | 267 => 232 | 266 => 187 | 314 => 244 | n => n, fun | 9 => 9 | 3 => 3 | 4 => 4 | 5 => 5 | 46 => 60 | 146 => 218 | 51 => 217 | n => n, fun | 1 => 1 | n => n⟩
theorem Tryz.lays143 : Go.Proofs.Lays.n143 Tryz.prog Tryz.lays143_ren := {
  mixed := by kernel_rfl
  f143 := Tryz.func181.trans (congrArg some (by kernel_rfl))
  f217 := Tryz.func148.trans (congrArg some (by kernel_rfl))
  f219 := Tryz.func209.trans (congrArg some (by kernel_rfl))
  f224 := Tryz.func231.trans (congrArg some (by kernel_rfl))
  f225 := Tryz.func230.trans (congrArg some (by kernel_rfl))
  f266 := Tryz.func187.trans (congrArg some (by kernel_rfl))
  f267 := Tryz.func232.trans (congrArg some (by kernel_rfl))
  f314 := Tryz.func244.trans (congrArg some (by kernel_rfl))
  t3 := Tryz.underlying3
  a3 := Tryz.isAgg3
  z3 := Tryz.sizeOf3
  v3 := Tryz.zeroValue3
  t4 := Tryz.underlying4
  a4 := Tryz.isAgg4
  z4 := Tryz.sizeOf4
  v4 := Tryz.zeroValue4
  t5 := Tryz.underlying5
  a5 := Tryz.isAgg5
  z5 := Tryz.sizeOf5
  v5 := Tryz.zeroValue5
  t9 := Tryz.underlying9
  a9 := Tryz.isAgg9
  z9 := Tryz.sizeOf9
  v9 := Tryz.zeroValue9
  t46 := Tryz.underlying60
  a46 := Tryz.isAgg60
  z46 := Tryz.sizeOf60
  v46 := Tryz.zeroValue60
  t51 := Tryz.underlying217
  a51 := Tryz.isAgg217
  z51 := Tryz.sizeOf217
  v51 := Tryz.zeroValue217
  t146 := Tryz.underlying218
  a146 := Tryz.isAgg218
  z146 := Tryz.sizeOf218
  v146 := Tryz.zeroValue218
  g1 := by kernel_rfl }
open Go.RowKit Go.Lib in
theorem Tryz.strings_Index_one (s : ByteArray) (c : UInt8) (w : World) :
    Calls Tryz.prog 181 #[.string s, .string ⟨#[c]⟩] w fun e w' => e = .returned (.int .i64 (Lib.indexByte s.data.toList c)) ∧ w' = w := Any.strings_Index_one Tryz.lays143 s c w
def Tryz.lays145_ren : Go.Shelf.Ren := ⟨fun | 145 => 130 | 220 => 173 | 219 => 209 | 217 => 148 | 225 => 230 | 224 => 231 | 267 => 232 | 266 => 187 | 314 => 244 | n => n, fun | 9 => 9 | 4 => 4 | 59 => 123 | 3 => 3 | 5 => 5 | 46 => 60 | 146 => 218 | 51 => 217 | n => n, fun | 1 => 1 | n => n⟩
theorem Tryz.lays145 : Go.Proofs.Lays.n145 Tryz.prog Tryz.lays145_ren := {
  mixed := by kernel_rfl
  f145 := Tryz.func130.trans (congrArg some (by kernel_rfl))
  f217 := Tryz.func148.trans (congrArg some (by kernel_rfl))
  f219 := Tryz.func209.trans (congrArg some (by kernel_rfl))
  f220 := Tryz.func173.trans (congrArg some (by kernel_rfl))
  f224 := Tryz.func231.trans (congrArg some (by kernel_rfl))
  f225 := Tryz.func230.trans (congrArg some (by kernel_rfl))
  f266 := Tryz.func187.trans (congrArg some (by kernel_rfl))
  f267 := Tryz.func232.trans (congrArg some (by kernel_rfl))
  f314 := Tryz.func244.trans (congrArg some (by kernel_rfl))
  t3 := Tryz.underlying3
  a3 := Tryz.isAgg3
  z3 := Tryz.sizeOf3
  v3 := Tryz.zeroValue3
  t4 := Tryz.underlying4
  a4 := Tryz.isAgg4
  z4 := Tryz.sizeOf4
  v4 := Tryz.zeroValue4
  t5 := Tryz.underlying5
  a5 := Tryz.isAgg5
  z5 := Tryz.sizeOf5
  v5 := Tryz.zeroValue5
  t9 := Tryz.underlying9
  a9 := Tryz.isAgg9
  z9 := Tryz.sizeOf9
  v9 := Tryz.zeroValue9
  t46 := Tryz.underlying60
  a46 := Tryz.isAgg60
  z46 := Tryz.sizeOf60
  v46 := Tryz.zeroValue60
  t51 := Tryz.underlying217
  a51 := Tryz.isAgg217
  z51 := Tryz.sizeOf217
  v51 := Tryz.zeroValue217
  t59 := Tryz.underlying123
  a59 := Tryz.isAgg123
  z59 := Tryz.sizeOf123
  v59 := Tryz.zeroValue123
  t146 := Tryz.underlying218
  a146 := Tryz.isAgg218
  z146 := Tryz.sizeOf218
  v146 := Tryz.zeroValue218
  g1 := by kernel_rfl }
open Go.RowKit Go.Lib in
theorem Tryz.strings_Cut (s sep : ByteArray) (m : Int) (w : World) (hs : s.size < 4294967281) (hm : w.cell? ⟨1, 0, none⟩ = some (.int .i64 m)) :
    Calls Tryz.prog 130 #[.string s, .string sep] w fun e w' => e = .returned (.tuple #[.string ⟨(Lib.cut s.data.toList sep.data.toList).1.toArray⟩, .string ⟨(Lib.cut s.data.toList sep.data.toList).2.1.toArray⟩, .bool (Lib.cut s.data.toList sep.data.toList).2.2]) ∧ ∃ n, w' = w.drewN n := Any.strings_Cut Tryz.lays145 s sep m w hs hm
end Go.Proofs
namespace Go.Proofs.YtlhnjkekjbbhcaaGreatDoor
open Go.RowKit Go.Shelf
theorem conv_run (w : World) (s : ByteArray) : (convert 9 143 (.string s)).run Tryz.prog w = .ok (.slice (some ⟨w.heap.size, 0, none⟩) s.size (grownCap w s.size 0 5)) (Lib.bytesWorld w 5 s) :=
  Lib.run_convert_string_bytes w 9 143 5 s Tryz.underlying9 Tryz.underlying143 Tryz.underlying5
set_option maxRecDepth 100000 in
set_option maxHeartbeats 400000 in
theorem field_isTchar (b : UInt8) (w : World) :
    Calls Tryz.prog 174 #[.int .u8 b.toNat] w fun e w' => e = .returned (.bool (tchar b)) ∧ w = w' := by
  have hb := u8_nat b; have hix := Tryz.strings_IndexByte (S marks) b.toNat; have ec : ((b.toNat : Int)).toNat.toUInt8 = b := by simp
  rw [ec, S_list] at hix; go_enter Tryz.func174, Tryz.ntmps174; go_wp2_with fail
  all_goals first
    | (refine (hix _).mono ?_
       rintro e w1 ⟨rfl, rfl⟩; go_wp2_with fail; go_ret; refine ⟨?_, rfl⟩; congr 2; simp only [tchar]; simp; omega)
    | (go_ret
       refine ⟨?_, rfl⟩; congr 2; simp only [tchar]; simp; omega)
set_option maxRecDepth 100000 in
set_option maxHeartbeats 400000 in
theorem field_IsToken (l : List UInt8) (w : World) (hs : l.length ≤ maxLen) :
    Calls Tryz.prog 131 #[.string (S l)] w fun e w' => e = .returned (.bool (isTok l)) ∧ Keep [] w w' := by
  have hs' : l.length ≤ 9223372036854775807 := hs; have hcv := conv_run w (S l); have hcell : Hid (∀ (k : Nat) (c : UInt8), l[k]? = some c → _) := fun k c h => conv_at w 5 h
  have hkp := conv_keep w 5 (S l); generalize Lib.bytesWorld w 5 (S l) = wb at hcv hcell hkp; have hsz := S_size l; have hte := S_toList l; clear hs; go_enter Tryz.func131, Tryz.ntmps131; go_wp2_with fail
  go_loop [8] (fun i => ∃ k : Nat, i = .int .i64 k ∧ k ≤ l.length ∧ Hid ((l.take k).all tchar = true)) (fun i => l.length - (intOf i).toNat)
  case atStart => exact ⟨0, rfl, Nat.zero_le _, by simp [Hid]⟩
  case round =>
    obtain ⟨k, rfl, hk, hall⟩ := hrel; by_cases hlt : k < l.length
    · obtain ⟨c, hg⟩ : ∃ c, l[k]? = some c := ⟨_, List.getElem?_eq_getElem hlt⟩
      have hc := hcell.out k c hg; have hT := field_isTchar c; have HG := Lib.hid hg; clear hg
      cases ht : tchar c with
      | true =>
        rw [ht] at hT; have HT := Lib.hid ht; clear ht; go_wp2_with (go_at_call 174; refine (hT _).mono ?_; rintro e w1 ⟨rfl, rfl⟩)
        go_round
        case rel => exact ⟨k + 1, by go_num, by omega, by rw [Hid, take_snoc HG.out, List.all_append, hall.out]; simp [HT.out]⟩
        case measure => simp [intOf]; omega
      | false =>
        rw [ht] at hT; have HT := Lib.hid ht; clear ht; go_wp2_with (go_at_call 174; refine (hT _).mono ?_; rintro e w1 ⟨rfl, rfl⟩); go_ret
        have : isTok l = false := by
          unfold isTok; rw [show l.all tchar = false from by rw [List.all_eq_false]; exact ⟨c, List.mem_of_getElem? HG.out, by simp [HT.out]⟩]; rfl
        exact ⟨ret_bool this.symm, hkp⟩
    · have e : l.take k = l := List.take_of_length_le (by omega); rw [e] at hall; clear e; go_wp2_with fail; go_ret; refine ⟨ret_bool ?_, hkp⟩; unfold isTok; rw [hall.out]; simp
set_option maxRecDepth 100000 in
set_option maxHeartbeats 400000 in
theorem field_isText (l : List UInt8) (w : World) (hs : l.length ≤ maxLen) :
    Calls Tryz.prog 177 #[.string (S l)] w fun e w' => e = .returned (.bool (isTxt l)) ∧ Keep [] w w' := by
  have hs' : l.length ≤ 9223372036854775807 := hs; have hcv := conv_run w (S l); have hcell : Hid (∀ (k : Nat) (c : UInt8), l[k]? = some c → _) := fun k c h => conv_at w 5 h
  have hkp := conv_keep w 5 (S l); generalize Lib.bytesWorld w 5 (S l) = wb at hcv hcell hkp; have hsz := S_size l; clear hs; go_enter Tryz.func177, Tryz.ntmps177; go_wp2_with fail
  go_loop [8] (fun i => ∃ k : Nat, i = .int .i64 k ∧ k ≤ l.length ∧ Hid ((l.take k).all textB = true)) (fun i => l.length - (intOf i).toNat)
  case atStart => exact ⟨0, rfl, Nat.zero_le _, by simp [Hid]⟩
  case round =>
    obtain ⟨k, rfl, hk, hall⟩ := hrel; by_cases hlt : k < l.length
    · obtain ⟨c, hg⟩ : ∃ c, l[k]? = some c := ⟨_, List.getElem?_eq_getElem hlt⟩
      have hc := hcell.out k c hg; have hc8 := u8_nat c; have HG := Lib.hid hg; clear hg; by_cases ht : textB c = true
      · have h1 : c.toNat ≠ 127 ∧ (32 ≤ c.toNat ∨ c.toNat = 9) := by simp [textB] at ht; omega
        have HT := Lib.hid ht; obtain ⟨h2, h3⟩ := h1; have h4 : (((c.toNat : Nat) : Int) == 127) = false := by simp; omega
        clear ht; by_cases h5 : c.toNat < 32
        · have h6 : (((c.toNat : Nat) : Int) != 9) = false := by simp; omega
          clear h2 h3; go_wp2_with fail
          go_round
          case rel => exact ⟨k + 1, by go_num, by omega, by rw [Hid, take_snoc HG.out, List.all_append, hall.out]; simp [HT.out]⟩
          case measure => simp [intOf]; omega
        · clear h2 h3; go_wp2_with fail
          go_round
          case rel => exact ⟨k + 1, by go_num, by omega, by rw [Hid, take_snoc HG.out, List.all_append, hall.out]; simp [HT.out]⟩
          case measure => simp [intOf]; omega
      · have HT := Lib.hid ht
        have this : isTxt l = false := by
          unfold isTxt; rw [List.all_eq_false]; exact ⟨c, List.mem_of_getElem? HG.out, ht⟩
        have H := Lib.hid this; by_cases h5 : c.toNat = 127
        · have h4 : (((c.toNat : Nat) : Int) == 127) = true := by simp; omega
          have h7 : ¬ c.toNat < 32 := by omega
          clear this ht h5; go_wp2_with fail; go_ret; exact ⟨ret_bool H.out.symm, hkp⟩
        · have h1 : c.toNat < 32 ∧ c.toNat ≠ 9 := by simp [textB] at ht; omega
          have h6 : (((c.toNat : Nat) : Int) != 9) = true := by simp; omega
          obtain ⟨h1, h2⟩ := h1; clear this ht h5 h2; go_wp2_with fail; go_ret; exact ⟨ret_bool H.out.symm, hkp⟩
    · have e : l.take k = l := List.take_of_length_le (by omega); rw [e] at hall; clear e; go_wp2_with fail; go_ret; exact ⟨ret_bool hall.out.symm, hkp⟩
set_option maxRecDepth 100000 in
set_option maxHeartbeats 400000 in
theorem field_trim (l : List UInt8) (w : World) (hs : l.length ≤ maxLen) :
    Calls Tryz.prog 178 #[.string (S l)] w fun e w' => e = .returned (.string (S (trimW l))) ∧ Keep [] w w' := by
  have hT := Any.strings_Trim_laid Tryz.lays160 (by kernel_rfl) (S l) ⟨#[32, 9]⟩ w hs (by decide) (ascii_of_all (by decide)); rw [S_list] at hT; go_enter Tryz.func178, Tryz.ntmps178; go_wp2_with (go_at_call 186; refine hT.mono ?_; rintro e w1 ⟨rfl, hb⟩); go_ret; exact ⟨rfl, Keep.of_below hb _⟩
def ML (w : World) : Prop := ∃ m, w.cell? ⟨1, 0, none⟩ = some (.int .i64 m)
theorem ML.keep {w w' : World} {S : List Nat} (h : ML w) (k : Keep S w w') (hn : 1 ∉ S) : ML w' := by
  obtain ⟨m, hm⟩ := h; have := World.block_lt_of_cell? w _ hm; exact ⟨m, (k.cell (p := ⟨1, 0, none⟩) this hn).trans hm⟩
theorem cut_len (l sep : List UInt8) : (Lib.cut l sep).1.length ≤ l.length ∧ (Lib.cut l sep).2.1.length ≤ l.length := by
  unfold Lib.cut
  split
  · simp; omega
  · simp
theorem strings_Cut (l : List UInt8) (sep : ByteArray) (w : World) (hm : ML w) (hl : l.length < 4294967281) :
    Calls Tryz.prog 130 #[.string (S l), .string sep] w fun e w' => e = .returned (.tuple #[.string (S (Lib.cut l sep.data.toList).1), .string (S (Lib.cut l sep.data.toList).2.1), .bool (Lib.cut l sep.data.toList).2.2]) ∧ Keep [] w w' := by
  obtain ⟨m, hm⟩ := hm; have h := Tryz.strings_Cut (S l) sep m w hl hm; rw [S_list] at h; exact h.mono fun e w' ⟨he, n, hn⟩ => ⟨he, by rw [hn]; exact (Keep.refl _ _).drewN n⟩
set_option maxRecDepth 100000 in
set_option maxHeartbeats 400000 in
theorem field_Parse (l : List UInt8) (w : World) (hm : ML w) (hl : l.length < 4294967281) :
    Calls Tryz.prog 223 #[.string (S l)] w fun e w' => e = .returned (.tuple #[.agg (parseV l).cells.toArray, .int .i64 (parseE l)]) ∧ Keep [] w w' := by
  have hC := fun w1 (k : Keep [] w w1) => strings_Cut l ⟨#[58]⟩ w1 (hm.keep k (by simp)) hl
  have hlen := cut_len l [58]; have hP : parseF l = if (Lib.cut l [58]).2.2 && isTok (Lib.cut l [58]).1 && isTxt (Lib.cut l [58]).2.1 then some ⟨(Lib.cut l [58]).1, trimW (Lib.cut l [58]).2.1⟩ else none := rfl
  change ∀ w1, Keep [] w w1 → Calls Tryz.prog 130 #[.string (S l), .string ⟨#[58]⟩] w1 fun e w' => e = .returned (.tuple #[.string (S (Lib.cut l [58]).1), .string (S (Lib.cut l [58]).2.1), .bool (Lib.cut l [58]).2.2]) ∧ Keep [] w1 w' at hC
  generalize Lib.cut l [58] = c at hC hlen hP; obtain ⟨name, value, ok⟩ := c; dsimp only at hC hlen hP; have HC := Lib.hid hC; have hbA := Blk.newA w #[.string ⟨#[]⟩, .string ⟨#[]⟩] 89; have hkA := (Keep.refl [] w).alloc (.cells #[.string ⟨#[]⟩, .string ⟨#[]⟩] 89); clear hC
  cases ok with
  | false =>
    simp only [Bool.false_and, Bool.false_eq_true, if_false] at hP; have HP := Lib.hid hP; clear hP; go_enter Tryz.func223, Tryz.ntmps223; go_wp2_with fail; refine (HC.out _ hkA).mono ?_; rintro e w1 ⟨rfl, hk1⟩; have hb1 := hk1.blk hbA (by simp); have d0 := hb1.get (k := 0) rfl; have d1 := hb1.get (k := 1) rfl; have f1 := hb1.frozen; have hs1 := hb1.lt; go_wp2_with fail; have hb2 := (hb1.set 0 (.string ⟨#[]⟩)).set 1 (.string ⟨#[]⟩); have d2 := hb2.get (k := 0) rfl; have d3 := hb2.get (k := 1) rfl; refine bodyPost_ret (v := .tuple #[.agg #[.string (S []), .string (S [])], .int .i64 3]) ?_ rfl ⟨?_, ?_⟩
    · simp [results, Tryz.results223, go_sem, S, d2, d3]
    · unfold parseV parseE; rw [HP.out]; rfl
    · exact ((hkA.trans hk1).setCell _ _ (by simp)).setCell _ _ (by simp)
  | true =>
    have hn : name.length ≤ maxLen := by show _ ≤ 9223372036854775807; omega
    have hv : value.length ≤ maxLen := by show _ ≤ 9223372036854775807; omega
    have hT := fun w1 => field_IsToken name w1 hn
    have hX := fun w1 => field_isText value w1 hv
    have hR := fun w1 => field_trim value w1 hv
    cases htk : isTok name with
    | false =>
      simp only [htk, Bool.and_false, Bool.false_and, Bool.false_eq_true, if_false] at hP; rw [htk] at hT; have HP := Lib.hid hP; have HT := Lib.hid hT; clear hP hT hX hR htk hlen hn hv; go_enter Tryz.func223, Tryz.ntmps223; go_wp2_with fail; refine (HC.out _ hkA).mono ?_; rintro e w1 ⟨rfl, hk1⟩; go_wp2_with fail; refine (HT.out _).mono ?_; rintro e w2 ⟨rfl, hk2⟩; have hb1 := hk2.blk (hk1.blk hbA (by simp)) (by simp); have d0 := hb1.get (k := 0) rfl; have d1 := hb1.get (k := 1) rfl; have f1 := hb1.frozen; have hs1 := hb1.lt; go_wp2_with fail; have hb2 := (hb1.set 0 (.string ⟨#[]⟩)).set 1 (.string ⟨#[]⟩); have d2 := hb2.get (k := 0) rfl; have d3 := hb2.get (k := 1) rfl; refine bodyPost_ret (v := .tuple #[.agg #[.string (S []), .string (S [])], .int .i64 3]) ?_ rfl ⟨?_, ?_⟩
      · simp [results, Tryz.results223, go_sem, S, d2, d3]
      · unfold parseV parseE; rw [HP.out]; rfl
      · exact (((hkA.trans hk1).trans hk2).setCell _ _ (by simp)).setCell _ _ (by simp)
    | true =>
      cases htx : isTxt value with
      | false =>
        simp only [htk, htx, Bool.and_false, Bool.false_eq_true, if_false] at hP; rw [htk] at hT; rw [htx] at hX; have HP := Lib.hid hP; have HT := Lib.hid hT; have HX := Lib.hid hX; clear hP hT hX hR htk hlen hn hv htx; go_enter Tryz.func223, Tryz.ntmps223; go_wp2_with fail; refine (HC.out _ hkA).mono ?_; rintro e w1 ⟨rfl, hk1⟩; go_wp2_with fail; refine (HT.out _).mono ?_; rintro e w2 ⟨rfl, hk2⟩; go_wp2_with fail; refine (HX.out _).mono ?_; rintro e w3 ⟨rfl, hk3⟩; have hb1 := hk3.blk (hk2.blk (hk1.blk hbA (by simp)) (by simp)) (by simp); have d0 := hb1.get (k := 0) rfl; have d1 := hb1.get (k := 1) rfl; have f1 := hb1.frozen; have hs1 := hb1.lt; go_wp2_with fail; have hb2 := (hb1.set 0 (.string ⟨#[]⟩)).set 1 (.string ⟨#[]⟩); have d2 := hb2.get (k := 0) rfl; have d3 := hb2.get (k := 1) rfl; refine bodyPost_ret (v := .tuple #[.agg #[.string (S []), .string (S [])], .int .i64 3]) ?_ rfl ⟨?_, ?_⟩
        · simp [results, Tryz.results223, go_sem, S, d2, d3]
        · unfold parseV parseE; rw [HP.out]; rfl
        · exact ((((hkA.trans hk1).trans hk2).trans hk3).setCell _ _ (by simp)).setCell _ _ (by simp)
      | true =>
        simp only [htk, htx, Bool.and_true, if_true] at hP; rw [htk] at hT; rw [htx] at hX; have HP := Lib.hid hP; have HT := Lib.hid hT; have HX := Lib.hid hX; have HR := Lib.hid hR; clear hP hT hX hR htk hlen hn hv htx; go_enter Tryz.func223, Tryz.ntmps223; go_wp2_with fail; refine (HC.out _ hkA).mono ?_; rintro e w1 ⟨rfl, hk1⟩; go_wp2_with fail; refine (HT.out _).mono ?_; rintro e w2 ⟨rfl, hk2⟩; go_wp2_with fail; refine (HX.out _).mono ?_; rintro e w3 ⟨rfl, hk3⟩; go_wp2_with fail; refine (HR.out _).mono ?_; rintro e w4 ⟨rfl, hk4⟩; have hb1 := hk4.blk (hk3.blk (hk2.blk (hk1.blk hbA (by simp)) (by simp)) (by simp)) (by simp); have d0 := hb1.get (k := 0) rfl; have d1 := hb1.get (k := 1) rfl; have f1 := hb1.frozen; have hs1 := hb1.lt; go_wp2_with fail; have hb2 := (hb1.set 0 (.string (S name))).set 1 (.string (S (trimW value))); have d2 := hb2.get (k := 0) rfl; have d3 := hb2.get (k := 1) rfl; refine bodyPost_ret (v := .tuple #[.agg #[.string (S name), .string (S (trimW value))], .int .i64 0]) ?_ rfl ⟨?_, ?_⟩
        · simp [results, Tryz.results223, go_sem, d2, d3]
        · unfold parseV parseE; rw [HP.out]; rfl
        · exact (((((hkA.trans hk1).trans hk2).trans hk3).trans hk4).setCell _ _ (by simp)).setCell _ _ (by simp)
set_option maxRecDepth 100000 in
set_option maxHeartbeats 400000 in
theorem field_Print (f : Fld) (w : World) (hl : f.name.length + f.value.length ≤ 1073741824) :
    Calls Tryz.prog 136 #[.agg f.cells.toArray] w fun e w' => e = .returned (.string (S (printF f))) ∧ Keep [] w w' := by
  have h1 := S_size f.name; have h2 := S_size f.value; have hkA := (Keep.refl [] w).alloc (.cells #[.string (S f.name), .string (S f.value)] 89)
  have hsum : S f.name ++ ⟨#[58, 32]⟩ ++ S f.value = S (printF f) := by
    show S f.name ++ S [58, 32] ++ S f.value = _; rw [S_append, S_append]; rfl
  have HS := Lib.hid hsum; clear hsum; show Calls _ _ #[.agg #[.string (S f.name), .string (S f.value)]] _ _; go_enter Tryz.func136, Tryz.ntmps136; go_wp2_with fail; go_ret; exact ⟨ret_str HS.out, hkA⟩
set_option maxRecDepth 100000 in
set_option maxHeartbeats 400000 in
theorem field_Good (f : Fld) (w : World) (hn : f.name.length ≤ maxLen) (hv : f.value.length ≤ maxLen) :
    Calls Tryz.prog 135 #[.agg f.cells.toArray] w fun e w' => e = .returned (.bool (goodF f)) ∧ Keep [] w w' := by
  have hT := fun w1 => field_IsToken f.name w1 hn
  have hX := fun w1 => field_isText f.value w1 hv
  have hR := fun w1 => field_trim f.value w1 hv
  have hbA : Blk (w.alloc (.cells #[.string (S f.name), .string (S f.value)] 89)) w.heap.size 89 [.string (S f.name), .string (S f.value)] := Blk.newA w _ _; have hkA := (Keep.refl [] w).alloc (.cells #[.string (S f.name), .string (S f.value)] 89); have hG : goodF f = (isTok f.name && isTxt f.value && (trimW f.value == f.value)) := rfl; show Calls _ _ #[.agg #[.string (S f.name), .string (S f.value)]] _ _; have hA0 : ∀ x, (ext (w.alloc (.cells #[.string (S f.name), .string (S f.value)] 89)) x).cell? ⟨w.heap.size, 0, none⟩ = some (.string (S f.name)) := fun x => ((ext_keep _ x).blk hbA (by simp)).get rfl
  have hA1 : ∀ x, (ext (w.alloc (.cells #[.string (S f.name), .string (S f.value)] 89)) x).cell? ⟨w.heap.size, 1, none⟩ = some (.string (S f.value)) := fun x => ((ext_keep _ x).blk hbA (by simp)).get rfl
  cases htk : isTok f.name with
  | false =>
    rw [htk] at hT hG; have HT := Lib.hid hT; have HG := Lib.hid hG; clear hT hX hR hG htk hn hv; go_enter Tryz.func135, Tryz.ntmps135; go_wp2_with fail; refine wp_region_ext_lit (by kernel_rfl) (by kernel_rfl) ?_
    repeat (go_big_quiet_step ((go_at_call 131; exact Calls.quiet_ext (HT.out _))))
    refine wpQuiet_nil ?_; intro _ hw'; obtain ⟨nq, hw''⟩ := hw'; subst hw''; go_wp2_with fail; go_ret; exact ⟨ret_bool (by rw [HG.out]; rfl), hkA.trans (ext_keep _ nq)⟩
  | true =>
    cases htx : isTxt f.value with
    | false =>
      rw [htk, htx] at hG; rw [htk] at hT; rw [htx] at hX; have HT := Lib.hid hT; have HX := Lib.hid hX; have HG := Lib.hid hG; clear hT hX hR hG htk hn hv htx; go_enter Tryz.func135, Tryz.ntmps135; go_wp2_with fail; refine wp_region_ext_lit (by kernel_rfl) (by kernel_rfl) ?_
      repeat (go_big_quiet_step ((first | (go_at_call 131; exact Calls.quiet_ext (HT.out _)) | (go_at_call 177; exact Calls.quiet_ext (HX.out _)))))
      refine wpQuiet_nil ?_; intro _ hw'; obtain ⟨nq, hw''⟩ := hw'; subst hw''; go_wp2_with fail; go_ret; exact ⟨ret_bool (by rw [HG.out]; rfl), hkA.trans (ext_keep _ nq)⟩
    | true =>
      rw [htk, htx] at hG; rw [htk] at hT; rw [htx] at hX; have HT := Lib.hid hT; have HX := Lib.hid hX; have HR := Lib.hid hR; have HG := Lib.hid hG; have h1 := S_toList (trimW f.value); have h2 := S_toList f.value; clear hT hX hR hG htk hn hv htx; go_enter Tryz.func135, Tryz.ntmps135; go_wp2_with fail; refine wp_region_ext_lit (by kernel_rfl) (by kernel_rfl) ?_
      repeat (go_big_quiet_step ((first | (go_at_call 131; exact Calls.quiet_ext (HT.out _)) | (go_at_call 177; exact Calls.quiet_ext (HX.out _)) | (go_at_call 178; exact Calls.quiet_ext (HR.out _)))))
      refine wpQuiet_nil ?_; intro _ hw'; obtain ⟨nq, hw''⟩ := hw'; subst hw''; go_wp2_with fail; go_ret; exact ⟨ret_bool (by rw [HG.out]; rfl), hkA.trans (ext_keep _ nq)⟩
def lowTo (l : List UInt8) (k : Nat) : List UInt8 := (l.take k).map lowB ++ l.drop k
theorem lowTo_length (l : List UInt8) (k : Nat) : (lowTo l k).length = l.length := by simp [lowTo]; omega
theorem lowTo_at {l : List UInt8} {k : Nat} {c : UInt8} (h : l[k]? = some c) : (lowTo l k)[k]? = some c := by
  have hlt := List.getElem?_eq_some_iff.1 h; obtain ⟨hlt, _⟩ := hlt; unfold lowTo; rw [List.getElem?_append_right (by simp; omega)]; simp; rw [show k + (k - min k l.length) = k by omega]; exact h
theorem lowTo_succ {l : List UInt8} {k : Nat} {c : UInt8} (h : l[k]? = some c) : lowTo l (k + 1) = (lowTo l k).set k (lowB c) := by
  have hlt := List.getElem?_eq_some_iff.1 h; obtain ⟨hlt, hc⟩ := hlt; unfold lowTo; rw [take_snoc h, List.set_append_right _ _ (by simp; omega)]; simp; rw [show k - min k l.length = 0 by omega, List.drop_eq_getElem_cons hlt, hc]; simp
theorem lowTo_end (l : List UInt8) : lowTo l l.length = lowW l := by simp [lowTo, lowW]
def Bytes (w : World) (b : Nat) (l : List UInt8) : Prop := (∀ (j : Nat) (c : UInt8), l[j]? = some c → w.cell? ⟨b, j, none⟩ = some (.int .u8 (c.toNat : Nat))) ∧ ∀ j, j < l.length → w.frozen? ⟨b, j, none⟩ = false
theorem Bytes.conv (w : World) (e : TypeId) (l : List UInt8) : Bytes (Lib.bytesWorld w e (S l)) w.heap.size l :=
  ⟨fun _ _ h => conv_at w e h, fun _ h => conv_free w e (S l) (by rw [S_size]; exact h)⟩
theorem Bytes.set {w : World} {b : Nat} {l : List UInt8} (h : Bytes w b l) (k : Nat) (hk : k < l.length) (c : UInt8) (v : Int) (hv : v = (c.toNat : Nat)) : Bytes (w.setCell ⟨b, k, none⟩ (.int .u8 v)) b (l.set k c) := by
  subst hv; refine ⟨fun j d hd => ?_, fun j hj => ?_⟩
  · by_cases e : k = j
    · subst e; simp [hk] at hd; subst hd; obtain ⟨x, hx⟩ : ∃ x, l[k]? = some x := ⟨_, List.getElem?_eq_getElem hk⟩
      exact World.cell?_setCell_same w _ _ (h.1 k x hx)
    · rw [World.cell?_setCell_other w _ _ _ (by intro h'; exact e (congrArg Addr.off h'))]; rw [List.getElem?_set_ne e] at hd; exact h.1 j d hd
  · rw [World.frozen?_setCell]; exact h.2 j (by simpa using hj)
theorem Bytes.back {P : Program} {w : World} {b : Nat} {l : List UInt8} (h : Bytes w b l) (src dst e : TypeId) (n cap : Nat) (hn : n = l.length) (hs : P.underlying src = some (.slice e)) (he : P.underlying e = some (.int .u8)) (hd : P.underlying dst = some .string) :
    (convert src dst (.slice (some ⟨b, 0, none⟩) n cap)).run P w = .ok (.string (S l)) w := by
  subst hn; refine run_convert_bytes_back w src dst e ⟨b, 0, none⟩ cap l hs he hd (fun j hj => ?_); have := h.1 j l[j] (List.getElem?_eq_getElem hj); have ha : (⟨b, 0, none⟩ : Addr).add j = ⟨b, j, none⟩ := by unfold Addr.add; split <;> simp_all
  rw [ha]; exact this
set_option maxRecDepth 100000 in
set_option maxHeartbeats 400000 in
theorem field_low (l : List UInt8) (w : World) (hs : l.length ≤ maxLen) :
    Calls Tryz.prog 77 #[.string (S l)] w fun e w' => e = .returned (.string (S (lowW l))) ∧ Keep [] w w' := by
  have hs' : l.length ≤ 9223372036854775807 := hs; have hcv := conv_run w (S l); have hby := Bytes.conv w 5 l; have hkp := conv_keep w 5 (S l); have hsz := S_size l; generalize Lib.bytesWorld w 5 (S l) = wb at hcv hby hkp; generalize hX : w.heap.size = X at hcv hby; have HX := Lib.hid hX; clear hs hX; go_enter Tryz.func77, Tryz.ntmps77; go_wp2_with fail
  go_loopg [10] l.length (fun g i wr => ∃ k : Nat, i = .int .i64 k ∧ k ≤ l.length ∧ g = l.length - k ∧ Bytes wr X (lowTo l k) ∧ Keep [] w wr)
  case atStart => exact ⟨0, rfl, Nat.zero_le _, by omega, by simpa [lowTo] using hby, hkp⟩
  case round =>
    obtain ⟨k, rfl, hk, hgk, hbr, hkr⟩ := hrel; by_cases hlt : k < l.length
    · obtain ⟨c, hg⟩ : ∃ c, l[k]? = some c := ⟨_, List.getElem?_eq_getElem hlt⟩
      have hc := hbr.1 k c (lowTo_at hg); have hf := hbr.2 k (by rw [lowTo_length]; exact hlt); have hc8 := u8_nat c; have HG := Lib.hid hg; have HB := Lib.hid hbr; clear hg hbr hby hkp; by_cases ht : 65 ≤ c.toNat ∧ c.toNat ≤ 90
      · obtain ⟨h1, h2⟩ := ht
        have hl : (lowB c).toNat = c.toNat + 32 := by
          unfold lowB; rw [if_pos ⟨h1, h2⟩, UInt8.toNat_add]; have : (32 : UInt8).toNat = 32 := rfl; omega
        have HL := Lib.hid hl; clear hl; go_wp2_with fail
        go_roundg (l.length - (k + 1))
        case measure => omega
        case rel =>
          refine ⟨k + 1, by go_num, by omega, rfl, ?_, hkr.setCell _ _ (by have := HX.out; simp; omega)⟩; rw [lowTo_succ HG.out]; exact HB.out.set k (by rw [lowTo_length]; exact hlt) _ _ (by rw [HL.out]; omega)
      · have hl : lowB c = c := by unfold lowB; rw [if_neg ht]
        have HL := Lib.hid hl; have HT := Lib.hid ht
        have hend : Bytes wr X (lowTo l (k + 1)) := by
          rw [lowTo_succ HG.out, hl, list_set_self _ _ _ (lowTo_at HG.out)]; exact HB.out
        clear hl; by_cases h1 : 65 ≤ c.toNat
        · have h2 : 90 < c.toNat := by omega
          clear ht; go_wp2_with fail
          go_roundg (l.length - (k + 1))
          case measure => omega
          case rel => exact ⟨k + 1, by go_num, by omega, rfl, hend, hkr⟩
        · clear ht; go_wp2_with fail
          go_roundg (l.length - (k + 1))
          case measure => omega
          case rel => exact ⟨k + 1, by go_num, by omega, rfl, hend, hkr⟩
    · have hke : k = l.length := by omega
      rw [hke, lowTo_end] at hbr; have hback := hbr.back (P := Tryz.prog) 143 9 5 l.length (grownCap w l.length 0 5) (by simp [lowW]) Tryz.underlying143 Tryz.underlying5 Tryz.underlying9; have HKE := Lib.hid hke; clear hke hbr hby; go_wp2_with fail; go_ret; exact ⟨rfl, hkr⟩
end Go.Proofs.YtlhnjkekjbbhcaaGreatDoor
namespace Go.Proofs.YtlhnjkekjbbhcaaGreatDoor
open Go.RowKit Go.ChangeShapes Go.WideShapes
def Sl {α : Type} (enc : α → List Value) (n : Nat) (w : World) (v : Value) (L : List α) : Prop :=
  (∃ a cap, v = .slice a 0 cap ∧ cap ≤ maxLen ∧ L = []) ∨
  ∃ b off cap, v = .slice (some ⟨b, off, none⟩) L.length cap ∧ L.length ≤ cap ∧ cap ≤ maxLen ∧
    ∀ i x, L[i]? = some x → ∀ k, k < n → w.cell? ⟨b, off + i * n + k, none⟩ = (enc x)[k]?
theorem Sl.keep {α : Type} {enc : α → List Value} {n : Nat} (hn : ∀ x, (enc x).length = n) (_ : 0 < n) {W w w' : World} {v : Value} {L : List α} {S : List Nat}
    (h : Sl enc n w v L) (hW : Sl enc n W v L) (k : Keep S w w') (hS : ∀ b ∈ S, W.heap.size ≤ b) (hsz : W.heap.size ≤ w.heap.size) : Sl enc n w' v L := by
  rcases h with h | ⟨b, off, cap, rfl, h1, h2, h3⟩
  · exact .inl h
  · refine .inr ⟨b, off, cap, rfl, h1, h2, fun i x hx j hj => ?_⟩; rw [← h3 i x hx j hj]; rcases hW with ⟨_, _, hv, _, rfl⟩ | ⟨b', off', cap', hv, _, _, h3'⟩
    · simp at hx
    · cases hv; have hc := h3' i x hx j hj; have : j < (enc x).length := by rw [hn]; exact hj
      rw [List.getElem?_eq_getElem this] at hc; have hlt := World.block_lt_of_cell? W _ hc; refine k.cell (by have := hlt; simp at this; simp; omega) ?_; intro hm; have := hS _ hm; simp at hlt this; omega
theorem Sl.cell {α : Type} {enc : α → List Value} {n : Nat} {w : World} {v : Value} {L : List α} (h : Sl enc n w v L) {i : Nat} {x : α} (hi : L[i]? = some x) :
    ∃ b off cap, v = .slice (some ⟨b, off, none⟩) L.length cap ∧ L.length ≤ cap ∧ cap ≤ maxLen ∧ ∀ k, k < n → w.cell? ⟨b, off + i * n + k, none⟩ = (enc x)[k]? := by
  rcases h with ⟨_, _, _, _, rfl⟩ | ⟨b, off, cap, hv, h1, h2, h3⟩
  · simp at hi
  · exact ⟨b, off, cap, hv, h1, h2, h3 i x hi⟩
theorem Sl.shape {α : Type} {enc : α → List Value} {n : Nat} {w : World} {v : Value} {L : List α} (h : Sl enc n w v L) : ∃ a cap, v = .slice a L.length cap ∧ L.length ≤ maxLen := by
  rcases h with ⟨a, cap, hv, hc, rfl⟩ | ⟨b, off, cap, hv, h1, h2, h3⟩
  · exact ⟨a, cap, hv, Nat.zero_le _⟩
  · exact ⟨_, cap, hv, by omega⟩
theorem take_drop_one {cs : List Value} {k : Nat} {v : Value} (h : (cs.drop k).take 1 = [v]) : cs[k]? = some v := by
  have : ((cs.drop k).take 1)[0]? = some v := by rw [h]; rfl
  simpa [List.getElem?_take, List.getElem?_drop] using this
theorem list_eq_of {l m : List Value} {n : Nat} (hl : l.length = n) (hm : m.length = n) (h : ∀ i, i < n → l[i]? = m[i]?) : l = m := by
  apply List.ext_getElem?; intro i; by_cases hi : i < n
  · exact h i hi
  · rw [List.getElem?_eq_none (by omega), List.getElem?_eq_none (by omega)]
section
variable {H : Type} {enc : TypeId × Value → H} {P : Program} {w : World} {base : Nat} {spare : Nat → Bool} {held : Bool}
theorem trod_fields {t : TypeId} {fs : Array Field} {fuel : Nat} {cs : List Value} {x : DataW H × List MemPlace} (ht : P.underlying t = some (.struct fs)) (h : DataW.trod enc P w base spare held fuel t cs = some x) :
    cs.length = P.cellsOf t ∧ ∃ n, ∀ (i : Nat) (f : Field), fs[i]? = some f → ∃ y, DataW.trod enc P w base spare held n f.type ((cs.drop f.offset).take (P.cellsOf f.type)) = some y := by
  obtain ⟨xs, n, _, _, hl, hlen, hf⟩ := DataW.trod_struct ht h; refine ⟨hl, n, fun i f hi => ?_⟩
  have hlt : i < xs.length := by
    rw [hlen]; rcases Nat.lt_or_ge i fs.size with h' | h'
    · exact h'
    · simp [Array.getElem?_eq_none h'] at hi
  exact ⟨xs[i], (hf i f hi).trans (List.getElem?_eq_getElem hlt)⟩
theorem field_int {t : TypeId} {k : IntKind} {n o : Nat} {cs : List Value} {y : DataW H × List MemPlace} (ht : P.underlying t = some (.int k)) (hc : P.cellsOf t = 1) (h : DataW.trod enc P w base spare held n t ((cs.drop o).take (P.cellsOf t)) = some y) :
    ∃ v, cs[o]? = some (.int k v) ∧ (Lit.int k v).wf = true := by
  obtain ⟨v, hv, _, hw⟩ := DataW.trod_int ht h; rw [hc] at hv; exact ⟨v, take_drop_one hv, hw⟩
theorem field_bool {t : TypeId} {n o : Nat} {cs : List Value} {y : DataW H × List MemPlace} (ht : P.underlying t = some .bool) (hc : P.cellsOf t = 1) (h : DataW.trod enc P w base spare held n t ((cs.drop o).take (P.cellsOf t)) = some y) :
    ∃ v, cs[o]? = some (.bool v) := by
  obtain ⟨v, hv, _⟩ := DataW.trod_bool ht h; rw [hc] at hv; exact ⟨v, take_drop_one hv⟩
theorem field_string {t : TypeId} {n o : Nat} {cs : List Value} {y : DataW H × List MemPlace} (ht : P.underlying t = some .string) (hc : P.cellsOf t = 1) (h : DataW.trod enc P w base spare held n t ((cs.drop o).take (P.cellsOf t)) = some y) :
    ∃ v, cs[o]? = some (.string v) ∧ v.size ≤ maxLen := by
  obtain ⟨v, hv, _, hm⟩ := DataW.trod_string ht h; rw [hc] at hv; exact ⟨v, take_drop_one hv, hm⟩
end
def in64 (n : Int) : Prop := -9223372036854775808 ≤ n ∧ n ≤ 9223372036854775807
theorem in64_of {n : Int} (h : (Lit.int .i64 n).wf = true) : in64 n := by simpa [in64, Lit.wf, IntKind.min, IntKind.max, IntKind.signed, IntKind.bits] using h
end Go.Proofs.YtlhnjkekjbbhcaaGreatDoor
