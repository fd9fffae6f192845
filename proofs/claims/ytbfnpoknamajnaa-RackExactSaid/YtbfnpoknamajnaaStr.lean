/- Strings as lists of bytes: small laws. They speak of no program. No conditions. -/
import Derived.Test.YtbfnpoknamajnaaHeap
import Derived.Lib.Strings
import Derived.Lib.IndexLaws
import Derived.Lib.IndexMore
import Derived.Lib.SlTrimSet
import Derived.Lib.ConvBytes
namespace Go.Proofs.Ytbfnpoknamajnaa
open Go.RowKit

/-- a list of bytes as a string -/
def S (l : List UInt8) : ByteArray := ⟨l.toArray⟩
theorem S_list (l : List UInt8) : (S l).data.toList = l := by simp [S]
theorem S_size (l : List UInt8) : (S l).size = l.length := rfl
theorem S_of (s : ByteArray) : S s.data.toList = s := by
  apply ByteArray.ext
  simp [S]
theorem S_toList (l : List UInt8) : (S l).toList = l := by rw [ByteArray.toList_eq, S_list]
theorem S_inj {a b : List UInt8} (h : S a = S b) : a = b := by
  have := congrArg (fun s => s.data.toList) h
  simpa [S_list] using this
theorem toList_get (s : ByteArray) (k : Nat) (h : k < s.size) : s.data.toList[k]? = some s[k] := by
  rw [List.getElem?_eq_getElem (by rw [← Lib.size_eq]; exact h)]
  rfl
theorem take_get (l : List UInt8) (k : Nat) (h : k < l.length) : l.take (k + 1) = l.take k ++ [l[k]] := by
  rw [List.take_succ_eq_append_getElem h]
theorem u8_nat (b : UInt8) : b.toNat < 256 := b.toNat_lt

/-! '[]byte(s)' -/
theorem conv_cell (w : World) (e : TypeId) (s : ByteArray) (k : Nat) (h : k < s.size) : (Lib.bytesWorld w e s).cell? ⟨w.heap.size, k, none⟩ = some (.int .u8 (s[k].toNat : Nat)) := by
  rw [Lib.bytesWorld_cell w e s k h]
  have := toList_get s k h
  simp [List.getD, this]
theorem conv_keep (w : World) (e : TypeId) (s : ByteArray) : Keep [] w (Lib.bytesWorld w e s) := by
  refine ⟨?_, ?_, ?_, by rw [Lib.bytesWorld_size]; omega, fun k hk _ => Lib.bytesWorld_at_old w e s k hk⟩
  · simp [Lib.bytesWorld, World.freeze]; rfl
  · simp [Lib.bytesWorld, World.freeze]
  · simp [Lib.bytesWorld, World.freeze]; rfl
theorem conv_at (w : World) (e : TypeId) {l : List UInt8} {k : Nat} {c : UInt8} (h : l[k]? = some c) : (Lib.bytesWorld w e (S l)).cell? ⟨w.heap.size, k, none⟩ = some (.int .u8 (c.toNat : Nat)) := by
  have hlt : k < l.length := by
    rcases Nat.lt_or_ge k l.length with h' | h'
    · exact h'
    · rw [List.getElem?_eq_none h'] at h; cases h
  rw [Lib.bytesWorld_cell w e (S l) k (by rw [S_size]; exact hlt), S_list]
  simp [List.getD, h]
theorem take_snoc {l : List UInt8} {k : Nat} {c : UInt8} (h : l[k]? = some c) : l.take (k + 1) = l.take k ++ [c] := by
  rw [List.take_add_one, h]; rfl
theorem S_extract (l : List UInt8) (a b : Nat) : (S l).extract a b = S ((l.take b).drop a) := by
  apply ByteArray.ext
  apply Array.toList_inj.1
  rw [Lib.extract_data, S_list]
  simp [S, List.drop_take]
theorem S_append (a b : List UInt8) : S a ++ S b = S (a ++ b) := ByteArray.mk_append_mk a b
theorem ret_bool {a b : Bool} (h : a = b) : Ending.returned (.bool a) = Ending.returned (.bool b) := by rw [h]
theorem ret_str {a b : ByteArray} (h : a = b) : Ending.returned (.string a) = Ending.returned (.string b) := by rw [h]
theorem ret_int {k : IntKind} {a b : Int} (h : a = b) : Ending.returned (.int k a) = Ending.returned (.int k b) := by rw [h]
theorem conv_free (w : World) (e : TypeId) (s : ByteArray) {k : Nat} (h : k < s.size) : (Lib.bytesWorld w e s).frozen? ⟨w.heap.size, k, none⟩ = false := by
  have hb := Lib.bytesWorld_at_new w e s
  have hsz : s.size ≤ (Lib.bytesCells w e s).size := by
    have : s.data.size = s.size := rfl
    simp [Lib.bytesCells, this]
  simp only [World.frozen?, hb]
  simp
  intro h'
  omega
end Go.Proofs.Ytbfnpoknamajnaa
