/- Layer 16: isUnit. No conditions but on lengths. -/
import Derived.Test.YthhnmfjfgbgjeaaDoorSl1
import Derived.Lib.SlBytesConst
namespace Go.Proofs.YthhnmfjfgbgjeaaDoor
open Go.RowKit Go.Shelf

def unitB : List UInt8 := [98, 121, 116, 101, 115, 61]
/-- the byte of a text that stands for a byte of the unit -/
def unitOk (b c : UInt8) : Bool := c == b || decide (97 ≤ b.toNat) && decide (c.toNat = b.toNat - 32)
def isUnitM (l : List UInt8) : Bool := decide (6 ≤ l.length) && (l.zip unitB).all fun p => unitOk p.2 p.1

def unitCells : Array Value := #[.int .u8 98, .int .u8 121, .int .u8 116, .int .u8 101, .int .u8 115, .int .u8 61]
theorem unit_cell (w : World) (o : Obj) {T : TypeId} {fr : Nat × Nat} (ho : o = .cells unitCells T fr) {k : Nat} {b : UInt8} (h : unitB[k]? = some b) : (w.alloc o).cell? ⟨w.heap.size, k, none⟩ = some (.int .u8 (b.toNat : Nat)) := by
  subst ho
  have hh : (w.alloc (.cells unitCells T fr)).heap[w.heap.size]? = some (.cells unitCells T fr) := heap_alloc_new w _
  have hc : unitCells[k]? = some (.int .u8 (b.toNat : Nat)) := by
    match k, h with
    | 0, h => cases h; rfl
    | 1, h => cases h; rfl
    | 2, h => cases h; rfl
    | 3, h => cases h; rfl
    | 4, h => cases h; rfl
    | 5, h => cases h; rfl
    | k + 6, h => simp [unitB] at h
  unfold World.cell?
  simp only [hh]
  exact hc
theorem zip_take {l : List UInt8} {k : Nat} {b c : UInt8} (hb : unitB[k]? = some b) (hc : l[k]? = some c) : (l.zip unitB).take (k + 1) = (l.zip unitB).take k ++ [(c, b)] := by
  rw [List.take_add_one, (List.getElem?_zip_eq_some (z := (c, b))).2 ⟨hc, hb⟩]; rfl

set_option maxRecDepth 100000 in
set_option maxHeartbeats 2000000 in
theorem slice_isUnit (l : List UInt8) (w : World) (hs : l.length ≤ maxLen) :
    Calls Tryd.prog 45 #[.string (S l)] w fun e w' => e = .returned (.bool (isUnitM l)) ∧ Keep [] w w' := by
  have hs' : l.length ≤ 9223372036854775807 := hs
  have hsz := S_size l
  by_cases h6 : l.length < 6
  · have hU : isUnitM l = false := by unfold isUnitM; simp; omega
    go_enter Tryd.func45, Tryd.ntmps45
    go_wp2_with fail
    go_ret
    exact ⟨ret_bool hU.symm, Keep.refl _ _⟩
  · have h6' : 6 ≤ l.length := by omega
    clear h6
    have hU : isUnitM l = (l.zip unitB).all fun p => unitOk p.2 p.1 := by unfold isUnitM; simp [h6']
    generalize isUnitM l = um at hU
    have HU := Lib.hid hU
    have kc := fun (w : World) (C : Array Value) (n c : Nat) => Lib.run_convert_bytes_const (P := Tryd.prog) w 83 5 C n c Tryd.underlying83 Tryd.underlying5
    have hk0 := (Keep.refl [] w).alloc (.cells #[.int .u8 98, .int .u8 121, .int .u8 116, .int .u8 101, .int .u8 115, .int .u8 61] 5 (6, 7))
    have hc0 := fun (k : Nat) (b : UInt8) (h : unitB[k]? = some b) => unit_cell w (.cells #[.int .u8 98, .int .u8 121, .int .u8 116, .int .u8 101, .int .u8 115, .int .u8 61] 5 (6, 7)) rfl h
    generalize hwA : w.alloc (.cells #[.int .u8 98, .int .u8 121, .int .u8 116, .int .u8 101, .int .u8 115, .int .u8 61] 5 (6, 7)) = wA at hk0 hc0
    have HC := Lib.hid hc0
    have HK := Lib.hid hk0
    clear hU hc0 hk0 hs
    go_enter Tryd.func45, Tryd.ntmps45
    go_wp2_with fail
    go_loopg [11] 6 (fun g i wr => ∃ (k : Nat), i = .int .i64 k ∧ k ≤ 6 ∧ g = 6 - k ∧ wA = wr ∧ Hid (((l.zip unitB).take k).all (fun p => unitOk p.2 p.1) = true))
    case atStart => exact ⟨0, rfl, Nat.zero_le _, by omega, rfl, Lib.hid rfl⟩
    case round =>
      obtain ⟨k, rfl, hk, hgk, rfl, HG⟩ := hrel
      clear hwA kc
      by_cases hlt : k < 6
      · obtain ⟨c, hg⟩ : ∃ c, l[k]? = some c := ⟨_, List.getElem?_eq_getElem (by omega)⟩
        obtain ⟨b, hb⟩ : ∃ b, unitB[k]? = some b := ⟨_, List.getElem?_eq_getElem (show k < unitB.length from hlt)⟩
        have hc1 := HC.out k b hb
        have hq := fun h => S_get (k := k) hg h
        have hc8 := u8_nat c
        have hb8 := u8_nat b
        have hz := zip_take hb hg
        by_cases h1 : unitOk b c = true
        · have HN : Hid (((l.zip unitB).take (k + 1)).all (fun p => unitOk p.2 p.1) = true) := by
            rw [hz, List.all_append, HG.out]
            simp [h1, Hid]
          clear hz
          by_cases h2 : c.toNat = b.toNat
          · obtain ⟨z1, z2⟩ := nat_eq h2
            clear hg hb HG h1
            go_wp2_with fail
            go_roundg (6 - (k + 1))
            case measure => omega
            case rel => exact ⟨k + 1, by go_num, by omega, rfl, rfl, HN⟩
          · obtain ⟨z1, z2⟩ := nat_ne h2
            have h3 : 97 ≤ b.toNat ∧ c.toNat = b.toNat - 32 := by
              unfold unitOk at h1
              have : (c == b) = false := by simp; intro e; exact h2 (by rw [e])
              rw [this] at h1
              simpa using h1
            obtain ⟨h4, h5⟩ := h3
            obtain ⟨z3, z4⟩ := int_eq (show (c.toNat : Int) = (b.toNat : Int) - 97 + 65 by omega)
            clear hg hb HG h1 h5
            go_wp2_with fail
            go_roundg (6 - (k + 1))
            case measure => omega
            case rel => exact ⟨k + 1, by go_num, by omega, rfl, rfl, HN⟩
        · have h1' : unitOk b c = false := by simpa using h1
          have hno : um = false := by
            rw [HU.out, List.all_eq_false]
            refine ⟨(c, b), ?_, by simp [h1']⟩
            have : (l.zip unitB)[k]? = some (c, b) := (List.getElem?_zip_eq_some (z := (c, b))).2 ⟨hg, hb⟩
            exact List.mem_of_getElem? this
          have HN := Lib.hid hno
          have h2 : c.toNat ≠ b.toNat := by
            intro e
            have : c = b := UInt8.toNat_inj.1 e
            simp [unitOk, this] at h1'
          obtain ⟨z1, z2⟩ := nat_ne h2
          by_cases h3 : b.toNat < 97
          · clear hg hb HG h1 h1' hz hno
            go_wp2_with fail
            go_ret
            exact ⟨ret_bool HN.out.symm, HK.out⟩
          · have h4 : 97 ≤ b.toNat := by omega
            have h5 : c.toNat ≠ b.toNat - 32 := by
              intro e
              simp [unitOk, h4, e] at h1'
            obtain ⟨z3, z4⟩ := int_ne (show (c.toNat : Int) ≠ (b.toNat : Int) - 97 + 65 by omega)
            clear hg hb HG h1 h1' hz hno h3 h5
            go_wp2_with fail
            go_ret
            exact ⟨ret_bool HN.out.symm, HK.out⟩
      · have hke : k = 6 := by omega
        have hz : (l.zip unitB).take k = l.zip unitB := List.take_of_length_le (by rw [List.length_zip]; show min l.length 6 ≤ k; omega)
        have HN : Hid (um = true) := by
          have := HG.out
          rw [hz] at this
          rw [HU.out]
          exact this
        clear hz HG
        go_wp2_with fail
        go_ret
        exact ⟨ret_bool HN.out.symm, HK.out⟩
end Go.Proofs.YthhnmfjfgbgjeaaDoor
