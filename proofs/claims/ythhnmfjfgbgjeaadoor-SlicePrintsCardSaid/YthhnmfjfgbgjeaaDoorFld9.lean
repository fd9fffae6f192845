/- Layer 10: Get. No conditions but on lengths. -/
import Derived.Test.YthhnmfjfgbgjeaaDoorFld8
namespace Go.Proofs.YthhnmfjfgbgjeaaDoor
open Go.RowKit Go.Shelf

theorem Keep.load {w w' : World} (k : Keep [] w w') {a : Addr} {v : Value} (h : w.cell? a = some v) : w'.cell? a = some v :=
  (k.cell (World.block_lt_of_cell? w a h) (by simp)).trans h
def sameN (n : List UInt8) (f : Fld) : Bool := decide (lowW f.name = lowW n)
def getS (L : List Fld) (n : List UInt8) : List Fld := L.filter (sameN n)
def getV (L : List Fld) (n : List UInt8) : List UInt8 := match getS L n with | [] => [] | f :: _ => f.value
def getN (L : List Fld) (n : List UInt8) : Nat := (getS L n).length
theorem getN_le (L : List Fld) (n : List UInt8) : getN L n ≤ L.length := List.length_filter_le _ _
theorem getS_yes {L : List Fld} {n : List UInt8} {k : Nat} {x : Fld} (h : L[k]? = some x) (hs : lowW x.name = lowW n) : getS (L.take (k + 1)) n = getS (L.take k) n ++ [x] := by
  unfold getS
  rw [List.take_add_one, h, List.filter_append]
  simp [sameN, hs]
theorem getS_no {L : List Fld} {n : List UInt8} {k : Nat} {x : Fld} (h : L[k]? = some x) (hs : ¬ lowW x.name = lowW n) : getS (L.take (k + 1)) n = getS (L.take k) n := by
  unfold getS
  rw [List.take_add_one, h, List.filter_append]
  simp [sameN, hs]
theorem get_first {L : List Fld} {n : List UInt8} {k : Nat} {x : Fld} (h : L[k]? = some x) (hs : lowW x.name = lowW n) (h0 : getN (L.take k) n = 0) : getV (L.take (k + 1)) n = x.value ∧ getN (L.take (k + 1)) n = 1 := by
  have e : getS (L.take k) n = [] := List.eq_nil_of_length_eq_zero h0
  unfold getV getN
  rw [getS_yes h hs, e]
  simp
theorem get_more {L : List Fld} {n : List UInt8} {k : Nat} {x : Fld} (h : L[k]? = some x) (hs : lowW x.name = lowW n) (h0 : getN (L.take k) n ≠ 0) : getV (L.take (k + 1)) n = getV (L.take k) n ∧ getN (L.take (k + 1)) n = getN (L.take k) n + 1 := by
  unfold getV getN
  rw [getS_yes h hs]
  unfold getN at h0
  cases he : getS (L.take k) n with
  | nil => rw [he] at h0; simp at h0
  | cons a r => simp
theorem get_none {L : List Fld} {n : List UInt8} {k : Nat} {x : Fld} (h : L[k]? = some x) (hs : ¬ lowW x.name = lowW n) : getV (L.take (k + 1)) n = getV (L.take k) n ∧ getN (L.take (k + 1)) n = getN (L.take k) n := by
  unfold getV getN
  rw [getS_no h hs]
  exact ⟨rfl, rfl⟩
def GetOut (w : World) (L : List Fld) (n : List UInt8) (e : Ending) (w' : World) : Prop := e = .returned (.tuple #[.string (S (getV L n)), .int .i64 (getN L n)]) ∧ Keep [] w w'

set_option maxRecDepth 100000 in
set_option maxHeartbeats 1000000 in
theorem field_Get (va : Value) (L : List Fld) (n : List UInt8) (w : World) (ha : Sl Fld.cells 2 w va L) (hg : ∀ x ∈ L, x.name.length ≤ maxLen) (hn : n.length ≤ maxLen) :
    Calls Tryd.prog 29 #[va, .string (S n)] w (GetOut w L n) := by
  obtain ⟨aa, ca, rfl, hal⟩ := ha.shape
  have hal' : L.length ≤ 9223372036854775807 := hal
  have HA := Lib.hid ha
  have HG := Lib.hid hg
  have HN := Lib.hid hn
  have HL := Lib.hid (fun k => getN_le (L.take k) n)
  clear ha hg hn hal
  go_enter Tryd.func29, Tryd.ntmps29
  go_wp2_with fail
  go_loopg [4, 5, 10] L.length (fun g s c i wr => ∃ k : Nat, i = .int .i64 k ∧ k ≤ L.length ∧ g = L.length - k ∧ s = .string (S (getV (L.take k) n)) ∧ c = .int .i64 (getN (L.take k) n) ∧ Keep [] w wr)
  case atStart => exact ⟨0, rfl, Nat.zero_le _, by omega, rfl, rfl, Keep.refl [] w⟩
  case round =>
    obtain ⟨k, rfl, hk, hgk, rfl, rfl, hkr⟩ := hrel
    have hgl : getN (L.take k) n ≤ k := Nat.le_trans (HL.out k) (by simp; omega)
    by_cases hlt : k < L.length
    · obtain ⟨x, hx⟩ : ∃ x, L[k]? = some x := ⟨_, List.getElem?_eq_getElem hlt⟩
      obtain ⟨b1, o1, c1, e1, l1, m1, x1⟩ := HA.out.cell hx
      simp only [Value.slice.injEq] at e1
      obtain ⟨rfl, _, rfl⟩ := e1
      have a0 := x1 0 (by omega)
      have a1 := x1 1 (by omega)
      simp only [Fld.cells, List.getElem?_cons_zero, List.getElem?_cons_succ, Nat.add_zero] at a0 a1
      have A0 := Lib.hid a0
      have A1 := Lib.hid a1
      have HX := Lib.hid hx
      have HK := Lib.hid hkr
      have hb := HG.out x (List.mem_of_getElem? hx)
      have HB := Lib.hid hb
      clear hx x1 l1 m1 hb a0 a1 hkr
      have d0 := HK.out.load A0.out
      have hbA := Blk.newA wr #[.string (S x.name), .string (S x.value)] 32
      have HBA := Lib.hid hbA
      clear hbA
      have d2 := HK.out.load A1.out
      go_upto_region 4 with fail
      go_wp2_with fail
      refine (field_low x.name _ HB.out).mono ?_
      rintro e w1 ⟨rfl, hk1⟩
      go_wp2_with fail
      refine (field_low n _ HN.out).mono ?_
      rintro e w2 ⟨rfl, hk2⟩
      have HK2 := Lib.hid (((HK.out.alloc (.cells #[.string (S x.name), .string (S x.value)] 32)).trans hk1).trans hk2)
      have d1 := (hk1.trans hk2).load (HBA.out.get (k := 1) rfl)
      clear hk1 hk2 d0 d2
      by_cases hs : lowW x.name = lowW n
      · have h1 : ((S (lowW x.name)).toList == (S (lowW n)).toList) = true := by rw [hs]; simp
        have HS := Lib.hid hs
        clear hs
        by_cases h0 : getN (L.take k) n = 0
        · have hr := get_first HX.out HS.out h0
          have HR := Lib.hid hr
          clear hr
          go_wp2_with fail
          go_roundg (L.length - (k + 1))
          case measure => omega
          case rel => exact ⟨k + 1, by go_num, by omega, rfl, by rw [HR.out.1], by rw [HR.out.2]; simp [h0], HK2.out⟩
        · have hr := get_more HX.out HS.out h0
          have HR := Lib.hid hr
          clear hr
          go_wp2_with fail
          go_roundg (L.length - (k + 1))
          case measure => omega
          case rel => exact ⟨k + 1, by go_num, by omega, rfl, by rw [HR.out.1], by rw [HR.out.2]; simp, HK2.out⟩
      · have h1 : ((S (lowW x.name)).toList == (S (lowW n)).toList) = false := by rw [S_toList, S_toList]; simpa using hs
        have HR := Lib.hid (get_none HX.out hs)
        clear hs
        go_wp2_with fail
        go_roundg (L.length - (k + 1))
        case measure => omega
        case rel => exact ⟨k + 1, by go_num, by omega, rfl, by rw [HR.out.1], by rw [HR.out.2], HK2.out⟩
    · have hke : L.take k = L := List.take_of_length_le (by omega)
      rw [hke]
      go_wp2_with fail
      go_ret2
      exact ⟨rfl, hkr⟩
end Go.Proofs.YthhnmfjfgbgjeaaDoor
