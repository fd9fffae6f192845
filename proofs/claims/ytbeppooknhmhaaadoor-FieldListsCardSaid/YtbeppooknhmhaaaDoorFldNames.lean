/- Layer 10: the statement FieldNames: its function answers true for every input. No conditions. -/
import Derived.Test.YtbeppooknhmhaaaDoorFld16
import Derived.Test.YtbeppooknhmhaaaDoorRead
namespace Go.Proofs.YtbeppooknhmhaaaDoor
open Go.RowKit Go.Shelf

def upB (b : UInt8) : UInt8 := if 97 ≤ b.toNat ∧ b.toNat ≤ 122 then b - 32 else b
def upTo (l : List UInt8) (k : Nat) : List UInt8 := (l.take k).map upB ++ l.drop k
theorem upTo_length (l : List UInt8) (k : Nat) : (upTo l k).length = l.length := by simp [upTo]; omega
theorem upTo_at {l : List UInt8} {k : Nat} {c : UInt8} (h : l[k]? = some c) : (upTo l k)[k]? = some c := by
  have hlt := (List.getElem?_eq_some_iff.1 h).1
  unfold upTo
  rw [List.getElem?_append_right (by simp; omega)]
  simp [h]
  have : min k l.length = k := by omega
  rw [this]
  simp [h]
theorem upTo_succ {l : List UInt8} {k : Nat} {c : UInt8} (h : l[k]? = some c) : upTo l (k + 1) = (upTo l k).set k (upB c) := by
  have hlt := (List.getElem?_eq_some_iff.1 h).1
  unfold upTo
  rw [take_snoc h, drop_at h, List.map_append, List.set_append_right _ _ (by simp; omega)]
  have : k - ((l.take k).map upB).length = 0 := by simp; omega
  rw [this]
  simp
theorem upTo_end (l : List UInt8) : upTo l l.length = l.map upB := by simp [upTo]
theorem low_up (c : UInt8) : lowB (upB c) = lowB c := by
  unfold upB
  by_cases h : 97 ≤ c.toNat ∧ c.toNat ≤ 122
  · rw [if_pos h]
    have e : (c - 32).toNat = c.toNat - 32 := by
      rw [UInt8.toNat_sub_of_le]
      · rfl
      · rw [UInt8.le_iff_toNat_le]; have : (32 : UInt8).toNat = 32 := rfl; omega
    unfold lowB
    rw [if_pos (by omega), if_neg (by omega)]
    exact UInt8.sub_add_cancel c 32
  · rw [if_neg h]
theorem low_low (c : UInt8) : lowB (lowB c) = lowB c := by
  unfold lowB
  by_cases h : 65 ≤ c.toNat ∧ c.toNat ≤ 90
  · rw [if_pos h]
    have e : (c + 32).toNat = c.toNat + 32 := by
      rw [UInt8.toNat_add]
      have : (32 : UInt8).toNat = 32 := rfl
      omega
    rw [if_neg (by omega)]
  · rw [if_neg h, if_neg h]
theorem lowW_up (l : List UInt8) : lowW (l.map upB) = lowW l := by
  unfold lowW
  rw [List.map_map]
  congr 1
  funext c
  exact low_up c
theorem lowW_low (l : List UInt8) : lowW (lowW l) = lowW l := by
  unfold lowW
  rw [List.map_map]
  congr 1
  funext c
  exact low_low c
theorem get_congr {n m : List UInt8} (L : List Fld) (h : lowW n = lowW m) : getV L n = getV L m ∧ getN L n = getN L m := by
  have : sameN n = sameN m := by funext f; unfold sameN; rw [h]
  unfold getV getN getS
  rw [this]
  exact ⟨rfl, rfl⟩
theorem get_one {L : List Fld} {x : Fld} (h : x ∈ L) : 1 ≤ getN L x.name := by
  unfold getN getS
  exact List.length_pos_iff.2 (List.ne_nil_of_mem (List.mem_filter.2 ⟨h, by simp [sameN]⟩))
theorem Bytes.keep {S : List Nat} {w w' : World} {b : Nat} {l : List UInt8} (h : Bytes w b l) (k : Keep S w w') (hb : b < w.heap.size) (hn : b ∉ S) : Bytes w' b l :=
  ⟨fun j c hc => (k.cell (p := ⟨b, j, none⟩) hb hn).trans (h.1 j c hc), fun j hj => (k.frozen (p := ⟨b, j, none⟩) hb hn).trans (h.2 j hj)⟩

theorem Bytes.setOther {w : World} {b : Nat} {l : List UInt8} (h : Bytes w b l) {a : Addr} (hb : b ≠ a.block) (v : Value) : Bytes (w.setCell a v) b l :=
  ⟨fun j c hc => by rw [World.cell?_setCell_other w _ _ _ (by intro h'; exact hb (congrArg Addr.block h').symm)]; exact h.1 j c hc, fun j hj => by rw [World.frozen?_setCell]; exact h.2 j hj⟩
theorem up_yes {c : UInt8} (h : 97 ≤ c.toNat ∧ c.toNat ≤ 122) : (upB c).toNat = c.toNat - 32 := by
  unfold upB
  rw [if_pos h, UInt8.toNat_sub_of_le]
  · rfl
  · rw [UInt8.le_iff_toNat_le]; have : (32 : UInt8).toNat = 32 := rfl; omega
theorem low_yes {c : UInt8} (h : 65 ≤ c.toNat ∧ c.toNat ≤ 90) : (lowB c).toNat = c.toNat + 32 := by
  unfold lowB
  rw [if_pos h, UInt8.toNat_add]
  have : (32 : UInt8).toNat = 32 := rfl
  omega
theorem up_no {c : UInt8} (h : ¬ (97 ≤ c.toNat ∧ c.toNat ≤ 122)) : upB c = c := if_neg h
theorem low_no {c : UInt8} (h : ¬ (65 ≤ c.toNat ∧ c.toNat ≤ 90)) : lowB c = c := if_neg h

set_option maxRecDepth 100000 in
set_option maxHeartbeats 2000000 in
theorem fieldNames_few (va : Value) (L : List Fld) (k : Int) (w : World) (hm : ML w) (ha : Sl Fld.cells 2 w va L) (h : L.length = 0 ∨ 60 < L.length) :
    Calls Tryd.prog 7 #[va, .int .i64 k] w fun e w' => e = .returned (.bool true) ∧ Keep [] w w' := by
  obtain ⟨aa, ca, rfl, hal⟩ := ha.shape
  have hal' : L.length ≤ 9223372036854775807 := hal
  have HW := Lib.hid (field_awake w hm)
  clear hal
  rcases h with h | h
  · have h0 : ((L.length : Nat) : Int) = 0 := by omega
    obtain ⟨q1, q2⟩ := int_eq h0
    have H0 := Lib.hid h0
    clear h h0
    go_enter Tryd.func7, Tryd.ntmps7
    go_wp2_with fail
    refine HW.out.mono ?_
    rintro e w1 ⟨rfl, hk1⟩
    have K1 := Lib.hid hk1
    clear hk1
    go_wp2_with fail
    go_ret
    exact ⟨rfl, K1.out⟩
  · obtain ⟨q1, q2⟩ := int_ne (show ((L.length : Nat) : Int) ≠ 0 by omega)
    go_enter Tryd.func7, Tryd.ntmps7
    go_wp2_with fail
    refine HW.out.mono ?_
    rintro e w1 ⟨rfl, hk1⟩
    have K1 := Lib.hid hk1
    clear hk1
    go_wp2_with fail
    go_ret
    exact ⟨rfl, K1.out⟩

set_option maxRecDepth 100000 in
set_option maxHeartbeats 4000000 in
theorem fieldNames_main (va : Value) (L : List Fld) (k : Int) (w : World) (hm : ML w) (ha : Sl Fld.cells 2 w va L) (hg : ∀ x ∈ L, x.name.length ≤ maxLen) (h0 : 0 < L.length) (h60 : L.length ≤ 60) :
    Calls Tryd.prog 7 #[va, .int .i64 k] w fun e w' => e = .returned (.bool true) ∧ Keep [] w w' := by
  obtain ⟨p, hp, ep⟩ := u64_mod k L.length h0
  obtain ⟨x, hx⟩ : ∃ x, L[p]? = some x := ⟨_, List.getElem?_eq_getElem hp⟩
  have hxm : x ∈ L := List.mem_of_getElem? hx
  have hxg := hg x hxm
  have hxg' : x.name.length ≤ 9223372036854775807 := hxg
  obtain ⟨ba, oa, ca, rfl, _, hca, hcell⟩ := ha.cell hx
  have hca' : ca ≤ 9223372036854775807 := hca
  have HA := Lib.hid ha
  have HG := Lib.hid hg
  have HX := Lib.hid (And.intro hx hxm)
  have HW := Lib.hid (field_awake w hm)
  have hc0 := hcell 0 (by omega)
  have hc1 := hcell 1 (by omega)
  simp only [Fld.cells, List.getElem?_cons_zero, List.getElem?_cons_succ, Nat.add_zero] at hc0 hc1
  have HC := Lib.hid (And.intro hc0 hc1)
  obtain ⟨q1, q2⟩ := int_ne (show ((L.length : Nat) : Int) ≠ 0 by omega)
  have sx := S_size x.name
  have hcv := fun w1 => conv_run w1 (S x.name)
  clear ha hg hx hxm hcell hca hc0 hc1 hxg
  by_cases hbig : 200 < x.name.length
  · go_enter Tryd.func7, Tryd.ntmps7
    go_wp2_with fail
    refine HW.out.mono ?_
    rintro e w1 ⟨rfl, hk1⟩
    have d0 := hk1.load HC.out.1
    have d1 := hk1.load HC.out.2
    have K1 := Lib.hid (hk1.alloc (.cells #[.string (S x.name), .string (S x.value)] 34))
    clear hk1
    have hp0 : (0 : Int) ≤ (p : Int) := by omega
    have hp1 : (p : Int) < (L.length : Int) := by omega
    go_wp2_with fail
    go_ret
    exact ⟨rfl, K1.out⟩
  · have hsm : x.name.length ≤ 200 := by omega
    clear hbig
    go_enter Tryd.func7, Tryd.ntmps7
    go_wp2_with fail
    refine HW.out.mono ?_
    rintro e w1 ⟨rfl, hk1⟩
    have d0 := hk1.load HC.out.1
    have d1 := hk1.load HC.out.2
    have hk2 := hk1.alloc (.cells #[.string (S x.name), .string (S x.value)] 34)
    have hb2 := Blk.newA w1 #[.string (S x.name), .string (S x.value)] 34
    have hp0 : (0 : Int) ≤ (p : Int) := by omega
    have hp1 : (p : Int) < (L.length : Int) := by omega
    generalize hw2 : w1.alloc (.cells #[.string (S x.name), .string (S x.value)] 34) = w2 at hk2 hb2
    have hx1 : w1.heap.size < w2.heap.size := by rw [← hw2]; simp
    have hk3 := conv_keep w2 5 (S x.name)
    have hy3 := Bytes.conv w2 5 x.name
    have hb3 := hk3.blk hb2 (by simp)
    have hv2 := hcv w2
    generalize hw3 : Lib.bytesWorld w2 5 (S x.name) = w3 at hk3 hy3 hb3 hv2
    have hx2 : w2.heap.size < w3.heap.size := by rw [← hw3, Lib.bytesWorld_size]; omega
    have hk4 := conv_keep w3 5 (S x.name)
    have hy4 := Bytes.conv w3 5 x.name
    have hb4 := hk4.blk hb3 (by simp)
    have hy5 := hy3.keep hk4 hx2 (by simp)
    have hv3 := hcv w3
    generalize hw4 : Lib.bytesWorld w3 5 (S x.name) = w4 at hk4 hy4 hb4 hy5 hv3
    have hx3 : w3.heap.size < w4.heap.size := by rw [← hw4, Lib.bytesWorld_size]; omega
    have e0 := hb2.get (k := 0) rfl
    have e1 := hb3.get (k := 0) rfl
    have HZ := Lib.hid (And.intro hk1.size (And.intro hx1 (And.intro hx2 hx3)))
    have HK4 := Lib.hid ((hk2.trans hk3).trans hk4)
    have HB4 := Lib.hid (And.intro hb4 (And.intro hy4 hy5))
    clear hk1 hk2 hk3 hk4 hb2 hb3 hb4 hy3 hy4 hy5 hx1 hx2 hx3 hw3 hw4 hcv
    go_wp2_with fail
    have hne : w2.heap.size ≠ w3.heap.size := by have := HZ.out; omega
    have hne' : w3.heap.size ≠ w2.heap.size := Ne.symm hne
    go_loopg [8] x.name.length (fun g i wr => ∃ k : Nat, i = .int .i64 k ∧ k ≤ x.name.length ∧ g = x.name.length - k ∧ Hid (Bytes wr w2.heap.size (upTo x.name k)) ∧ Hid (Bytes wr w3.heap.size (lowTo x.name k)) ∧ Hid (Keep [w2.heap.size, w3.heap.size] w4 wr))
    case atStart => exact ⟨0, rfl, Nat.zero_le _, by omega, Lib.hid (by simpa [upTo] using HB4.out.2.2), Lib.hid (by simpa [lowTo] using HB4.out.2.1), Lib.hid (Keep.refl _ _)⟩
    case round =>
      obtain ⟨k, rfl, hk, hgk, HU, HL, HKr⟩ := hrel
      clear d0 d1 e0 e1
      by_cases hlt : k < x.name.length
      · obtain ⟨c, hg⟩ : ∃ c, x.name[k]? = some c := ⟨_, List.getElem?_eq_getElem hlt⟩
        have hc1 := HU.out.1 k c (upTo_at hg)
        have hf1 := HU.out.2 k (by rw [upTo_length]; exact hlt)
        have hc2 := HL.out.1 k c (lowTo_at hg)
        have hf2 := HL.out.2 k (by rw [lowTo_length]; exact hlt)
        have hc8 := u8_nat c
        have HG := Lib.hid hg
        have hU0 : upB c = c → Bytes wr w2.heap.size (upTo x.name (k + 1)) := fun h => by
          rw [upTo_succ hg, h, list_set_self _ _ _ (upTo_at hg)]; exact HU.out
        have hL0 : lowB c = c → Bytes wr w3.heap.size (lowTo x.name (k + 1)) := fun h => by
          rw [lowTo_succ hg, h, list_set_self _ _ _ (lowTo_at hg)]; exact HL.out
        have HU0 := Lib.hid hU0
        have HL0 := Lib.hid hL0
        clear hg hU0 hL0
        by_cases t1 : 97 ≤ c.toNat
        · by_cases t2 : c.toNat ≤ 122
          · have HH := Lib.hid (up_yes ⟨t1, t2⟩)
            have HN := Lib.hid (low_no (c := c) (by omega))
            go_wp2_with fail
            go_roundg (x.name.length - (k + 1))
            case measure => omega
            case rel =>
              refine ⟨k + 1, by go_num, by omega, rfl, Lib.hid ?_, Lib.hid ((HL0.out HN.out).setOther hne' _), Lib.hid (HKr.out.setCell _ _ (by simp))⟩
              rw [upTo_succ HG.out]
              exact HU.out.set k (by rw [upTo_length]; exact hlt) _ _ (by rw [HH.out]; omega)
          · have HM := Lib.hid (up_no (c := c) (by omega))
            have HN := Lib.hid (low_no (c := c) (by omega))
            go_wp2_with fail
            go_roundg (x.name.length - (k + 1))
            case measure => omega
            case rel => exact ⟨k + 1, by go_num, by omega, rfl, Lib.hid (HU0.out HM.out), Lib.hid (HL0.out HN.out), HKr⟩
        · have HM := Lib.hid (up_no (c := c) (by omega))
          by_cases t2 : 65 ≤ c.toNat
          · by_cases t3 : c.toNat ≤ 90
            · have HH := Lib.hid (low_yes ⟨t2, t3⟩)
              go_wp2_with fail
              go_roundg (x.name.length - (k + 1))
              case measure => omega
              case rel =>
                refine ⟨k + 1, by go_num, by omega, rfl, Lib.hid ((HU0.out HM.out).setOther hne _), Lib.hid ?_, Lib.hid (HKr.out.setCell _ _ (by simp))⟩
                rw [lowTo_succ HG.out]
                exact HL.out.set k (by rw [lowTo_length]; exact hlt) _ _ (by rw [HH.out]; omega)
            · have HN := Lib.hid (low_no (c := c) (by omega))
              go_wp2_with fail
              go_roundg (x.name.length - (k + 1))
              case measure => omega
              case rel => exact ⟨k + 1, by go_num, by omega, rfl, Lib.hid (HU0.out HM.out), Lib.hid (HL0.out HN.out), HKr⟩
          · have HN := Lib.hid (low_no (c := c) (by omega))
            go_wp2_with fail
            go_roundg (x.name.length - (k + 1))
            case measure => omega
            case rel => exact ⟨k + 1, by go_num, by omega, rfl, Lib.hid (HU0.out HM.out), Lib.hid (HL0.out HN.out), HKr⟩
      · have hke : k = x.name.length := by omega
        have hu := HU.out
        have hl := HL.out
        rw [hke, upTo_end] at hu
        rw [hke, lowTo_end] at hl
        have hxb : w1.heap.size ∉ [w2.heap.size, w3.heap.size] := by have := HZ.out; simp; omega
        have f0 := (HKr.out.blk HB4.out.1 hxb).get (k := 0) rfl
        have HUB := Lib.hid hu
        have HLB := Lib.hid hl
        have HKE := Lib.hid hke
        have hkw : Keep [] w wr := HK4.out.trans' HKr.out (by have := HZ.out; simp; omega)
        have hzr := HKr.out.size
        have HZR := Lib.hid hzr
        have hslr := HA.out.keep Fld.cells_length (by omega) HA.out hkw (by simp) (Nat.le_refl _)
        have HS := Lib.hid hslr
        have HKW := Lib.hid hkw
        clear hu hl hke hxb hkw hzr hslr
        go_wp2_with fail
        refine (field_Get _ L x.name _ HS.out (fun y hy => HG.out y hy) hxg').mono ?_
        rintro e w5 ⟨rfl, hk5⟩
        have hu5 := HUB.out.keep hk5 (by have := HZR.out; have := HZ.out; omega) (by simp)
        have hl5 := HLB.out.keep hk5 (by have := HZR.out; have := HZ.out; omega) (by simp)
        have hs5 := HS.out.keep Fld.cells_length (by omega) HS.out hk5 (by simp) (Nat.le_refl _)
        have v1 := hu5.back (P := Tryd.prog) 46 9 5 x.name.length (grownCap w2 x.name.length 0 5) (by simp) Tryd.underlying46 Tryd.underlying5 Tryd.underlying9
        have HL5 := Lib.hid hl5
        have HS5 := Lib.hid hs5
        have K5 := Lib.hid (HKW.out.trans hk5)
        have Z5 := Lib.hid (show w3.heap.size < w5.heap.size by have := hk5.size; have := HZR.out; have := HZ.out; omega)
        clear hk5 hu5 hl5 hs5 f0
        go_wp2_with fail
        clear v1
        refine (field_Get _ L (x.name.map upB) _ HS5.out (fun y hy => HG.out y hy) (by rw [List.length_map]; exact hxg')).mono ?_
        rintro e w6 ⟨rfl, hk6⟩
        have hl6 := HL5.out.keep hk6 Z5.out (by simp)
        have hs6 := HS5.out.keep Fld.cells_length (by omega) HS5.out hk6 (by simp) (Nat.le_refl _)
        have v2 := hl6.back (P := Tryd.prog) 46 9 5 x.name.length (grownCap w3 x.name.length 0 5) (by simp [lowW]) Tryd.underlying46 Tryd.underlying5 Tryd.underlying9
        have HS6 := Lib.hid hs6
        have K6 := Lib.hid (K5.out.trans hk6)
        clear hk6 hl6 hs6
        go_wp2_with fail
        clear v2
        refine (field_Get _ L (lowW x.name) _ HS6.out (fun y hy => HG.out y hy) (by unfold lowW; rw [List.length_map]; exact hxg')).mono ?_
        rintro e w7 ⟨rfl, hk7⟩
        have K7 := Lib.hid (K6.out.trans hk7)
        clear hk7
        obtain ⟨g1, g2⟩ := get_congr (n := x.name.map upB) (m := x.name) L (lowW_up _)
        obtain ⟨g3, g4⟩ := get_congr (n := lowW x.name) (m := x.name) L (lowW_low _)
        rw [g1, g2, g3, g4]
        have n1 := get_one (L := L) HX.out.2
        have n2 := getN_le L x.name
        have t0 := S_toList (getV L x.name)
        clear g1 g2 g3 g4
        generalize getV L x.name = gv at t0
        generalize getN L x.name = gn at n1 n2
        obtain ⟨z1, z2⟩ := nat_eq (show gn = gn from rfl)
        go_wp2_with fail
        go_ret
        exact ⟨rfl, K7.out⟩

theorem fieldNames_all (va : Value) (L : List Fld) (k : Int) (w : World) (hm : ML w) (ha : Sl Fld.cells 2 w va L) (hg : ∀ x ∈ L, x.name.length ≤ maxLen) :
    Calls Tryd.prog 7 #[va, .int .i64 k] w fun e w' => e = .returned (.bool true) ∧ Keep [] w w' := by
  by_cases h : L.length = 0 ∨ 60 < L.length
  · exact fieldNames_few va L k w hm ha h
  · exact fieldNames_main va L k w hm ha hg (by omega) (by omega)
end Go.Proofs.YtbeppooknhmhaaaDoor
