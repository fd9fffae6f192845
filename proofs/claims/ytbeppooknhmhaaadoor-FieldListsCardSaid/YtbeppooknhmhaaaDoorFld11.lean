/- Layer 10: the program's Elements. No conditions but on lengths. -/
import Derived.Test.YtbeppooknhmhaaaDoorFld10
namespace Go.Proofs.YtbeppooknhmhaaaDoor
open Go.RowKit Go.Shelf

set_option maxRecDepth 100000 in
set_option maxHeartbeats 2000000 in
theorem field_Elements (va : Value) (L : List Fld) (n : List UInt8) (w : World) (ha : Sl Fld.cells 2 w va L) (hg : ∀ x ∈ L, x.name.length ≤ 1048576 ∧ x.value.length ≤ 1048576) (hn : n.length ≤ 1048576) (hl : L.length ≤ 1024) :
    Calls Tryd.prog 26 #[va, .string (S n)] w (Texts w (elsM L n)) := by
  obtain ⟨aa, ca, rfl, _⟩ := ha.shape
  have HA := Lib.hid ha
  have HG := Lib.hid hg
  have HN := Lib.hid hn
  obtain ⟨is, Hs⟩ := strinfo'
  have HM := Lib.hid (show maxLen = 9223372036854775807 from rfl)
  clear ha hg hn
  go_enter Tryd.func26, Tryd.ntmps26
  go_wp2_with fail
  go_loopg [4, 11] L.length (fun g o i wr => ∃ k : Nat, i = .int .i64 k ∧ k ≤ L.length ∧ g = L.length - k ∧ Own strC 1 w.heap.size 9 wr o (elsM (L.take k) n) ∧ (elsM (L.take k) n).length ≤ k * 1048577 ∧ Keep [] w wr)
  case atStart => exact ⟨0, rfl, Nat.zero_le _, by omega, Own.nil strC 1 _ 9 w, Nat.zero_le _, Keep.refl [] w⟩
  case round =>
    obtain ⟨k, rfl, hk, hgk, ho, hol, hkr⟩ := hrel
    have HO := Lib.hid ho
    have HK := Lib.hid hkr
    clear ho hkr
    by_cases hlt : k < L.length
    · obtain ⟨x, hx⟩ : ∃ x, L[k]? = some x := ⟨_, List.getElem?_eq_getElem hlt⟩
      obtain ⟨b1, o1, c1, e1, l1, m1, x1⟩ := HA.out.cell hx
      simp only [Value.slice.injEq] at e1
      obtain ⟨rfl, _, rfl⟩ := e1
      have a0 := x1 0 (by omega)
      have a1 := x1 1 (by omega)
      simp only [Fld.cells, List.getElem?_cons_zero, List.getElem?_cons_succ, Nat.add_zero] at a0 a1
      have A0 := Lib.hid a0
      have A1 := Lib.hid a1
      have HX := Lib.hid hx
      have hb := HG.out x (List.mem_of_getElem? hx)
      have HB := Lib.hid hb
      clear hx x1 l1 m1 hb a0 a1
      have d0 := HK.out.load A0.out
      have hbA := Blk.newA wr #[.string (S x.name), .string (S x.value)] 34
      have HBA := Lib.hid hbA
      clear hbA
      have d2 := HK.out.load A1.out
      go_upto_region 4 with fail
      go_wp2_with fail
      refine (field_low x.name _ (show _ ≤ 9223372036854775807 by have := HB.out.1; omega)).mono ?_
      rintro e w1 ⟨rfl, hk1⟩
      go_wp2_with fail
      refine (field_low n _ (show _ ≤ 9223372036854775807 by have := HN.out; omega)).mono ?_
      rintro e w2 ⟨rfl, hk2⟩
      have HKA := (Keep.refl [] wr).alloc (.cells #[.string (S x.name), .string (S x.value)] 34)
      have HK2 := Lib.hid (((HK.out.trans HKA).trans hk1).trans hk2)
      have HKK := Lib.hid ((HKA.trans hk1).trans hk2)
      have d1 := (hk1.trans hk2).load (HBA.out.get (k := 1) rfl)
      clear hk1 hk2 d0 d2 HKA
      have HO2 := Lib.hid (HO.out.keep0 HKK.out)
      by_cases hs : lowW x.name = lowW n
      · have h1 : ((S (lowW x.name)).toList == (S (lowW n)).toList) = true := by rw [hs]; simp
        have HE := Lib.hid (els_yes HX.out hs)
        have HV := Lib.hid (Nat.le_trans (cutW_length x.value 44) (Nat.succ_le_succ HB.out.2))
        clear hs
        go_wp2_with fail
        refine (field_cut x.value 44 _ HB.out.2).mono ?_
        rintro e w3 ⟨vc, rfl, hc, hk3⟩
        have hsep := Sep.of_base HO2.out hc (Nat.le_refl _)
        have HO3 := HO2.out.keep0 hk3
        have HK3 := HK2.out.trans hk3
        have hc3 := hc.lower (base' := w.heap.size) HK2.out.size
        generalize hM : cutW x.value 44 = M at hc3 HE HV
        clear hc hk3 hM
        obtain ⟨ac, cc, rfl, hml⟩ := hc3.shape
        have hml' : M.length ≤ 9223372036854775807 := hml
        have H0 := Lib.hid (And.intro HO3 (And.intro hc3 (And.intro hsep HK3)))
        clear HO3 hc3 hsep HK3 hml
        go_wp2_with fail
        go_loopg [4, 25] M.length (fun g o2 j wz => ∃ m : Nat, j = .int .i64 m ∧ m ≤ M.length ∧ g = M.length - m ∧ Own strC 1 w.heap.size 9 wz o2 (elsM (L.take k) n ++ full (M.take m)) ∧
          Own strC 1 w.heap.size 9 wz (.slice ac M.length cc) M ∧ Sep o2 (.slice ac M.length cc) ∧ Keep [] w wz)
        case atStart => exact ⟨0, rfl, Nat.zero_le _, by omega, by simpa [full] using H0.out.1, H0.out.2.1, H0.out.2.2.1, H0.out.2.2.2⟩
        case round =>
          obtain ⟨m, rfl, hm, hgm, ho2, hc2, hsep2, hkz⟩ := hrel
          have HOz := Lib.hid ho2
          have HCz := Lib.hid hc2
          have HSz := Lib.hid hsep2
          have HKz := Lib.hid hkz
          clear ho2 hc2 hsep2 hkz
          by_cases hlm : m < M.length
          · obtain ⟨s, hs⟩ : ∃ s, M[m]? = some s := ⟨_, List.getElem?_eq_getElem hlm⟩
            obtain ⟨b2, o2, c2, e2, _, _, x2⟩ := (HCz.out.sl strC_length).cell hs
            simp only [Value.slice.injEq] at e2
            obtain ⟨rfl, _, rfl⟩ := e2
            have s0 := x2 0 (by omega)
            simp only [strC, List.getElem?_cons_zero, Nat.add_zero, Nat.mul_one] at s0
            have hte := S_toList s
            have HSS := Lib.hid hs
            clear x2 hs
            by_cases hse : s = []
            · have HF := Lib.hid (full_no HSS.out hse)
              subst hse
              have hq : (S []).toList = [] := S_toList []
              go_wp2_with fail
              go_roundg (M.length - (m + 1))
              case measure => omega
              case rel => exact ⟨m + 1, by go_num, by omega, rfl, by rw [HF.out]; exact HOz.out, HCz.out, HSz.out, HKz.out⟩
            · have HF := Lib.hid (full_yes HSS.out hse)
              have hie : s.isEmpty = false := by cases s <;> simp_all
              have hfl := full_length (M.take m)
              have hfl2 : (M.take m).length ≤ m := by simp; omega
              have hvv : M.length ≤ 1048577 := HV.out
              clear HV
              go_wp2_with (first
                | (at_builtin; go_must (refine wpList_append2 rfl _ _ 53 rfl is (.string ⟨#[]⟩) 16 Tryd.underlying53 Hs rfl (by decide) strC_length strC_one w wr rfl HKz.out (by rfl) HOz.out s _ (strC_of rfl) _ rfl (by have := HM.out; simp; omega) (by simp; omega) ?_); intro v' w4 hown' hk4 hside)
                | fail)
              have h5 := hside HCz.out HSz.out
              go_roundg (M.length - (m + 1))
              case measure => omega
              case rel => exact ⟨m + 1, by go_num, by omega, rfl, by rw [HF.out, ← List.append_assoc]; exact hown', h5.1, h5.2, hk4⟩
          · have hme : M.take m = M := List.take_of_length_le (by omega)
            have hfl := full_length M
            have hvv : M.length ≤ 1048577 := HV.out
            clear HV
            go_wp2_with fail
            go_roundg (L.length - (k + 1))
            case measure => omega
            case rel => exact ⟨k + 1, by go_num, by omega, rfl, by rw [HE.out, ← hme]; exact HOz.out, by rw [HE.out, List.length_append]; exact els_bound hol hfl hvv, HKz.out⟩
      · have h1 : ((S (lowW x.name)).toList == (S (lowW n)).toList) = false := by rw [S_toList, S_toList]; simpa using hs
        have HE := Lib.hid (els_no HX.out hs)
        clear hs
        go_wp2_with fail
        go_roundg (L.length - (k + 1))
        case measure => omega
        case rel => exact ⟨k + 1, by go_num, by omega, rfl, by rw [HE.out]; exact HO2.out, by rw [HE.out]; exact els_bound0 hol, HK2.out⟩
    · have hke : L.take k = L := List.take_of_length_le (by omega)
      rw [hke] at HO
      go_wp2_with fail
      go_ret
      exact ⟨_, rfl, HO.out, HK.out⟩
end Go.Proofs.YtbeppooknhmhaaaDoor
