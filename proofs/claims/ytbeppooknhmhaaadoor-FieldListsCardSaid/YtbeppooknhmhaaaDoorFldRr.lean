/- Layer 10: the document's Frame. No conditions but on lengths. -/
import Derived.Test.YtbeppooknhmhaaaDoorFldRf
import Derived.Test.YtbeppooknhmhaaaDoorFldNames
namespace Go.Proofs.YtbeppooknhmhaaaDoor
open Go.RowKit Go.Shelf

set_option maxRecDepth 100000 in
set_option maxHeartbeats 1000000 in
theorem ref_Frame (va : Value) (L : List Fld) (most : Int) (w : World) (ha : Sl Fld.cells 2 w va L) (hg : ∀ x ∈ L, x.name.length ≤ 70368744177664) (hv : ∀ x ∈ L, x.value.length ≤ 70368744177664) (hl : L.length ≤ 4611686018427387904) :
    Calls Tryd.prog 27 #[va, .int .i64 most] w fun e w' => e = .returned (.tuple #[.int .i64 (frameM L most).n, .bool (frameM L most).ch, .int .i64 (frameM L most).e]) ∧ Keep [] w w' := by
  have hG1 := ref_Get va L [116, 114, 97, 110, 115, 102, 101, 114, 45, 101, 110, 99, 111, 100, 105, 110, 103] w ha hg (by decide)
  have hG2 := fun w1 (k : Keep [] w w1) => ref_Get va L [99, 111, 110, 116, 101, 110, 116, 45, 108, 101, 110, 103, 116, 104] w1 (ha.keep Fld.cells_length (by omega) ha k (by simp) (Nat.le_refl _)) hg (by decide)
  have hL := fun w1 => ref_Low (getV L nTE) w1 (getV_len hv)
  have hU := fun w1 => ref_Undec (getV L nCL) most w1 (show _ ≤ 9223372036854775807 from Nat.le_trans (getV_len hv) (by omega))
  have hF : frameM L most = if 1 < getN L nTE ∨ 1 < getN L nCL ∨ 1 < getN L nTE + getN L nCL then ⟨0, false, 3⟩
    else if getN L nTE = 1 then (if lowW (getV L nTE) = nChunked then ⟨0, true, 0⟩ else ⟨0, false, 3⟩)
    else if getN L nCL = 0 then ⟨-1, false, 0⟩
    else ⟨undecV (getV L nCL) most, false, if undecE (getV L nCL) most = 14 then 4 else undecE (getV L nCL) most⟩ := rfl
  have hR := undec_range (getV L nCL) most
  have b1 := getN_le L nTE
  have b2 := getN_le L nCL
  unfold GetOut at hG1 hG2
  obtain ⟨g1, g2⟩ := get_congr (n := [116, 114, 97, 110, 115, 102, 101, 114, 45, 101, 110, 99, 111, 100, 105, 110, 103]) (m := nTE) L (by decide)
  obtain ⟨g3, g4⟩ := get_congr (n := [99, 111, 110, 116, 101, 110, 116, 45, 108, 101, 110, 103, 116, 104]) (m := nCL) L (by decide)
  rw [g1, g2] at hG1
  rw [g3, g4] at hG2
  generalize frameM L most = f at hF
  generalize getV L nTE = tv at hL hF hG1
  generalize getV L nCL = cv at hU hF hG2 hR
  generalize getN L nTE = tn at hF b1 hG1
  generalize getN L nCL = cn at hF b2 hG2
  obtain ⟨fn, fc, fe⟩ := f
  dsimp only
  have HG1 := Lib.hid hG1
  have HG2 := Lib.hid hG2
  clear ha hg hv hG1 hG2 g1 g2 g3 g4
  by_cases t0 : 0 < tn
  · by_cases t1 : 1 < tn
    · rw [if_pos (.inl t1)] at hF
      have HF := Lib.hid hF
      clear hF hL hU hR
      go_enter Tryd.func27, Tryd.ntmps27
      go_wp2_with fail
      refine HG1.out.mono ?_
      rintro e w1 ⟨rfl, hk1⟩
      have K1 := Lib.hid hk1
      clear hk1
      go_wp2_with fail
      refine (HG2.out _ K1.out).mono ?_
      rintro e w2 ⟨rfl, hk2⟩
      have K2 := Lib.hid (K1.out.trans hk2)
      clear hk2
      go_wp2_with fail
      go_ret3
      exact ⟨frm_ret (by cases HF.out; rfl) (by cases HF.out; rfl) (by cases HF.out; rfl), K2.out⟩
    · have t2 : tn = 1 := by omega
      by_cases t3 : 0 < cn
      · rw [if_pos (.inr (.inr (by omega)))] at hF
        have HF := Lib.hid hF
        have t4 : tn ≤ 1 := by omega
        clear hF hL hU hR t2
        go_enter Tryd.func27, Tryd.ntmps27
        go_wp2_with fail
        refine HG1.out.mono ?_
        rintro e w1 ⟨rfl, hk1⟩
        have K1 := Lib.hid hk1
        clear hk1
        go_wp2_with fail
        refine (HG2.out _ K1.out).mono ?_
        rintro e w2 ⟨rfl, hk2⟩
        have K2 := Lib.hid (K1.out.trans hk2)
        clear hk2
        go_wp2_with fail
        go_ret3
        exact ⟨frm_ret (by cases HF.out; rfl) (by cases HF.out; rfl) (by cases HF.out; rfl), K2.out⟩
      · rw [if_neg (by omega), if_pos t2] at hF
        have t4 : tn ≤ 1 := by omega
        have HL := Lib.hid hL
        have q5 := S_toList (lowW tv)
        by_cases hc : lowW tv = nChunked
        · rw [if_pos hc] at hF
          have q3 : (lowW tv == [99, 104, 117, 110, 107, 101, 100]) = true := by rw [hc]; rfl
          have q4 : (lowW tv != [99, 104, 117, 110, 107, 101, 100]) = false := by rw [hc]; rfl
          have HF := Lib.hid hF
          clear hF hL hU hR t2 hc
          go_enter Tryd.func27, Tryd.ntmps27
          go_wp2_with fail
          refine HG1.out.mono ?_
          rintro e w1 ⟨rfl, hk1⟩
          have K1 := Lib.hid hk1
          clear hk1
          go_wp2_with fail
          refine (HG2.out _ K1.out).mono ?_
          rintro e w2 ⟨rfl, hk2⟩
          have K2 := Lib.hid (K1.out.trans hk2)
          clear hk2
          go_wp2_with fail
          refine (HL.out _).mono ?_
          rintro e w3 ⟨rfl, hk3⟩
          have K3 := Lib.hid (K2.out.trans hk3)
          clear hk3
          go_wp2_with fail
          go_ret3
          exact ⟨frm_ret (by cases HF.out; rfl) (by cases HF.out; rfl) (by cases HF.out; rfl), K3.out⟩
        · rw [if_neg hc] at hF
          have q3 : (lowW tv == [99, 104, 117, 110, 107, 101, 100]) = false := beq_eq_false_iff_ne.2 hc
          have q4 : (lowW tv != [99, 104, 117, 110, 107, 101, 100]) = true := bne_iff_ne.2 hc
          have HF := Lib.hid hF
          clear hF hL hU hR t2 hc
          go_enter Tryd.func27, Tryd.ntmps27
          go_wp2_with fail
          refine HG1.out.mono ?_
          rintro e w1 ⟨rfl, hk1⟩
          have K1 := Lib.hid hk1
          clear hk1
          go_wp2_with fail
          refine (HG2.out _ K1.out).mono ?_
          rintro e w2 ⟨rfl, hk2⟩
          have K2 := Lib.hid (K1.out.trans hk2)
          clear hk2
          go_wp2_with fail
          refine (HL.out _).mono ?_
          rintro e w3 ⟨rfl, hk3⟩
          have K3 := Lib.hid (K2.out.trans hk3)
          clear hk3
          go_wp2_with fail
          go_ret3
          exact ⟨frm_ret (by cases HF.out; rfl) (by cases HF.out; rfl) (by cases HF.out; rfl), K3.out⟩
  · have t1 : tn = 0 := by omega
    have HU := Lib.hid hU
    by_cases t5 : cn = 0
    · rw [if_neg (by omega), if_neg (by omega), if_pos t5] at hF
      obtain ⟨q3, q4⟩ := int_eq (show ((cn : Nat) : Int) = 0 by omega)
      have HF := Lib.hid hF
      clear hF hL hU hR t1 t5
      go_enter Tryd.func27, Tryd.ntmps27
      go_wp2_with fail
      refine HG1.out.mono ?_
      rintro e w1 ⟨rfl, hk1⟩
      have K1 := Lib.hid hk1
      clear hk1
      go_wp2_with fail
      refine (HG2.out _ K1.out).mono ?_
      rintro e w2 ⟨rfl, hk2⟩
      have K2 := Lib.hid (K1.out.trans hk2)
      clear hk2
      go_wp2_with fail
      go_ret3
      exact ⟨frm_ret (by cases HF.out; rfl) (by cases HF.out; rfl) (by cases HF.out; rfl), K2.out⟩
    · obtain ⟨q3, q4⟩ := int_ne (show ((cn : Nat) : Int) ≠ 0 by omega)
      by_cases t6 : 1 < cn
      · rw [if_pos (.inr (.inl t6))] at hF
        have HF := Lib.hid hF
        clear hF hL hU hR t1 t5
        go_enter Tryd.func27, Tryd.ntmps27
        go_wp2_with fail
        refine HG1.out.mono ?_
        rintro e w1 ⟨rfl, hk1⟩
        have K1 := Lib.hid hk1
        clear hk1
        go_wp2_with fail
        refine (HG2.out _ K1.out).mono ?_
        rintro e w2 ⟨rfl, hk2⟩
        have K2 := Lib.hid (K1.out.trans hk2)
        clear hk2
        go_wp2_with fail
        refine (HU.out _).mono ?_
        rintro e w3 ⟨rfl, rfl⟩
        go_wp2_with fail
        go_ret3
        exact ⟨frm_ret (by cases HF.out; rfl) (by cases HF.out; rfl) (by cases HF.out; rfl), K2.out⟩
      · rw [if_neg (by omega), if_neg (by omega), if_neg t5] at hF
        have t7 : cn ≤ 1 := by omega
        generalize undecV cv most = uv at hF HU hR
        generalize undecE cv most = ue at hF HU hR
        by_cases h0 : ue = 0
        · rw [if_neg (by omega), h0] at hF
          obtain ⟨z1, z2⟩ := int_eq h0
          obtain ⟨z3, z4⟩ := int_ne (show ue ≠ 3 by omega)
          have HF := Lib.hid hF
          clear hF hL hU hR t1 t5 t6 h0
          go_enter Tryd.func27, Tryd.ntmps27
          go_wp2_with fail
          refine HG1.out.mono ?_
          rintro e w1 ⟨rfl, hk1⟩
          have K1 := Lib.hid hk1
          clear hk1
          go_wp2_with fail
          refine (HG2.out _ K1.out).mono ?_
          rintro e w2 ⟨rfl, hk2⟩
          have K2 := Lib.hid (K1.out.trans hk2)
          clear hk2
          go_wp2_with fail
          refine (HU.out _).mono ?_
          rintro e w3 ⟨rfl, rfl⟩
          go_wp2_with fail
          go_ret3
          exact ⟨frm_ret (by cases HF.out; rfl) (by cases HF.out; rfl) (by cases HF.out; rfl), K2.out⟩
        · obtain ⟨r1, r2⟩ := hR.2 h0
          obtain ⟨z1, z2⟩ := int_ne h0
          rcases r2 with h14 | h3
          · rw [if_pos h14, r1] at hF
            obtain ⟨z3, z4⟩ := int_ne (show ue ≠ 3 by omega)
            have HF := Lib.hid hF
            clear hF hL hU hR t1 t5 t6 h0 h14 r1
            go_enter Tryd.func27, Tryd.ntmps27
            go_wp2_with fail
            refine HG1.out.mono ?_
            rintro e w1 ⟨rfl, hk1⟩
            have K1 := Lib.hid hk1
            clear hk1
            go_wp2_with fail
            refine (HG2.out _ K1.out).mono ?_
            rintro e w2 ⟨rfl, hk2⟩
            have K2 := Lib.hid (K1.out.trans hk2)
            clear hk2
            go_wp2_with fail
            refine (HU.out _).mono ?_
            rintro e w3 ⟨rfl, rfl⟩
            go_wp2_with fail
            go_ret3
            exact ⟨frm_ret (by cases HF.out; rfl) (by cases HF.out; rfl) (by cases HF.out; rfl), K2.out⟩
          · rw [if_neg (by omega), r1, h3] at hF
            obtain ⟨z3, z4⟩ := int_eq h3
            have HF := Lib.hid hF
            clear hF hL hU hR t1 t5 t6 h0 h3 r1
            go_enter Tryd.func27, Tryd.ntmps27
            go_wp2_with fail
            refine HG1.out.mono ?_
            rintro e w1 ⟨rfl, hk1⟩
            have K1 := Lib.hid hk1
            clear hk1
            go_wp2_with fail
            refine (HG2.out _ K1.out).mono ?_
            rintro e w2 ⟨rfl, hk2⟩
            have K2 := Lib.hid (K1.out.trans hk2)
            clear hk2
            go_wp2_with fail
            refine (HU.out _).mono ?_
            rintro e w3 ⟨rfl, rfl⟩
            go_wp2_with fail
            go_ret3
            exact ⟨frm_ret (by cases HF.out; rfl) (by cases HF.out; rfl) (by cases HF.out; rfl), K2.out⟩
end Go.Proofs.YtbeppooknhmhaaaDoor
