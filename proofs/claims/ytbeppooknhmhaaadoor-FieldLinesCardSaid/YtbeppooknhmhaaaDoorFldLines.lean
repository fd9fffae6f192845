/- Layer 10: the statement FieldLines: its function answers true for every input. No conditions. -/
import Derived.Test.YtbeppooknhmhaaaDoorFld16
namespace Go.Proofs.YtbeppooknhmhaaaDoor
open Go.RowKit Go.Shelf

theorem ext_get {W : World} {b : Nat} {T : TypeId} {xs : List Value} (h : Blk W b T xs) (k : Nat) {v : Value} (hv : xs[k]? = some v) (x : Ext W) : (ext W x).cell? ⟨b, k, none⟩ = some v := ((ext_keep _ x).blk h (by simp)).get hv

theorem ref_parse_is {l n v : List UInt8} {k : Int} (w : World) (hl : l.length ≤ 4611686018427387904) (hv : parseV l = ⟨n, v⟩) (he : parseE l = k) :
    Calls Tryd.prog 15 #[.string (S l)] w fun e w' => e = .returned (.tuple #[.agg #[.string (S n), .string (S v)], .int .i64 k]) ∧ Keep [] w w' := by
  have h := ref_Parse l w hl
  unfold RefParse at h
  rw [hv, he] at h
  exact h

set_option maxRecDepth 100000 in
set_option maxHeartbeats 2000000 in
theorem fieldLines_small (l : List UInt8) (f : Fld) (w : World) (hm : ML w) (b4 : l.length ≤ 4096) (b2 : f.name.length ≤ 4096) (b3 : f.value.length ≤ 4096) :
    Calls Tryd.prog 5 #[.string (S l), .agg #[.string (S f.name), .string (S f.value)]] w fun e w' => e = .returned (.bool true) ∧ Keep [] w w' := by
  have s0 := S_size l
  have s1 := S_size f.name
  have s2 := S_size f.value
  have hbA := Blk.newA w #[.string (S f.name), .string (S f.value)] 34
  have hkA := (Keep.refl [] w).alloc (.cells #[.string (S f.name), .string (S f.value)] 34)
  generalize hwA : w.alloc (.cells #[.string (S f.name), .string (S f.value)] 34) = wA at hbA hkA
  have HW := Lib.hid (fun w1 (h : Keep [] wA w1) => field_awake w1 (hm.keep (hkA.trans h) (by simp)))
  obtain ⟨xn, xv⟩ : ∃ xn xv, parseV l = ⟨xn, xv⟩ := ⟨_, _, rfl⟩
  obtain ⟨xv, hx⟩ := xv
  obtain ⟨xe, he⟩ : ∃ xe, parseE l = xe := ⟨_, rfl⟩
  have HP := Lib.hid (fun w1 (h : Keep [] wA w1) => parse_is hm (hkA.trans h) (by omega) hx he)
  have hmx : ∀ {x : List UInt8}, x.length ≤ 4096 → x.length ≤ maxLen := fun h => show _ ≤ 9223372036854775807 by omega
  have HR := Lib.hid (fun w1 => ref_parse_is w1 (show l.length ≤ 4611686018427387904 by omega) hx he)
  have hT := fun w1 => ref_IsToken f.name w1 (hmx b2)
  have hX := fun w1 => ref_Text f.value w1 (hmx b3)
  have hR := fun w1 => ref_Trim f.value w1 (hmx b3)
  have HT1 := Lib.hid (fun w1 => field_IsToken l w1 (hmx b4))
  have HT2 := Lib.hid (fun w1 => ref_IsToken l w1 (hmx b4))
  have HG := Lib.hid (fun w1 => field_Good f w1 (hmx b2) (hmx b3))
  have HQ := Lib.hid (fun w1 => field_Print f w1 (by omega))
  have HA := Lib.hid hbA
  have HK := Lib.hid hkA
  have hG : goodF f = (isTok f.name && isTxt f.value && (trimW f.value == f.value)) := rfl
  clear hbA hkA hmx hx he
  go_enter Tryd.func5, Tryd.ntmps5
  go_wp2_with fail
  refine (HW.out _ (Keep.refl _ _)).mono ?_
  rintro e w1 ⟨rfl, hk1⟩
  have K1 := Lib.hid hk1
  have hb1 := hk1.blk HA.out (by simp)
  have d0 := hb1.get (k := 0) rfl
  have d1 := hb1.get (k := 1) rfl
  clear hk1 hb1 hwA
  go_wp2_with fail
  clear d0 d1
  refine (HP.out _ K1.out).mono ?_
  rintro e w2 ⟨rfl, hk2⟩
  have K2 := Lib.hid ((K1.out.trans hk2).alloc (.cells #[.string (S xn), .string (S xv)] 34))
  have B2 := Lib.hid (Blk.newA w2 #[.string (S xn), .string (S xv)] 34)
  clear hk2
  go_wp2_with fail
  refine (HR.out _).mono ?_
  rintro e w3 ⟨rfl, hk3⟩
  have K3 := Lib.hid ((K2.out.trans hk3).alloc (.cells #[.string (S xn), .string (S xv)] 34))
  have B3 := Lib.hid (Blk.newA w3 #[.string (S xn), .string (S xv)] 34)
  have B2' := Lib.hid ((hk3.blk B2.out (by simp)).alloc (.cells #[.string (S xn), .string (S xv)] 34))
  clear hk3 B2
  go_wp2_with fail
  have B1 := Lib.hid (K3.out.blk HA.out (by simp))
  clear HA HW HP HR K1 K2
  generalize w3.alloc (.cells #[.string (S xn), .string (S xv)] 34) = w4 at K3 B1 B3 B2'
  go_cut [9] (fun v wr => v = .bool (goodF f) ∧ Hid (Keep [] w4 wr))
  case first =>
    have hA0 := ext_get B1.out 0 rfl
    have hA1 := ext_get B1.out 1 rfl
    cases htk : isTok f.name with
    | false =>
      rw [htk] at hT hG
      have HT := Lib.hid hT
      have HGG := Lib.hid hG
      clear hT hX hR hG htk
      refine wp_region_ext_lit (by kernel_rfl) (by kernel_rfl) ?_
      repeat (go_big_quiet_step ((go_at_call 16; exact Calls.quiet_ext_same (HT.out _))))
      refine wpQuiet_nil ?_
      intro _ hw'
      obtain ⟨nq, hw''⟩ := hw'
      subst hw''
      go_wp2_with fail
      go_meet
      exact ⟨by rw [HGG.out]; rfl, Lib.hid (ext_keep _ nq)⟩
    | true =>
      cases htx : isTxt f.value with
      | false =>
        rw [htk] at hT
        rw [htx] at hX
        rw [htk, htx] at hG
        have HT := Lib.hid hT
        have HX := Lib.hid hX
        have HGG := Lib.hid hG
        clear hT hX hR hG htk htx
        refine wp_region_ext_lit (by kernel_rfl) (by kernel_rfl) ?_
        repeat (go_big_quiet_step ((first | (go_at_call 16; exact Calls.quiet_ext_same (HT.out _)) | (go_at_call 17; exact Calls.quiet_ext_same (HX.out _)))))
        refine wpQuiet_nil ?_
        intro _ hw'
        obtain ⟨nq, hw''⟩ := hw'
        subst hw''
        go_wp2_with fail
        go_meet
        exact ⟨by rw [HGG.out]; rfl, Lib.hid (ext_keep _ nq)⟩
      | true =>
        rw [htk] at hT
        rw [htx] at hX
        rw [htk, htx] at hG
        have HT := Lib.hid hT
        have HX := Lib.hid hX
        have HR := Lib.hid hR
        have HGG := Lib.hid hG
        have h1 := S_toList (trimW f.value)
        have h2 := S_toList f.value
        clear hT hX hR hG htk htx
        refine wp_region_ext_lit (by kernel_rfl) (by kernel_rfl) ?_
        repeat (go_big_quiet_step ((first | (go_at_call 16; exact Calls.quiet_ext_same (HT.out _)) | (go_at_call 17; exact Calls.quiet_ext_same (HX.out _)) | (go_at_call 18; exact Calls.quiet_ext_same (HR.out _)))))
        refine wpQuiet_nil ?_
        intro _ hw'
        obtain ⟨nq, hw''⟩ := hw'
        subst hw''
        go_wp2_with fail
        go_meet
        exact ⟨by rw [HGG.out]; rfl, Lib.hid (ext_keep _ nq)⟩
  case rest =>
    obtain ⟨rfl, HK5⟩ := hcut
    clear hT hX hR hG
    have b1 := HK5.out.blk B1.out (by simp)
    have b2' := HK5.out.blk B2'.out (by simp)
    have b3' := HK5.out.blk B3.out (by simp)
    have hA0 := ext_get b1 0 rfl
    have hA1 := ext_get b1 1 rfl
    have hX0 := ext_get b2' 0 rfl
    have hX1 := ext_get b2' 1 rfl
    have hY0 := ext_get b3' 0 rfl
    have hY1 := ext_get b3' 1 rfl
    have hsum : S f.name ++ ⟨#[58, 32]⟩ ++ S f.value = S (printF f) := by
      show S f.name ++ S [58, 32] ++ S f.value = _
      rw [S_append, S_append]; rfl
    have K6 := Lib.hid ((HK.out.trans K3.out).trans HK5.out)
    have q1 : (isTok l == isTok l) = true := by simp
    have q2 : (goodF f == goodF f) = true := by simp
    clear b1 b2' b3' B1 B2' B3 HK K3 HK5
    go_wp2_with fail
    refine wp_region_ext_lit (by kernel_rfl) (by kernel_rfl) ?_
    repeat (go_big_quiet_step ((first | (go_at_call 19; exact Calls.quiet_ext (HT1.out _)) | (go_at_call 16; exact Calls.quiet_ext_same (HT2.out _)) | (go_at_call 20; exact Calls.quiet_ext (HG.out _)) | (go_at_call 21; exact Calls.quiet_ext (HQ.out _)))))
    refine wpQuiet_nil ?_
    intro _ hw'
    obtain ⟨nq, hw''⟩ := hw'
    subst hw''
    go_wp2_with fail
    go_ret
    exact ⟨rfl, K6.out.trans (ext_keep _ nq)⟩

set_option maxRecDepth 100000 in
set_option maxHeartbeats 2000000 in
theorem fieldLines_all (l : List UInt8) (f : Fld) (w : World) (hm : ML w) (hl : l.length ≤ maxLen) (hn : f.name.length ≤ maxLen) (hv : f.value.length ≤ maxLen) :
    Calls Tryd.prog 5 #[.string (S l), .agg #[.string (S f.name), .string (S f.value)]] w fun e w' => e = .returned (.bool true) ∧ Keep [] w w' := by
  have hl' : l.length ≤ 9223372036854775807 := hl
  have hn' : f.name.length ≤ 9223372036854775807 := hn
  have hv' : f.value.length ≤ 9223372036854775807 := hv
  have s0 := S_size l
  have s1 := S_size f.name
  have s2 := S_size f.value
  have hbA := Blk.newA w #[.string (S f.name), .string (S f.value)] 34
  have hkA := (Keep.refl [] w).alloc (.cells #[.string (S f.name), .string (S f.value)] 34)
  generalize hwA : w.alloc (.cells #[.string (S f.name), .string (S f.value)] 34) = wA at hbA hkA
  have HW := Lib.hid (fun w1 (h : Keep [] wA w1) => field_awake w1 (hm.keep (hkA.trans h) (by simp)))
  have HA := Lib.hid hbA
  have HK := Lib.hid hkA
  clear hbA hkA
  by_cases b0 : 4096 < l.length
  · go_enter Tryd.func5, Tryd.ntmps5
    go_wp2_with fail
    refine (HW.out _ (Keep.refl _ _)).mono ?_
    rintro e w1 ⟨rfl, hk1⟩
    have K1 := Lib.hid (HK.out.trans hk1)
    clear hk1
    go_wp2_with fail
    go_ret
    exact ⟨rfl, K1.out⟩
  · by_cases b1 : 4096 < f.name.length ∨ 4096 < f.value.length
    · go_enter Tryd.func5, Tryd.ntmps5
      go_wp2_with fail
      refine (HW.out _ (Keep.refl _ _)).mono ?_
      rintro e w1 ⟨rfl, hk1⟩
      have K1 := Lib.hid (HK.out.trans hk1)
      have hb1 := hk1.blk HA.out (by simp)
      have d0 := hb1.get (k := 0) rfl
      have d1 := hb1.get (k := 1) rfl
      clear hk1 hb1
      by_cases b2 : 4096 < f.name.length
      all_goals
        go_wp2_with fail
        go_ret
        exact ⟨rfl, K1.out⟩
    · have b2 : f.name.length ≤ 4096 := by omega
      have b3 : f.value.length ≤ 4096 := by omega
      have b4 : l.length ≤ 4096 := by omega
      clear b0 b1
      exact fieldLines_small l f w hm b4 b2 b3
end Go.Proofs.YtbeppooknhmhaaaDoor
