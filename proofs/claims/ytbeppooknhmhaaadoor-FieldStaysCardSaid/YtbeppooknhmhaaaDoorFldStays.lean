/- Layer 10: the statement FieldStays: its function answers true for every input. No conditions. -/
import Derived.Test.YtbeppooknhmhaaaDoorFld16
import Derived.Test.YtbeppooknhmhaaaDoorFldS
import Derived.Test.YtbeppooknhmhaaaDoorRead
namespace Go.Proofs.YtbeppooknhmhaaaDoor
open Go.RowKit Go.Shelf

set_option maxRecDepth 100000 in
set_option maxHeartbeats 2000000 in
theorem fieldStays_all (l : List UInt8) (at' : Int) (w : World) (hm : ML w) (hl : l.length ≤ maxLen) :
    Calls Tryd.prog 4 #[.string (S l), .int .i64 at'] w fun e w' => e = .returned (.bool true) ∧ Keep [] w w' := by
  have hl' : l.length ≤ 9223372036854775807 := hl
  have s0 := S_size l
  have HW := Lib.hid (field_awake w hm)
  by_cases b0 : 8192 < l.length
  · go_enter Tryd.func4, Tryd.ntmps4
    go_wp2_with fail
    refine HW.out.mono ?_
    rintro e w1 ⟨rfl, hk1⟩
    have K1 := Lib.hid hk1
    clear hk1
    go_wp2_with fail
    go_ret
    exact ⟨rfl, K1.out⟩
  · have b4 : l.length ≤ 8192 := by omega
    obtain ⟨p, hp, ep⟩ := u64_mod at' (l.length + 1) (by omega)
    replace ep : (IntKind.u64.wrap at').tmod ((l.length : Int) + 1) = (p : Int) := by rw [← ep]; congr 1
    have hx : (S l).extract 0 p = S (l.take p) := by rw [S_extract, List.drop_zero]
    have HS1 := Lib.hid (fun w1 (h : Keep [] w w1) => field_Split (l.take p) w1 (hm.keep h (by simp)) (by simp; omega))
    have HS2 := Lib.hid (fun w1 (h : Keep [] w w1) => field_Split l w1 (hm.keep h (by simp)) (by omega))
    have hT := split_take l p
    generalize splitM (l.take p) = r1 at HS1 hT
    generalize splitM l = r2 at HS2 hT
    have hT' : (r1.e == 17) = true ∨ ((r1.e == 17) = false ∧ r2 = r1) := by
      rcases hT with h | h
      · exact .inl (by simp [h])
      · by_cases h17 : r1.e = 17
        · exact .inl (by simp [h17])
        · exact .inr ⟨by simpa using h17, h⟩
    clear hT b0
    go_enter Tryd.func4, Tryd.ntmps4
    go_wp2_with fail
    refine HW.out.mono ?_
    rintro e w1 ⟨rfl, hk1⟩
    have K1 := Lib.hid hk1
    clear hk1
    have hp1 : ((p : Nat) : Int) ≤ (l.length : Int) := by omega
    go_wp2_with fail
    refine (HS1.out _ K1.out).mono ?_
    rintro e w2 ⟨v2, rfl, ho2, hk2⟩
    have K2 := Lib.hid (K1.out.trans hk2)
    have HO2 := Lib.hid ho2
    clear ho2 hk2
    go_wp2_with fail
    refine (HS2.out _ K2.out).mono ?_
    rintro e w3 ⟨v3, rfl, ho3, hk3⟩
    have K3 := Lib.hid (K2.out.trans hk3)
    have H2 := Lib.hid ((HO2.out.keep0 hk3).sl Fld.cells_length)
    have H3 := Lib.hid (ho3.sl Fld.cells_length)
    clear ho3 hk3 HO2
    rcases hT' with h17 | ⟨h17, rfl⟩
    · go_wp2_with fail
      go_ret
      exact ⟨rfl, K3.out⟩
    · have q1 := S_toList r2.st
      have q2 : (r2.e == r2.e) = true := by simp
      go_wp2_with fail
      refine (ref_Same _ _ _ _ _ H2.out H3.out).mono ?_
      rintro e w4 ⟨rfl, hk4⟩
      have K4 := Lib.hid (K3.out.trans hk4)
      clear hk4
      go_wp2_with fail
      go_ret
      exact ⟨ret_bool (by simp), K4.out⟩
end Go.Proofs.YtbeppooknhmhaaaDoor
