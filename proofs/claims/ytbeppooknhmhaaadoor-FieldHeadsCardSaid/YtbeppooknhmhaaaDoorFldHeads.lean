/- Layer 10: the statement FieldHeads: its function answers true for every input. No conditions. -/
import Derived.Test.YtbeppooknhmhaaaDoorFld16
import Derived.Test.YtbeppooknhmhaaaDoorFldH
namespace Go.Proofs.YtbeppooknhmhaaaDoor
open Go.RowKit Go.Shelf

set_option maxRecDepth 100000 in
set_option maxHeartbeats 2000000 in
theorem fieldHeads_all (l : List UInt8) (w : World) (hm : ML w) (hl : l.length ≤ maxLen) :
    Calls Tryd.prog 3 #[.string (S l)] w fun e w' => e = .returned (.bool true) ∧ Keep [] w w' := by
  have hl' : l.length ≤ 9223372036854775807 := hl
  have s0 := S_size l
  have HW := Lib.hid (field_awake w hm)
  by_cases b0 : 8192 < l.length
  · go_enter Tryd.func3, Tryd.ntmps3
    go_wp2_with fail
    refine HW.out.mono ?_
    rintro e w1 ⟨rfl, hk1⟩
    have K1 := Lib.hid hk1
    clear hk1
    go_wp2_with fail
    go_ret
    exact ⟨rfl, K1.out⟩
  · have b4 : l.length ≤ 8192 := by omega
    have HS1 := Lib.hid (fun w1 (h : Keep [] w w1) => field_Split l w1 (hm.keep h (by simp)) (by omega))
    have HS2 := Lib.hid (fun w1 => ref_Split l w1 (by omega))
    generalize splitM l = r at HS1 HS2
    clear b0
    go_enter Tryd.func3, Tryd.ntmps3
    go_wp2_with fail
    refine HW.out.mono ?_
    rintro e w1 ⟨rfl, hk1⟩
    have K1 := Lib.hid hk1
    clear hk1
    go_wp2_with fail
    refine (HS1.out _ K1.out).mono ?_
    rintro e w2 ⟨v2, rfl, ho2, hk2⟩
    have K2 := Lib.hid (K1.out.trans hk2)
    have HO2 := Lib.hid ho2
    clear ho2 hk2
    go_wp2_with fail
    refine (HS2.out _).mono ?_
    rintro e w3 ⟨v3, rfl, ho3, hk3⟩
    have K3 := Lib.hid (K2.out.trans hk3)
    have H2 := Lib.hid ((HO2.out.keep0 hk3).sl Fld.cells_length)
    have H3 := Lib.hid (ho3.sl Fld.cells_length)
    clear ho3 hk3 HO2
    have q1 := S_toList r.st
    have q2 : (r.e == r.e) = true := by simp
    go_wp2_with fail
    refine (ref_Same _ _ _ _ _ H2.out H3.out).mono ?_
    rintro e w4 ⟨rfl, hk4⟩
    have K4 := Lib.hid (K3.out.trans hk4)
    clear hk4
    go_wp2_with fail
    go_ret
    exact ⟨ret_bool (by simp), K4.out⟩
end Go.Proofs.YtbeppooknhmhaaaDoor
