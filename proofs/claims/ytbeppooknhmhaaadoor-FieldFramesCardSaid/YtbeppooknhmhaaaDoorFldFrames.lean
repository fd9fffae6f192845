/- Layer 10: the statement FieldFrames: its function answers true for every input. No conditions. -/
import Derived.Test.YtbeppooknhmhaaaDoorFld16
import Derived.Test.YtbeppooknhmhaaaDoorFldFr
import Derived.Test.YtbeppooknhmhaaaDoorFldR
namespace Go.Proofs.YtbeppooknhmhaaaDoor
open Go.RowKit Go.Shelf

set_option maxRecDepth 100000 in
set_option maxHeartbeats 2000000 in
theorem fieldFrames_all (va : Value) (L : List Fld) (most : Int) (w : World) (hm : ML w) (ha : Sl Fld.cells 2 w va L) (hg : ∀ x ∈ L, x.good) :
    Calls Tryd.prog 8 #[va, .int .i64 most] w fun e w' => e = .returned (.bool true) ∧ Keep [] w w' := by
  obtain ⟨aa, ca, rfl, hal⟩ := ha.shape
  have hal' : L.length ≤ 9223372036854775807 := hal
  have HW := Lib.hid (field_awake w hm)
  clear hal
  by_cases h60 : 60 < L.length
  · clear ha hg
    go_enter Tryd.func8, Tryd.ntmps8
    go_wp2_with fail
    refine HW.out.mono ?_
    rintro e w1 ⟨rfl, hk1⟩
    have K1 := Lib.hid hk1
    clear hk1
    go_wp2_with fail
    go_ret
    exact ⟨rfl, K1.out⟩
  have h61 : L.length ≤ 60 := by omega
  have hsl : ∀ w1, Keep [] w w1 → Sl Fld.cells 2 w1 (.slice aa L.length ca) L := fun w1 k => ha.keep Fld.cells_length (by omega) ha k (by simp) (Nat.le_refl _)
  have hG1 := fun w1 (k : Keep [] w w1) => field_Get (.slice aa L.length ca) L nCL w1 (hsl w1 k) (fun x hx => (hg x hx).1) (by decide)
  have hG2 := fun w1 (k : Keep [] w w1) => field_Get (.slice aa L.length ca) L nTE w1 (hsl w1 k) (fun x hx => (hg x hx).1) (by decide)
  have hF := fun w1 (k : Keep [] w w1) => field_Frame (.slice aa L.length ca) L most w1 (hsl w1 k) (fun x hx => (hg x hx).1) (fun x hx => (hg x hx).2) (by omega)
  have hC := frame_cases L most
  unfold GetOut at hG1 hG2
  generalize frameM L most = f at hF hC
  have n1 := getN_le L nTE
  have n2 := getN_le L nCL
  generalize getN L nTE = tn at hG2 hC n1
  generalize getN L nCL = cn at hG1 hC n2
  generalize getV L nTE = tv at hG2
  generalize getV L nCL = cv at hG1
  have HG1 := Lib.hid hG1
  have HG2 := Lib.hid hG2
  clear ha hg hsl hG1 hG2 h60
  rcases hC with ⟨h1, rfl⟩ | ⟨rfl, rfl, rfl⟩ | ⟨h1, x, hx, rfl⟩ | ⟨rfl, rfl, rfl⟩ | ⟨rfl, rfl, v, v0, v1, rfl⟩
  · have HF := Lib.hid hF
    clear hF
    by_cases t1 : 1 < cn
    · clear h1
      go_enter Tryd.func8, Tryd.ntmps8
      go_wp2_with fail
      refine HW.out.mono ?_
      rintro e w1 ⟨rfl, hk1⟩
      have K1 := Lib.hid hk1
      clear hk1
      go_wp2_with fail
      refine (HG1.out _ K1.out).mono ?_
      rintro e w2 ⟨rfl, hk2⟩
      have K2 := Lib.hid (K1.out.trans hk2)
      clear hk2
      go_wp2_with fail
      refine (HG2.out _ K2.out).mono ?_
      rintro e w3 ⟨rfl, hk3⟩
      have K3 := Lib.hid (K2.out.trans hk3)
      clear hk3
      go_wp2_with fail
      refine (HF.out _ K3.out).mono ?_
      rintro e w4 ⟨rfl, hk4⟩
      have K4 := Lib.hid (K3.out.trans hk4)
      clear hk4
      go_wp2_with fail
      go_ret
      exact ⟨rfl, K4.out⟩
    · by_cases t2 : 1 < tn
      · clear h1
        go_enter Tryd.func8, Tryd.ntmps8
        go_wp2_with fail
        refine HW.out.mono ?_
        rintro e w1 ⟨rfl, hk1⟩
        have K1 := Lib.hid hk1
        clear hk1
        go_wp2_with fail
        refine (HG1.out _ K1.out).mono ?_
        rintro e w2 ⟨rfl, hk2⟩
        have K2 := Lib.hid (K1.out.trans hk2)
        clear hk2
        go_wp2_with fail
        refine (HG2.out _ K2.out).mono ?_
        rintro e w3 ⟨rfl, hk3⟩
        have K3 := Lib.hid (K2.out.trans hk3)
        clear hk3
        go_wp2_with fail
        refine (HF.out _ K3.out).mono ?_
        rintro e w4 ⟨rfl, hk4⟩
        have K4 := Lib.hid (K3.out.trans hk4)
        clear hk4
        go_wp2_with fail
        go_ret
        exact ⟨rfl, K4.out⟩
      · have t3 : 1 < cn + tn := by omega
        clear h1
        go_enter Tryd.func8, Tryd.ntmps8
        go_wp2_with fail
        refine HW.out.mono ?_
        rintro e w1 ⟨rfl, hk1⟩
        have K1 := Lib.hid hk1
        clear hk1
        go_wp2_with fail
        refine (HG1.out _ K1.out).mono ?_
        rintro e w2 ⟨rfl, hk2⟩
        have K2 := Lib.hid (K1.out.trans hk2)
        clear hk2
        go_wp2_with fail
        refine (HG2.out _ K2.out).mono ?_
        rintro e w3 ⟨rfl, hk3⟩
        have K3 := Lib.hid (K2.out.trans hk3)
        clear hk3
        go_wp2_with fail
        refine (HF.out _ K3.out).mono ?_
        rintro e w4 ⟨rfl, hk4⟩
        have K4 := Lib.hid (K3.out.trans hk4)
        clear hk4
        go_wp2_with fail
        go_ret
        exact ⟨rfl, K4.out⟩
  · have HF := Lib.hid hF
    clear hF
    go_enter Tryd.func8, Tryd.ntmps8
    go_wp2_with fail
    refine HW.out.mono ?_
    rintro e w1 ⟨rfl, hk1⟩
    have K1 := Lib.hid hk1
    clear hk1
    go_wp2_with fail
    refine (HG1.out _ K1.out).mono ?_
    rintro e w2 ⟨rfl, hk2⟩
    have K2 := Lib.hid (K1.out.trans hk2)
    clear hk2
    go_wp2_with fail
    refine (HG2.out _ K2.out).mono ?_
    rintro e w3 ⟨rfl, hk3⟩
    have K3 := Lib.hid (K2.out.trans hk3)
    clear hk3
    go_wp2_with fail
    refine (HF.out _ K3.out).mono ?_
    rintro e w4 ⟨rfl, hk4⟩
    have K4 := Lib.hid (K3.out.trans hk4)
    clear hk4
    go_wp2_with fail
    go_ret
    exact ⟨rfl, K4.out⟩
  · obtain ⟨q1, q2⟩ := int_ne hx
    have HF := Lib.hid hF
    clear hF hx
    rcases h1 with ⟨rfl, rfl⟩ | ⟨rfl, rfl⟩
    all_goals
      go_enter Tryd.func8, Tryd.ntmps8
      go_wp2_with fail
      refine HW.out.mono ?_
      rintro e w1 ⟨rfl, hk1⟩
      have K1 := Lib.hid hk1
      clear hk1
      go_wp2_with fail
      refine (HG1.out _ K1.out).mono ?_
      rintro e w2 ⟨rfl, hk2⟩
      have K2 := Lib.hid (K1.out.trans hk2)
      clear hk2
      go_wp2_with fail
      refine (HG2.out _ K2.out).mono ?_
      rintro e w3 ⟨rfl, hk3⟩
      have K3 := Lib.hid (K2.out.trans hk3)
      clear hk3
      go_wp2_with fail
      refine (HF.out _ K3.out).mono ?_
      rintro e w4 ⟨rfl, hk4⟩
      have K4 := Lib.hid (K3.out.trans hk4)
      clear hk4
      go_wp2_with fail
      go_ret
      exact ⟨rfl, K4.out⟩
  · have HF := Lib.hid hF
    clear hF
    go_enter Tryd.func8, Tryd.ntmps8
    go_wp2_with fail
    refine HW.out.mono ?_
    rintro e w1 ⟨rfl, hk1⟩
    have K1 := Lib.hid hk1
    clear hk1
    go_wp2_with fail
    refine (HG1.out _ K1.out).mono ?_
    rintro e w2 ⟨rfl, hk2⟩
    have K2 := Lib.hid (K1.out.trans hk2)
    clear hk2
    go_wp2_with fail
    refine (HG2.out _ K2.out).mono ?_
    rintro e w3 ⟨rfl, hk3⟩
    have K3 := Lib.hid (K2.out.trans hk3)
    clear hk3
    go_wp2_with fail
    refine (HF.out _ K3.out).mono ?_
    rintro e w4 ⟨rfl, hk4⟩
    have K4 := Lib.hid (K3.out.trans hk4)
    clear hk4
    go_wp2_with fail
    go_ret
    exact ⟨rfl, K4.out⟩
  · have HF := Lib.hid hF
    clear hF
    go_enter Tryd.func8, Tryd.ntmps8
    go_wp2_with fail
    refine HW.out.mono ?_
    rintro e w1 ⟨rfl, hk1⟩
    have K1 := Lib.hid hk1
    clear hk1
    go_wp2_with fail
    refine (HG1.out _ K1.out).mono ?_
    rintro e w2 ⟨rfl, hk2⟩
    have K2 := Lib.hid (K1.out.trans hk2)
    clear hk2
    go_wp2_with fail
    refine (HG2.out _ K2.out).mono ?_
    rintro e w3 ⟨rfl, hk3⟩
    have K3 := Lib.hid (K2.out.trans hk3)
    clear hk3
    go_wp2_with fail
    refine (HF.out _ K3.out).mono ?_
    rintro e w4 ⟨rfl, hk4⟩
    have K4 := Lib.hid (K3.out.trans hk4)
    clear hk4
    go_wp2_with fail
    go_ret
    exact ⟨rfl, K4.out⟩
end Go.Proofs.YtbeppooknhmhaaaDoor
