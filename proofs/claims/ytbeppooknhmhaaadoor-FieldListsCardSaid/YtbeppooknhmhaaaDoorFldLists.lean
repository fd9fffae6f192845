/- Layer 10: the statement FieldLists: its function answers true for every input. No conditions. -/
import Derived.Test.YtbeppooknhmhaaaDoorFld16
import Derived.Test.YtbeppooknhmhaaaDoorFldC
import Derived.Test.YtbeppooknhmhaaaDoorFldRr
import Derived.Test.YtbeppooknhmhaaaDoorFldR
import Derived.Deep.RegionHeld3
import Derived.Deep.DrawnRows
namespace Go.Proofs.YtbeppooknhmhaaaDoor
open Go.RowKit Go.Shelf

set_option maxRecDepth 100000 in
set_option maxHeartbeats 2000000 in
theorem fieldLists_all (va : Value) (L : List Fld) (name : List UInt8) (n1 n2 : Int) (w : World) (hm : ML w) (ha : Sl Fld.cells 2 w va L) (hg : ∀ x ∈ L, x.good) (hn : name.length ≤ maxLen) :
    Calls Tryd.prog 9 #[va, .string (S name), .agg #[.int .i64 n1, .int .i64 n2]] w fun e w' => e = .returned (.bool true) ∧ Keep [] w w' := by
  obtain ⟨aa, ca, rfl, hal⟩ := ha.shape
  have hal' : L.length ≤ 9223372036854775807 := hal
  have hn' : name.length ≤ 9223372036854775807 := hn
  have sN := S_size name
  have hbA := Blk.newA w #[.int .i64 n1, .int .i64 n2] 52
  have hkA := (Keep.refl [] w).alloc (.cells #[.int .i64 n1, .int .i64 n2] 52)
  generalize hwA : w.alloc (.cells #[.int .i64 n1, .int .i64 n2] 52) = wA at hbA hkA
  have HSL := Lib.hid (fun w1 (k : Keep [] wA w1) => ha.keep Fld.cells_length (by omega) ha (hkA.trans k) (by simp) (Nat.le_refl _))
  have HML := Lib.hid (fun w1 (k : Keep [] wA w1) => hm.keep (hkA.trans k) (by simp))
  have HW := Lib.hid (field_awake wA (hm.keep hkA (by simp)))
  have HB := Lib.hid hbA
  have HK := Lib.hid hkA
  have HG := Lib.hid hg
  clear hal hn hm ha hg hbA hkA
  by_cases hb : 60 < L.length ∨ 1024 < name.length
  · by_cases h1 : 60 < L.length
    all_goals
      go_enter Tryd.func9, Tryd.ntmps9
      go_wp2_with fail
      refine HW.out.mono ?_
      rintro e w1 ⟨rfl, hk1⟩
      have K1 := Lib.hid (HK.out.trans hk1)
      clear hk1
      go_wp2_with fail
      go_ret
      exact ⟨rfl, K1.out⟩
  · have h1 : L.length ≤ 60 := by omega
    have h2 : name.length ≤ 1024 := by omega
    clear hb
    go_enter Tryd.func9, Tryd.ntmps9
    go_wp2_with fail
    refine HW.out.mono ?_
    rintro e w1 ⟨rfl, hk1⟩
    have K1 := Lib.hid hk1
    clear hk1 hwA HW
    go_wp2_with fail
    go_loopg [7] L.length (fun g i wr => ∃ k : Nat, i = .int .i64 k ∧ k ≤ L.length ∧ g = L.length - k ∧ w1 = wr ∧ Hid (∀ x ∈ L.take k, x.name.length ≤ 1024 ∧ x.value.length ≤ 1024))
    case atStart => exact ⟨0, rfl, by omega, by omega, rfl, Lib.hid (by simp)⟩
    case round =>
      obtain ⟨k, rfl, hk, rfl, rfl, HE⟩ := hrel
      by_cases hlt : k < L.length
      · obtain ⟨x, hx⟩ : ∃ x, L[k]? = some x := ⟨_, List.getElem?_eq_getElem hlt⟩
        obtain ⟨x1, x2⟩ := HG.out x (List.mem_of_getElem? hx)
        have x1' : x.name.length ≤ 9223372036854775807 := x1
        have x2' : x.value.length ≤ 9223372036854775807 := x2
        have s1 := S_size x.name
        have s2 := S_size x.value
        obtain ⟨ba, oa, ca', hva, _, hca, hcell⟩ := (HSL.out _ K1.out).cell hx
        cases hva
        have hc0 := hcell 0 (by omega)
        have hc1 := hcell 1 (by omega)
        simp only [Fld.cells, List.getElem?_cons_zero, List.getElem?_cons_succ, Nat.add_zero] at hc0 hc1
        have hca' : ca ≤ 9223372036854775807 := hca
        have HX := Lib.hid hx
        clear hcell hx hca x1 x2
        by_cases t1 : 1024 < x.name.length
        · go_wp2_with fail
          go_ret
          exact ⟨rfl, HK.out.trans K1.out⟩
        · by_cases t2 : 1024 < x.value.length
          · go_wp2_with fail
            go_ret
            exact ⟨rfl, HK.out.trans K1.out⟩
          · have hE2 : ∀ y ∈ L.take (k + 1), y.name.length ≤ 1024 ∧ y.value.length ≤ 1024 := by
              have e : L.take (k + 1) = L.take k ++ [x] := by rw [List.take_add_one, HX.out]; rfl
              rw [e]
              intro y hy
              rcases List.mem_append.1 hy with hy | hy
              · exact HE.out y hy
              · have : y = x := by simpa using hy
                subst this
                omega
            have HE2 := Lib.hid hE2
            clear hE2
            go_wp2_with fail
            go_roundg (L.length - (k + 1))
            case measure => omega
            case rel => exact ⟨k + 1, by go_num, by omega, rfl, rfl, HE2⟩
      · have hsm := HE.out
        rw [List.take_of_length_le (by omega)] at hsm
        have hkl : L.length ≤ k := by omega
        have HG1 := Lib.hid (fun w' (h : Keep [] wA w') => field_Get (.slice aa L.length ca) L name w' (HSL.out _ h) (fun x hx => (HG.out x hx).1) hn')
        have HG2 := Lib.hid (fun w' (h : Keep [] wA w') => ref_Get (.slice aa L.length ca) L name w' (HSL.out _ h) (fun x hx => Nat.le_trans (hsm x hx).1 (by omega)) (by omega))
        have HE1 := Lib.hid (fun w' (h : Keep [] wA w') => field_Elements (.slice aa L.length ca) L name w' (HSL.out _ h) (fun x hx => ⟨Nat.le_trans (hsm x hx).1 (by omega), Nat.le_trans (hsm x hx).2 (by omega)⟩) (by omega) (by omega))
        have HE2 := Lib.hid (fun w' (h : Keep [] wA w') => ref_Elements (.slice aa L.length ca) L name w' (HSL.out _ h) (fun x hx => ⟨Nat.le_trans (hsm x hx).1 (by omega), Nat.le_trans (hsm x hx).2 (by omega)⟩) (by omega) (by omega))
        have HF1 := Lib.hid (fun w' (h : Keep [] wA w') => field_Frame (.slice aa L.length ca) L n1 w' (HSL.out _ h) (fun x hx => (HG.out x hx).1) (fun x hx => (HG.out x hx).2) (by omega))
        have HF2 := Lib.hid (fun w' (h : Keep [] wA w') => ref_Frame (.slice aa L.length ca) L n1 w' (HSL.out _ h) (fun x hx => Nat.le_trans (hsm x hx).1 (by omega)) (fun x hx => Nat.le_trans (hsm x hx).2 (by omega)) (by omega))
        have HC1 := Lib.hid (fun w' (h : Keep [] wA w') => field_Closes (.slice aa L.length ca) L n2 w' (HSL.out _ h) (fun x hx => ⟨Nat.le_trans (hsm x hx).1 (by omega), Nat.le_trans (hsm x hx).2 (by omega)⟩) (by omega))
        have HC2 := Lib.hid (fun w' (h : Keep [] wA w') => ref_Closes (.slice aa L.length ca) L n2 w' (HSL.out _ h) (fun x hx => ⟨Nat.le_trans (hsm x hx).1 (by omega), Nat.le_trans (hsm x hx).2 (by omega)⟩) (by omega))
        have HSM := Lib.hid hsm
        clear hsm HE hlt
        go_wp2_with fail
        refine (HG1.out _ K1.out).mono ?_
        rintro e w2 ⟨rfl, hk2⟩
        have K2 := Lib.hid (K1.out.trans hk2)
        clear hk2 HG1
        go_wp2_with fail
        refine (HG2.out _ K2.out).mono ?_
        rintro e w3 ⟨rfl, hk3⟩
        have K3 := Lib.hid (K2.out.trans hk3)
        clear hk3 HG2
        have q0 := S_toList (getV L name)
        generalize getV L name = gv at q0
        generalize getN L name = gn
        go_wp2_with fail
        refine (HE1.out _ K3.out).mono ?_
        rintro e w4 ⟨ve, rfl, ho4, hk4⟩
        have K4 := Lib.hid (K3.out.trans hk4)
        have O4 := Lib.hid ho4
        clear hk4 HE1 ho4
        generalize elsM L name = M at O4 HE2
        have hb4 := K4.out.blk HB.out (by simp)
        have d0 := hb4.get (k := 0) rfl
        clear hb4
        go_wp2_with fail
        refine (HF1.out _ K4.out).mono ?_
        rintro e w5 ⟨rfl, hk5⟩
        have K5 := Lib.hid (K4.out.trans hk5)
        have O5 := Lib.hid (O4.out.keep0 hk5)
        have hb5 := K5.out.blk HB.out (by simp)
        have d1 := hb5.get (k := 0) rfl
        clear hk5 HF1 d0 hb5
        go_wp2_with fail
        refine (HF2.out _ K5.out).mono ?_
        rintro e w6 ⟨rfl, hk6⟩
        have K6 := Lib.hid (K5.out.trans hk6)
        have O6 := Lib.hid (O5.out.keep0 hk6)
        have B6 := Lib.hid (K6.out.blk HB.out (by simp))
        clear hk6 HF2 d1 O5 O4 K1 K2 K3 K4 K5
        generalize (frameM L n1).n = fn
        generalize (frameM L n1).ch = fc
        generalize (frameM L n1).e = fe
        go_wp2_with fail
        generalize closesM L n2 = cl at HC1 HC2
        go_cut [130] (fun v wx => v = .bool false ∧ Hid (Keep [] wA wx))
        case first =>
          have j0 := Keep.refl [] w6
          have d6 := B6.out.get (k := 1) rfl
          have HP := Lib.hid (fun w' (h : Keep [] w6 w') => (h.blk B6.out (by simp)).get (k := 1) rfl)
          have HT := Lib.hid (fun w' (h : Keep [] w6 w') => (O6.out.keep0 h).sl strC_length)
          clear HSL HML HG
          go_region_held3 (fun w' => w'.cell? ⟨w.heap.size, 1, none⟩ = some (.int .i64 n2))
            (first | assumption | go_keep)
            (first
            | (go_at_call 29; refine (HE2.out _ (K6.out.trans (by repeat (first | assumption | (with_reducible apply Keep.drew))))).mono ?_; rintro e wE ⟨vE, rfl, hoE, hkE⟩; have jE : Keep [] w6 wE := Keep.trans (by repeat (first | assumption | (with_reducible apply Keep.drew))) hkE; have sE := Lib.hid (hoE.sl strC_length); have dE := HP.out _ jE; clear hoE hkE)
            | (go_at_call 28; refine (ref_Texts _ _ M M _ (HT.out _ (by repeat (first | assumption | (with_reducible apply Keep.drew)))) (by exact sE.out)).mono ?_; rintro e wT ⟨rfl, hkT⟩; have jT : Keep [] w6 wT := Keep.trans (by repeat (first | assumption | (with_reducible apply Keep.drew))) hkT; have dT := HP.out _ jT; clear hkT)
            | (go_at_call 30; refine (HC1.out _ (K6.out.trans (by repeat (first | assumption | (with_reducible apply Keep.drew))))).mono ?_; rintro e wC ⟨rfl, hkC⟩; have jC : Keep [] w6 wC := Keep.trans (by repeat (first | assumption | (with_reducible apply Keep.drew))) hkC; have dC := HP.out _ jC; clear hkC)
            | (go_at_call 31; refine (HC2.out _ (K6.out.trans (by repeat (first | assumption | (with_reducible apply Keep.drew))))).mono ?_; rintro e wD ⟨rfl, hkD⟩; have jD : Keep [] w6 wD := Keep.trans (by repeat (first | assumption | (with_reducible apply Keep.drew))) hkD; have dD := HP.out _ jD; clear hkD))
          go_wp2_with fail
          go_meet
          exact ⟨rfl, Lib.hid (K6.out.trans (by repeat (first | assumption | (with_reducible apply Keep.drew))))⟩
        case rest =>
          obtain ⟨rfl, HK7⟩ := hcut
          clear HE2 O6 B6 K6 HC1 HC2
          go_wp2_with fail
          go_loopg [19] L.length (fun g i wr => ∃ k : Nat, i = .int .i64 k ∧ k ≤ L.length ∧ g = L.length - k ∧ Hid (Keep [] wA wr))
          case atStart => exact ⟨0, rfl, by omega, by omega, HK7⟩
          case round =>
            obtain ⟨j, rfl, hj, rfl, HR⟩ := hrel
            by_cases hlt : j < L.length
            · obtain ⟨x, hx⟩ : ∃ x, L[j]? = some x := ⟨_, List.getElem?_eq_getElem hlt⟩
              obtain ⟨x1, x2⟩ := HSM.out x (List.mem_of_getElem? hx)
              obtain ⟨ba, oa, ca', hva, _, hca, hcell⟩ := (HSL.out _ HR.out).cell hx
              cases hva
              have hc1 := hcell 1 (by omega)
              simp only [Fld.cells, List.getElem?_cons_zero, List.getElem?_cons_succ] at hc1
              have hca' : ca ≤ 9223372036854775807 := hca
              clear hcell hca
              go_wp2_with fail
              refine (field_Params x.value _ (HML.out _ HR.out) (by omega)).mono ?_
              rintro e w8 ⟨v8, rfl, ho8, hk8⟩
              have K8 := Lib.hid (HR.out.trans hk8)
              have O8 := Lib.hid ho8
              clear hk8 ho8
              obtain ⟨ba', oa', ca'', hva', _, hca2, hcell2⟩ := (HSL.out _ K8.out).cell hx
              cases hva'
              have hc2 := hcell2 1 (by omega)
              simp only [Fld.cells, List.getElem?_cons_zero, List.getElem?_cons_succ] at hc2
              clear hcell2 hca2 hc1
              go_wp2_with fail
              refine (ref_Params x.value _ (by omega)).mono ?_
              rintro e w9 ⟨v9, rfl, ho9, hk9⟩
              have K9 := Lib.hid (K8.out.trans hk9)
              have A9 := Lib.hid ((O8.out.keep0 hk9).sl Fld.cells_length)
              have B9 := Lib.hid (ho9.sl Fld.cells_length)
              clear hk9 ho9 hc2 O8
              generalize (paramsM x.value).hd = ph
              generalize (paramsM x.value).e = pe
              generalize (paramsM x.value).F = pF at A9 B9
              have q1 := S_toList ph
              go_wp2_with fail
              refine (ref_Same _ _ _ _ _ A9.out B9.out).mono ?_
              rintro e w10 ⟨rfl, hk10⟩
              have K10 := Lib.hid (K9.out.trans hk10)
              clear hk10
              have hd : decide (pF = pF) = true := by simp
              go_wp2_with fail
              go_roundg (L.length - (j + 1))
              case measure => omega
              case rel => exact ⟨j + 1, by go_num, by omega, rfl, K10⟩
            · go_wp2_with fail
              go_ret
              exact ⟨rfl, HK.out.trans HR.out⟩
end Go.Proofs.YtbeppooknhmhaaaDoor
