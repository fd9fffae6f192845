/- Layer 10: the statement FieldBack: its function answers true for every input. No conditions. -/
import Derived.Test.YtbeppooknhmhaaaDoorFld16
import Derived.Test.YtbeppooknhmhaaaDoorFldB
import Derived.Test.YtbeppooknhmhaaaDoorFldR
namespace Go.Proofs.YtbeppooknhmhaaaDoor
open Go.RowKit Go.Shelf

def keptM (L : List Fld) (m : Nat) : List Fld := (L.filter goodF).take m
theorem kept_yes {L : List Fld} {k m : Nat} {x : Fld} (h : L[k]? = some x) (hg : goodF x = true) (hl : (keptM (L.take k) m).length < m) : keptM (L.take (k + 1)) m = keptM (L.take k) m ++ [x] := by
  unfold keptM at *
  have e : L.take (k + 1) = L.take k ++ [x] := by rw [List.take_add_one, h]; rfl
  have e3 : ([x] : List Fld).filter goodF = [x] := by simp [hg]
  have hl' : ((L.take k).filter goodF).length < m := by rw [List.length_take] at hl; omega
  rw [e, List.filter_append, e3, List.take_of_length_le (l := (L.take k).filter goodF ++ [x]) (by rw [List.length_append, List.length_singleton]; omega), List.take_of_length_le (l := (L.take k).filter goodF) (by omega)]
theorem kept_no {L : List Fld} {k m : Nat} {x : Fld} (h : L[k]? = some x) (hg : goodF x = false) : keptM (L.take (k + 1)) m = keptM (L.take k) m := by
  unfold keptM
  have e : L.take (k + 1) = L.take k ++ [x] := by rw [List.take_add_one, h]; rfl
  rw [e, List.filter_append]
  simp [hg]
theorem kept_full {L : List Fld} {k m : Nat} (hl : ¬ (keptM (L.take k) m).length < m) : keptM L m = keptM (L.take k) m := by
  unfold keptM at *
  rw [List.length_take] at hl
  have e : L.filter goodF = (L.take k).filter goodF ++ (L.drop k).filter goodF := by rw [← List.filter_append, List.take_append_drop]
  rw [e, List.take_append_of_le_length (by omega)]
theorem kept_le (L : List Fld) (m : Nat) : (keptM L m).length ≤ m := by unfold keptM; rw [List.length_take]; omega
theorem kept_good {L : List Fld} {m : Nat} {f : Fld} (h : f ∈ keptM L m) : goodF f = true := (List.mem_filter.1 (List.mem_of_mem_take h)).2
theorem body_snoc (K : List Fld) (f : Fld) : bodyT (K ++ [f]) = bodyT K ++ (printF f ++ [13, 10]) := by simp [bodyT]
theorem body_le : ∀ (K : List Fld), (∀ f ∈ K, f.name.length ≤ 200 ∧ f.value.length ≤ 200) → (bodyT K).length ≤ 404 * K.length
  | [], _ => by simp [bodyT]
  | f :: K, h => by
    have ih := body_le K (fun x hx => h x (by simp [hx]))
    have := h f (by simp)
    have e : bodyT (f :: K) = printF f ++ [13, 10] ++ bodyT K := by simp [bodyT]
    rw [e]
    simp [printF]
    omega
theorem kept_small {L : List Fld} {m : Nat} (h : ∀ f ∈ L, f.name.length ≤ 200 ∧ f.value.length ≤ 200) : ∀ f ∈ keptM L m, f.name.length ≤ 200 ∧ f.value.length ≤ 200 := fun f hf => h f (List.mem_filter.1 (List.mem_of_mem_take hf)).1

def LaidOut (w : World) (st : List UInt8) (K : List Fld) (e : Ending) (w' : World) : Prop := ∃ v, e = .returned (.tuple #[.string (S (headT st K)), v]) ∧ Own Fld.cells 2 w.heap.size 34 w' v K ∧ Keep [] w w'

set_option maxRecDepth 100000 in
set_option maxHeartbeats 2000000 in
theorem law_laid (st : List UInt8) (va : Value) (L : List Fld) (m : Nat) (w : World) (ha : Sl Fld.cells 2 w va L) (hg : ∀ x ∈ L, x.name.length ≤ 200 ∧ x.value.length ≤ 200) (hm : m ≤ 32) (hst : st.length ≤ 1000) :
    Calls Tryd.prog 22 #[.string (S st), va, .int .i64 (m : Nat)] w (LaidOut w st (keptM L m)) := by
  obtain ⟨aa, ca, rfl, hal⟩ := ha.shape
  have hal' : L.length ≤ 9223372036854775807 := hal
  have HM := Lib.hid (show maxLen = 9223372036854775807 from rfl)
  obtain ⟨is, Hs⟩ := fldinfo'
  have hsz := S_size st
  have hst2 : S st ++ ⟨#[13, 10]⟩ = S (st ++ [13, 10]) := S_append st [13, 10]
  have hO0 := Lib.hid (Own.none Fld.cells 2 34 (base := w.heap.size) w (Nat.le_refl _))
  have hK0 := Lib.hid ((Keep.refl [] w).alloc (.cells #[] 34))
  have HA := Lib.hid ha
  have HG := Lib.hid hg
  clear ha hg hal
  go_enter Tryd.func22, Tryd.ntmps22
  go_wp2_with fail
  clear hst2
  go_loopg [8, 9, 10] L.length (fun g sv kv iv wr => ∃ (k : Nat) (K : List Fld) (T : List UInt8), iv = .int .i64 k ∧ sv = .string (S T) ∧ k ≤ L.length ∧ g = L.length - k ∧ K.length ≤ m ∧ T.length ≤ 20000 ∧ Hid (K = keptM (L.take k) m ∧ T = st ++ [13, 10] ++ bodyT K) ∧ Hid (Own Fld.cells 2 w.heap.size 34 wr kv K) ∧ Hid (Keep [] w wr))
  case atStart => exact ⟨0, [], st ++ [13, 10], rfl, rfl, by omega, by omega, by simp, by simp; omega, Lib.hid ⟨by simp [keptM], by simp [bodyT]⟩, hO0, hK0⟩
  case round =>
    obtain ⟨k, K, T, rfl, rfl, hk, rfl, hKm, hT, HE, HO, HK⟩ := hrel
    obtain ⟨fa, fc, rfl, hfl⟩ := HO.out.shape
    have hT2 : S T ++ ⟨#[13, 10]⟩ = S (T ++ [13, 10]) := S_append T [13, 10]
    have sT := S_size T
    clear hO0 hK0 hfl
    by_cases hlt : k < L.length
    · by_cases hfull : K.length < m
      · obtain ⟨x, hx⟩ : ∃ x, L[k]? = some x := ⟨_, List.getElem?_eq_getElem hlt⟩
        obtain ⟨hx1, hx2⟩ := HG.out x (List.mem_of_getElem? hx)
        have har := HA.out.keep Fld.cells_length (by omega) HA.out HK.out (by simp) (Nat.le_refl _)
        obtain ⟨ba, oa, ca', hva, _, hca, hcell⟩ := har.cell hx
        cases hva
        have hc0 := hcell 0 (by omega)
        have hc1 := hcell 1 (by omega)
        simp only [Fld.cells, List.getElem?_cons_zero, List.getElem?_cons_succ, Nat.add_zero] at hc0 hc1
        have hca' : ca ≤ 9223372036854775807 := hca
        have hGd := fun w1 => field_Good x w1 (show x.name.length ≤ 9223372036854775807 by omega) (show x.value.length ≤ 9223372036854775807 by omega)
        have HX := Lib.hid hx
        clear hcell hx har hca
        cases hgx : goodF x with
        | false =>
          rw [hgx] at hGd
          have HGd := Lib.hid hGd
          have HGX := Lib.hid hgx
          clear hGd hgx
          go_wp2_with fail
          refine (HGd.out _).mono ?_
          rintro e w1 ⟨rfl, hk1⟩
          have HO1 := Lib.hid (HO.out.keep0 hk1)
          have HK1 := Lib.hid (HK.out.trans hk1)
          clear hk1
          go_wp2_with fail
          go_roundg (L.length - (k + 1))
          case measure => omega
          case rel => exact ⟨k + 1, K, T, by go_num, rfl, by omega, rfl, hKm, hT, Lib.hid (by rw [kept_no HX.out HGX.out]; exact HE.out), HO1, HK1⟩
        | true =>
          rw [hgx] at hGd
          have HGd := Lib.hid hGd
          have HGX := Lib.hid hgx
          have HPr := Lib.hid (fun w1 => field_Print x w1 (by omega))
          have hcat : S T ++ S (printF x) ++ ⟨#[13, 10]⟩ = S (T ++ (printF x ++ [13, 10])) := by rw [S_append, ← List.append_assoc]; exact S_append _ [13, 10]
          have sP := S_size (printF x)
          have lP : (printF x).length ≤ 402 := by simp [printF]; omega
          clear hGd hgx
          go_wp2_with fail
          refine (HGd.out _).mono ?_
          rintro e w1 ⟨rfl, hk1⟩
          have HO1 := Lib.hid (HO.out.keep0 hk1)
          have HK1 := Lib.hid (HK.out.trans hk1)
          have e0 := hk1.load hc0
          have e1 := hk1.load hc1
          clear hk1
          go_wp2_with fail
          refine (HPr.out _).mono ?_
          rintro e w2 ⟨rfl, hk2⟩
          have HO2 := Lib.hid (HO1.out.keep0 hk2)
          have HK2 := Lib.hid (HK1.out.trans hk2)
          have f0 := hk2.load e0
          have f1 := hk2.load e1
          clear hk2 hc0 hc1 e0 e1
          go_wp2_with (first | (at_builtin; go_must (refine wpList_append1 rfl _ _ 23 rfl is (.agg #[.string ⟨#[]⟩, .string ⟨#[]⟩]) 32 Tryd.underlying23 Hs rfl (by decide) Fld.cells_length Fld.one w _ rfl HK2.out (by rfl) HO2.out x _ rfl _ rfl (by have := HM.out; omega) (by omega) ?_); intro v' w3 hown' hk' hgrow) | fail)
          have HO3 := Lib.hid hown'
          have HK3 := Lib.hid hk'
          clear hown' hk' hgrow f0 f1
          have hE2 : K ++ [x] = keptM (L.take (k + 1)) m ∧ T ++ (printF x ++ [13, 10]) = st ++ [13, 10] ++ bodyT (K ++ [x]) := by
            obtain ⟨h1, h2⟩ := HE.out
            refine ⟨?_, ?_⟩
            · rw [kept_yes HX.out HGX.out (by rw [← h1]; exact hfull), ← h1]
            · rw [body_snoc, h2]; simp
          have hlen : (T ++ (printF x ++ [13, 10])).length ≤ 20000 := by
            have hsm : ∀ f ∈ K ++ [x], f.name.length ≤ 200 ∧ f.value.length ≤ 200 := by rw [hE2.1]; exact kept_small (fun f hf => HG.out f (List.mem_of_mem_take hf))
            have hb := body_le (K ++ [x]) hsm
            rw [hE2.2, List.length_append]
            simp at hb ⊢
            omega
          have HE2 := Lib.hid hE2
          clear hE2
          go_roundg (L.length - (k + 1))
          case measure => omega
          case rel => exact ⟨k + 1, K ++ [x], T ++ (printF x ++ [13, 10]), by go_num, rfl, by omega, rfl, by simp; omega, hlen, HE2, HO3, HK3⟩
      · have hfin : keptM L m = K := by
          have h := HE.out.1
          rw [kept_full (k := k) (by rw [← h]; exact hfull), ← h]
        have hhd : headT st K = T ++ [13, 10] := by unfold headT; rw [HE.out.2]
        have HF := Lib.hid (And.intro hfin hhd)
        clear hfin hhd
        go_wp2_with fail
        go_ret2
        rw [HF.out.1]
        exact ⟨_, by rw [HF.out.2]; rfl, HO.out, HK.out⟩
    · have hfin : keptM L m = K := by
        have h := HE.out.1
        rw [List.take_of_length_le (by omega)] at h
        exact h.symm
      have hhd : headT st K = T ++ [13, 10] := by unfold headT; rw [HE.out.2]
      have HF := Lib.hid (And.intro hfin hhd)
      clear hfin hhd
      go_wp2_with fail
      go_ret2
      rw [HF.out.1]
      exact ⟨_, by rw [HF.out.2]; rfl, HO.out, HK.out⟩

def stL : List UInt8 := [115, 116, 97, 114, 116, 32, 108, 105, 110, 101]
theorem stL_clean : clean stL := by intro b hb; revert b; decide

set_option maxRecDepth 100000 in
set_option maxHeartbeats 4000000 in
theorem fieldBack_all (va : Value) (L : List Fld) (more : List UInt8) (cut : Int) (w : World) (hm : ML w) (ha : Sl Fld.cells 2 w va L) (hg : ∀ x ∈ L, x.good) (hml : more.length ≤ maxLen) :
    Calls Tryd.prog 6 #[va, .string (S more), .int .i64 cut] w fun e w' => e = .returned (.bool true) ∧ Keep [] w w' := by
  obtain ⟨aa, ca, rfl, hal⟩ := ha.shape
  have hal' : L.length ≤ 9223372036854775807 := hal
  have hml' : more.length ≤ 9223372036854775807 := hml
  have sM := S_size more
  have HW := Lib.hid (field_awake w hm)
  have HML := Lib.hid hm
  have HA := Lib.hid ha
  have HG := Lib.hid hg
  clear hal hml hm ha hg
  by_cases hb : 4096 < more.length ∨ 60 < L.length
  · by_cases h1 : 4096 < more.length
    all_goals
      go_enter Tryd.func6, Tryd.ntmps6
      go_wp2_with fail
      refine HW.out.mono ?_
      rintro e w1 ⟨rfl, hk1⟩
      have K1 := Lib.hid hk1
      clear hk1
      go_wp2_with fail
      go_ret
      exact ⟨rfl, K1.out⟩
  · have h1 : more.length ≤ 4096 := by omega
    have h2 : L.length ≤ 60 := by omega
    clear hb
    go_enter Tryd.func6, Tryd.ntmps6
    go_wp2_with fail
    refine HW.out.mono ?_
    rintro e w1 ⟨rfl, hk1⟩
    have K1 := Lib.hid hk1
    have hsl := HA.out.keep Fld.cells_length (by omega) HA.out hk1 (by simp) (Nat.le_refl _)
    have HS := Lib.hid hsl
    clear hk1 hsl
    go_wp2_with fail
    go_loopg [7] L.length (fun g i wr => ∃ k : Nat, i = .int .i64 k ∧ k ≤ L.length ∧ g = L.length - k ∧ w1 = wr ∧ Hid (∀ x ∈ L.take k, x.name.length ≤ 200 ∧ x.value.length ≤ 200))
    case atStart => exact ⟨0, rfl, by omega, by omega, rfl, Lib.hid (by simp)⟩
    case round =>
      obtain ⟨k, rfl, hk, rfl, rfl, HE⟩ := hrel
      by_cases hlt : k < L.length
      · obtain ⟨x, hx⟩ : ∃ x, L[k]? = some x := ⟨_, List.getElem?_eq_getElem hlt⟩
        obtain ⟨x1, x2⟩ := HG.out x (List.mem_of_getElem? hx)
        have x1' : x.name.length ≤ 9223372036854775807 := x1
        have x2' : x.value.length ≤ 9223372036854775807 := x2
        have s1 := S_size x.name
        have s2 := S_size x.value
        obtain ⟨ba, oa, ca', hva, _, hca, hcell⟩ := HS.out.cell hx
        cases hva
        have hc0 := hcell 0 (by omega)
        have hc1 := hcell 1 (by omega)
        simp only [Fld.cells, List.getElem?_cons_zero, List.getElem?_cons_succ, Nat.add_zero] at hc0 hc1
        have hca' : ca ≤ 9223372036854775807 := hca
        have HX := Lib.hid hx
        clear hcell hx hca x1 x2
        by_cases t1 : 200 < x.name.length
        · go_wp2_with fail
          go_ret
          exact ⟨rfl, K1.out⟩
        · by_cases t2 : 200 < x.value.length
          · go_wp2_with fail
            go_ret
            exact ⟨rfl, K1.out⟩
          · have hE2 : ∀ y ∈ L.take (k + 1), y.name.length ≤ 200 ∧ y.value.length ≤ 200 := by
              have e : L.take (k + 1) = L.take k ++ [x] := by rw [List.take_add_one, HX.out]; rfl
              rw [e]
              intro y hy
              rcases List.mem_append.1 hy with hy | hy
              · exact HE.out y hy
              · have : y = x := by simpa using hy
                subst this
                omega
            have HE2 := Lib.hid hE2
            clear hE2
            go_wp2_with fail
            go_roundg (L.length - (k + 1))
            case measure => omega
            case rel => exact ⟨k + 1, by go_num, by omega, rfl, rfl, HE2⟩
      · have hsm := HE.out
        rw [List.take_of_length_le (by omega)] at hsm
        have hl := fun va' (h : Sl Fld.cells 2 w1 va' L) => law_laid stL va' L 32 w1 h hsm (by omega) (by decide)
        have hgd : ∀ f ∈ keptM L 32, goodF f = true := fun f hf => kept_good hf
        have h32 := kept_le L 32
        generalize keptM L 32 = K at hl hgd h32
        have HL := Lib.hid hl
        have HGD := Lib.hid hgd
        have hkl : L.length ≤ k := by omega
        clear hl hgd hsm HE hlt
        go_wp2_with fail
        refine (HL.out _ HS.out).mono ?_
        rintro e w2 ⟨v2, rfl, ho2, hk2⟩
        have K2 := Lib.hid (K1.out.trans hk2)
        have HO2 := Lib.hid ho2
        have sH := S_size (headT stL K)
        clear ho2 hk2 HL
        by_cases hbig : 4096 < (headT stL K).length
        · go_wp2_with fail
          go_ret
          exact ⟨rfl, K2.out⟩
        · have hb2 : (headT stL K).length ≤ 4096 := by omega
          have hpos : 0 < (headT stL K).length := by simp [headT]; omega
          obtain ⟨p, hp, ep⟩ := u64_mod cut (headT stL K).length hpos
          have hr := split_head stL K more stL_clean (by decide) (by decide) HGD.out h32 hb2
          have hc := split_cut stL K stL_clean (by decide) (by decide) HGD.out h32 hb2 p hp
          have hx : (S (headT stL K)).extract 0 p = S ((headT stL K).take p) := by rw [S_extract, List.drop_zero]
          have hcat : S (headT stL K) ++ S more = S (headT stL K ++ more) := S_append _ _
          have HS1 := Lib.hid (fun w' (h : Keep [] w w') => split_is HML.out h (by simp; omega) hr)
          have hS2 := fun w' (h : Keep [] w w') => field_Split ((headT stL K).take p) w' (HML.out.keep h (by simp)) (by simp; omega)
          generalize splitM ((headT stL K).take p) = r2 at hc hS2
          generalize headT stL K = hd at *
          have HS2 := Lib.hid hS2
          have q0 := S_toList stL
          have q1 : (stL == [115, 116, 97, 114, 116, 32, 108, 105, 110, 101]) = true := by decide
          have q2 : (r2.e == 17) = true := by simp [hc]
          obtain ⟨q3, q4⟩ := nat_eq (show hd.length = hd.length from rfl)
          have hp1 : ((p : Nat) : Int) ≤ (hd.length : Int) := by omega
          clear hS2 hr hc hbig
          go_wp2_with fail
          refine (HS1.out _ K2.out).mono ?_
          rintro e w3 ⟨v3, rfl, ho3, hk3⟩
          have K3 := Lib.hid (K2.out.trans hk3)
          have HO3 := Lib.hid (And.intro (HO2.out.keep0 hk3) ho3)
          clear ho3 hk3
          go_wp2_with fail
          refine (HS2.out _ K3.out).mono ?_
          rintro e w4 ⟨v4, rfl, ho4, hk4⟩
          have K4 := Lib.hid (K3.out.trans hk4)
          have HA4 := Lib.hid ((HO3.out.1.keep0 hk4).sl Fld.cells_length)
          have HB4 := Lib.hid ((HO3.out.2.keep0 hk4).sl Fld.cells_length)
          clear ho4 hk4
          go_wp2_with fail
          refine (ref_Same _ _ _ _ _ HB4.out HA4.out).mono ?_
          rintro e w5 ⟨rfl, hk5⟩
          have K5 := Lib.hid (K4.out.trans hk5)
          clear hk5
          go_wp2_with fail
          go_ret
          exact ⟨ret_bool (by simp), K5.out⟩
end Go.Proofs.YtbeppooknhmhaaaDoor
