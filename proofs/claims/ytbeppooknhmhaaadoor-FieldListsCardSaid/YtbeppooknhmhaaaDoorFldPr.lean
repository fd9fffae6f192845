/- Layer 10: the document's Params. No conditions but on lengths. -/
import Derived.Test.YtbeppooknhmhaaaDoorFldPm
namespace Go.Proofs.YtbeppooknhmhaaaDoor
open Go.RowKit Go.Shelf

theorem parM_eq (x : List UInt8) : parM x = if 0 ≤ Lib.indexByte x 61 ∧ isTok (x.take (Lib.indexByte x 61).toNat) = true then
    (⟨lowW (x.take (Lib.indexByte x 61).toNat), (unqW (x.drop ((Lib.indexByte x 61).toNat + 1))).1⟩, (unqW (x.drop ((Lib.indexByte x 61).toNat + 1))).2) else (⟨[], []⟩, false) := by
  unfold parM Lib.cut
  rw [Lib.index_one]
  by_cases h : 0 ≤ Lib.indexByte x 61
  · simp only [if_pos h, List.length_singleton]
    by_cases h1 : isTok (x.take (Lib.indexByte x 61).toNat) = true
    · simp [h, h1]
    · simp [h1]
  · simp only [if_neg h]
    simp [h]

set_option maxRecDepth 100000 in
set_option maxHeartbeats 2000000 in
theorem ref_Params (l : List UInt8) (w : World) (hl : l.length ≤ 1048576) :
    Calls Tryd.prog 33 #[.string (S l)] w (PrmOut w (paramsM l)) := by
  have hC := ref_Cut l 59 w hl
  have hR : paramsM l = match parsM (cutW l 59).tail [] with
    | none => ⟨[], [], 3⟩
    | some F => ⟨(cutW l 59).headD [], F, 0⟩ := rfl
  have hne : cutW l 59 ≠ [] := cutM_ne _ _ _ _
  have hel : ∀ x ∈ cutW l 59, x.length ≤ 1048576 := fun x hx => Nat.le_trans (cutW_elem hx) hl
  have hll : (cutW l 59).length ≤ 1048577 := Nat.le_trans (cutW_length l 59) (by omega)
  have HM := Lib.hid (show maxLen = 9223372036854775807 from rfl)
  obtain ⟨is, Hs⟩ := fldinfo'
  generalize cutW l 59 = M at hC hR hne hel hll
  generalize paramsM l = res at hR
  cases M with
  | nil => exact absurd rfl hne
  | cons m0 T =>
  simp only [List.tail_cons, List.headD_cons] at hR
  have hTl : T.length ≤ 1048576 := by simpa using hll
  have HC := Lib.hid hC
  have HR := Lib.hid hR
  have HE := Lib.hid (fun x hx => hel x (List.mem_cons_of_mem _ hx))
  clear hC hR hel hne hll
  go_enter Tryd.func33, Tryd.ntmps33
  go_wp2_with fail
  refine HC.out.mono ?_
  rintro e w1 ⟨pv, rfl, ho1, hk1⟩
  have hsh : ∃ g cap, pv = .slice (some ⟨g, 0, none⟩) (T.length + 1) cap ∧ T.length + 1 ≤ cap ∧ cap ≤ maxLen := by
    rcases ho1.2 with ⟨_, h0⟩ | ⟨g, cap, cur, hv, _, _, h1, h2, _⟩
    · simp at h0
    · exact ⟨g, cap, hv, h1, h2⟩
  obtain ⟨g, cap, rfl, hc1, hc2⟩ := hsh
  have hc3 : cap ≤ 9223372036854775807 := hc2
  have hO := Own.none Fld.cells 2 34 (base := w.heap.size) w1 hk1.size
  have hlt1 := (ho1.lt g rfl).2
  have HS0 : Hid (Sep (.slice (some ⟨w1.heap.size, 0, none⟩) 0 0) (.slice (some ⟨g, 0, none⟩) (T.length + 1) cap)) := fun k h1 h2 => by
    simp [Value.ownBlock] at h1 h2
    omega
  have HO0 := Lib.hid hO
  have HO1 := Lib.hid (ho1.alloc (.cells #[] 34))
  have K1 := Lib.hid (hk1.alloc (.cells #[] 34))
  clear ho1 hk1 hc2 hO hlt1
  go_wp2_with fail
  go_loopg [6, 7] T.length (fun g' o j wr => ∃ (k : Nat) (O : List Fld), j = .int .i64 ((k : Int) + 1) ∧ k ≤ T.length ∧ g' = T.length - k ∧ O.length ≤ k ∧ Hid (Own Fld.cells 2 w.heap.size 34 wr o O) ∧
      Hid (Own strC 1 w.heap.size 9 wr (.slice (some ⟨g, 0, none⟩) (T.length + 1) cap) (m0 :: T)) ∧ Hid (Sep o (.slice (some ⟨g, 0, none⟩) (T.length + 1) cap)) ∧ Hid (Keep [] w wr) ∧ Hid (parsM T [] = parsM (T.drop k) O))
  case atStart => exact ⟨0, [], rfl, by omega, by omega, by simp, HO0, HO1, HS0, K1, Lib.hid rfl⟩
  case round =>
    obtain ⟨k, O, rfl, hk, rfl, hOl, HO, HP, HS, HK, HF⟩ := hrel
    clear HO1 HS0 K1 HO0
    by_cases hlt : k < T.length
    · obtain ⟨x, hx⟩ : ∃ x, T[k]? = some x := ⟨_, List.getElem?_eq_getElem hlt⟩
      have hxl := HE.out x (List.mem_of_getElem? hx)
      obtain ⟨b1, o1, c1, hv1, _, _, hx1⟩ := (HP.out.sl strC_length).cell (i := k + 1) (x := x) (by simpa using hx)
      cases hv1
      have e0 := hx1 0 (by omega)
      have ek : 0 + (k + 1) * 1 + 0 = k + 1 := by omega
      simp only [strC, List.getElem?_cons_zero, ek] at e0
      have htn : ((k : Int) + 1).toNat = k + 1 := by omega
      have hF := HF.out
      rw [drop_atG hx] at hF
      have ht := S_toList x
      have sx := S_size x
      clear hx1 hx HF ek
      by_cases hxe : x = []
      · subst hxe
        have hF2 : parsM T [] = parsM (T.drop (k + 1)) O := by rw [hF, parsM, if_pos rfl]
        have HF2 := Lib.hid hF2
        clear hF hF2
        go_wp2_with fail
        go_roundg (T.length - (k + 1))
        case measure => omega
        case rel => exact ⟨k + 1, O, by go_num, by omega, rfl, by omega, HO, HP, HS, HK, HF2⟩
      · rw [parsM, if_neg hxe] at hF
        have hie := isEmpty_false hxe
        have hpar := parM_eq x
        have hFi := fun w' => ref_Find x 61 w' (show x.length ≤ 9223372036854775807 by omega)
        have hge := Lib.indexByte_ge x 61
        by_cases hi : Lib.indexByte x 61 = -1
        · rw [hi] at hpar hFi
          rw [if_neg (by omega)] at hpar
          rw [hpar] at hF
          have HF2 : Hid (res = ⟨[], [], 3⟩) := by rw [Hid, HR.out, hF]; rfl
          have HFi := Lib.hid hFi
          clear hF hpar hFi hi hge hxe
          go_wp2_with fail
          refine (HFi.out _).mono ?_
          rintro e w2 ⟨rfl, rfl⟩
          go_wp2_with fail
          go_ret3
          rw [HF2.out]
          exact ⟨_, rfl, Own.nil _ _ _ _ _, HK.out⟩
        · obtain ⟨o, ho⟩ : ∃ o : Nat, Lib.indexByte x 61 = o := ⟨(Lib.indexByte x 61).toNat, by omega⟩
          have hol := (List.getElem?_eq_some_iff.1 (Lib.indexByte_some ho).1).1
          rw [ho] at hpar hFi
          rw [Int.toNat_natCast] at hpar
          have hx1 : (S x).extract 0 o = S (x.take o) := by rw [S_extract, List.drop_zero]
          have hx2 : (S x).extract (o + 1) x.length = S (x.drop (o + 1)) := by rw [S_extract, List.take_length]
          have hT := fun w' => ref_IsToken (x.take o) w' (show (x.take o).length ≤ 9223372036854775807 by simp; omega)
          have htn2 : ((o : Int) + 1).toNat = o + 1 := by omega
          have hb1 : (o : Int) + 1 ≤ (x.length : Int) := by omega
          have HFi := Lib.hid hFi
          clear hFi hi hge hxe ho
          cases htk : isTok (x.take o) with
          | false =>
            rw [htk] at hT hpar
            rw [if_neg (by simp)] at hpar
            rw [hpar] at hF
            have HF2 : Hid (res = ⟨[], [], 3⟩) := by rw [Hid, HR.out, hF]; rfl
            have HT := Lib.hid hT
            clear hF hpar hT htk
            go_wp2_with fail
            refine (HFi.out _).mono ?_
            rintro e w2 ⟨rfl, rfl⟩
            go_wp2_with fail
            refine (HT.out _).mono ?_
            rintro e w2 ⟨rfl, rfl⟩
            go_wp2_with fail
            go_ret3
            rw [HF2.out]
            exact ⟨_, rfl, Own.nil _ _ _ _ _, HK.out⟩
          | true =>
            rw [htk] at hT hpar
            rw [if_pos ⟨by omega, rfl⟩] at hpar
            rw [hpar] at hF
            have hU := fun w' => ref_unquoted (x.drop (o + 1)) w' (by simp; omega)
            generalize unqW (x.drop (o + 1)) = uq at hU hF
            obtain ⟨uv, ub⟩ := uq
            dsimp only at hU hF
            have HU := Lib.hid hU
            have HT := Lib.hid hT
            clear hpar hU hT htk
            cases ub with
            | false =>
              have HF2 : Hid (res = ⟨[], [], 3⟩) := by rw [Hid, HR.out, hF]; rfl
              clear hF
              go_wp2_with fail
              refine (HFi.out _).mono ?_
              rintro e w2 ⟨rfl, rfl⟩
              go_wp2_with fail
              refine (HT.out _).mono ?_
              rintro e w2 ⟨rfl, rfl⟩
              go_wp2_with fail
              refine (HU.out _).mono ?_
              rintro e w3 ⟨rfl, hk3⟩
              have K3 := Lib.hid (HK.out.trans hk3)
              clear hk3
              go_wp2_with fail
              go_ret3
              rw [HF2.out]
              exact ⟨_, rfl, Own.nil _ _ _ _ _, K3.out⟩
            | true =>
              have HF2 : Hid (parsM T [] = parsM (T.drop (k + 1)) (O ++ [⟨lowW (x.take o), uv⟩])) := hF
              have HL := Lib.hid (fun w' => ref_Low (x.take o) w' (by simp; omega))
              clear hF
              go_wp2_with fail
              refine (HFi.out _).mono ?_
              rintro e w2 ⟨rfl, rfl⟩
              go_wp2_with fail
              refine (HT.out _).mono ?_
              rintro e w2 ⟨rfl, rfl⟩
              go_wp2_with fail
              refine (HU.out _).mono ?_
              rintro e w3 ⟨rfl, hk3⟩
              have K3 := Lib.hid (HK.out.trans hk3)
              have O3 := Lib.hid (HO.out.keep0 hk3)
              have P3 := Lib.hid (HP.out.keep0 hk3)
              have e3 := hk3.load e0
              clear hk3 e0
              go_wp2_with fail
              refine (HL.out _).mono ?_
              rintro e w4 ⟨rfl, hk4⟩
              have K4 := Lib.hid (K3.out.trans hk4)
              have O4 := Lib.hid (O3.out.keep0 hk4)
              have P4 := Lib.hid (P3.out.keep0 hk4)
              clear hk4 e3
              go_wp2_with (first | (at_builtin; go_must (refine wpList_append2 rfl _ _ 23 rfl is (.agg #[.string ⟨#[]⟩, .string ⟨#[]⟩]) 32 Tryd.underlying23 Hs rfl (by decide) Fld.cells_length Fld.one w w4 rfl K4.out (by rfl) O4.out ⟨lowW (x.take o), uv⟩ _ rfl _ rfl (by have := HM.out; omega) (by omega) ?_); intro v' w5 hown' hk' hside) | fail)
              have hs5 := hside P4.out HS.out
              have O5 := Lib.hid hown'
              have K5 := Lib.hid hk'
              have P5 := Lib.hid hs5.1
              have S5 := Lib.hid hs5.2
              clear hown' hk' hside hs5
              go_roundg (T.length - (k + 1))
              case measure => omega
              case rel => exact ⟨k + 1, O ++ [⟨lowW (x.take o), uv⟩], by go_num, by omega, rfl, by simp; omega, O5, P5, S5, K5, HF2⟩
    · have hF := HF.out
      rw [List.drop_eq_nil_of_le (by omega), parsM] at hF
      have hF2 : res = ⟨m0, O, 0⟩ := by rw [HR.out, hF]
      have HF2 := Lib.hid hF2
      obtain ⟨b1, o1, c1, hv1, _, _, hx1⟩ := (HP.out.sl strC_length).cell (i := 0) (x := m0) rfl
      cases hv1
      have e0 := hx1 0 (by omega)
      simp only [strC, List.getElem?_cons_zero, Nat.zero_mul, Nat.add_zero] at e0
      clear hF hF2 hx1 HF
      go_wp2_with fail
      go_ret3
      rw [HF2.out]
      exact ⟨_, rfl, HO.out, HK.out⟩
end Go.Proofs.YtbeppooknhmhaaaDoor
