/- Layer 10: the program's cut. No conditions but on lengths. -/
import Derived.Test.YtbeppooknhmhaaaDoorFld7
namespace Go.Proofs.YtbeppooknhmhaaaDoor
open Go.RowKit Go.Shelf

theorem piece_snoc {l : List UInt8} {k f : Nat} {c : UInt8} (h : l[k]? = some c) (hf : f ≤ k) : (l.take (k + 1)).drop f = (l.take k).drop f ++ [c] := by
  have hl := (List.getElem?_eq_some_iff.1 h).1
  rw [take_snoc h, List.drop_append_of_le_length (by simp; omega)]

set_option maxRecDepth 100000 in
set_option maxHeartbeats 2000000 in
theorem field_cut (l : List UInt8) (b : UInt8) (w : World) (hs : l.length ≤ 1048576) :
    Calls Tryd.prog 43 #[.string (S l), .int .u8 b.toNat] w (Texts w (cutW l b)) := by
  have hsz := S_size l
  have HT := Lib.hid (fun (p : List UInt8) (h : p.length ≤ 1048576) (w1 : World) => field_trim p w1 (show p.length ≤ 9223372036854775807 by omega))
  have HM := Lib.hid (show maxLen = 9223372036854775807 from rfl)
  obtain ⟨is, Hs⟩ := strinfo'
  go_enter Tryd.func43, Tryd.ntmps43
  go_wp2_with fail
  go_loopg [4, 5, 6, 7] (l.length + 1) (fun g o fv qv i wr => ∃ (k f : Nat) (O : List (List UInt8)) (q : Bool), i = .int .i64 k ∧ k ≤ l.length + 1 ∧ g = l.length + 1 - k ∧ fv = .int .i64 f ∧ f ≤ l.length ∧ f ≤ k ∧ qv = .bool q ∧
    Own strC 1 w.heap.size 9 wr o O ∧ Keep [] w wr ∧ O.length ≤ k ∧ Hid (cutW l b = O ++ cutM b (l.drop k) q ((l.take k).drop f)))
  case atStart =>
    exact ⟨0, 0, [], false, rfl, Nat.zero_le _, by omega, rfl, Nat.zero_le _, Nat.le_refl _, rfl, Own.nil strC 1 _ _ w, Keep.refl [] w, Nat.le_refl _, rfl⟩
  case round =>
    obtain ⟨k, f, O, q, rfl, hk, hgk, rfl, hfl, hfk, rfl, ho, hkr, hol, hcm⟩ := hrel
    have HO := Lib.hid ho
    have HK := Lib.hid hkr
    clear ho hkr
    by_cases hlt : k < l.length
    · obtain ⟨c, hg⟩ : ∃ c, l[k]? = some c := ⟨_, List.getElem?_eq_getElem hlt⟩
      have hc8 := u8_nat c
      have hget := S_get hg
      have HD := Lib.hid (drop_at hg)
      have HPS := Lib.hid (piece_snoc hg hfk)
      clear hg
      by_cases h34 : c.toNat = 34
      · obtain ⟨q1, q2⟩ := int_eq (show ((c.toNat : Nat) : Int) = 34 by omega)
        have hn : Hid (cutW l b = O ++ cutM b (l.drop (k + 1)) (!q) ((l.take (k + 1)).drop f)) := by rw [Hid, hcm.out, HD.out, cutM_quote h34, HPS.out]
        clear hcm
        go_wp2_with fail
        go_roundg (l.length + 1 - (k + 1))
        case measure => omega
        case rel => exact ⟨k + 1, f, O, !q, by go_num, by omega, rfl, rfl, hfl, by omega, rfl, HO.out, HK.out, by omega, hn⟩
      · obtain ⟨q1, q2⟩ := int_ne (show ((c.toNat : Nat) : Int) ≠ 34 by omega)
        cases q with
        | true =>
          by_cases h92 : c.toNat = 92
          · obtain ⟨q3, q4⟩ := int_eq (show ((c.toNat : Nat) : Int) = 92 by omega)
            have hn : Hid (cutW l b = O ++ cutM b (l.drop (k + 2)) true ((l.take (k + 2)).drop f)) := by
              by_cases hl2 : k + 1 < l.length
              · obtain ⟨d, hg2⟩ : ∃ d, l[k + 1]? = some d := ⟨_, List.getElem?_eq_getElem hl2⟩
                rw [Hid, hcm.out, HD.out, drop_at hg2, cutM_slash h92, piece_snoc hg2 (by omega), HPS.out]; simp
              · have e1 : l.drop (k + 1) = [] := List.drop_eq_nil_of_le (by omega)
                have e2 : l.drop (k + 2) = [] := List.drop_eq_nil_of_le (by omega)
                have e3 : l.take (k + 2) = l.take (k + 1) := by rw [List.take_of_length_le (by omega), List.take_of_length_le (by omega)]
                rw [Hid, hcm.out, HD.out, e1, cutM_slash_end h92, e2, e3, HPS.out]; rfl
            clear hcm
            go_wp2_with fail
            go_roundg (l.length + 1 - (k + 2))
            case measure => omega
            case rel => exact ⟨k + 2, f, O, true, by go_num, by omega, rfl, rfl, hfl, by omega, rfl, HO.out, HK.out, by omega, hn⟩
          · obtain ⟨q3, q4⟩ := int_ne (show ((c.toNat : Nat) : Int) ≠ 92 by omega)
            have hn : Hid (cutW l b = O ++ cutM b (l.drop (k + 1)) true ((l.take (k + 1)).drop f)) := by rw [Hid, hcm.out, HD.out, cutM_plain h34 (by simp [h92]) (by simp), HPS.out]
            clear hcm
            by_cases hb : c = b
            · obtain ⟨q5, q6⟩ := nat_eq (congrArg UInt8.toNat hb)
              have hbn := congrArg UInt8.toNat hb
              clear hb
              go_wp2_with fail
              go_roundg (l.length + 1 - (k + 1))
              case measure => omega
              case rel => exact ⟨k + 1, f, O, true, by go_num, by omega, rfl, rfl, hfl, by omega, rfl, HO.out, HK.out, by omega, hn⟩
            · obtain ⟨q5, q6⟩ := nat_ne (a := c.toNat) (b := b.toNat) (fun h => hb (UInt8.toNat_inj.1 h))
              clear hb
              go_wp2_with fail
              go_roundg (l.length + 1 - (k + 1))
              case measure => omega
              case rel => exact ⟨k + 1, f, O, true, by go_num, by omega, rfl, rfl, hfl, by omega, rfl, HO.out, HK.out, by omega, hn⟩
        | false =>
          have H92 : Hid (∃ z : Bool, (((c.toNat : Nat) : Int) == 92) = z) := ⟨_, rfl⟩
          obtain ⟨z, hz⟩ := H92.out
          by_cases hb : c = b
          · have hn : Hid (cutW l b = (O ++ [trimW ((l.take k).drop f)]) ++ cutM b (l.drop (k + 1)) false ((l.take (k + 1)).drop (k + 1))) := by
              rw [Hid, hcm.out, HD.out, cutM_by h34 hb, show (l.take (k + 1)).drop (k + 1) = [] from List.drop_eq_nil_of_le (by simp; omega)]; simp
            obtain ⟨q5, q6⟩ := nat_eq (congrArg UInt8.toNat hb)
            have hx := S_extract l f k
            have hpl : ((l.take k).drop f).length ≤ 1048576 := by simp; omega
            generalize (l.take k).drop f = p at hx hpl hn
            clear hcm hb HPS
            go_wp2_with (first
              | (go_at_call 38; go_must (refine (HT.out p (by exact hpl) _).mono ?_); rintro e w1 ⟨rfl, hk1⟩)
              | (at_builtin; go_must (refine wpList_append2 rfl _ _ 53 rfl is (.string ⟨#[]⟩) 16 Tryd.underlying53 Hs rfl (by decide) strC_length strC_one w w1 rfl (HK.out.trans hk1) (by rfl) (HO.out.keep0 hk1) (trimW p) _ (strC_of rfl) _ rfl (by have := HM.out; omega) (by omega) ?_); intro v' w2 hown' hk' hside)
              | fail)
            all_goals (
              go_roundg (l.length + 1 - (k + 1))
              case measure => omega
              case rel => exact ⟨k + 1, k + 1, O ++ [trimW p], false, by go_num, by omega, rfl, by go_num, by omega, Nat.le_refl _, rfl, hown', hk', by simp; omega, hn⟩)
          · have hn : Hid (cutW l b = O ++ cutM b (l.drop (k + 1)) false ((l.take (k + 1)).drop f)) := by rw [Hid, hcm.out, HD.out, cutM_plain h34 (by simp) (by simp [hb]), HPS.out]
            obtain ⟨q5, q6⟩ := nat_ne (a := c.toNat) (b := b.toNat) (fun h => hb (UInt8.toNat_inj.1 h))
            clear hcm
            cases z with
            | true =>
              have h92 : ((c.toNat : Nat) : Int) = 92 := by simpa using hz
              have hbn : c.toNat ≠ b.toNat := fun h => hb (UInt8.toNat_inj.1 h)
              obtain ⟨q7, q8⟩ := int_ne (show (92 : Int) ≠ ((b.toNat : Nat) : Int) by omega)
              clear hb
              go_wp2_with fail
              go_roundg (l.length + 1 - (k + 1))
              case measure => omega
              case rel => exact ⟨k + 1, f, O, false, by go_num, by omega, rfl, rfl, hfl, by omega, rfl, HO.out, HK.out, by omega, hn⟩
            | false =>
              clear hb
              go_wp2_with fail
              go_roundg (l.length + 1 - (k + 1))
              case measure => omega
              case rel => exact ⟨k + 1, f, O, false, by go_num, by omega, rfl, rfl, hfl, by omega, rfl, HO.out, HK.out, by omega, hn⟩
    · have hn : Hid (cutW l b = O ++ [trimW (l.drop f)]) := by
        rw [Hid, hcm.out, List.drop_eq_nil_of_le (by omega), List.take_of_length_le (by omega)]; rfl
      have hx : (S l).extract f l.length = S (l.drop f) := by rw [S_extract, List.take_of_length_le (Nat.le_refl _)]
      have hpl : (l.drop f).length ≤ 1048576 := by simp; omega
      generalize l.drop f = p at hx hpl hn
      clear hcm
      go_wp2_with (first
        | (go_at_call 38; go_must (refine (HT.out p (by exact hpl) _).mono ?_); rintro e w1 ⟨rfl, hk1⟩)
        | (at_builtin; go_must (refine wpList_append2 rfl _ _ 53 rfl is (.string ⟨#[]⟩) 16 Tryd.underlying53 Hs rfl (by decide) strC_length strC_one w w1 rfl (HK.out.trans hk1) (by rfl) (HO.out.keep0 hk1) (trimW p) _ (strC_of rfl) _ rfl (by have := HM.out; omega) (by omega) ?_); intro v' w2 hown' hk' hside)
        | fail)
      go_ret
      exact ⟨_, rfl, by rw [hn.out]; exact hown', hk'⟩
end Go.Proofs.YtbeppooknhmhaaaDoor
