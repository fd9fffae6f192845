/- Layer 10: the text of a value, in quotes or not: both sides. No conditions but on lengths. -/
import Derived.Test.YtbeppooknhmhaaaDoorFld8
namespace Go.Proofs.YtbeppooknhmhaaaDoor
open Go.RowKit Go.Shelf

/-- behind the first quote -/
def unqM : List UInt8 → List UInt8 → List UInt8 × Bool
  | [], _ => ([], false)
  | [c], out => if c.toNat = 34 then (out, true) else ([], false)
  | c :: d :: r, out => if c.toNat = 34 then (out, false) else if c.toNat = 92 then unqM r (out ++ [d]) else unqM (d :: r) (out ++ [c])
def unqQ : List UInt8 → List UInt8 × Bool
  | c :: d :: r => if c.toNat = 34 then unqM (d :: r) [] else ([], false)
  | _ => ([], false)
def unqW (s : List UInt8) : List UInt8 × Bool := if isTok s then (s, true) else unqQ s
theorem unqM_quote {c : UInt8} {r out : List UInt8} (h : c.toNat = 34) : unqM (c :: r) out = (out, r.isEmpty) := by
  cases r with
  | nil => unfold unqM; rw [if_pos h]; rfl
  | cons d r => unfold unqM; rw [if_pos h]; rfl
theorem unqM_slash {c d : UInt8} {r out : List UInt8} (h : c.toNat = 92) : unqM (c :: d :: r) out = unqM r (out ++ [d]) := by
  conv => lhs; unfold unqM
  rw [if_neg (by omega), if_pos h]
theorem unqM_slash_end {c : UInt8} {out : List UInt8} (h : c.toNat ≠ 34) : unqM [c] out = ([], false) := by
  unfold unqM; rw [if_neg h]
theorem unqM_plain {c : UInt8} {r out : List UInt8} (h : c.toNat ≠ 34) (h2 : c.toNat ≠ 92) : unqM (c :: r) out = unqM r (out ++ [c]) := by
  cases r with
  | nil => unfold unqM; rw [if_neg h]
  | cons d r =>
    conv => lhs; unfold unqM
    rw [if_neg h, if_neg h2]
theorem unqM_len : ∀ (n : Nat) (s out : List UInt8), s.length ≤ n → (unqM s out).1.length ≤ out.length + s.length
  | _, [], out, _ => by simp [unqM]
  | _, [c], out, _ => by unfold unqM; split <;> simp
  | 0, c :: d :: r, out, h => by simp at h
  | 1, c :: d :: r, out, h => by simp at h
  | n + 2, c :: d :: r, out, h => by
    unfold unqM
    split
    · simp
    · split
      · have := unqM_len n r (out ++ [d]) (by simp at h; omega)
        simp at this ⊢; omega
      · have := unqM_len (n + 1) (d :: r) (out ++ [c]) (by simp at h ⊢; omega)
        simp at this ⊢; omega
theorem unqW_len (s : List UInt8) : (unqW s).1.length ≤ s.length := by
  unfold unqW
  split
  · simp
  · unfold unqQ
    split
    · split
      · exact Nat.le_trans (unqM_len _ _ [] (Nat.le_refl _)) (by simp)
      · simp
    · simp
theorem str_ret {a c : List UInt8} {b d : Bool} (h : (a, b) = (c, d)) : Ending.returned (.tuple #[.string (S a), .bool b]) = .returned (.tuple #[.string (S c), .bool d]) := by cases h; rfl
theorem str_ret' {x : List UInt8 × Bool} {c : List UInt8} {d : Bool} (h : x = (c, d)) : Ending.returned (.tuple #[.string (S c), .bool d]) = .returned (.tuple #[.string (S x.1), .bool x.2]) := by rw [h]

set_option maxRecDepth 100000 in
set_option maxHeartbeats 1600000 in
theorem field_unquote (l : List UInt8) (w : World) (hs : l.length ≤ 1048576) :
    Calls Tryd.prog 56 #[.string (S l)] w fun e w' => e = .returned (.tuple #[.string (S (unqW l).1), .bool (unqW l).2]) ∧ Keep [] w w' := by
  have hsz := S_size l
  have hT := fun w1 => field_IsToken l w1 (show l.length ≤ 9223372036854775807 by omega)
  have HM := Lib.hid (show maxLen = 9223372036854775807 from rfl)
  obtain ⟨i8, H8⟩ := u8info'
  have hU : unqW l = if isTok l then (l, true) else unqQ l := rfl
  cases ht : isTok l with
  | true =>
    rw [ht] at hT hU
    rw [if_pos rfl] at hU
    have HT := Lib.hid hT
    have HU := Lib.hid hU
    clear hT hU ht
    go_enter Tryd.func56, Tryd.ntmps56
    go_wp2_with fail
    refine (HT.out _).mono ?_
    rintro e w1 ⟨rfl, hk1⟩
    have K1 := Lib.hid hk1
    clear hk1
    go_wp2_with fail
    go_ret2
    exact ⟨str_ret' HU.out, K1.out⟩
  | false =>
    rw [ht] at hT hU
    rw [if_neg (by simp)] at hU
    have HT := Lib.hid hT
    clear hT ht
    by_cases h2 : l.length < 2
    · have hU2 : unqW l = ([], false) := by
        rw [hU]
        cases l with
        | nil => rfl
        | cons c r => cases r with
          | nil => rfl
          | cons d r => simp at h2; omega
      have HU := Lib.hid hU2
      clear hU hU2
      go_enter Tryd.func56, Tryd.ntmps56
      go_wp2_with fail
      refine (HT.out _).mono ?_
      rintro e w1 ⟨rfl, hk1⟩
      have K1 := Lib.hid hk1
      clear hk1
      go_wp2_with fail
      go_ret2
      exact ⟨str_ret' HU.out, K1.out⟩
    · have h2' : 2 ≤ l.length := by omega
      obtain ⟨c0, hg0⟩ : ∃ c, l[0]? = some c := ⟨_, List.getElem?_eq_getElem (by omega)⟩
      have hget0 := S_get hg0
      have hc8 := u8_nat c0
      have hcons : l = c0 :: l.drop 1 := by
        have := drop_at hg0
        simpa using this
      have hne1 : l.drop 1 ≠ [] := by
        intro e
        have := congrArg List.length e
        simp at this
        omega
      have hU2 : unqW l = if c0.toNat = 34 then unqM (l.drop 1) [] else ([], false) := by
        rw [hU]
        generalize hd : l.drop 1 = t at hcons hne1
        rw [hcons]
        cases t with
        | nil => exact absurd rfl hne1
        | cons d r => rfl
      clear hU hg0 hcons hne1 h2
      by_cases h34 : c0.toNat = 34
      · rw [if_pos h34] at hU2
        obtain ⟨q1, q2⟩ := int_eq (show ((c0.toNat : Nat) : Int) = 34 by omega)
        have HU := Lib.hid hU2
        clear hU2 h34
        go_enter Tryd.func56, Tryd.ntmps56
        go_wp2_with fail
        refine (HT.out _).mono ?_
        rintro e w1 ⟨rfl, hk1⟩
        have K1 := Lib.hid hk1
        clear hk1
        go_wp2_with fail
        go_loopg [4, 5] (l.length - 1) (fun g o i wr => ∃ (k : Nat) (U : List UInt8), i = .int .i64 k ∧ 1 ≤ k ∧ k ≤ l.length ∧ g = l.length - k ∧ U.length ≤ k ∧ Hid (Own byteC 1 w.heap.size 5 wr o U) ∧ Hid (Keep [] w wr) ∧ Hid (unqW l = unqM (l.drop k) U))
        case atStart => exact ⟨1, [], rfl, by omega, by omega, by omega, by simp, Lib.hid (Own.nil _ _ _ _ _), Lib.hid K1.out, HU⟩
        case round =>
          obtain ⟨k, U, rfl, hk1, hk, rfl, hUl, HO, HK, HE⟩ := hrel
          have hback := own_back (P := Tryd.prog) HO.out 46 9 Tryd.underlying46 Tryd.underlying5 Tryd.underlying9
          clear hget0 hc8 q1 q2
          by_cases hlt : k < l.length
          · obtain ⟨c, hg⟩ : ∃ c, l[k]? = some c := ⟨_, List.getElem?_eq_getElem hlt⟩
            have hc8 := u8_nat c
            have hget := S_get hg
            have hE := HE.out
            rw [drop_at hg] at hE
            clear hg HE
            by_cases h34 : c.toNat = 34
            · obtain ⟨q1, q2⟩ := int_eq (show ((c.toNat : Nat) : Int) = 34 by omega)
              rw [unqM_quote h34] at hE
              by_cases hend : k + 1 = l.length
              · obtain ⟨z1, z2⟩ := int_eq (show (k : Int) = (l.length : Int) - 1 by omega)
                have HF : Hid (unqW l = (U, true)) := by rw [Hid, hE, List.drop_eq_nil_of_le (by omega)]; rfl
                clear hE hend h34
                go_wp2_with fail
                go_ret2
                exact ⟨str_ret' HF.out, HK.out⟩
              · obtain ⟨z1, z2⟩ := int_ne (show (k : Int) ≠ (l.length : Int) - 1 by omega)
                have HF : Hid (unqW l = (U, false)) := by
                  rw [Hid, hE]
                  have : (l.drop (k + 1)).isEmpty = false := by
                    rw [List.isEmpty_eq_false_iff]
                    intro e
                    have := congrArg List.length e
                    simp at this
                    omega
                  rw [this]
                clear hE hend h34
                go_wp2_with fail
                go_ret2
                exact ⟨str_ret' HF.out, HK.out⟩
            · obtain ⟨q1, q2⟩ := int_ne (show ((c.toNat : Nat) : Int) ≠ 34 by omega)
              clear hback
              by_cases h92 : c.toNat = 92
              · obtain ⟨q3, q4⟩ := int_eq (show ((c.toNat : Nat) : Int) = 92 by omega)
                by_cases hend : k + 1 = l.length
                · rw [List.drop_eq_nil_of_le (show l.length ≤ k + 1 by omega), unqM_slash_end h34] at hE
                  obtain ⟨z1, z2⟩ := int_eq (show (k : Int) + 1 = (l.length : Int) by omega)
                  have z3 : ¬ (k : Int) + 1 < (l.length : Int) := by omega
                  have HF := Lib.hid hE
                  clear hE hend h34 h92
                  go_wp2_with fail
                  go_ret2
                  exact ⟨str_ret' HF.out, HK.out⟩
                · obtain ⟨d, hg2⟩ : ∃ d, l[k + 1]? = some d := ⟨_, List.getElem?_eq_getElem (by omega)⟩
                  have hd8 := u8_nat d
                  have hget2 := S_get hg2
                  rw [drop_at hg2, unqM_slash h92] at hE
                  obtain ⟨z1, z2⟩ := int_ne (show (k : Int) + 1 ≠ (l.length : Int) by omega)
                  have z3 : (k : Int) + 1 < (l.length : Int) := by omega
                  have HF := Lib.hid hE
                  clear hE hend h34 h92 hg2
                  go_wp2_with (first | (at_builtin; go_must (refine wpList_append2 rfl _ _ 46 rfl i8 (.int .u8 0) 1 Tryd.underlying46 H8 rfl (by decide) byteC_length byteC_one w wr rfl HK.out (by rfl) HO.out d _ (byteC_of (by omega)) _ rfl (by have := HM.out; omega) (by omega) ?_); intro v' w3 hown' hk' hside) | fail)
                  have HO3 := Lib.hid hown'
                  have HK3 := Lib.hid hk'
                  clear hown' hk' hside
                  go_roundg (l.length - (k + 2))
                  case measure => omega
                  case rel => exact ⟨k + 2, U ++ [d], by go_num, by omega, by omega, rfl, by simp; omega, HO3, HK3, HF⟩
              · obtain ⟨q3, q4⟩ := int_ne (show ((c.toNat : Nat) : Int) ≠ 92 by omega)
                rw [unqM_plain h34 h92] at hE
                have HF := Lib.hid hE
                clear hE h34 h92
                go_wp2_with (first | (at_builtin; go_must (refine wpList_append2 rfl _ _ 46 rfl i8 (.int .u8 0) 1 Tryd.underlying46 H8 rfl (by decide) byteC_length byteC_one w wr rfl HK.out (by rfl) HO.out c _ (byteC_of (by omega)) _ rfl (by have := HM.out; omega) (by omega) ?_); intro v' w3 hown' hk' hside) | fail)
                have HO3 := Lib.hid hown'
                have HK3 := Lib.hid hk'
                clear hown' hk' hside
                go_roundg (l.length - (k + 1))
                case measure => omega
                case rel => exact ⟨k + 1, U ++ [c], by go_num, by omega, by omega, rfl, by simp; omega, HO3, HK3, HF⟩
          · have hE := HE.out
            rw [List.drop_eq_nil_of_le (by omega), unqM] at hE
            have HF := Lib.hid hE
            clear hE HE hback
            go_wp2_with fail
            go_ret2
            exact ⟨str_ret' HF.out, HK.out⟩
      · rw [if_neg h34] at hU2
        obtain ⟨q1, q2⟩ := int_ne (show ((c0.toNat : Nat) : Int) ≠ 34 by omega)
        have HU := Lib.hid hU2
        clear hU2 h34
        go_enter Tryd.func56, Tryd.ntmps56
        go_wp2_with fail
        refine (HT.out _).mono ?_
        rintro e w1 ⟨rfl, hk1⟩
        have K1 := Lib.hid hk1
        clear hk1
        go_wp2_with fail
        go_ret2
        exact ⟨str_ret' HU.out, K1.out⟩

set_option maxRecDepth 100000 in
set_option maxHeartbeats 1600000 in
theorem ref_unquoted (l : List UInt8) (w : World) (hs : l.length ≤ 1048576) :
    Calls Tryd.prog 47 #[.string (S l)] w fun e w' => e = .returned (.tuple #[.string (S (unqW l).1), .bool (unqW l).2]) ∧ Keep [] w w' := by
  have hsz := S_size l
  have hT := fun w1 => ref_IsToken l w1 (show l.length ≤ 9223372036854775807 by omega)
  have HM := Lib.hid (show maxLen = 9223372036854775807 from rfl)
  obtain ⟨i8, H8⟩ := u8info'
  have hU : unqW l = if isTok l then (l, true) else unqQ l := rfl
  cases ht : isTok l with
  | true =>
    rw [ht] at hT hU
    rw [if_pos rfl] at hU
    have HT := Lib.hid hT
    have HU := Lib.hid hU
    clear hT hU ht
    go_enter Tryd.func47, Tryd.ntmps47
    go_wp2_with fail
    refine (HT.out _).mono ?_
    rintro e w1 ⟨rfl, rfl⟩
    have K1 := Lib.hid (Keep.refl [] w)
    go_wp2_with fail
    go_ret2
    exact ⟨str_ret' HU.out, K1.out⟩
  | false =>
    rw [ht] at hT hU
    rw [if_neg (by simp)] at hU
    have HT := Lib.hid hT
    clear hT ht
    by_cases h2 : l.length < 2
    · have hU2 : unqW l = ([], false) := by
        rw [hU]
        cases l with
        | nil => rfl
        | cons c r => cases r with
          | nil => rfl
          | cons d r => simp at h2; omega
      have HU := Lib.hid hU2
      clear hU hU2
      go_enter Tryd.func47, Tryd.ntmps47
      go_wp2_with fail
      refine (HT.out _).mono ?_
      rintro e w1 ⟨rfl, rfl⟩
      have K1 := Lib.hid (Keep.refl [] w)
      go_wp2_with fail
      go_ret2
      exact ⟨str_ret' HU.out, K1.out⟩
    · have h2' : 2 ≤ l.length := by omega
      obtain ⟨c0, hg0⟩ : ∃ c, l[0]? = some c := ⟨_, List.getElem?_eq_getElem (by omega)⟩
      have hget0 := S_get hg0
      have hc8 := u8_nat c0
      have hcons : l = c0 :: l.drop 1 := by
        have := drop_at hg0
        simpa using this
      have hne1 : l.drop 1 ≠ [] := by
        intro e
        have := congrArg List.length e
        simp at this
        omega
      have hU2 : unqW l = if c0.toNat = 34 then unqM (l.drop 1) [] else ([], false) := by
        rw [hU]
        generalize hd : l.drop 1 = t at hcons hne1
        rw [hcons]
        cases t with
        | nil => exact absurd rfl hne1
        | cons d r => rfl
      clear hU hg0 hcons hne1 h2
      by_cases h34 : c0.toNat = 34
      · rw [if_pos h34] at hU2
        obtain ⟨q1, q2⟩ := int_eq (show ((c0.toNat : Nat) : Int) = 34 by omega)
        have HU := Lib.hid hU2
        clear hU2 h34
        go_enter Tryd.func47, Tryd.ntmps47
        go_wp2_with fail
        refine (HT.out _).mono ?_
        rintro e w1 ⟨rfl, rfl⟩
        have K1 := Lib.hid (Keep.refl [] w)
        go_wp2_with fail
        go_loopg [4, 5] (l.length - 1) (fun g o i wr => ∃ (k : Nat) (U : List UInt8), i = .int .i64 k ∧ 1 ≤ k ∧ k ≤ l.length ∧ g = l.length - k ∧ U.length ≤ k ∧ Hid (Own byteC 1 w.heap.size 5 wr o U) ∧ Hid (Keep [] w wr) ∧ Hid (unqW l = unqM (l.drop k) U))
        case atStart => exact ⟨1, [], rfl, by omega, by omega, by omega, by simp, Lib.hid (Own.none byteC 1 _ w (Nat.le_refl _)), Lib.hid (K1.out.alloc _), HU⟩
        case round =>
          obtain ⟨k, U, rfl, hk1, hk, rfl, hUl, HO, HK, HE⟩ := hrel
          have hback := own_back (P := Tryd.prog) HO.out 46 9 Tryd.underlying46 Tryd.underlying5 Tryd.underlying9
          clear hget0 hc8 q1 q2
          by_cases hlt : k < l.length
          · obtain ⟨c, hg⟩ : ∃ c, l[k]? = some c := ⟨_, List.getElem?_eq_getElem hlt⟩
            have hc8 := u8_nat c
            have hget := S_get hg
            have hE := HE.out
            rw [drop_at hg] at hE
            clear hg HE
            by_cases h34 : c.toNat = 34
            · obtain ⟨q1, q2⟩ := int_eq (show ((c.toNat : Nat) : Int) = 34 by omega)
              rw [unqM_quote h34] at hE
              by_cases hend : k + 1 = l.length
              · obtain ⟨z1, z2⟩ := int_eq (show (k : Int) = (l.length : Int) - 1 by omega)
                have HF : Hid (unqW l = (U, true)) := by rw [Hid, hE, List.drop_eq_nil_of_le (by omega)]; rfl
                clear hE hend h34
                go_wp2_with fail
                go_ret2
                exact ⟨str_ret' HF.out, HK.out⟩
              · obtain ⟨z1, z2⟩ := int_ne (show (k : Int) ≠ (l.length : Int) - 1 by omega)
                have HF : Hid (unqW l = (U, false)) := by
                  rw [Hid, hE]
                  have : (l.drop (k + 1)).isEmpty = false := by
                    rw [List.isEmpty_eq_false_iff]
                    intro e
                    have := congrArg List.length e
                    simp at this
                    omega
                  rw [this]
                clear hE hend h34
                go_wp2_with fail
                go_ret2
                exact ⟨str_ret' HF.out, HK.out⟩
            · obtain ⟨q1, q2⟩ := int_ne (show ((c.toNat : Nat) : Int) ≠ 34 by omega)
              clear hback
              by_cases h92 : c.toNat = 92
              · obtain ⟨q3, q4⟩ := int_eq (show ((c.toNat : Nat) : Int) = 92 by omega)
                by_cases hend : k + 1 = l.length
                · rw [List.drop_eq_nil_of_le (show l.length ≤ k + 1 by omega), unqM_slash_end h34] at hE
                  obtain ⟨z1, z2⟩ := int_eq (show (k : Int) + 1 = (l.length : Int) by omega)
                  have z3 : ¬ (k : Int) + 1 < (l.length : Int) := by omega
                  have HF := Lib.hid hE
                  clear hE hend h34 h92
                  go_wp2_with fail
                  go_ret2
                  exact ⟨str_ret' HF.out, HK.out⟩
                · obtain ⟨d, hg2⟩ : ∃ d, l[k + 1]? = some d := ⟨_, List.getElem?_eq_getElem (by omega)⟩
                  have hd8 := u8_nat d
                  have hget2 := S_get hg2
                  rw [drop_at hg2, unqM_slash h92] at hE
                  obtain ⟨z1, z2⟩ := int_ne (show (k : Int) + 1 ≠ (l.length : Int) by omega)
                  have z3 : (k : Int) + 1 < (l.length : Int) := by omega
                  have HF := Lib.hid hE
                  clear hE hend h34 h92 hg2
                  go_wp2_with (first | (at_builtin; go_must (refine wpList_append2 rfl _ _ 46 rfl i8 (.int .u8 0) 1 Tryd.underlying46 H8 rfl (by decide) byteC_length byteC_one w wr rfl HK.out (by rfl) HO.out d _ (byteC_of (by omega)) _ rfl (by have := HM.out; omega) (by omega) ?_); intro v' w3 hown' hk' hside) | fail)
                  have HO3 := Lib.hid hown'
                  have HK3 := Lib.hid hk'
                  clear hown' hk' hside
                  go_roundg (l.length - (k + 2))
                  case measure => omega
                  case rel => exact ⟨k + 2, U ++ [d], by go_num, by omega, by omega, rfl, by simp; omega, HO3, HK3, HF⟩
              · obtain ⟨q3, q4⟩ := int_ne (show ((c.toNat : Nat) : Int) ≠ 92 by omega)
                rw [unqM_plain h34 h92] at hE
                have HF := Lib.hid hE
                clear hE h34 h92
                go_wp2_with (first | (at_builtin; go_must (refine wpList_append2 rfl _ _ 46 rfl i8 (.int .u8 0) 1 Tryd.underlying46 H8 rfl (by decide) byteC_length byteC_one w wr rfl HK.out (by rfl) HO.out c _ (byteC_of (by omega)) _ rfl (by have := HM.out; omega) (by omega) ?_); intro v' w3 hown' hk' hside) | fail)
                have HO3 := Lib.hid hown'
                have HK3 := Lib.hid hk'
                clear hown' hk' hside
                go_roundg (l.length - (k + 1))
                case measure => omega
                case rel => exact ⟨k + 1, U ++ [c], by go_num, by omega, by omega, rfl, by simp; omega, HO3, HK3, HF⟩
          · have hE := HE.out
            rw [List.drop_eq_nil_of_le (by omega), unqM] at hE
            have HF := Lib.hid hE
            clear hE HE hback
            go_wp2_with fail
            go_ret2
            exact ⟨str_ret' HF.out, HK.out⟩
      · rw [if_neg h34] at hU2
        obtain ⟨q1, q2⟩ := int_ne (show ((c0.toNat : Nat) : Int) ≠ 34 by omega)
        have HU := Lib.hid hU2
        clear hU2 h34
        go_enter Tryd.func47, Tryd.ntmps47
        go_wp2_with fail
        refine (HT.out _).mono ?_
        rintro e w1 ⟨rfl, rfl⟩
        have K1 := Lib.hid (Keep.refl [] w)
        go_wp2_with fail
        go_ret2
        exact ⟨str_ret' HU.out, K1.out⟩
end Go.Proofs.YtbeppooknhmhaaaDoor
