/- Layer 10: the lists' elements: cut, Cut. No conditions but on lengths. -/
import Derived.Test.YtbeppooknhmhaaaDoorFld6
namespace Go.Proofs.YtbeppooknhmhaaaDoor
open Go.RowKit Go.Shelf

/-- a text, cut at each byte that isn't in quotes; p: the part that has begun -/
def cutM (by' : UInt8) : List UInt8 → Bool → List UInt8 → List (List UInt8)
  | [], _, p => [trimW p]
  | c :: r, q, p =>
    if c.toNat = 34 then cutM by' r (!q) (p ++ [c])
    else if c.toNat = 92 ∧ q = true then
      match r with
      | [] => [trimW (p ++ [c])]
      | d :: r' => cutM by' r' q (p ++ [c, d])
    else if c = by' ∧ q = false then trimW p :: cutM by' r q []
    else cutM by' r q (p ++ [c])
def cutW (l : List UInt8) (b : UInt8) : List (List UInt8) := cutM b l false []
theorem drop_at {l : List UInt8} {k : Nat} {c : UInt8} (h : l[k]? = some c) : l.drop k = c :: l.drop (k + 1) := by
  obtain ⟨hl, hc⟩ := List.getElem?_eq_some_iff.1 h
  rw [List.drop_eq_getElem_cons hl, hc]
theorem cutM_quote {b c : UInt8} {r p : List UInt8} {q : Bool} (h : c.toNat = 34) : cutM b (c :: r) q p = cutM b r (!q) (p ++ [c]) := by
  rw [cutM.eq_def]; dsimp only; rw [if_pos h]
theorem cutM_slash {b c d : UInt8} {r p : List UInt8} (h : c.toNat = 92) : cutM b (c :: d :: r) true p = cutM b r true (p ++ [c, d]) := by
  rw [cutM.eq_def]; dsimp only; rw [if_neg (by omega), if_pos ⟨h, rfl⟩]
theorem cutM_slash_end {b c : UInt8} {p : List UInt8} (h : c.toNat = 92) : cutM b [c] true p = [trimW (p ++ [c])] := by
  rw [cutM.eq_def]; dsimp only; rw [if_neg (by omega), if_pos ⟨h, rfl⟩]
theorem cutM_by {b c : UInt8} {r p : List UInt8} (h : c.toNat ≠ 34) (hb : c = b) : cutM b (c :: r) false p = trimW p :: cutM b r false [] := by
  rw [cutM.eq_def]; dsimp only; rw [if_neg h, if_neg (by simp), if_pos ⟨hb, rfl⟩]
theorem cutM_plain {b c : UInt8} {r p : List UInt8} {q : Bool} (h : c.toNat ≠ 34) (h2 : ¬ (c.toNat = 92 ∧ q = true)) (hb : ¬ (c = b ∧ q = false)) : cutM b (c :: r) q p = cutM b r q (p ++ [c]) := by
  rw [cutM.eq_def]; dsimp only; rw [if_neg h, if_neg h2, if_neg hb]
theorem cutM_ne (b : UInt8) : ∀ (l : List UInt8) (q : Bool) (p : List UInt8), cutM b l q p ≠ []
  | [], _, _ => by simp [cutM]
  | [c], q, p => by
    rw [cutM.eq_def]; dsimp only
    split
    · exact cutM_ne b [] _ _
    · split
      · simp
      · split
        · simp
        · exact cutM_ne b [] _ _
  | c :: d :: r, q, p => by
    rw [cutM.eq_def]; dsimp only
    split
    · exact cutM_ne b (d :: r) _ _
    · split
      · exact cutM_ne b r _ _
      · split
        · simp
        · exact cutM_ne b (d :: r) _ _

theorem strinfo : (Tryd.prog.info? 9).map (fun i => (i.zero, i.size, i.bytes)) = some (some (.string ⟨#[]⟩), 1, 16) := by kernel_rfl
theorem u8info' : ∃ i0, Hid (Tryd.prog.info? 5 = some i0 ∧ i0.zero = some (.int .u8 0) ∧ i0.size = 1 ∧ i0.bytes = 1) := by
  obtain ⟨i0, hi, hz0, hz1, hz2⟩ := info_parts u8info
  exact ⟨i0, hi, hz0, hz1, hz2⟩
theorem strinfo' : ∃ i0, Hid (Tryd.prog.info? 9 = some i0 ∧ i0.zero = some (.string ⟨#[]⟩) ∧ i0.size = 1 ∧ i0.bytes = 16) := by
  obtain ⟨i0, hi, hz0, hz1, hz2⟩ := info_parts strinfo
  exact ⟨i0, hi, hz0, hz1, hz2⟩

theorem byteC_of {c : UInt8} {z : Int} (h : z = (c.toNat : Nat)) : [Value.int .u8 z] = byteC c := by rw [h]; rfl
theorem strC_of {c : List UInt8} {s : ByteArray} (h : s = S c) : [Value.string s] = strC c := by rw [h]; rfl
/-- what a call hands back that has made a slice of texts -/
def Texts (w : World) (M : List (List UInt8)) (e : Ending) (w' : World) : Prop := ∃ v, e = .returned v ∧ Own strC 1 w.heap.size 9 w' v M ∧ Keep [] w w'

set_option maxRecDepth 100000 in
set_option maxHeartbeats 2000000 in
theorem ref_Cut (l : List UInt8) (b : UInt8) (w : World) (hs : l.length ≤ 1048576) :
    Calls Tryd.prog 45 #[.string (S l), .int .u8 b.toNat] w (Texts w (cutW l b)) := by
  have hsz := S_size l
  have HT := Lib.hid (fun (p : List UInt8) (h : p.length ≤ 1048576) (w1 : World) => ref_Trim p w1 (show p.length ≤ 9223372036854775807 by omega))
  have HM := Lib.hid (show maxLen = 9223372036854775807 from rfl)
  obtain ⟨i8, H8⟩ := u8info'
  obtain ⟨is, Hs⟩ := strinfo'
  go_enter Tryd.func45, Tryd.ntmps45
  go_wp2_with fail
  go_loopg [5, 6, 7, 8] l.length (fun g o pt qv i wr => ∃ (k : Nat) (O : List (List UInt8)) (p : List UInt8) (q : Bool), i = .int .i64 k ∧ k ≤ l.length ∧ g = l.length - k ∧ qv = .bool q ∧
    Own strC 1 w.heap.size 9 wr o O ∧ Own byteC 1 w.heap.size 5 wr pt p ∧ Sep o pt ∧ Keep [] w wr ∧ O.length ≤ k ∧ p.length ≤ k ∧ Hid (cutW l b = O ++ cutM b (l.drop k) q p))
  case atStart =>
    have h1 := Own.none (base := w.heap.size) strC 1 9 w (Nat.le_refl _)
    have h2 := Own.none (base := w.heap.size) byteC 1 5 (w.alloc (.cells #[] 9)) (by simp)
    have hz : (w.alloc (.cells #[] 9)).heap.size = w.heap.size + 1 := by simp
    rw [hz] at h2
    exact ⟨0, [], [], false, rfl, Nat.zero_le _, by omega, rfl, h1.alloc _, h2, Sep.fresh h1 (by simp) 0 0, ((Keep.refl [] w).alloc _).alloc _, Nat.le_refl _, Nat.le_refl _, rfl⟩
  case round =>
    obtain ⟨k, O, p, q, rfl, hk, hgk, rfl, ho, hp, hsep, hkr, hol, hpl, hcm⟩ := hrel
    have HO := Lib.hid ho
    have HP := Lib.hid hp
    have HS := Lib.hid hsep
    have HK := Lib.hid hkr
    clear ho hp hsep hkr
    by_cases hlt : k < l.length
    · obtain ⟨c, hg⟩ : ∃ c, l[k]? = some c := ⟨_, List.getElem?_eq_getElem hlt⟩
      have hc8 := u8_nat c
      have hget := S_get hg
      have HD := Lib.hid (drop_at hg)
      clear hg
      by_cases h34 : c.toNat = 34
      · obtain ⟨q1, q2⟩ := int_eq (show ((c.toNat : Nat) : Int) = 34 by omega)
        have hn : Hid (cutW l b = O ++ cutM b (l.drop (k + 1)) (!q) (p ++ [c])) := by rw [Hid, hcm.out, HD.out, cutM_quote h34]
        clear hcm
        go_wp2_with (first | (at_builtin; go_must (refine wpList_append2 rfl _ _ 46 rfl i8 (.int .u8 0) 1 Tryd.underlying46 H8 rfl (by decide) byteC_length byteC_one w wr rfl HK.out (by rfl) HP.out c _ (byteC_of (by omega)) _ rfl (by have := HM.out; omega) (by omega) ?_); intro v' w1 hown' hk' hside) | fail)
        go_roundg (l.length - (k + 1))
        case measure => omega
        case rel => exact ⟨k + 1, O, p ++ [c], !q, by go_num, by omega, rfl, rfl, (hside HO.out HS.out.symm).1, hown', (hside HO.out HS.out.symm).2.symm, hk', by omega, by simp; omega, hn⟩
      · obtain ⟨q1, q2⟩ := int_ne (show ((c.toNat : Nat) : Int) ≠ 34 by omega)
        cases q with
        | true =>
          by_cases h92 : c.toNat = 92
          · obtain ⟨q3, q4⟩ := int_eq (show ((c.toNat : Nat) : Int) = 92 by omega)
            by_cases hl2 : k + 1 < l.length
            · obtain ⟨d, hg2⟩ : ∃ d, l[k + 1]? = some d := ⟨_, List.getElem?_eq_getElem hl2⟩
              have hd8 := u8_nat d
              have hget2 := S_get hg2
              have hn : Hid (cutW l b = O ++ cutM b (l.drop (k + 2)) true (p ++ [c] ++ [d])) := by rw [Hid, hcm.out, HD.out, drop_at hg2, cutM_slash h92]; simp
              clear hcm hg2
              go_wp2_with (first
                | (at_builtin; (refine wpList_append2 rfl _ _ 46 rfl i8 (.int .u8 0) 1 Tryd.underlying46 H8 rfl (by decide) byteC_length byteC_one w wr rfl HK.out (by rfl) HP.out c _ (byteC_of (by omega)) _ rfl (by have := HM.out; simp; omega) (by simp; omega) ?_); intro v' w1 hown' hk' hside)
                | (at_builtin; go_must (refine wpList_append2 rfl _ _ 46 rfl i8 (.int .u8 0) 1 Tryd.underlying46 H8 rfl (by decide) byteC_length byteC_one w w1 rfl hk' (by rfl) hown' d _ (byteC_of (by omega)) _ rfl (by have := HM.out; simp; omega) (by simp; omega) ?_); intro v2 w2 hown2 hk2 hside2)
                | fail)
              have h1 := hside HO.out HS.out.symm
              have h2 := hside2 h1.1 h1.2
              go_roundg (l.length - (k + 2))
              case measure => omega
              case rel => exact ⟨k + 2, O, p ++ [c] ++ [d], true, by go_num, by omega, rfl, rfl, h2.1, hown2, h2.2.symm, hk2, by omega, by simp; omega, hn⟩
            · have hn : Hid (cutW l b = O ++ cutM b (l.drop (k + 1)) true (p ++ [c])) := by
                have hke : l.drop (k + 1) = [] := List.drop_eq_nil_of_le (by omega)
                rw [Hid, hcm.out, HD.out, hke, cutM_slash_end h92]; rfl
              clear hcm
              by_cases hb : c = b
              · obtain ⟨q5, q6⟩ := nat_eq (congrArg UInt8.toNat hb)
                have hbn := congrArg UInt8.toNat hb
                clear hb
                go_wp2_with (first | (at_builtin; go_must (refine wpList_append2 rfl _ _ 46 rfl i8 (.int .u8 0) 1 Tryd.underlying46 H8 rfl (by decide) byteC_length byteC_one w wr rfl HK.out (by rfl) HP.out c _ (byteC_of (by omega)) _ rfl (by have := HM.out; simp; omega) (by simp; omega) ?_); intro v' w1 hown' hk' hside) | fail)
                go_roundg (l.length - (k + 1))
                case measure => omega
                case rel => exact ⟨k + 1, O, p ++ [c], true, by go_num, by omega, rfl, rfl, (hside HO.out HS.out.symm).1, hown', (hside HO.out HS.out.symm).2.symm, hk', by omega, by simp; omega, hn⟩
              · have hbn : c.toNat ≠ b.toNat := fun h => hb (UInt8.toNat_inj.1 h)
                obtain ⟨q5, q6⟩ := int_ne (show (92 : Int) ≠ ((b.toNat : Nat) : Int) by omega)
                clear hb
                go_wp2_with (first | (at_builtin; go_must (refine wpList_append2 rfl _ _ 46 rfl i8 (.int .u8 0) 1 Tryd.underlying46 H8 rfl (by decide) byteC_length byteC_one w wr rfl HK.out (by rfl) HP.out c _ (byteC_of (by omega)) _ rfl (by have := HM.out; simp; omega) (by simp; omega) ?_); intro v' w1 hown' hk' hside) | fail)
                go_roundg (l.length - (k + 1))
                case measure => omega
                case rel => exact ⟨k + 1, O, p ++ [c], true, by go_num, by omega, rfl, rfl, (hside HO.out HS.out.symm).1, hown', (hside HO.out HS.out.symm).2.symm, hk', by omega, by simp; omega, hn⟩
          · obtain ⟨q3, q4⟩ := int_ne (show ((c.toNat : Nat) : Int) ≠ 92 by omega)
            have hn : Hid (cutW l b = O ++ cutM b (l.drop (k + 1)) true (p ++ [c])) := by rw [Hid, hcm.out, HD.out, cutM_plain h34 (by simp [h92]) (by simp)]
            clear hcm
            by_cases hb : c = b
            · obtain ⟨q5, q6⟩ := nat_eq (congrArg UInt8.toNat hb)
              have hbn := congrArg UInt8.toNat hb
              clear hb
              go_wp2_with (first | (at_builtin; go_must (refine wpList_append2 rfl _ _ 46 rfl i8 (.int .u8 0) 1 Tryd.underlying46 H8 rfl (by decide) byteC_length byteC_one w wr rfl HK.out (by rfl) HP.out c _ (byteC_of (by omega)) _ rfl (by have := HM.out; simp; omega) (by simp; omega) ?_); intro v' w1 hown' hk' hside) | fail)
              go_roundg (l.length - (k + 1))
              case measure => omega
              case rel => exact ⟨k + 1, O, p ++ [c], true, by go_num, by omega, rfl, rfl, (hside HO.out HS.out.symm).1, hown', (hside HO.out HS.out.symm).2.symm, hk', by omega, by simp; omega, hn⟩
            · obtain ⟨q5, q6⟩ := nat_ne (a := c.toNat) (b := b.toNat) (fun h => hb (UInt8.toNat_inj.1 h))
              clear hb
              go_wp2_with (first | (at_builtin; go_must (refine wpList_append2 rfl _ _ 46 rfl i8 (.int .u8 0) 1 Tryd.underlying46 H8 rfl (by decide) byteC_length byteC_one w wr rfl HK.out (by rfl) HP.out c _ (byteC_of (by omega)) _ rfl (by have := HM.out; simp; omega) (by simp; omega) ?_); intro v' w1 hown' hk' hside) | fail)
              go_roundg (l.length - (k + 1))
              case measure => omega
              case rel => exact ⟨k + 1, O, p ++ [c], true, by go_num, by omega, rfl, rfl, (hside HO.out HS.out.symm).1, hown', (hside HO.out HS.out.symm).2.symm, hk', by omega, by simp; omega, hn⟩
        | false =>
          have H92 : Hid (∃ z : Bool, (((c.toNat : Nat) : Int) == 92) = z) := ⟨_, rfl⟩
          obtain ⟨z, hz⟩ := H92.out
          by_cases hb : c = b
          · have hn : Hid (cutW l b = (O ++ [trimW p]) ++ cutM b (l.drop (k + 1)) false []) := by rw [Hid, hcm.out, HD.out, cutM_by h34 hb]; simp
            obtain ⟨q5, q6⟩ := nat_eq (congrArg UInt8.toNat hb)
            clear hcm hb
            have hback := own_back (P := Tryd.prog) HP.out 46 9 Tryd.underlying46 Tryd.underlying5 Tryd.underlying9
            go_wp2_with (first
              | (go_at_call 18; refine (HT.out p (by omega) _).mono ?_; rintro e w1 ⟨rfl, rfl⟩)
              | (at_builtin; go_must (refine wpList_append2 rfl _ _ 53 rfl is (.string ⟨#[]⟩) 16 Tryd.underlying53 Hs rfl (by decide) strC_length strC_one w wr rfl HK.out (by rfl) HO.out (trimW p) _ (strC_of rfl) _ rfl (by have := HM.out; omega) (by omega) ?_); intro v' w1 hown' hk' hside)
              | fail)
            all_goals (
              go_roundg (l.length - (k + 1))
              case measure => omega
              case rel => exact ⟨k + 1, O ++ [trimW p], [], false, by go_num, by omega, rfl, rfl, hown'.alloc _, Own.none byteC 1 5 w1 hk'.size, Sep.fresh hown' (Nat.le_refl _) 0 0, hk'.alloc _, by simp; omega, by simp, hn⟩)
          · have hn : Hid (cutW l b = O ++ cutM b (l.drop (k + 1)) false (p ++ [c])) := by rw [Hid, hcm.out, HD.out, cutM_plain h34 (by simp) (by simp [hb])]
            obtain ⟨q5, q6⟩ := nat_ne (a := c.toNat) (b := b.toNat) (fun h => hb (UInt8.toNat_inj.1 h))
            clear hcm hb
            cases z with
            | true =>
              have h92 : ((c.toNat : Nat) : Int) = 92 := by simpa using hz
              have hbn : c.toNat ≠ b.toNat := by intro h; rw [h] at q5; simp at q5
              obtain ⟨q7, q8⟩ := int_ne (show (92 : Int) ≠ ((b.toNat : Nat) : Int) by omega)
              go_wp2_with (first | (at_builtin; go_must (refine wpList_append2 rfl _ _ 46 rfl i8 (.int .u8 0) 1 Tryd.underlying46 H8 rfl (by decide) byteC_length byteC_one w wr rfl HK.out (by rfl) HP.out c _ (byteC_of (by omega)) _ rfl (by have := HM.out; simp; omega) (by simp; omega) ?_); intro v' w1 hown' hk' hside) | fail)
              go_roundg (l.length - (k + 1))
              case measure => omega
              case rel => exact ⟨k + 1, O, p ++ [c], false, by go_num, by omega, rfl, rfl, (hside HO.out HS.out.symm).1, hown', (hside HO.out HS.out.symm).2.symm, hk', by omega, by simp; omega, hn⟩
            | false =>
              go_wp2_with (first | (at_builtin; go_must (refine wpList_append2 rfl _ _ 46 rfl i8 (.int .u8 0) 1 Tryd.underlying46 H8 rfl (by decide) byteC_length byteC_one w wr rfl HK.out (by rfl) HP.out c _ (byteC_of (by omega)) _ rfl (by have := HM.out; simp; omega) (by simp; omega) ?_); intro v' w1 hown' hk' hside) | fail)
              go_roundg (l.length - (k + 1))
              case measure => omega
              case rel => exact ⟨k + 1, O, p ++ [c], false, by go_num, by omega, rfl, rfl, (hside HO.out HS.out.symm).1, hown', (hside HO.out HS.out.symm).2.symm, hk', by omega, by simp; omega, hn⟩
    · have hke : l.drop k = [] := List.drop_eq_nil_of_le (by omega)
      have hn : Hid (cutW l b = O ++ [trimW p]) := by rw [Hid, hcm.out, hke]; rfl
      have hback := own_back (P := Tryd.prog) HP.out 46 9 Tryd.underlying46 Tryd.underlying5 Tryd.underlying9
      clear hcm hke
      go_wp2_with (first
        | (go_at_call 18; refine (HT.out p (by omega) _).mono ?_; rintro e w1 ⟨rfl, rfl⟩)
        | (at_builtin; go_must (refine wpList_append2 rfl _ _ 53 rfl is (.string ⟨#[]⟩) 16 Tryd.underlying53 Hs rfl (by decide) strC_length strC_one w wr rfl HK.out (by rfl) HO.out (trimW p) _ (strC_of rfl) _ rfl (by have := HM.out; omega) (by omega) ?_); intro v' w1 hown' hk' hside)
        | fail)
      go_ret
      exact ⟨_, rfl, by rw [hn.out]; exact hown', hk'⟩
end Go.Proofs.YtbeppooknhmhaaaDoor
