/- Layer 10, the document's functions: IsToken, Text, Trim, Find. No conditions but on lengths. -/
import Derived.Test.YthhnmfjfgbgjeaaDoorFld4
import Derived.Deep.Cut
import Derived.Deep.CutRange
import Derived.Deep.CutBlock
import Derived.Deep.DeepCutAuto
import Derived.Lib.IndexAny
namespace Go.Proofs.YthhnmfjfgbgjeaaDoor
open Go.RowKit Go.Shelf

theorem nat_eq {a b : Nat} (h : a = b) : (((a : Nat) : Int) == ((b : Nat) : Int)) = true ∧ (((a : Nat) : Int) != ((b : Nat) : Int)) = false := by subst h; simp
theorem nat_ne {a b : Nat} (h : a ≠ b) : (((a : Nat) : Int) == ((b : Nat) : Int)) = false ∧ (((a : Nat) : Int) != ((b : Nat) : Int)) = true := by
  constructor <;> simp <;> omega

theorem indexByte_at {l : List UInt8} {c : UInt8} {o : Nat} (h : l[o]? = some c) (hn : ∀ j, j < o → l[j]? ≠ some c) : Lib.indexByte l c = o := by
  have hge := Lib.indexByte_ge l c
  by_cases h1 : Lib.indexByte l c = -1
  · exact absurd h (Lib.indexByte_none h1 o)
  · obtain ⟨o', ho⟩ : ∃ o' : Nat, Lib.indexByte l c = o' := ⟨(Lib.indexByte l c).toNat, by omega⟩
    obtain ⟨h2, h3⟩ := Lib.indexByte_some ho
    rcases Nat.lt_trichotomy o o' with h4 | h4 | h4
    · exact absurd h (h3 o h4)
    · omega
    · exact absurd h2 (hn o' h4)
theorem indexByte_no {l : List UInt8} {c : UInt8} (hn : ∀ j : Nat, l[j]? ≠ some c) : Lib.indexByte l c = -1 := by
  have hge := Lib.indexByte_ge l c
  by_cases h1 : Lib.indexByte l c = -1
  · exact h1
  · obtain ⟨o', ho⟩ : ∃ o' : Nat, Lib.indexByte l c = o' := ⟨(Lib.indexByte l c).toNat, by omega⟩
    exact absurd (Lib.indexByte_some ho).1 (hn o')
theorem indexByte_lt (l : List UInt8) (c : UInt8) : Lib.indexByte l c < l.length ∨ l = [] := by
  by_cases h : l = []
  · exact .inr h
  · refine .inl ?_
    have hge := Lib.indexByte_ge l c
    by_cases h1 : Lib.indexByte l c = -1
    · rw [h1]; have : 0 < l.length := List.length_pos_iff.2 h; omega
    · obtain ⟨o', ho⟩ : ∃ o' : Nat, Lib.indexByte l c = o' := ⟨(Lib.indexByte l c).toNat, by omega⟩
      have := (List.getElem?_eq_some_iff.1 (Lib.indexByte_some ho).1).1
      omega

theorem int_eq {a z : Int} (h : a = z) : (a == z) = true ∧ (a != z) = false := by subst h; simp
theorem int_ne {a z : Int} (h : a ≠ z) : (a == z) = false ∧ (a != z) = true := by simp [h]
def tok0 (b : UInt8) : Bool := (decide (97 ≤ b.toNat) && decide (b.toNat ≤ 122)) || (decide (65 ≤ b.toNat) && decide (b.toNat ≤ 90)) || (decide (48 ≤ b.toNat) && decide (b.toNat ≤ 57))
theorem tchar_eq (b : UInt8) : tchar b = (tok0 b || marks.contains b) := by
  rw [Lib.contains_iff_indexByte]
  rfl

theorem mark_step {j : Nat} {m c : UInt8} (h : marks[j]? = some m) : (tok0 c || (marks.take (j + 1)).contains c) = ((tok0 c || (marks.take j).contains c) || m == c) := by
  rw [take_snoc h, Bool.eq_iff_iff]
  generalize marks.take j = A
  simp only [List.contains_iff_mem, List.mem_append, List.mem_singleton, Bool.or_eq_true, beq_iff_eq]
  constructor
  · rintro (h | h | rfl)
    · exact .inl (.inl h)
    · exact .inl (.inr h)
    · exact .inr rfl
  · rintro ((h | h) | rfl)
    · exact .inl h
    · exact .inr (.inl h)
    · exact .inr (.inr rfl)

set_option maxRecDepth 100000 in
set_option maxHeartbeats 1000000 in
theorem ref_IsToken (l : List UInt8) (w : World) (hs : l.length ≤ maxLen) :
    Calls Tryd.prog 53 #[.string (S l)] w fun e w' => e = .returned (.bool (isTok l)) ∧ w = w' := by
  have hs' : l.length ≤ 9223372036854775807 := hs
  have hsz := S_size l
  clear hs
  go_enter Tryd.func53, Tryd.ntmps53
  go_wp2_with fail
  go_loopg [3] l.length (fun g i wr => ∃ k : Nat, i = .int .i64 k ∧ k ≤ l.length ∧ g = l.length - k ∧ Hid ((l.take k).all tchar = true) ∧ w = wr)
  case atStart => exact ⟨0, rfl, Nat.zero_le _, by omega, by simp [Hid], rfl⟩
  case round =>
    obtain ⟨k, rfl, hk, hgk, hall, rfl⟩ := hrel
    by_cases hlt : k < l.length
    · obtain ⟨c, hg⟩ : ∃ c, l[k]? = some c := ⟨_, List.getElem?_eq_getElem hlt⟩
      have hc8 := u8_nat c
      have hget := S_get hg
      have HG := Lib.hid hg
      clear hg
      go_upto_region 5 with fail
      go_cut [5] from 16 to 37 (fun s wx => s = .bool (tok0 c) ∧ w = wx)
      case first =>
        go_wp2_with fail
        all_goals (go_meet; refine ⟨congrArg Value.bool ?_, rfl⟩; rw [Bool.eq_iff_iff]; simp [tok0]; omega)
      case rest =>
        obtain ⟨rfl, rfl⟩ := hcut
        go_wp2_with fail
        go_loopg [5, 6] 15 (fun g s i wx => ∃ j : Nat, i = .int .i64 j ∧ j ≤ 15 ∧ g = 15 - j ∧ s = .bool (tok0 c || (marks.take j).contains c) ∧ w = wx)
        case atStart => exact ⟨0, rfl, by omega, by omega, by simp, rfl⟩
        case round =>
          obtain ⟨j, rfl, hj, hgj, rfl, rfl⟩ := hrel
          by_cases hjl : j < 15
          · obtain ⟨m, hm⟩ : ∃ m, marks[j]? = some m := ⟨_, List.getElem?_eq_getElem (show j < marks.length from hjl)⟩
            have hmg : ∀ (h : j < (ByteArray.mk #[33, 35, 36, 37, 38, 39, 42, 43, 45, 46, 94, 95, 96, 124, 126]).size), (ByteArray.mk #[33, 35, 36, 37, 38, 39, 42, 43, 45, 46, 94, 95, 96, 124, 126])[j]'h = m := S_get (l := marks) hm
            have hml : (ByteArray.mk #[33, 35, 36, 37, 38, 39, 42, 43, 45, 46, 94, 95, 96, 124, 126]).size = 15 := rfl
            have hstep : Hid ((tok0 c || (marks.take (j + 1)).contains c) = ((tok0 c || (marks.take j).contains c) || m == c)) := by
              exact mark_step hm
            have HM := Lib.hid hm
            clear hm
            cases ho : (tok0 c || (marks.take j).contains c) with
            | true =>
              rw [ho] at hstep
              have HS := Lib.hid hstep
              clear ho hstep
              go_wp2_with fail
              go_roundg (15 - (j + 1))
              case measure => omega
              case rel => exact ⟨j + 1, by go_num, by omega, rfl, by rw [HS.out.out]; rfl, rfl⟩
            | false =>
              rw [ho] at hstep
              have HS := Lib.hid hstep
              clear ho hstep
              by_cases hmc : m = c
              · obtain ⟨q1, q2⟩ := nat_eq (congrArg UInt8.toNat hmc)
                have HC := Lib.hid hmc
                clear hmc
                go_wp2_with fail
                go_roundg (15 - (j + 1))
                case measure => omega
                case rel => exact ⟨j + 1, by go_num, by omega, rfl, by rw [HS.out.out, HC.out]; simp, rfl⟩
              · obtain ⟨q1, q2⟩ := nat_ne (a := m.toNat) (b := c.toNat) (fun h => hmc (UInt8.toNat_inj.1 h))
                have HC := Lib.hid hmc
                clear hmc
                go_wp2_with fail
                go_roundg (15 - (j + 1))
                case measure => omega
                case rel => exact ⟨j + 1, by go_num, by omega, rfl, by rw [HS.out.out]; simp [HC.out], rfl⟩
          · have hj15 : (marks.take j).contains c = marks.contains c := by rw [List.take_of_length_le (show marks.length ≤ j by have : marks.length = 15 := rfl; omega)]
            have ht := tchar_eq c
            rw [← hj15] at ht
            have HT := Lib.hid ht
            clear hj15 ht
            cases ho : (tok0 c || (marks.take j).contains c) with
            | true =>
              have HO := Lib.hid (HT.out.trans ho)
              clear ho
              go_wp2_with fail
              go_roundg (l.length - (k + 1))
              case measure => omega
              case rel => exact ⟨k + 1, by go_num, by omega, rfl, by rw [Hid, take_snoc HG.out, List.all_append, hall.out]; simp [HO.out], rfl⟩
            | false =>
              have HO := Lib.hid (HT.out.trans ho)
              clear ho
              go_wp2_with fail
              go_ret
              refine ⟨ret_bool ?_, rfl⟩
              unfold isTok
              rw [show l.all tchar = false from by rw [List.all_eq_false]; exact ⟨c, List.mem_of_getElem? HG.out, by rw [HO.out]; decide⟩]
              rfl
    · have e : l.take k = l := List.take_of_length_le (by omega)
      rw [e] at hall
      clear e
      have hte := S_toList l
      go_wp2_with fail
      go_ret
      refine ⟨ret_bool ?_, rfl⟩
      unfold isTok
      rw [hall.out]
      simp

set_option maxRecDepth 100000 in
set_option maxHeartbeats 400000 in
theorem ref_Text (l : List UInt8) (w : World) (hs : l.length ≤ maxLen) :
    Calls Tryd.prog 54 #[.string (S l)] w fun e w' => e = .returned (.bool (isTxt l)) ∧ w = w' := by
  have hs' : l.length ≤ 9223372036854775807 := hs
  have hsz := S_size l
  clear hs
  go_enter Tryd.func54, Tryd.ntmps54
  go_wp2_with fail
  go_loopg [3] l.length (fun g i wr => ∃ k : Nat, i = .int .i64 k ∧ k ≤ l.length ∧ g = l.length - k ∧ Hid ((l.take k).all textB = true) ∧ w = wr)
  case atStart => exact ⟨0, rfl, Nat.zero_le _, by omega, by simp [Hid], rfl⟩
  case round =>
    obtain ⟨k, rfl, hk, hgk, hall, rfl⟩ := hrel
    by_cases hlt : k < l.length
    · obtain ⟨c, hg⟩ : ∃ c, l[k]? = some c := ⟨_, List.getElem?_eq_getElem hlt⟩
      have hc8 := u8_nat c
      have hget := S_get hg
      have HG := Lib.hid hg
      clear hg
      by_cases ht : textB c = true
      · have h1 : c.toNat ≠ 127 ∧ (32 ≤ c.toNat ∨ c.toNat = 9) := by simp [textB] at ht; omega
        have HT := Lib.hid ht
        have hnext : Hid ((l.take (k + 1)).all textB = true) := by rw [Hid, take_snoc HG.out, List.all_append, hall.out]; simp [HT.out]
        clear ht
        by_cases h32 : c.toNat = 32
        · obtain ⟨q1, q2⟩ := int_eq (show ((c.toNat : Nat) : Int) = 32 by omega)
          clear h1 h32
          go_wp2_with fail
          go_roundg (l.length - (k + 1))
          case measure => omega
          case rel => exact ⟨k + 1, by go_num, by omega, rfl, hnext, rfl⟩
        · obtain ⟨q1, q2⟩ := int_ne (show ((c.toNat : Nat) : Int) ≠ 32 by omega)
          by_cases h9 : c.toNat = 9
          · obtain ⟨q3, q4⟩ := int_eq (show ((c.toNat : Nat) : Int) = 9 by omega)
            clear h1 h32 h9
            go_wp2_with fail
            go_roundg (l.length - (k + 1))
            case measure => omega
            case rel => exact ⟨k + 1, by go_num, by omega, rfl, hnext, rfl⟩
          · obtain ⟨q3, q4⟩ := int_ne (show ((c.toNat : Nat) : Int) ≠ 9 by omega)
            obtain ⟨q5, q6⟩ := int_ne (show ((c.toNat : Nat) : Int) ≠ 127 by omega)
            have h33 : ¬ c.toNat < 33 := by omega
            clear h1 h32 h9
            go_wp2_with fail
            go_roundg (l.length - (k + 1))
            case measure => omega
            case rel => exact ⟨k + 1, by go_num, by omega, rfl, hnext, rfl⟩
      · have this : isTxt l = false := by
          unfold isTxt
          rw [List.all_eq_false]; exact ⟨c, List.mem_of_getElem? HG.out, ht⟩
        have H := Lib.hid this
        have h0 : c.toNat ≠ 32 ∧ c.toNat ≠ 9 ∧ (c.toNat < 33 ∨ c.toNat = 127) := by simp [textB] at ht; omega
        obtain ⟨q1, q2⟩ := int_ne (show ((c.toNat : Nat) : Int) ≠ 32 by omega)
        obtain ⟨q3, q4⟩ := int_ne (show ((c.toNat : Nat) : Int) ≠ 9 by omega)
        clear this ht
        by_cases h33 : c.toNat < 33
        · clear h0
          go_wp2_with fail
          go_ret
          exact ⟨ret_bool H.out.symm, rfl⟩
        · have h127 : c.toNat = 127 := by omega
          obtain ⟨q5, q6⟩ := int_eq (show ((c.toNat : Nat) : Int) = 127 by omega)
          clear h0 h127
          go_wp2_with fail
          go_ret
          exact ⟨ret_bool H.out.symm, rfl⟩
    · have e : l.take k = l := List.take_of_length_le (by omega)
      rw [e] at hall
      clear e
      go_wp2_with fail
      go_ret
      exact ⟨ret_bool hall.out.symm, rfl⟩

set_option maxRecDepth 100000 in
set_option maxHeartbeats 400000 in
theorem ref_Find (l : List UInt8) (b : UInt8) (w : World) (hs : l.length ≤ maxLen) :
    Calls Tryd.prog 38 #[.string (S l), .int .u8 b.toNat] w fun e w' => e = .returned (.int .i64 (Lib.indexByte l b)) ∧ w = w' := by
  have hs' : l.length ≤ 9223372036854775807 := hs
  have hsz := S_size l
  clear hs
  go_enter Tryd.func38, Tryd.ntmps38
  go_wp2_with fail
  go_loopg [5] l.length (fun g i wr => ∃ k : Nat, i = .int .i64 k ∧ k ≤ l.length ∧ g = l.length - k ∧ Hid (∀ j, j < k → l[j]? ≠ some b) ∧ w = wr)
  case atStart => exact ⟨0, rfl, Nat.zero_le _, by omega, by intro j hj; omega, rfl⟩
  case round =>
    obtain ⟨k, rfl, hk, hgk, hall, rfl⟩ := hrel
    by_cases hlt : k < l.length
    · obtain ⟨c, hg⟩ : ∃ c, l[k]? = some c := ⟨_, List.getElem?_eq_getElem hlt⟩
      have hc8 := u8_nat c
      have hget := S_get hg
      have HG := Lib.hid hg
      clear hg
      by_cases hcb : c = b
      · obtain ⟨q1, q2⟩ := nat_eq (congrArg UInt8.toNat hcb)
        have HCB := Lib.hid hcb
        clear hcb
        go_wp2_with fail
        go_ret
        refine ⟨ret_int ?_, rfl⟩
        exact (indexByte_at (l := l) (c := b) (o := k) (HCB.out ▸ HG.out) hall.out).symm
      · obtain ⟨q1, q2⟩ := nat_ne (a := c.toNat) (b := b.toNat) (fun h => hcb (UInt8.toNat_inj.1 h))
        have HCB := Lib.hid hcb
        clear hcb
        go_wp2_with fail
        go_roundg (l.length - (k + 1))
        case measure => omega
        case rel =>
          refine ⟨k + 1, by go_num, by omega, rfl, fun j hj => ?_, rfl⟩
          by_cases e : j = k
          · subst e; rw [HG.out]; intro h; exact HCB.out (by simpa using h)
          · exact hall.out j (by omega)
    · go_wp2_with fail
      go_ret
      refine ⟨ret_int ?_, rfl⟩
      rw [indexByte_no fun j => ?_]
      by_cases hj : j < k
      · exact hall.out j hj
      · rw [List.getElem?_eq_none (by omega)]; simp
end Go.Proofs.YthhnmfjfgbgjeaaDoor
