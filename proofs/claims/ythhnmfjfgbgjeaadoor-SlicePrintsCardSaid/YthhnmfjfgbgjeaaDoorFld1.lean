/- Layer 10, its small functions: one contract each. No conditions but on lengths. -/
import Derived.Test.YthhnmfjfgbgjeaaDoorFldM
import Derived.Test.YthhnmfjfgbgjeaaDoorShelf
import Derived.Shelf.Strings.SlTrimAscii
namespace Go.Proofs.YthhnmfjfgbgjeaaDoor
open Go.RowKit Go.Shelf

theorem conv_run (w : World) (s : ByteArray) : (convert 9 83 (.string s)).run Tryd.prog w = .ok (.slice (some ⟨w.heap.size, 0, none⟩) s.size (grownCap w s.size 0 5)) (Lib.bytesWorld w 5 s) :=
  Lib.run_convert_string_bytes w 9 83 5 s Tryd.underlying9 Tryd.underlying83 Tryd.underlying5

set_option maxRecDepth 100000 in
set_option maxHeartbeats 400000 in
theorem field_isTchar (b : UInt8) (w : World) :
    Calls Tryd.prog 63 #[.int .u8 b.toNat] w fun e w' => e = .returned (.bool (tchar b)) ∧ w = w' := by
  have hb := u8_nat b
  have hix := Tryd.strings_IndexByte (S marks) b.toNat
  have ec : ((b.toNat : Int)).toNat.toUInt8 = b := by simp
  rw [ec, S_list] at hix
  go_enter Tryd.func63, Tryd.ntmps63
  go_wp2_with fail
  all_goals first
    | (refine (hix _).mono ?_
       rintro e w1 ⟨rfl, rfl⟩
       go_wp2_with fail
       go_ret
       refine ⟨?_, rfl⟩
       congr 2
       simp only [tchar]
       simp
       omega)
    | (go_ret
       refine ⟨?_, rfl⟩
       congr 2
       simp only [tchar]
       simp
       omega)

set_option maxRecDepth 100000 in
set_option maxHeartbeats 400000 in
theorem field_IsToken (l : List UInt8) (w : World) (hs : l.length ≤ maxLen) :
    Calls Tryd.prog 41 #[.string (S l)] w fun e w' => e = .returned (.bool (isTok l)) ∧ Keep [] w w' := by
  have hs' : l.length ≤ 9223372036854775807 := hs
  have hcv := conv_run w (S l)
  have hcell : Hid (∀ (k : Nat) (c : UInt8), l[k]? = some c → _) := fun k c h => conv_at w 5 h
  have hkp := conv_keep w 5 (S l)
  generalize Lib.bytesWorld w 5 (S l) = wb at hcv hcell hkp
  have hsz := S_size l
  have hte := S_toList l
  clear hs
  go_enter Tryd.func41, Tryd.ntmps41
  go_wp2_with fail
  go_loop [8] (fun i => ∃ k : Nat, i = .int .i64 k ∧ k ≤ l.length ∧ Hid ((l.take k).all tchar = true)) (fun i => l.length - (intOf i).toNat)
  case atStart => exact ⟨0, rfl, Nat.zero_le _, by simp [Hid]⟩
  case round =>
    obtain ⟨k, rfl, hk, hall⟩ := hrel
    by_cases hlt : k < l.length
    · obtain ⟨c, hg⟩ : ∃ c, l[k]? = some c := ⟨_, List.getElem?_eq_getElem hlt⟩
      have hc := hcell.out k c hg
      have hT := field_isTchar c
      have HG := Lib.hid hg
      clear hg
      cases ht : tchar c with
      | true =>
        rw [ht] at hT
        have HT := Lib.hid ht
        clear ht
        go_wp2_with (go_at_call 63; refine (hT _).mono ?_; rintro e w1 ⟨rfl, rfl⟩)
        go_round
        case rel => exact ⟨k + 1, by go_num, by omega, by rw [Hid, take_snoc HG.out, List.all_append, hall.out]; simp [HT.out]⟩
        case measure => simp [intOf]; omega
      | false =>
        rw [ht] at hT
        have HT := Lib.hid ht
        clear ht
        go_wp2_with (go_at_call 63; refine (hT _).mono ?_; rintro e w1 ⟨rfl, rfl⟩)
        go_ret
        have : isTok l = false := by
          unfold isTok
          rw [show l.all tchar = false from by rw [List.all_eq_false]; exact ⟨c, List.mem_of_getElem? HG.out, by simp [HT.out]⟩]
          rfl
        exact ⟨ret_bool this.symm, hkp⟩
    · have e : l.take k = l := List.take_of_length_le (by omega)
      rw [e] at hall
      clear e
      go_wp2_with fail
      go_ret
      refine ⟨ret_bool ?_, hkp⟩
      unfold isTok
      rw [hall.out]
      simp

set_option maxRecDepth 100000 in
set_option maxHeartbeats 400000 in
theorem field_isText (l : List UInt8) (w : World) (hs : l.length ≤ maxLen) :
    Calls Tryd.prog 68 #[.string (S l)] w fun e w' => e = .returned (.bool (isTxt l)) ∧ Keep [] w w' := by
  have hs' : l.length ≤ 9223372036854775807 := hs
  have hcv := conv_run w (S l)
  have hcell : Hid (∀ (k : Nat) (c : UInt8), l[k]? = some c → _) := fun k c h => conv_at w 5 h
  have hkp := conv_keep w 5 (S l)
  generalize Lib.bytesWorld w 5 (S l) = wb at hcv hcell hkp
  have hsz := S_size l
  clear hs
  go_enter Tryd.func68, Tryd.ntmps68
  go_wp2_with fail
  go_loop [8] (fun i => ∃ k : Nat, i = .int .i64 k ∧ k ≤ l.length ∧ Hid ((l.take k).all textB = true)) (fun i => l.length - (intOf i).toNat)
  case atStart => exact ⟨0, rfl, Nat.zero_le _, by simp [Hid]⟩
  case round =>
    obtain ⟨k, rfl, hk, hall⟩ := hrel
    by_cases hlt : k < l.length
    · obtain ⟨c, hg⟩ : ∃ c, l[k]? = some c := ⟨_, List.getElem?_eq_getElem hlt⟩
      have hc := hcell.out k c hg
      have hc8 := u8_nat c
      have HG := Lib.hid hg
      clear hg
      by_cases ht : textB c = true
      · have h1 : c.toNat ≠ 127 ∧ (32 ≤ c.toNat ∨ c.toNat = 9) := by simp [textB] at ht; omega
        have HT := Lib.hid ht
        obtain ⟨h2, h3⟩ := h1
        have h4 : (((c.toNat : Nat) : Int) == 127) = false := by simp; omega
        clear ht
        by_cases h5 : c.toNat < 32
        · have h6 : (((c.toNat : Nat) : Int) != 9) = false := by simp; omega
          clear h2 h3
          go_wp2_with fail
          go_round
          case rel => exact ⟨k + 1, by go_num, by omega, by rw [Hid, take_snoc HG.out, List.all_append, hall.out]; simp [HT.out]⟩
          case measure => simp [intOf]; omega
        · clear h2 h3
          go_wp2_with fail
          go_round
          case rel => exact ⟨k + 1, by go_num, by omega, by rw [Hid, take_snoc HG.out, List.all_append, hall.out]; simp [HT.out]⟩
          case measure => simp [intOf]; omega
      · have HT := Lib.hid ht
        have this : isTxt l = false := by
          unfold isTxt
          rw [List.all_eq_false]; exact ⟨c, List.mem_of_getElem? HG.out, ht⟩
        have H := Lib.hid this
        by_cases h5 : c.toNat = 127
        · have h4 : (((c.toNat : Nat) : Int) == 127) = true := by simp; omega
          have h7 : ¬ c.toNat < 32 := by omega
          clear this ht h5
          go_wp2_with fail
          go_ret
          exact ⟨ret_bool H.out.symm, hkp⟩
        · have h1 : c.toNat < 32 ∧ c.toNat ≠ 9 := by simp [textB] at ht; omega
          have h6 : (((c.toNat : Nat) : Int) != 9) = true := by simp; omega
          obtain ⟨h1, h2⟩ := h1
          clear this ht h5 h2
          go_wp2_with fail
          go_ret
          exact ⟨ret_bool H.out.symm, hkp⟩
    · have e : l.take k = l := List.take_of_length_le (by omega)
      rw [e] at hall
      clear e
      go_wp2_with fail
      go_ret
      exact ⟨ret_bool hall.out.symm, hkp⟩

set_option maxRecDepth 100000 in
set_option maxHeartbeats 400000 in
theorem field_trim (l : List UInt8) (w : World) (hs : l.length ≤ maxLen) :
    Calls Tryd.prog 69 #[.string (S l)] w fun e w' => e = .returned (.string (S (trimW l))) ∧ Keep [] w w' := by
  have hT := Any.strings_Trim_laid Tryd.lays160 (by kernel_rfl) (S l) ⟨#[32, 9]⟩ w hs (by decide) (ascii_of_all (by decide))
  rw [S_list] at hT
  go_enter Tryd.func69, Tryd.ntmps69
  go_wp2_with (go_at_call 65; refine hT.mono ?_; rintro e w1 ⟨rfl, hb⟩)
  go_ret
  exact ⟨rfl, Keep.of_below hb _⟩
end Go.Proofs.YthhnmfjfgbgjeaaDoor
