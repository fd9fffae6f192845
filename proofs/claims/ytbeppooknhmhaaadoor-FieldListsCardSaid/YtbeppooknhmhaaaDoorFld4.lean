/- Layer 10, the document's functions: Low, IsToken, Text, Trim, Find. No conditions but on lengths. -/
import Derived.Test.YtbeppooknhmhaaaDoorFld3
import Derived.Test.YtbeppooknhmhaaaDoorOwn
import Derived.Deep.LoopGhost
namespace Go.Proofs.YtbeppooknhmhaaaDoor
open Go.RowKit Go.Shelf

theorem u8info : (Tryd.prog.info? 5).map (fun i => (i.zero, i.size, i.bytes)) = some (some (.int .u8 0), 1, 1) := by kernel_rfl

set_option maxRecDepth 100000 in
set_option maxHeartbeats 400000 in
theorem ref_Low (l : List UInt8) (w : World) (hs : l.length ≤ 70368744177664) :
    Calls Tryd.prog 42 #[.string (S l)] w fun e w' => e = .returned (.string (S (lowW l))) ∧ Keep [] w w' := by
  have hsz := S_size l
  obtain ⟨i0, hi, hz0, hz1, hz2⟩ := info_parts u8info
  have HI := Lib.hid (And.intro hi (And.intro hz0 (And.intro hz1 hz2)))
  clear hi hz0 hz1 hz2
  go_enter Tryd.func42, Tryd.ntmps42
  go_wp2_with fail
  go_loopg [3, 4] l.length (fun g v i wr => ∃ k : Nat, i = .int .i64 k ∧ k ≤ l.length ∧ g = l.length - k ∧ Own byteC 1 w.heap.size 5 wr v ((l.take k).map lowB) ∧ Keep [] w wr)
  case atStart => exact ⟨0, rfl, Nat.zero_le _, by omega, Own.none byteC 1 5 _ (Nat.le_refl _), (Keep.refl [] w).alloc _⟩
  case round =>
    obtain ⟨k, rfl, hk, hgk, hown, hkr⟩ := hrel
    by_cases hlt : k < l.length
    · obtain ⟨c, hg⟩ : ∃ c, l[k]? = some c := ⟨_, List.getElem?_eq_getElem hlt⟩
      have hc8 := u8_nat c
      have hget := S_get hg
      have HG := Lib.hid hg
      have HO := Lib.hid hown
      clear hg hown
      have hll : ((l.take k).map lowB).length = k := by simp; omega
      have HL := Lib.hid hll
      have HM := Lib.hid (show maxLen = 9223372036854775807 from rfl)
      clear hll
      by_cases h1 : 65 ≤ c.toNat
      · by_cases h2 : c.toNat ≤ 90
        · have hl : (lowB c).toNat = c.toNat + 32 := by
            unfold lowB
            rw [if_pos ⟨h1, h2⟩, UInt8.toNat_add]
            have : (32 : UInt8).toNat = 32 := rfl
            omega
          have HE := Lib.hid hl
          clear hl
          go_wp2_with (first
            | (at_builtin
               go_must (refine wpList_append1 rfl _ _ 46 rfl i0 (.int .u8 0) 1 Tryd.underlying46 HI rfl (by decide) byteC_length byteC_one w wr rfl hkr (by rfl) HO.out (lowB c) _ (by simp only [byteC, HE.out]; congr; omega) _ rfl (by have := HL.out; have := HM.out; omega) (by have := HL.out; omega) ?_)
               intro v' w1 hown' hk' hg')
            | fail)
          go_roundg (l.length - (k + 1))
          case measure => omega
          case rel => exact ⟨k + 1, by go_num, by omega, rfl, by rw [take_snoc HG.out, List.map_append]; exact hown', hk'⟩
        · have hl : lowB c = c := by unfold lowB; rw [if_neg (by omega)]
          have HE := Lib.hid hl
          clear hl
          go_wp2_with (first
            | (at_builtin
               go_must (refine wpList_append1 rfl _ _ 46 rfl i0 (.int .u8 0) 1 Tryd.underlying46 HI rfl (by decide) byteC_length byteC_one w wr rfl hkr (by rfl) HO.out (lowB c) _ (by simp only [byteC, HE.out]) _ rfl (by have := HL.out; have := HM.out; omega) (by have := HL.out; omega) ?_)
               intro v' w1 hown' hk' hg')
            | fail)
          go_roundg (l.length - (k + 1))
          case measure => omega
          case rel => exact ⟨k + 1, by go_num, by omega, rfl, by rw [take_snoc HG.out, List.map_append]; exact hown', hk'⟩
      · have hl : lowB c = c := by unfold lowB; rw [if_neg (by omega)]
        have HE := Lib.hid hl
        clear hl
        go_wp2_with (first
          | (at_builtin
             go_must (refine wpList_append1 rfl _ _ 46 rfl i0 (.int .u8 0) 1 Tryd.underlying46 HI rfl (by decide) byteC_length byteC_one w wr rfl hkr (by rfl) HO.out (lowB c) _ (by simp only [byteC, HE.out]) _ rfl (by have := HL.out; have := HM.out; omega) (by have := HL.out; omega) ?_)
             intro v' w1 hown' hk' hg')
          | fail)
        go_roundg (l.length - (k + 1))
        case measure => omega
        case rel => exact ⟨k + 1, by go_num, by omega, rfl, by rw [take_snoc HG.out, List.map_append]; exact hown', hk'⟩
    · have hke : l.take k = l := List.take_of_length_le (by omega)
      rw [hke] at hown
      have hback := own_back (P := Tryd.prog) hown 46 9 Tryd.underlying46 Tryd.underlying5 Tryd.underlying9
      clear hke hown
      go_wp2_with fail
      go_ret
      exact ⟨rfl, hkr⟩
end Go.Proofs.YtbeppooknhmhaaaDoor
