/- Parts of the proof of StockReplays, in order. No conditions but those that each theorem states. -/
import Derived.Test.YtkghgaopcgcheaaGreatDoorYStockReplays0
import Derived.Deep.RegionHeld3
import Derived.Deep.Cut
import Derived.Deep.DeepCutAuto
import Derived.Deep.LoopGhost
import Derived.WalkMore
import Derived.Deep.AppendLies
import Derived.Deep.RegionLaw
import Derived.Lib.ItoaNum
import Derived.Lib.SlTrimSet
import Derived.Lib.SlBytesConst
import Derived.Test.YtkghgaopcgcheaaGreatDoorYStockReplays28
import Derived.Test.YtkghgaopcgcheaaGreatDoorYStockReplays30
set_option maxRecDepth 100000
set_option maxHeartbeats 16000000
set_option linter.unusedSimpArgs false
set_option linter.unusedVariables false
namespace Go.Proofs.YtkghgaopcgcheaaGreatDoor
open Go.RowKit Go.Shelf
def tagOk (i : Nat) (b : UInt8) : Bool := lettersB.contains b || decide (65 ≤ b.toNat ∧ b.toNat ≤ 90) || b == 95 || (decide (i ≠ 0) && (b == 46 || b == 45))
theorem tags_eq (b : UInt8) : tagsB.contains b = (lettersB.contains b || decide (65 ≤ b.toNat ∧ b.toNat ≤ 90) || b == 95 || (b == 46 || b == 45)) := by
  refine all_u8 (p := fun b => tagsB.contains b = (lettersB.contains b || decide (65 ≤ b.toNat ∧ b.toNat ≤ 90) || b == 95 || (b == 46 || b == 45))) ?_ b; decide +kernel
theorem tag_first (b : UInt8) : tagOk 0 b = (b != 46 && b != 45 && tagsB.contains b) := by
  refine all_u8 (p := fun b => tagOk 0 b = (b != 46 && b != 45 && tagsB.contains b)) ?_ b; decide +kernel
theorem tag_later {i : Nat} (h : i ≠ 0) (b : UInt8) : tagOk i b = tagsB.contains b := by
  unfold tagOk; rw [tags_eq, decide_eq_true h, Bool.true_and]
theorem isTag_all (s : List UInt8) : isTagM s = true ↔ (1 ≤ s.length ∧ s.length ≤ 128) ∧ ∀ (i : Nat) b, s[i]? = some b → tagOk i b = true := by
  unfold isTagM
  cases s with
  | nil => simp
  | cons x r =>
    simp only [List.isEmpty_cons, Bool.not_false, Bool.true_and, Bool.and_eq_true, decide_eq_true_eq, List.headD_cons, List.all_cons]; constructor
    · rintro ⟨⟨⟨h1, h2⟩, h3⟩, h4, h5⟩; refine ⟨⟨by simp, h1⟩, fun i b hb => ?_⟩
      cases i with
      | zero => simp at hb; subst hb; rw [tag_first, h2, h3, h4]; rfl
      | succ i =>
        rw [tag_later (by omega)]; rw [List.all_eq_true] at h5; exact h5 b (List.mem_of_getElem? (by simpa using hb))
    · rintro ⟨⟨_, h1⟩, h2⟩; have h0 := h2 0 x rfl; rw [tag_first] at h0; simp only [Bool.and_eq_true] at h0; refine ⟨⟨⟨h1, h0.1.1⟩, h0.1.2⟩, h0.2, ?_⟩; rw [List.all_eq_true]; intro b hb; obtain ⟨j, hj⟩ := List.mem_iff_getElem?.1 hb; have := h2 (j + 1) b (by simpa using hj); rwa [tag_later (by omega)] at this
theorem ref15_IsTag (s : List UInt8) (w : World) (hs : s.length ≤ maxLen) :
    Calls Tryz.prog 116 #[.string (S s)] w fun e w' => e = .returned (.bool (isTagM s)) ∧ Keep [] w w' := by
  have hs' : s.length ≤ 9223372036854775807 := hs; have HM := Lib.hid (isTag_all s); have HLo := Lib.hid (fun (b : UInt8) w' => ref15_low b w'); have sS := S_size s; clear hs; go_enter Tryz.func116, Tryz.ntmps116; go_wp2_with fail
  go_loopg [3] s.length (fun g iv wr => ∃ i : Nat, iv = .int .i64 (i : Nat) ∧ i ≤ s.length ∧ g = s.length - i ∧ Hid (∀ (j : Nat) b, j < i → s[j]? = some b → tagOk j b = true) ∧ w = wr)
  case atStart => exact ⟨0, rfl, by omega, rfl, Lib.hid (fun j b h => by omega), rfl⟩
  case round =>
    obtain ⟨i, rfl, hi, hg, HA, rfl⟩ := hrel; by_cases hlt : i < s.length
    · obtain ⟨b, hb⟩ : ∃ b, s[i]? = some b := ⟨_, List.getElem?_eq_getElem hlt⟩
      have HB := Lib.hid hb; have hget := S_get hb; have b8 := u8_nat b; have ilt : (i : Int) < (s.length : Int) := by omega
      have wk := IntWalk.i64_in ((i : Int) + 1) (by omega)
      have HON := Lib.hid (fun (h : tagOk i b = true) => show ∀ (j : Nat) c, j < i + 1 → s[j]? = some c → tagOk j c = true from fun j c hj hc => by
        rcases Nat.lt_or_ge j i with h1 | h1
        · exact HA.out j c h1 hc
        · have : j = i := by omega
          subst this; rw [HB.out] at hc; cases hc; exact h)
      have HNO := Lib.hid (fun (h : ¬ tagOk i b = true) => show isTagM s = false by
        rw [Bool.eq_false_iff]; exact fun h1 => h (((HM.out).1 h1).2 i b HB.out))
      have HT := Lib.hid (show tagOk i b = (lettersB.contains b || decide (65 ≤ b.toNat ∧ b.toNat ≤ 90) || b == 95 || (decide (i ≠ 0) && (b == 46 || b == 45))) from rfl); have hbN : ∀ n : Nat, n < 256 → b ≠ UInt8.ofNat n → (b.toNat : Int) ≠ (n : Nat) := fun n hn h => by have := b_ne hn h; omega
      clear hb
      cases hlo : lettersB.contains b with
      | true =>
        have HL2 := Lib.hid (fun w' => show Calls Tryz.prog 164 #[.int .u8 (b.toNat : Nat)] w' fun e w1 => e = .returned (.bool true) ∧ w1 = w' by have := HLo.out b w'; rwa [hlo] at this); have HY := Lib.hid (HON.out (by rw [HT.out, hlo]; rfl)); clear hlo HNO HON HT HM hbN; go_wp2_with (go_at_call 164; refine (HL2.out _).mono ?_; rintro e w1 ⟨rfl, rfl⟩)
        go_roundg (s.length - (i + 1))
        case measure => omega
        case rel => exact ⟨i + 1, by go_num, by omega, rfl, HY, rfl⟩
      | false =>
        have HL2 := Lib.hid (fun w' => show Calls Tryz.prog 164 #[.int .u8 (b.toNat : Nat)] w' fun e w1 => e = .returned (.bool false) ∧ w1 = w' by have := HLo.out b w'; rwa [hlo] at this); rw [hlo, Bool.false_or] at HT; clear hlo; by_cases u1 : 65 ≤ b.toNat
        · have i1 : (65 : Int) ≤ (b.toNat : Int) := by omega
          by_cases u2 : b.toNat ≤ 90
          · have i2 : (b.toNat : Int) ≤ 90 := by omega
            have HY := Lib.hid (HON.out (by rw [HT.out]; simp [u1, u2])); clear HNO HON HT HM hbN u1 u2; go_wp2_with (go_at_call 164; refine (HL2.out _).mono ?_; rintro e w1 ⟨rfl, rfl⟩)
            go_roundg (s.length - (i + 1))
            case measure => omega
            case rel => exact ⟨i + 1, by go_num, by omega, rfl, HY, rfl⟩
          · have i2 : decide ((b.toNat : Int) ≤ 90) = false := decide_eq_false (by omega); by_cases h95 : b = 95
            · have q3 := (int_eq (show (b.toNat : Int) = 95 by rw [h95]; rfl)).2; have HY := Lib.hid (HON.out (by rw [HT.out]; simp [h95])); clear HNO HON HT HM hbN h95 u1 u2; go_wp2_with (go_at_call 164; refine (HL2.out _).mono ?_; rintro e w1 ⟨rfl, rfl⟩)
              go_roundg (s.length - (i + 1))
              case measure => omega
              case rel => exact ⟨i + 1, by go_num, by omega, rfl, HY, rfl⟩
            · have q3 := (int_ne (show (b.toNat : Int) ≠ 95 from hbN 95 (by decide) h95)).2; by_cases hi0 : i = 0
              · have q4 := (int_eq (show (i : Int) = 0 by omega)).1; have HF := Lib.hid (HNO.out (by rw [HT.out]; simp [u2, h95, hi0])); clear HNO HON HT HM hbN h95 hi0 u1 u2; go_wp2_with (go_at_call 164; refine (HL2.out _).mono ?_; rintro e w1 ⟨rfl, rfl⟩); go_ret; exact ⟨ret_bool HF.out.symm, Keep.refl _ _⟩
              · have q4 := (int_ne (show (i : Int) ≠ 0 by omega)).1; by_cases h46 : b = 46
                · have q5 := (int_eq (show (b.toNat : Int) = 46 by rw [h46]; rfl)).2; have HY := Lib.hid (HON.out (by rw [HT.out]; simp [h46, hi0])); clear HNO HON HT HM hbN h95 hi0 h46 u1 u2; go_wp2_with (go_at_call 164; refine (HL2.out _).mono ?_; rintro e w1 ⟨rfl, rfl⟩)
                  go_roundg (s.length - (i + 1))
                  case measure => omega
                  case rel => exact ⟨i + 1, by go_num, by omega, rfl, HY, rfl⟩
                · have q5 := (int_ne (show (b.toNat : Int) ≠ 46 from hbN 46 (by decide) h46)).2; by_cases h45 : b = 45
                  · have q6 := (int_eq (show (b.toNat : Int) = 45 by rw [h45]; rfl)).2; have HY := Lib.hid (HON.out (by rw [HT.out]; simp [h45, hi0])); clear HNO HON HT HM hbN h95 hi0 h46 h45 u1 u2; go_wp2_with (go_at_call 164; refine (HL2.out _).mono ?_; rintro e w1 ⟨rfl, rfl⟩)
                    go_roundg (s.length - (i + 1))
                    case measure => omega
                    case rel => exact ⟨i + 1, by go_num, by omega, rfl, HY, rfl⟩
                  · have q6 := (int_ne (show (b.toNat : Int) ≠ 45 from hbN 45 (by decide) h45)).2; have HF := Lib.hid (HNO.out (by rw [HT.out]; simp [u2, h95, h46, h45])); clear HNO HON HT HM hbN h95 hi0 h46 h45 u1 u2; go_wp2_with (go_at_call 164; refine (HL2.out _).mono ?_; rintro e w1 ⟨rfl, rfl⟩); go_ret; exact ⟨ret_bool HF.out.symm, Keep.refl _ _⟩
        · have i1 : ¬ (65 : Int) ≤ (b.toNat : Int) := by omega
          by_cases h95 : b = 95
          · have q3 := (int_eq (show (b.toNat : Int) = 95 by rw [h95]; rfl)).2; have HY := Lib.hid (HON.out (by rw [HT.out]; simp [h95])); clear HNO HON HT HM hbN h95 u1; go_wp2_with (go_at_call 164; refine (HL2.out _).mono ?_; rintro e w1 ⟨rfl, rfl⟩)
            go_roundg (s.length - (i + 1))
            case measure => omega
            case rel => exact ⟨i + 1, by go_num, by omega, rfl, HY, rfl⟩
          · have q3 := (int_ne (show (b.toNat : Int) ≠ 95 from hbN 95 (by decide) h95)).2; by_cases hi0 : i = 0
            · have q4 := (int_eq (show (i : Int) = 0 by omega)).1; have HF := Lib.hid (HNO.out (by rw [HT.out]; simp [u1, h95, hi0])); clear HNO HON HT HM hbN h95 hi0 u1; go_wp2_with (go_at_call 164; refine (HL2.out _).mono ?_; rintro e w1 ⟨rfl, rfl⟩); go_ret; exact ⟨ret_bool HF.out.symm, Keep.refl _ _⟩
            · have q4 := (int_ne (show (i : Int) ≠ 0 by omega)).1; by_cases h46 : b = 46
              · have q5 := (int_eq (show (b.toNat : Int) = 46 by rw [h46]; rfl)).2; have HY := Lib.hid (HON.out (by rw [HT.out]; simp [h46, hi0])); clear HNO HON HT HM hbN h95 hi0 h46 u1; go_wp2_with (go_at_call 164; refine (HL2.out _).mono ?_; rintro e w1 ⟨rfl, rfl⟩)
                go_roundg (s.length - (i + 1))
                case measure => omega
                case rel => exact ⟨i + 1, by go_num, by omega, rfl, HY, rfl⟩
              · have q5 := (int_ne (show (b.toNat : Int) ≠ 46 from hbN 46 (by decide) h46)).2; by_cases h45 : b = 45
                · have q6 := (int_eq (show (b.toNat : Int) = 45 by rw [h45]; rfl)).2; have HY := Lib.hid (HON.out (by rw [HT.out]; simp [h45, hi0])); clear HNO HON HT HM hbN h95 hi0 h46 h45 u1; go_wp2_with (go_at_call 164; refine (HL2.out _).mono ?_; rintro e w1 ⟨rfl, rfl⟩)
                  go_roundg (s.length - (i + 1))
                  case measure => omega
                  case rel => exact ⟨i + 1, by go_num, by omega, rfl, HY, rfl⟩
                · have q6 := (int_ne (show (b.toNat : Int) ≠ 45 from hbN 45 (by decide) h45)).2; have HF := Lib.hid (HNO.out (by rw [HT.out]; simp [u1, h95, h46, h45])); clear HNO HON HT HM hbN h95 hi0 h46 h45 u1; go_wp2_with (go_at_call 164; refine (HL2.out _).mono ?_; rintro e w1 ⟨rfl, rfl⟩); go_ret; exact ⟨ret_bool HF.out.symm, Keep.refl _ _⟩
    · have ilt : ¬ (i : Int) < (s.length : Int) := by omega
      have hie : i = s.length := by omega
      have HE := Lib.hid (show isTagM s = true ↔ 1 ≤ s.length ∧ s.length ≤ 128 from ⟨fun h => (HM.out.1 h).1, fun h => HM.out.2 ⟨h, fun j b hb => HA.out j b (by have := (List.getElem?_eq_some_iff.1 hb).1; omega) hb⟩⟩); clear hie; by_cases c1 : 1 ≤ s.length
      · have q1 : decide ((s.length : Int) ≥ 1) = true := by simp; omega
        by_cases c2 : s.length ≤ 128
        · have q2 : decide ((s.length : Int) ≤ 128) = true := by simp; omega
          have HR := Lib.hid (HE.out.2 ⟨c1, c2⟩); clear c1 c2 HE; go_wp2_with fail; go_ret; exact ⟨ret_bool HR.out.symm, Keep.refl _ _⟩
        · have q2 : decide ((s.length : Int) ≤ 128) = false := by simp; omega
          have HR := Lib.hid (show isTagM s = false by rw [Bool.eq_false_iff]; exact fun h => c2 (HE.out.1 h).2); clear c1 c2 HE; go_wp2_with fail; go_ret; exact ⟨ret_bool HR.out.symm, Keep.refl _ _⟩
      · have q1 : decide ((s.length : Int) ≥ 1) = false := by simp; omega
        have HR := Lib.hid (show isTagM s = false by rw [Bool.eq_false_iff]; exact fun h => c1 (HE.out.1 h).1); clear c1 HE; go_wp2_with fail; go_ret; exact ⟨ret_bool HR.out.symm, Keep.refl _ _⟩
end Go.Proofs.YtkghgaopcgcheaaGreatDoor
namespace Go.Proofs.YtkghgaopcgcheaaGreatDoor
open Go.RowKit
theorem tik_dig (x : Tik) (j : Nat) (v : Value) (hv : (digC x.dig)[j]? = some v) : x.cells[3 + j]? = some v := by
  unfold Tik.cells; rw [List.getElem?_append_right (by simp), show ([Value.string (S x.repo), .string (S x.tag), .bool x.found] : List Value).length = 3 from rfl, Nat.add_sub_cancel_left, List.getElem?_append_left (List.getElem?_eq_some_iff.1 hv).1]; exact hv
theorem ref20_Good (x : Tik) (XC : List Value) (hx : x.cells = XC) (w : World) (hi : tikIn x) : Calls Tryz.prog 60 #[.agg XC.toArray] w fun e w' => e = .returned (.bool (goodT x)) ∧ Keep [] w w' := by
  have HR := Lib.hid (show goodT x = (isRepoM x.repo && isTagM x.tag && decide (0 ≤ x.tick ∧ x.tick ≤ 1099511627776) && (if x.found then decide (x.typ.length ≤ 100) && decide (0 ≤ x.size ∧ x.size ≤ 1048576) else decide (x = ⟨x.repo, x.tag, false, dig00, [], 0, x.tick⟩))) from rfl); obtain ⟨R, hR⟩ : ∃ R, goodT x = R := ⟨_, rfl⟩
  rw [hR] at HR ⊢; clear hR
  have heqv : x.found = false → decide (x = ⟨x.repo, x.tag, false, dig00, [], 0, x.tick⟩) = (decide (x.dig = dig00) && (decide (x.typ = []) && decide (x.size = 0))) := by
    intro hf; rw [Bool.eq_iff_iff]; simp only [Bool.and_eq_true, decide_eq_true_eq]; constructor
    · intro h; exact ⟨by rw [h], by rw [h], by rw [h]⟩
    · rintro ⟨h1, h2, h3⟩; obtain ⟨a1, a2, a3, a4, a5, a6, a7⟩ := x; simp only at hf h1 h2 h3; subst hf h1 h2 h3; rfl
  obtain ⟨n, hn⟩ : ∃ n, w.heap.size = n := ⟨_, rfl⟩
  have k1 := (Keep.refl [] w).alloc (.cells XC.toArray 51); have b1 := Blk.new w XC 51; rw [hn] at b1; have HRP := Lib.hid (fun w => ref15_IsRepo (fun l w h => ref15_part l w h) x.repo w hi.1); have HTG := Lib.hid (fun w => ref15_IsTag x.tag w hi.2.1); have hq := fun w' => eqDig x.dig dig00 w'
  obtain ⟨DC, hDC⟩ : ∃ z, digC x.dig = z := ⟨_, rfl⟩
  obtain ⟨ZC, hZC⟩ : ∃ z, digC dig00 = z := ⟨_, rfl⟩
  have HDL := Lib.hid (show DC.length = 32 by rw [← hDC]; exact digC_length _); have HZC := Lib.hid hZC; rw [hDC, hZC] at hq; go_enter Tryz.func60, Tryz.ntmps60
  go_upto_region 1 with fail
  (try simp only [hn]); generalize w.alloc (.cells XC.toArray 51) = w1 at k1 b1 ⊢
  have HC := Lib.hid (show ∀ w', Keep [] w1 w' → w'.cell? ⟨n, 0, none⟩ = some (.string (S x.repo)) ∧ w'.cell? ⟨n, 1, none⟩ = some (.string (S x.tag)) ∧ w'.cell? ⟨n, 2, none⟩ = some (.bool x.found) ∧ w'.cell? ⟨n, 35, none⟩ = some (.string (S x.typ)) ∧ w'.cell? ⟨n, 36, none⟩ = some (.int .i64 x.size) ∧ w'.cell? ⟨n, 37, none⟩ = some (.int .i64 x.tick) ∧ w'.rangeAt n 3 DC from fun w' k => by
    have b := k.blk b1 (by simp); refine ⟨b.get (by rw [← hx]; exact x.at0), b.get (by rw [← hx]; exact x.at1), b.get (by rw [← hx]; exact x.at2), b.get (by rw [← hx]; exact x.at35), b.get (by rw [← hx]; exact x.at36), b.get (by rw [← hx]; exact x.at37), fun j v hv => b.get ?_⟩; rw [← hx]; rw [← hDC] at hv; exact tik_dig x j v hv)
  have K1 := Lib.hid k1; obtain ⟨c0, c1, c2, c35, c36, c37, _⟩ := HC.out w1 (Keep.refl _ _); have hsz := S_size x.typ; have t3 : ((S x.typ).toList == []) = decide (x.typ = []) := by rw [S_toList]; cases x.typ <;> rfl
  have t4 : ((S x.typ).toList.isEmpty) = decide (x.typ = []) := by rw [S_toList]; cases x.typ <;> rfl
  have htl : x.typ.length ≤ 9223372036854775807 := hi.2.2.1; clear hx hDC hZC k1 b1 hn hi; go_wp2_with fail; refine (HRP.out _).mono ?_; rintro e w2 ⟨rfl, k2⟩; obtain ⟨c0, c1, c2, c35, c36, c37, _⟩ := HC.out w2 k2; have K2 := Lib.hid k2; clear k2
  cases hrp : isRepoM x.repo with
  | false =>
    have HV := Lib.hid (show R = false by rw [HR.out, hrp]; rfl); clear hrp HR; go_wp2_with fail; go_ret; exact ⟨by rw [HV.out]; rfl, K1.out.trans K2.out⟩
  | true =>
    rw [hrp] at HR; clear hrp; go_wp2_with fail; refine (HTG.out _).mono ?_; rintro e w3 ⟨rfl, k3⟩; obtain ⟨c0, c1, c2, c35, c36, c37, hrg⟩ := HC.out w3 (K2.out.trans k3); have HRG := Lib.hid hrg; have K3 := Lib.hid (K2.out.trans k3); clear k3 hrg
    cases hrp : isTagM x.tag with
    | false =>
      have HV := Lib.hid (show R = false by rw [HR.out, hrp]; rfl); clear hrp HR; go_wp2_with fail; go_ret; exact ⟨by rw [HV.out]; rfl, K1.out.trans K3.out⟩
    | true =>
      rw [hrp] at HR; clear hrp; obtain ⟨tk, htk⟩ : ∃ z, x.tick = z := ⟨_, rfl⟩
      rw [htk] at c37; by_cases ha : tk < 0
      · have HV := Lib.hid (show R = false by rw [HR.out, decide_eq_false (show ¬ (0 ≤ x.tick ∧ x.tick ≤ 1099511627776) by omega)]; simp); have q1 : decide (tk < 0) = true := decide_eq_true ha; clear HR; go_wp2_with fail; go_ret; exact ⟨by rw [HV.out]; rfl, K1.out.trans K3.out⟩
      by_cases hb : 1099511627776 < tk
      · have HV := Lib.hid (show R = false by rw [HR.out, decide_eq_false (show ¬ (0 ≤ x.tick ∧ x.tick ≤ 1099511627776) by omega)]; simp); have q1 : decide (tk < 0) = false := decide_eq_false ha; have q2 : decide (tk > 1099511627776) = true := decide_eq_true hb; clear HR; go_wp2_with fail; go_ret; exact ⟨by rw [HV.out]; rfl, K1.out.trans K3.out⟩
      have q1 : decide (tk < 0) = false := decide_eq_false ha; have q2 : decide (tk > 1099511627776) = false := decide_eq_false hb; rw [decide_eq_true (show 0 ≤ x.tick ∧ x.tick ≤ 1099511627776 by omega)] at HR
      cases hfo : x.found with
      | false =>
        rw [hfo] at c2; have HR2 := Lib.hid (show R = (decide (x.dig = dig00) && (decide (x.typ = []) && decide (x.size = 0))) by rw [HR.out, hfo, ← heqv hfo]; simp); clear HR hfo heqv; obtain ⟨sz, hsz'⟩ : ∃ z, x.size = z := ⟨_, rfl⟩
        rw [hsz'] at c36 HR2; obtain ⟨qd, hqd⟩ : ∃ z, decide (x.dig = dig00) = z := ⟨_, rfl⟩
        rw [hqd] at hq HR2; obtain ⟨qt, hqt⟩ : ∃ z, decide (x.typ = []) = z := ⟨_, rfl⟩
        rw [hqt] at t3 t4 HR2; have HQ := Lib.hid hq; clear hqd hqt hq; cases qd <;> cases qt
        all_goals
          by_cases h0 : sz = 0
          all_goals
            have q5 := HQ.out
            first
              | have q6 : decide (sz = 0) = true := decide_eq_true h0
              | have q6 : decide (sz = 0) = false := decide_eq_false h0
            go_wp2_with (first | ((with_reducible refine gL 27 26 ?_); refine gl n 3 DC HRG.out (by rw [HDL.out]; kernel_rfl) ?_; try simp only [sq]) | ((with_reducible refine gB 28 ?_); refine wpList_build_is rfl 25 _ rfl ZC (by rw [← HZC.out]; kernel_rfl) ?_; try simp only [sq]) | fail); go_ret; exact ⟨by rw [HR2.out]; first | (simp [q6]; done) | (simp [h0]; done), K1.out.trans K3.out⟩
      | true =>
        rw [hfo] at c2; have HR2 := Lib.hid (show R = (decide (x.typ.length ≤ 100) && decide (0 ≤ x.size ∧ x.size ≤ 1048576)) by rw [HR.out, hfo]; simp); clear HR hfo heqv; obtain ⟨sz, hsz'⟩ : ∃ z, x.size = z := ⟨_, rfl⟩
        rw [hsz'] at c36 HR2; obtain ⟨tl, htl'⟩ : ∃ z, x.typ.length = z := ⟨_, rfl⟩
        rw [htl'] at hsz htl HR2; by_cases h1 : tl ≤ 100
        · have p1 : decide ((tl : Int) ≤ 100) = true := decide_eq_true (by omega); by_cases h2 : 0 ≤ sz
          · have p2 : decide (sz ≥ 0) = true := decide_eq_true h2; by_cases h3 : sz ≤ 1048576
            · have p3 : decide (sz ≤ 1048576) = true := decide_eq_true h3; go_wp2_with fail; go_ret; exact ⟨by rw [HR2.out, decide_eq_true h1, decide_eq_true (show 0 ≤ sz ∧ sz ≤ 1048576 from ⟨h2, h3⟩)]; rfl, K1.out.trans K3.out⟩
            · have p3 : decide (sz ≤ 1048576) = false := decide_eq_false h3; go_wp2_with fail; go_ret; exact ⟨by rw [HR2.out, decide_eq_true h1, decide_eq_false (show ¬ (0 ≤ sz ∧ sz ≤ 1048576) by omega)]; rfl, K1.out.trans K3.out⟩
          · have p2 : decide (sz ≥ 0) = false := decide_eq_false h2; go_wp2_with fail; go_ret; exact ⟨by rw [HR2.out, decide_eq_true h1, decide_eq_false (show ¬ (0 ≤ sz ∧ sz ≤ 1048576) by omega)]; rfl, K1.out.trans K3.out⟩
        · have p1 : decide ((tl : Int) ≤ 100) = false := decide_eq_false (by omega); go_wp2_with fail; go_ret; exact ⟨by rw [HR2.out, decide_eq_false h1]; rfl, K1.out.trans K3.out⟩
end Go.Proofs.YtkghgaopcgcheaaGreatDoor
namespace Go.Proofs.YtkghgaopcgcheaaGreatDoor
open Go.RowKit Go.Maps
theorem restrict1 (x j : Jar) (n5 : Nat) (w : World) (hj : w.rangeAt n5 0 j.cells) :
    Calls Tryz.prog 87 #[.agg x.cells.toArray, .pointer (some ⟨n5, 0, none⟩)] w fun e w' => e = .returned (.bool (decide (x.dig = j.dig) && decide (x.size = j.size))) ∧ Keep [] w w' := by
  obtain ⟨n, hn⟩ : ∃ n, w.heap.size = n := ⟨_, rfl⟩
  have k1 := (Keep.refl [] w).alloc (.cells x.cells.toArray 63); have b1 := Blk.new w x.cells 63; rw [hn] at b1; have hr1 := jar_row x; have hr2 := jar_row j; have hq := fun w' => eqDig x.dig j.dig w'
  obtain ⟨XC, hXC⟩ : ∃ z, digC x.dig = z := ⟨_, rfl⟩
  obtain ⟨YC, hYC⟩ : ∃ z, digC j.dig = z := ⟨_, rfl⟩
  have HXL := Lib.hid (show XC.length = 32 from by rw [← hXC]; exact digC_length _); have HYL := Lib.hid (show YC.length = 32 from by rw [← hYC]; exact digC_length _); rw [hXC] at hr1 hq; rw [hYC] at hr2 hq; obtain ⟨PC, hPC⟩ : ∃ z, x.cells = z := ⟨_, rfl⟩
  obtain ⟨QC, hQC⟩ : ∃ z, j.cells = z := ⟨_, rfl⟩
  rw [hPC] at k1 b1 hr1 ⊢; rw [hQC] at hj hr2; obtain ⟨a, ha⟩ : ∃ z, x.size = z := ⟨_, rfl⟩
  obtain ⟨c, hc⟩ : ∃ z, j.size = z := ⟨_, rfl⟩
  rw [ha] at hr1 ⊢; rw [hc] at hr2 ⊢; obtain ⟨qd, hqd⟩ : ∃ z, decide (x.dig = j.dig) = z := ⟨_, rfl⟩
  rw [hqd] at hq ⊢; go_enter Tryz.func87, Tryz.ntmps87
  go_upto_region 1 with fail
  (try simp only [hn]); generalize w.alloc (.cells PC.toArray 63) = w1 at k1 b1 ⊢; have hj1 : w1.rangeAt n5 0 QC := k1.range hj; have c33 := b1.get hr1.2.2; have d33 : w1.cell? ⟨n5, 33, none⟩ = some (.int .i64 c) := by have := hj1 33 _ hr2.2.2; rwa [Nat.zero_add] at this
  have RX := Lib.hid (show w1.rangeAt n 0 XC from fun i v hv => by have := b1.get (hr1.1 i v hv); exact this); have RY := Lib.hid (show w1.rangeAt n5 0 YC from fun i v hv => by simpa using hj1 (0 + i) v (hr2.1 i v hv)); have K1 := Lib.hid k1; clear k1 b1 hr1 hr2 hj hj1 hXC hYC hPC hQC ha hc hqd hn
  cases qd with
  | false =>
    go_wp2_with (first
      | (with_reducible (show wpList _ _ _ ((⟨some 5, .load _ _, _, _, _, none⟩ : Oper) :: _) _ _)
         refine wpList_load_mid rfl 25 (.tmp 4) rfl n 0 (by rfl) XC _ RX.out Tryz.underlying25 rfl (by rw [HXL.out]; kernel_rfl) ?_; try simp only [sq])
      | (with_reducible (show wpList _ _ _ ((⟨some 7, .load _ _, _, _, _, none⟩ : Oper) :: _) _ _)
         refine wpList_load_mid rfl 25 (.tmp 6) rfl n5 0 (by rfl) YC _ RY.out Tryz.underlying25 rfl (by rw [HYL.out]; kernel_rfl) ?_; try simp only [sq])
      | fail)
    go_ret; exact ⟨by simp, K1.out⟩
  | true =>
    by_cases hac : a = c
    · subst hac; have q1 : decide (a = a) = true := decide_eq_true rfl; have q2 : (a == a) = true := by simp
      go_wp2_with (first
        | (with_reducible (show wpList _ _ _ ((⟨some 5, .load _ _, _, _, _, none⟩ : Oper) :: _) _ _)
           refine wpList_load_mid rfl 25 (.tmp 4) rfl n 0 (by rfl) XC _ RX.out Tryz.underlying25 rfl (by rw [HXL.out]; kernel_rfl) ?_; try simp only [sq])
        | (with_reducible (show wpList _ _ _ ((⟨some 7, .load _ _, _, _, _, none⟩ : Oper) :: _) _ _)
           refine wpList_load_mid rfl 25 (.tmp 6) rfl n5 0 (by rfl) YC _ RY.out Tryz.underlying25 rfl (by rw [HYL.out]; kernel_rfl) ?_; try simp only [sq])
        | fail)
      go_ret; exact ⟨by simp, K1.out⟩
    · have q1 : decide (a = c) = false := decide_eq_false hac; have q2 : (a == c) = false := by simpa using hac
      go_wp2_with (first
        | (with_reducible (show wpList _ _ _ ((⟨some 5, .load _ _, _, _, _, none⟩ : Oper) :: _) _ _)
           refine wpList_load_mid rfl 25 (.tmp 4) rfl n 0 (by rfl) XC _ RX.out Tryz.underlying25 rfl (by rw [HXL.out]; kernel_rfl) ?_; try simp only [sq])
        | (with_reducible (show wpList _ _ _ ((⟨some 7, .load _ _, _, _, _, none⟩ : Oper) :: _) _ _)
           refine wpList_load_mid rfl 25 (.tmp 6) rfl n5 0 (by rfl) YC _ RY.out Tryz.underlying25 rfl (by rw [HYL.out]; kernel_rfl) ?_; try simp only [sq])
        | fail)
      go_ret; exact ⟨by simp [q1], K1.out⟩
theorem jars_Index (L : List Jar) (v : Value) (w : World) (hs : Sl Jar.cells 35 w v L) (hl : L.length ≤ 4000) (j : Jar) (n5 : Nat) (hj : w.rangeAt n5 0 j.cells) (hex : ∃ x ∈ L, x.dig = j.dig ∧ x.size = j.size) :
    Calls Tryz.prog 142 #[v, .func (.func 87) #[] #[.pointer (some ⟨n5, 0, none⟩)]] w fun e w' => ∃ i : Nat, e = .returned (.int .i64 (i : Nat)) ∧ Keep [] w w' := by
  have HC := Lib.hid (fun (x : Jar) w' (k : Keep [] w w') => restrict1 x j n5 w' (k.range hj)); obtain ⟨a, cap, rfl, hml⟩ := hs.shape; have HS := Lib.hid (fun w' (k : Keep [] w w') => (hs.keep Jar.cells_length (by omega) hs k (by simp) (Nat.le_refl _))); have HEX := Lib.hid hex; clear hs hj hex hml; go_enter Tryz.func142, Tryz.ntmps142; go_wp2_with fail
  go_loopg [8] L.length (fun g i wr => ∃ k : Nat, i = .int .i64 (k : Nat) ∧ k ≤ L.length ∧ g = L.length - k ∧ Hid (Keep [] w wr) ∧ Hid (∀ i, i < k → ∀ x, L[i]? = some x → ¬ (x.dig = j.dig ∧ x.size = j.size)))
  case atStart => exact ⟨0, rfl, Nat.zero_le _, rfl, Lib.hid (Keep.refl _ _), Lib.hid (fun i hi => absurd hi (by omega))⟩
  case round =>
    obtain ⟨k, rfl, hk, hg, HK, HN⟩ := hrel; by_cases hlt : k < L.length
    · obtain ⟨x, hx⟩ : ∃ x, L[k]? = some x := ⟨_, List.getElem?_eq_getElem hlt⟩
      obtain ⟨ba, oa, ca', hva, hrg⟩ := (HS.out wr HK.out).rng Jar.cells_length hx; cases hva; have wk := IntWalk.i64_in ((k : Int) + 1) (by omega); have f1 : decide ((k : Int) < (L.length : Nat)) = true := decide_eq_true (by omega); have HR1 := Lib.hid (HC.out x wr HK.out); obtain ⟨XC, hXC⟩ : ∃ z, x.cells = z := ⟨_, rfl⟩
      have HXL := Lib.hid (show XC.length = 35 by rw [← hXC]; exact Jar.cells_length _); rw [hXC] at hrg HR1; have HRG := Lib.hid hrg; obtain ⟨qq, hqq⟩ : ∃ z, (decide (x.dig = j.dig) && decide (x.size = j.size)) = z := ⟨_, rfl⟩
      rw [hqq] at HR1; have HX := Lib.hid (And.intro hx hqq); clear hrg hXC hx hqq
      go_wp2_with (first | ((with_reducible refine gL 15 14 ?_); refine gl ba (oa + k * 35) XC HRG.out (by rw [HXL.out]; kernel_rfl) ?_; try simp only [sq]) | fail); refine HR1.out.mono ?_; rintro e w1 ⟨rfl, k1⟩; have K1 := Lib.hid (HK.out.trans k1); clear k1 HR1
      cases qq with
      | true =>
        go_wp2_with fail; go_ret; exact ⟨k, rfl, K1.out⟩
      | false =>
        have HN' := Lib.hid (show ∀ i, i < k + 1 → ∀ x, L[i]? = some x → ¬ (x.dig = j.dig ∧ x.size = j.size) from fun i hi y hy => by
          rcases Nat.lt_succ_iff_lt_or_eq.1 hi with h | rfl
          · exact HN.out i h y hy
          · rw [HX.out.1] at hy; cases hy; rintro ⟨h1, h2⟩; have := HX.out.2; rw [decide_eq_true h1, decide_eq_true h2] at this; cases this)
        go_wp2_with fail
        go_roundg (L.length - (k + 1))
        case measure => omega
        case rel => exact ⟨k + 1, by go_num, by omega, rfl, K1, HN'⟩
    · exfalso; obtain ⟨x, hx, h⟩ := HEX.out; obtain ⟨i, hi⟩ := List.getElem?_of_mem hx; exact HN.out i (by have := (List.getElem?_eq_some_iff.1 hi).1; omega) x hi h
theorem jars_Contains (L : List Jar) (v : Value) (w : World) (hs : Sl Jar.cells 35 w v L) (hl : L.length ≤ 4000) (j : Jar) (n5 : Nat) (hj : w.rangeAt n5 0 j.cells) (hex : ∃ x ∈ L, x.dig = j.dig ∧ x.size = j.size) :
    Calls Tryz.prog 88 #[v, .func (.func 87) #[] #[.pointer (some ⟨n5, 0, none⟩)]] w fun e w' => e = .returned (.bool true) ∧ Keep [] w w' := by
  have H := Lib.hid (jars_Index L v w hs hl j n5 hj hex); clear hs hj hex; go_enter Tryz.func88, Tryz.ntmps88; go_wp2_with fail; refine H.out.mono ?_; rintro e w1 ⟨i, rfl, k1⟩; have q1 : decide ((i : Int) ≥ 0) = true := decide_eq_true (by omega); have q2 : (0 : Int) ≤ (i : Int) := by omega
  have K1 := Lib.hid k1; clear k1 H; go_wp2_with fail; go_ret; exact ⟨rfl, K1.out⟩
section
variable {X : List Nat} {s d t r l b : Nat} {B : Int} {T : List Tik} {R : List Jar} {K : Dsk} {nn su : Nat}
theorem stock_restrict (w : World) (h : Sk X w s d t r l b B T R K nn su) (F : List Jar) (v : Value) (hs : Sl Jar.cells 35 w v F) (hF : F.length ≤ 4000) (hex : ∀ j ∈ R, ∃ x ∈ F, x.dig = j.dig ∧ x.size = j.size) (hvic : vicL B R = none) :
    Calls Tryz.prog 44 #[.pointer (some ⟨s, 0, none⟩), v] w fun e w' => e = .returned (.tuple #[]) ∧ Keep [] w w' := by
  have hmf : ∀ (fn : Fn) (first cap : Array Value) (w : World), (Instr.makeFunc fn first cap).run Tryz.prog w = .ok (.func fn first cap) w := fun _ _ _ _ => rfl
  obtain ⟨c0, c1, c2, c3⟩ := h.cells; obtain ⟨Y, hst⟩ := h.st; have HSK := Lib.hid (fun w' (k : Keep [] w w') => h.keep0 k); have HJ := Lib.hid hst.jars; have hmo := hst.most.1; have HVI := Lib.hid (fun w' (k : Keep [] w w') => (hst.keep0 k).victim); rw [hvic] at HVI; obtain ⟨af, cf, rfl, hcf⟩ := hs.shape; have HCF := Lib.hid (fun w' (k : Keep [] w w') (j : Jar) (n5 : Nat) (hj : j ∈ R) (hr : w'.rangeAt n5 0 j.cells) => jars_Contains F _ w' (hs.keep Jar.cells_length (by omega) hs k (by simp) (Nat.le_refl _)) hF j n5 hr (hex j hj)); have HD0 := Lib.hid (show (digC (vicD none)).length = 32 ∧ ∀ v ∈ digC (vicD none), v.oneCell' = true from ⟨digC_length _, digC_one _⟩); clear h hst hs hcf hex hvic; go_enter Tryz.func44, Tryz.ntmps44; go_wp2_with fail; go_step3; go_wp2_with fail; refine HJ.out.mono ?_; rintro e w1 ⟨vr, rfl, ho, k1⟩; obtain ⟨ar, cr, rfl, hcr⟩ := ho.shape; have H1 := Lib.hid (And.intro ho k1); clear ho k1 HJ hcr c0 c1 c2 c3; go_wp2_with fail
  go_loopg [16] R.length (fun g i wr => ∃ k : Nat, i = .int .i64 (k : Nat) ∧ k ≤ R.length ∧ g = R.length - k ∧ Hid (Keep [] w1 wr))
  case atStart => exact ⟨0, rfl, Nat.zero_le _, rfl, Lib.hid (Keep.refl _ _)⟩
  case round =>
    obtain ⟨k, rfl, hk, hg, HK⟩ := hrel; by_cases hlt : k < R.length
    · obtain ⟨x, hx⟩ : ∃ x, R[k]? = some x := ⟨_, List.getElem?_eq_getElem hlt⟩
      obtain ⟨ba, oa, ca', hva, hrg⟩ := ((H1.out.1.keep0 HK.out).sl Jar.cells_length).rng Jar.cells_length hx; cases hva; have hxm := List.mem_of_getElem? hx; have wk := IntWalk.i64_in ((k : Int) + 1) (by omega); have f1 : decide ((k : Int) < (R.length : Nat)) = true := decide_eq_true (by omega); have HCX := Lib.hid (fun w' (k : Keep [] w w') n5 hr => HCF.out w' k x n5 hxm hr); obtain ⟨XC, hXC⟩ : ∃ z, x.cells = z := ⟨_, rfl⟩
      have HXC := Lib.hid (show XC.length = 35 ∧ ∀ v ∈ XC, v.oneCell' = true from ⟨by rw [← hXC]; exact Jar.cells_length _, by rw [← hXC]; exact Jar.one _⟩); rw [hXC] at hrg HCX; have HRG := Lib.hid hrg; clear hrg hXC hx hxm
      go_upto_region 3 with (first | ((with_reducible refine gL 19 18 ?_); refine gl ba (oa + k * 35) XC HRG.out (by rw [HXC.out.1]; kernel_rfl) ?_; try simp only [sq]) | ((with_reducible refine gS 5 19 ?_); refine wpList_store_new rfl 63 (.tmp 5) (.tmp 19) rfl _ XC (by rfl) (by rfl) (by rw [HXC.out.1]; kernel_rfl) (by rw [HXC.out.1]; kernel_rfl) HXC.out.2 ?_) | fail)
      obtain ⟨n5, hn5⟩ : ∃ n, wr.heap.size = n := ⟨_, rfl⟩
      have b3 := Blk.new wr XC 63; rw [hn5] at b3; (try rw [hn5]); have k3 := HK.out.alloc (.cells XC.toArray 63); generalize wr.alloc (.cells XC.toArray 63) = w3 at k3 b3 ⊢; have H3 := Lib.hid (And.intro k3 b3); clear k3 b3 hn5; go_wp2_with fail; refine (HCX.out w3 (H1.out.2.trans H3.out.1) n5 H3.out.2.rng).mono ?_; rintro e w4 ⟨rfl, k4⟩; have K4 := Lib.hid (H3.out.1.trans k4); clear k4; go_wp2_with fail
      go_roundg (R.length - (k + 1))
      case measure => omega
      case rel => exact ⟨k + 1, by go_num, by omega, rfl, K4⟩
    · have hke : k = R.length := by omega
      have f1 : decide ((k : Int) < (R.length : Nat)) = false := decide_eq_false (by omega); subst hke; go_wp2_with fail; go_step3; go_wp2_with fail
      go_loopg [] 0 (fun g wz => Hid (Keep [] w wz))
      case atStart => exact Lib.hid (H1.out.2.trans HK.out)
      case round =>
        have KZ := hrel; obtain ⟨c0, c1, c2, c3⟩ := (HSK.out _ KZ.out).cells; go_wp2_with fail; refine (HVI.out _ KZ.out).mono ?_; rintro e w2 ⟨rfl, k2⟩; have K2 := Lib.hid (KZ.out.trans k2); clear k2 c0 c1 c2 c3
        go_upto_region 8 with (first | ((with_reducible refine gS 7 41 ?_); refine wpList_store_new rfl 25 (.tmp 7) (.tmp 41) rfl _ (digC (vicD none)) (by rfl) (by rfl) (by rw [HD0.out.1]; kernel_rfl) (by rw [HD0.out.1]; kernel_rfl) HD0.out.2 ?_) | fail)
        have k3 := K2.out.alloc (.cells (digC (vicD none)).toArray 25); generalize w2.alloc (.cells (digC (vicD none)).toArray 25) = w3 at k3 ⊢; have K3 := Lib.hid k3; clear k3; go_wp2_with fail; rw [Exit.noGoto_normal]; go_end0; exact ⟨rfl, K3.out⟩
theorem stock_clean (w : World) (h : Sk X w s d t r l b B T R K nn su) (hK : K.files.length ≤ 4000) (hall : ∀ x ∈ blobsD (K.files.map (·.1)), hasJ R x = true) :
    Calls Tryz.prog 45 #[.pointer (some ⟨s, 0, none⟩)] w fun e w' => e = .returned (.int .i64 0) ∧ Keep [] w w' := by
  obtain ⟨c0, c1, c2, c3⟩ := h.cells; have HSK := Lib.hid (fun w' (k : Keep [] w w') => h.keep0 k)
  have HLI := Lib.hid (show Calls Tryz.prog 33 #[.pointer (some ⟨b, 0, none⟩)] w fun e w' => ∃ v, e = .returned v ∧ Own digC 32 w.heap.size 25 w' v (blobsD (K.files.map (·.1))) ∧ Keep [] w w' from by
    obtain ⟨C, hpk, hgp, hbC, hCX, hre⟩ := h.disk; exact larder_List b d K w h.ld hpk hK)
  have hbl : (blobsD (K.files.map (·.1))).length ≤ 4000 := by have := blobs_len (K.files.map (·.1)); rw [List.length_map] at this; omega
  obtain ⟨F, hF⟩ : ∃ z, blobsD (K.files.map (·.1)) = z := ⟨_, rfl⟩
  rw [hF] at hall HLI hbl; have HAL := Lib.hid hall; clear h hall hF hK; go_enter Tryz.func45, Tryz.ntmps45; go_wp2_with fail; refine HLI.out.mono ?_; rintro e w1 ⟨vr, rfl, ho, k1⟩; obtain ⟨ar, cr, rfl, hcr⟩ := ho.shape; have H1 := Lib.hid (And.intro ho k1); clear ho k1 HLI hcr c0 c1 c2 c3; go_wp2_with fail
  go_loopg [14] F.length (fun g i wr => ∃ k : Nat, i = .int .i64 (k : Nat) ∧ k ≤ F.length ∧ g = F.length - k ∧ Hid (Keep [] w1 wr))
  case atStart => exact ⟨0, rfl, Nat.zero_le _, rfl, Lib.hid (Keep.refl _ _)⟩
  case round =>
    obtain ⟨k, rfl, hk, hg, HK⟩ := hrel; by_cases hlt : k < F.length
    · obtain ⟨x, hx⟩ : ∃ x, F[k]? = some x := ⟨_, List.getElem?_eq_getElem hlt⟩
      obtain ⟨ba, oa, ca', hva, hrg⟩ := ((H1.out.1.keep0 HK.out).sl digC_length).rng digC_length hx; cases hva; have HHT := Lib.hid (HAL.out x (List.mem_of_getElem? hx)); have wk := IntWalk.i64_in ((k : Int) + 1) (by omega); have f1 : decide ((k : Int) < (F.length : Nat)) = true := decide_eq_true (by omega)
      have HGX := Lib.hid (fun w' (k : Keep [] w w') => by
        obtain ⟨Y, hst⟩ := (HSK.out w' k).st; exact hst.get x)
      obtain ⟨JC, hJC⟩ : ∃ z, (getJ R x).cells = z := ⟨_, rfl⟩
      have HJC := Lib.hid (show JC.length = 35 ∧ ∀ v ∈ JC, v.oneCell' = true from ⟨by rw [← hJC]; exact Jar.cells_length _, by rw [← hJC]; exact Jar.one _⟩); obtain ⟨DC, hDC⟩ : ∃ z, digC x = z := ⟨_, rfl⟩
      have HDL := Lib.hid (show DC.length = 32 by rw [← hDC]; exact digC_length _); have HDO := Lib.hid (show ∀ v ∈ DC, v.oneCell' = true by rw [← hDC]; exact digC_one _); rw [hJC, hDC, HHT.out] at HGX; rw [hDC] at hrg; have HRG := Lib.hid hrg; clear hrg hDC hJC hx
      go_upto_region 4 with (first | ((with_reducible refine gL 17 16 ?_); refine gl ba (oa + k * 32) DC HRG.out (by rw [HDL.out]; kernel_rfl) ?_; try simp only [sq]) | ((with_reducible refine gS 4 17 ?_); refine wpList_store_new rfl 25 (.tmp 4) (.tmp 17) rfl _ DC (by rfl) (by rfl) (by rw [HDL.out]; kernel_rfl) (by rw [HDL.out]; kernel_rfl) HDO.out ?_) | fail)
      obtain ⟨n4, hn4⟩ : ∃ n, wr.heap.size = n := ⟨_, rfl⟩
      have b3 := Blk.new wr DC 25; rw [hn4] at b3; (try rw [hn4]); have k3 := HK.out.alloc (.cells DC.toArray 25); generalize wr.alloc (.cells DC.toArray 25) = w3 at k3 b3 ⊢; have H3 := Lib.hid (And.intro k3 b3); have HGE := Lib.hid (fun w' (k : Keep [] w3 w') => HGX.out w' ((H1.out.2.trans H3.out.1).trans k))
      have HC := Lib.hid (show ∀ w', Keep [] w3 w' → w'.cell? ⟨s, 1, none⟩ = some (.pointer (some ⟨r, 0, none⟩)) ∧ w'.rangeAt n4 0 DC from fun w' k =>
        ⟨((HSK.out _ ((H1.out.2.trans H3.out.1).trans k)).cells).2.1, (k.blk H3.out.2 (by simp)).rng⟩)
      clear k3 b3 hn4; try simp only [Act.put]
      go_cut [6] (fun v wx => v = .bool true ∧ Hid (Keep [] w3 wx))
      case first =>
        refine wp_region_held_drew (S := fun w' => Keep [] w3 w') (by kernel_rfl) ((Keep.refl [] w3).drew) (fun hHeld => ?_); refine gW 0 ?_; (try simp only [sq]); refine gW 1 ?_; (try simp only [sq]); refine gW 2 ?_; (try simp only [sq]); refine gW 3 ?_; (try simp only [sq]); refine gV 4 (v := ?_) ?_ ?_; rotate_left
        · (intro w' hSw; have c1 := (HC.out w' hSw).1; go_simp) <;> (with_reducible rfl)
        (try simp only [sq]); refine gZ 5 n4 0 (DC) (fun w' hSw => ((HC.out w' hSw).2)) (by rw [HDL.out]; kernel_rfl) ?_; (try simp only [sq]); refine wpAnyH_ready (rs := [6, 10]) (by kernel_rfl) (by simp) (AllReadyH.cons rfl (fun K hK => ?_) (AllReadyH.cons rfl (fun K hK => ?_) AllReadyH.nil))
        · go_simp; refine (HGE.out _ hHeld).mono ?_; rintro e wq ⟨rfl, kq⟩; have kk := hHeld.trans kq; try (have hbX := kq.blk hbX (by simp))
          clear kq; (try go_simp); refine hK.out _ _ (kk) (fun hHeld => ?_); clear hK K; (try simp only [sq]); refine gW 7 ?_; (try simp only [sq]); refine gW 8 ?_; (try simp only [sq]); refine gW 9 ?_; (try simp only [sq]); refine gR 10 rfl (fun K hK => ?_); go_simp; have hbX := Blk.new (wq) jar0.cells 63; have hbn := hHeld.size; rw [eqJ8]; refine hK.out _ _ (hHeld.alloc _) (fun hHeld => ?_); clear hK K; (try simp only [sq]); refine gR 11 rfl (fun K hK => ?_); rw [if_pos (by rfl)]; refine wp_store_mid 63 (.tmp 5) (.tmp 26) rfl _ 0 JC.toArray (by rfl) (by rfl) (by simp only [List.size_toArray, HJC.out.1]; exact hbX.thr 0 35 (by rw [Jar.cells_length]; omega)) (by simp only [List.size_toArray, HJC.out.1]; kernel_rfl) (all_oneCell_toArray HJC.out.2) ?_; refine hK.out _ _ (Keep.cellsTo _ (fun hh => absurd hh (Nat.not_lt.2 hbn)) _ _ _ hHeld) (fun hHeld => ?_); clear hK K; (try simp only [sq]); refine gW 12 ?_; (try simp only [sq]); refine wpAnyH_done (by kernel_rfl) ?_ _; go_wp2_with fail; go_meet; exact ⟨rfl, Lib.hid hHeld⟩
        · go_simp; have hbX := Blk.new ((World.drew w3)) jar0.cells 63; have hbn := hHeld.size; rw [eqJ8]; refine hK.out _ _ (hHeld.alloc _) (fun hHeld => ?_); clear hK K; (try simp only [sq]); refine gR 6 rfl (fun K hK => ?_); go_simp; refine (HGE.out _ hHeld).mono ?_; rintro e wq ⟨rfl, kq⟩; have kk := hHeld.trans kq; try (have hbX := kq.blk hbX (by simp))
          clear kq; (try go_simp); refine hK.out _ _ (kk) (fun hHeld => ?_); clear hK K; (try simp only [sq]); refine gW 7 ?_; (try simp only [sq]); refine gW 8 ?_; (try simp only [sq]); refine gW 9 ?_; (try simp only [sq]); refine gR 11 rfl (fun K hK => ?_); rw [if_pos (by rfl)]; refine wp_store_mid 63 (.tmp 5) (.tmp 26) rfl _ 0 JC.toArray (by rfl) (by rfl) (by simp only [List.size_toArray, HJC.out.1]; exact hbX.thr 0 35 (by rw [Jar.cells_length]; omega)) (by simp only [List.size_toArray, HJC.out.1]; kernel_rfl) (all_oneCell_toArray HJC.out.2) ?_; refine hK.out _ _ (Keep.cellsTo _ (fun hh => absurd hh (Nat.not_lt.2 hbn)) _ _ _ hHeld) (fun hHeld => ?_); clear hK K; (try simp only [sq]); refine gW 12 ?_; (try simp only [sq]); refine wpAnyH_done (by kernel_rfl) ?_ _; go_wp2_with fail; go_meet; exact ⟨rfl, Lib.hid hHeld⟩
      case rest =>
      obtain ⟨rfl, K4⟩ := hcut; have K5 := Lib.hid (H3.out.1.trans K4.out); go_wp2_with fail
      go_roundg (F.length - (k + 1))
      case measure => omega
      case rel => exact ⟨k + 1, by go_num, by omega, rfl, K5⟩
    · have hke : k = F.length := by omega
      have f1 : decide ((k : Int) < (F.length : Nat)) = false := decide_eq_false (by omega); subst hke; go_wp2_with fail; go_ret; exact ⟨rfl, H1.out.2.trans HK.out⟩
end
end Go.Proofs.YtkghgaopcgcheaaGreatDoor
