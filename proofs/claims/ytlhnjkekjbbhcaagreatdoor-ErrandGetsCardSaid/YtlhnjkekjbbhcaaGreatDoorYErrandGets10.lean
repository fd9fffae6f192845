/- Parts of the proof of ErrandGets, in order. No conditions but those that each theorem states. -/
import Derived.Test.YtlhnjkekjbbhcaaGreatDoorYErrandGets0
import Derived.Test.YtlhnjkekjbbhcaaGreatDoorYErrandGets7
set_option linter.unusedSimpArgs false
set_option linter.unusedVariables false
namespace Go.Proofs.YtlhnjkekjbbhcaaGreatDoor
open Go.RowKit
def hexOk (l : List UInt8) : Bool := !l.isEmpty && decide (l.length ≤ 16) && l.all digOk
def unhexV (l : List UInt8) (most : Int) : Int := if hexOk l then boundV 16 l most else 0
def unhexE (l : List UInt8) (most : Int) : Int := if hexOk l then boundE 16 l most else 3
theorem unhex_range (l : List UInt8) (most : Int) : (unhexE l most = 0 → 0 ≤ unhexV l most ∧ unhexV l most ≤ most) ∧ (unhexE l most ≠ 0 → unhexV l most = 0 ∧ (unhexE l most = 14 ∨ unhexE l most = 3)) := by
  unfold unhexE unhexV; have := boundV_range (m := 16) (by omega) l most
  cases hexOk l with
  | false => simp
  | true => simp only [if_true]; exact ⟨this.1, fun h => ⟨(this.2 h).1, .inl (this.2 h).2⟩⟩
set_option maxRecDepth 100000 in
set_option maxHeartbeats 1000000 in
theorem hexa_Unhexnum (l : List UInt8) (most : Int) (w : World) (hs : l.length ≤ maxLen) :
    Calls Tryz.prog 227 #[.string (S l), .int .i64 most] w fun e w' => e = .returned (.tuple #[.int .i64 (unhexV l most), .int .i64 (unhexE l most)]) ∧ Keep [] w w' := by
  have hs' : l.length ≤ 9223372036854775807 := hs; have hcv := conv_run w (S l); have hby := Bytes.conv w 5 l; have hkp := conv_keep w 5 (S l); have hsz := S_size l; have hte := S_toList l; have hV : unhexV l most = if hexOk l then boundV 16 l most else 0 := rfl
  have hE : unhexE l most = if hexOk l then boundE 16 l most else 3 := rfl
  have hO : hexOk l = (!l.isEmpty && decide (l.length ≤ 16) && l.all digOk) := rfl; have hBd := fun w1 => hexa_bounded l 16 most w1 hs (by omega) (by omega)
  generalize unhexV l most = v at hV; generalize unhexE l most = e0 at hE; generalize Lib.bytesWorld w 5 (S l) = wb at hcv hby hkp; generalize hX : w.heap.size = X at hcv hby; have HB := Lib.hid hby; have HK := Lib.hid hkp; have HD := Lib.hid (fun (b : UInt8) (w1 : World) => hexa_digit b w1); have HBd := Lib.hid hBd; clear hs hX hby hkp hBd; by_cases h0 : l = []
  · have HF := Lib.hid (show v = 0 ∧ e0 = 3 by subst h0; rw [hV, hE, hO]; exact ⟨rfl, rfl⟩); have h0' : l.isEmpty = true := by rw [h0]; rfl
    clear hV hE hO h0; go_enter Tryz.func227, Tryz.ntmps227; go_wp2_with fail; go_ret2; exact ⟨two_ret HF.out.1.symm HF.out.2.symm, Keep.refl _ _⟩
  have h0' : l.isEmpty = false := by cases l with | nil => exact absurd rfl h0 | cons => rfl
  by_cases h16 : 16 < l.length
  · have HF := Lib.hid (show v = 0 ∧ e0 = 3 by rw [hV, hE, hO, decide_eq_false (show ¬ l.length ≤ 16 by omega)]; simp); have h16' : decide (((l.length : Nat) : Int) > 16) = true := by simp; omega
    clear hV hE hO h0; go_enter Tryz.func227, Tryz.ntmps227; go_wp2_with fail; go_ret2; exact ⟨two_ret HF.out.1.symm HF.out.2.symm, Keep.refl _ _⟩
  have h16' : decide (((l.length : Nat) : Int) > 16) = false := by simp; omega
  have hO2 : hexOk l = l.all digOk := by rw [hO, h0', decide_eq_true (show l.length ≤ 16 by omega)]; simp
  rw [hO2] at hV hE; have HV := Lib.hid (And.intro hV hE); clear hV hE hO hO2 h0; go_enter Tryz.func227, Tryz.ntmps227; go_wp2_with fail
  go_loopg [20] l.length (fun g i wr => ∃ k : Nat, i = .int .i64 k ∧ k ≤ l.length ∧ g = l.length - k ∧ wb = wr ∧ Hid ((l.take k).all digOk = true))
  case atStart => exact ⟨0, rfl, Nat.zero_le _, by omega, rfl, by simp [Hid]⟩
  case round =>
    obtain ⟨k, rfl, hk, hgk, rfl, HA⟩ := hrel; by_cases hlt : k < l.length
    · obtain ⟨c, hg⟩ : ∃ c, l[k]? = some c := ⟨_, List.getElem?_eq_getElem hlt⟩
      have hc := HB.out.1 k c hg; have hdc := HD.out c; have HG := Lib.hid hg; clear hg
      cases hd : digOk c with
      | true =>
        rw [hd] at hdc; have HA2 := Lib.hid (show (l.take (k + 1)).all digOk = true by rw [take_snoc HG.out, List.all_append, HA.out]; simp [hd]); generalize digV c = x at hdc; have HDC := Lib.hid hdc; clear hd hdc; go_wp2_with fail; refine (HDC.out _).mono ?_; rintro e w1 ⟨rfl, rfl⟩; go_wp2_with fail
        go_roundg (l.length - (k + 1))
        case measure => omega
        case rel => exact ⟨k + 1, by go_num, by omega, rfl, rfl, HA2⟩
      | false =>
        rw [hd] at hdc; have hno : l.all digOk = false := by rw [List.all_eq_false]; exact ⟨c, List.mem_of_getElem? HG.out, by simp [hd]⟩
        have HF := Lib.hid (show v = 0 ∧ e0 = 3 by rw [HV.out.1, HV.out.2, hno]; exact ⟨rfl, rfl⟩); generalize digV c = x at hdc; have HDC := Lib.hid hdc; clear hd hdc hno; go_wp2_with fail; refine (HDC.out _).mono ?_; rintro e w1 ⟨rfl, rfl⟩; go_wp2_with fail; go_ret2; exact ⟨two_ret HF.out.1.symm HF.out.2.symm, HK.out⟩
    · have hall := HA.out; rw [List.take_of_length_le (by omega)] at hall; have HF := Lib.hid (show v = boundV 16 l most ∧ e0 = boundE 16 l most by rw [HV.out.1, HV.out.2, hall]; exact ⟨rfl, rfl⟩); clear hall; go_wp2_with fail; refine (HBd.out _).mono ?_; rintro e w1 ⟨rfl, k1⟩; go_wp2_with fail; go_ret2; exact ⟨two_ret HF.out.1.symm HF.out.2.symm, HK.out.trans k1⟩
def hexN (l : List UInt8) (n : Int) : Int := l.foldl (fun n b => n * 16 + digV b) n
theorem hexN_ge : ∀ (l : List UInt8) (n : Int), 0 ≤ n → n ≤ hexN l n
  | [], n, _ => Int.le_refl _
  | b :: r, n, h => by
    have hv := digV_range b; have := hexN_ge r (n * 16 + digV b) (by omega); show n ≤ hexN r (n * 16 + digV b); omega
theorem gather_fold : ∀ (l : List UInt8) (n : Int), 0 ≤ n → n ≤ 4611686018427387904 → gatherM 16 l n = if hexN l n ≤ 4611686018427387904 then some (hexN l n) else none
  | [], n, _, h => by rw [if_pos (show hexN [] n ≤ _ from h)]; rfl
  | b :: r, n, h0, h => by
    have hv := digV_range b; show (if n * 16 + digV b ≤ 4611686018427387904 then gatherM 16 r (n * 16 + digV b) else none) = if hexN r (n * 16 + digV b) ≤ _ then some (hexN r (n * 16 + digV b)) else none
    by_cases h1 : n * 16 + digV b ≤ 4611686018427387904
    · rw [if_pos h1, gather_fold r _ (by omega) h1]
    · have := hexN_ge r (n * 16 + digV b) (by omega); rw [if_neg h1, if_neg (by omega)]
theorem bound_fold (l : List UInt8) (most : Int) : boundV 16 l most = (if 4611686018427387904 < hexN l 0 ∨ most < hexN l 0 then 0 else hexN l 0) ∧ boundE 16 l most = (if 4611686018427387904 < hexN l 0 ∨ most < hexN l 0 then 14 else 0) := by
  unfold boundV boundE; rw [gather_fold l 0 (by omega) (by omega)]; by_cases h1 : hexN l 0 ≤ 4611686018427387904
  · rw [if_pos h1]; by_cases h2 : most < hexN l 0
    · simp only [if_pos h2]; rw [if_pos (.inr h2), if_pos (.inr h2)]; exact ⟨rfl, rfl⟩
    · simp only [if_neg h2]; rw [if_neg (by omega), if_neg (by omega)]; exact ⟨rfl, rfl⟩
  · rw [if_neg h1, if_pos (.inl (by omega)), if_pos (.inl (by omega))]; exact ⟨rfl, rfl⟩
end Go.Proofs.YtlhnjkekjbbhcaaGreatDoor
