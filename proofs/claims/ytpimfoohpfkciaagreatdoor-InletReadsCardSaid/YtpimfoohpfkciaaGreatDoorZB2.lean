/- Parts of the proof, in order. No conditions but those that each theorem states. -/
import Derived.Test.YtpimfoohpfkciaaGreatDoorZB1
import Derived.Deep.AppendLies
import Derived.Deep.RegionLaw
import Derived.Test.YtpimfoohpfkciaaGreatDoorShelf
import Derived.Lib.Builder
import Derived.Lib.AppendStr
/- Layer 1: Unhexnum, Value; the document's. No conditions but on lengths. -/
namespace Go.Proofs.YtpimfoohpfkciaaGreatDoor
open Go.RowKit

def hexOk (l : List UInt8) : Bool := !l.isEmpty && decide (l.length ≤ 16) && l.all digOk
def unhexV (l : List UInt8) (most : Int) : Int := if hexOk l then boundV 16 l most else 0
def unhexE (l : List UInt8) (most : Int) : Int := if hexOk l then boundE 16 l most else 3
theorem unhex_range (l : List UInt8) (most : Int) : (unhexE l most = 0 → 0 ≤ unhexV l most ∧ unhexV l most ≤ most) ∧ (unhexE l most ≠ 0 → unhexV l most = 0 ∧ (unhexE l most = 14 ∨ unhexE l most = 3)) := by
  unfold unhexE unhexV
  have := boundV_range (m := 16) (by omega) l most
  cases hexOk l with
  | false => simp
  | true => simp only [if_true]; exact ⟨this.1, fun h => ⟨(this.2 h).1, .inl (this.2 h).2⟩⟩

set_option maxRecDepth 100000 in
set_option maxHeartbeats 1000000 in
theorem hexa_Unhexnum (l : List UInt8) (most : Int) (w : World) (hs : l.length ≤ maxLen) :
    Calls Tryz.prog 105 #[.string (S l), .int .i64 most] w fun e w' => e = .returned (.tuple #[.int .i64 (unhexV l most), .int .i64 (unhexE l most)]) ∧ Keep [] w w' := by
  have hs' : l.length ≤ 9223372036854775807 := hs
  have hcv := conv_run w (S l)
  have hby := Bytes.conv w 5 l
  have hkp := conv_keep w 5 (S l)
  have hsz := S_size l
  have hte := S_toList l
  have hV : unhexV l most = if hexOk l then boundV 16 l most else 0 := rfl
  have hE : unhexE l most = if hexOk l then boundE 16 l most else 3 := rfl
  have hO : hexOk l = (!l.isEmpty && decide (l.length ≤ 16) && l.all digOk) := rfl
  have hBd := fun w1 => hexa_bounded l 16 most w1 hs (by omega) (by omega)
  generalize unhexV l most = v at hV
  generalize unhexE l most = e0 at hE
  generalize Lib.bytesWorld w 5 (S l) = wb at hcv hby hkp
  generalize hX : w.heap.size = X at hcv hby
  have HB := Lib.hid hby
  have HK := Lib.hid hkp
  have HD := Lib.hid (fun (b : UInt8) (w1 : World) => hexa_digit b w1)
  have HBd := Lib.hid hBd
  clear hs hX hby hkp hBd
  by_cases h0 : l = []
  · have HF := Lib.hid (show v = 0 ∧ e0 = 3 by subst h0; rw [hV, hE, hO]; exact ⟨rfl, rfl⟩)
    have h0' : l.isEmpty = true := by rw [h0]; rfl
    clear hV hE hO h0
    go_enter Tryz.func105, Tryz.ntmps105
    go_wp2_with fail
    go_ret2
    exact ⟨two_ret HF.out.1.symm HF.out.2.symm, Keep.refl _ _⟩
  have h0' : l.isEmpty = false := by cases l with | nil => exact absurd rfl h0 | cons => rfl
  by_cases h16 : 16 < l.length
  · have HF := Lib.hid (show v = 0 ∧ e0 = 3 by rw [hV, hE, hO, decide_eq_false (show ¬ l.length ≤ 16 by omega)]; simp)
    have h16' : decide (((l.length : Nat) : Int) > 16) = true := by simp; omega
    clear hV hE hO h0
    go_enter Tryz.func105, Tryz.ntmps105
    go_wp2_with fail
    go_ret2
    exact ⟨two_ret HF.out.1.symm HF.out.2.symm, Keep.refl _ _⟩
  have h16' : decide (((l.length : Nat) : Int) > 16) = false := by simp; omega
  have hO2 : hexOk l = l.all digOk := by rw [hO, h0', decide_eq_true (show l.length ≤ 16 by omega)]; simp
  rw [hO2] at hV hE
  have HV := Lib.hid (And.intro hV hE)
  clear hV hE hO hO2 h0
  go_enter Tryz.func105, Tryz.ntmps105
  go_wp2_with fail
  go_loopg [20] l.length (fun g i wr => ∃ k : Nat, i = .int .i64 k ∧ k ≤ l.length ∧ g = l.length - k ∧ wb = wr ∧ Hid ((l.take k).all digOk = true))
  case atStart => exact ⟨0, rfl, Nat.zero_le _, by omega, rfl, by simp [Hid]⟩
  case round =>
    obtain ⟨k, rfl, hk, hgk, rfl, HA⟩ := hrel
    by_cases hlt : k < l.length
    · obtain ⟨c, hg⟩ : ∃ c, l[k]? = some c := ⟨_, List.getElem?_eq_getElem hlt⟩
      have hc := HB.out.1 k c hg
      have hdc := HD.out c
      have HG := Lib.hid hg
      clear hg
      cases hd : digOk c with
      | true =>
        rw [hd] at hdc
        have HA2 := Lib.hid (show (l.take (k + 1)).all digOk = true by rw [take_snoc HG.out, List.all_append, HA.out]; simp [hd])
        generalize digV c = x at hdc
        have HDC := Lib.hid hdc
        clear hd hdc
        go_wp2_with fail
        refine (HDC.out _).mono ?_
        rintro e w1 ⟨rfl, rfl⟩
        go_wp2_with fail
        go_roundg (l.length - (k + 1))
        case measure => omega
        case rel => exact ⟨k + 1, by go_num, by omega, rfl, rfl, HA2⟩
      | false =>
        rw [hd] at hdc
        have hno : l.all digOk = false := by rw [List.all_eq_false]; exact ⟨c, List.mem_of_getElem? HG.out, by simp [hd]⟩
        have HF := Lib.hid (show v = 0 ∧ e0 = 3 by rw [HV.out.1, HV.out.2, hno]; exact ⟨rfl, rfl⟩)
        generalize digV c = x at hdc
        have HDC := Lib.hid hdc
        clear hd hdc hno
        go_wp2_with fail
        refine (HDC.out _).mono ?_
        rintro e w1 ⟨rfl, rfl⟩
        go_wp2_with fail
        go_ret2
        exact ⟨two_ret HF.out.1.symm HF.out.2.symm, HK.out⟩
    · have hall := HA.out
      rw [List.take_of_length_le (by omega)] at hall
      have HF := Lib.hid (show v = boundV 16 l most ∧ e0 = boundE 16 l most by rw [HV.out.1, HV.out.2, hall]; exact ⟨rfl, rfl⟩)
      clear hall
      go_wp2_with fail
      refine (HBd.out _).mono ?_
      rintro e w1 ⟨rfl, k1⟩
      go_wp2_with fail
      go_ret2
      exact ⟨two_ret HF.out.1.symm HF.out.2.symm, HK.out.trans k1⟩

set_option maxHeartbeats 1000000 in
theorem ref_Value (b : UInt8) (w : World) :
    Calls Tryz.prog 71 #[.int .u8 b.toNat] w fun e w' => e = .returned (.int .i64 (if digOk b then digV b else -1)) ∧ w = w' := by
  have hb := u8_nat b
  have hV : digV b = if 48 ≤ b.toNat ∧ b.toNat ≤ 57 then (b.toNat : Int) - 48 else if 97 ≤ b.toNat ∧ b.toNat ≤ 102 then (b.toNat : Int) - 97 + 10 else if 65 ≤ b.toNat ∧ b.toNat ≤ 70 then (b.toNat : Int) - 65 + 10 else 0 := rfl
  have hO : digOk b = (decide (48 ≤ b.toNat ∧ b.toNat ≤ 57) || decide (97 ≤ b.toNat ∧ b.toNat ≤ 102) || decide (65 ≤ b.toNat ∧ b.toNat ≤ 70)) := rfl
  generalize digV b = v at hV
  generalize digOk b = o at hO
  generalize b.toNat = x at *
  have hR : ∀ z : Int, z = (if o = true then v else -1) → z = (if o = true then v else -1) := fun _ h => h
  generalize hz : (if o = true then v else -1) = z at *
  have hyes : ∀ r : Int, o = true → v = r → z = r := fun r h1 h2 => by rw [← hz, if_pos h1, h2]
  have hno : o = false → z = -1 := fun h1 => by rw [← hz, h1]; rfl
  by_cases c1 : 48 ≤ x ∧ x ≤ 57
  · have HF := Lib.hid (hyes ((x : Int) - 48) (by rw [hO]; simp [c1]) (by rw [hV, if_pos c1]))
    obtain ⟨a1, a2⟩ := c1
    clear hV hO hyes hno hR hz
    go_enter Tryz.func71, Tryz.ntmps71
    go_wp2_with fail
    go_ret
    exact ⟨ret_int HF.out.symm, rfl⟩
  by_cases c2 : 97 ≤ x ∧ x ≤ 102
  · have HF := Lib.hid (hyes ((x : Int) - 97 + 10) (by rw [hO]; simp [c2]) (by rw [hV, if_neg c1, if_pos c2]))
    obtain ⟨a1, a2⟩ := c2
    have n1 : ¬ x ≤ 57 := by omega
    have n2 : 48 ≤ x := by omega
    clear hV hO hyes hno hR hz c1
    go_enter Tryz.func71, Tryz.ntmps71
    go_wp2_with fail
    go_ret
    exact ⟨ret_int HF.out.symm, rfl⟩
  by_cases c3 : 65 ≤ x ∧ x ≤ 70
  · have HF := Lib.hid (hyes ((x : Int) - 65 + 10) (by rw [hO]; simp [c3]) (by rw [hV, if_neg c1, if_neg c2, if_pos c3]))
    obtain ⟨a1, a2⟩ := c3
    have n1 : ¬ x ≤ 57 := by omega
    have n2 : 48 ≤ x := by omega
    have n3 : ¬ 97 ≤ x := by omega
    clear hV hO hyes hno hR hz c1 c2
    go_enter Tryz.func71, Tryz.ntmps71
    go_wp2_with fail
    go_ret
    exact ⟨ret_int HF.out.symm, rfl⟩
  have HF := Lib.hid (hno (by rw [hO]; simp [c1, c2, c3]))
  clear hV hO hyes hno hR hz
  by_cases a1 : x < 48
  · have n1 : ¬ 48 ≤ x := by omega
    have n2 : ¬ 97 ≤ x := by omega
    have n3 : ¬ 65 ≤ x := by omega
    clear c1 c2 c3
    go_enter Tryz.func71, Tryz.ntmps71
    go_wp2_with fail
    go_ret
    exact ⟨ret_int HF.out.symm, rfl⟩
  have m1 : 48 ≤ x := by omega
  have m2 : ¬ x ≤ 57 := by omega
  by_cases a2 : x < 65
  · have n2 : ¬ 97 ≤ x := by omega
    have n3 : ¬ 65 ≤ x := by omega
    clear c1 c2 c3
    go_enter Tryz.func71, Tryz.ntmps71
    go_wp2_with fail
    go_ret
    exact ⟨ret_int HF.out.symm, rfl⟩
  have m3 : 65 ≤ x := by omega
  have m4 : ¬ x ≤ 70 := by omega
  by_cases a3 : x < 97
  · have n2 : ¬ 97 ≤ x := by omega
    clear c1 c2 c3
    go_enter Tryz.func71, Tryz.ntmps71
    go_wp2_with fail
    go_ret
    exact ⟨ret_int HF.out.symm, rfl⟩
  have m5 : 97 ≤ x := by omega
  have m6 : ¬ x ≤ 102 := by omega
  clear c1 c2 c3
  go_enter Tryz.func71, Tryz.ntmps71
  go_wp2_with fail
  go_ret
  exact ⟨ret_int HF.out.symm, rfl⟩

def hexN (l : List UInt8) (n : Int) : Int := l.foldl (fun n b => n * 16 + digV b) n
theorem hexN_ge : ∀ (l : List UInt8) (n : Int), 0 ≤ n → n ≤ hexN l n
  | [], n, _ => Int.le_refl _
  | b :: r, n, h => by
    have hv := digV_range b
    have := hexN_ge r (n * 16 + digV b) (by omega)
    show n ≤ hexN r (n * 16 + digV b)
    omega
theorem gather_fold : ∀ (l : List UInt8) (n : Int), 0 ≤ n → n ≤ 4611686018427387904 → gatherM 16 l n = if hexN l n ≤ 4611686018427387904 then some (hexN l n) else none
  | [], n, _, h => by rw [if_pos (show hexN [] n ≤ _ from h)]; rfl
  | b :: r, n, h0, h => by
    have hv := digV_range b
    show (if n * 16 + digV b ≤ 4611686018427387904 then gatherM 16 r (n * 16 + digV b) else none) = if hexN r (n * 16 + digV b) ≤ _ then some (hexN r (n * 16 + digV b)) else none
    by_cases h1 : n * 16 + digV b ≤ 4611686018427387904
    · rw [if_pos h1, gather_fold r _ (by omega) h1]
    · have := hexN_ge r (n * 16 + digV b) (by omega)
      rw [if_neg h1, if_neg (by omega)]
theorem hexN_lt : ∀ (l : List UInt8) (n : Int), 0 ≤ n → hexN l n < (n + 1) * 16 ^ l.length
  | [], n, _ => by show n < (n + 1) * 1; omega
  | b :: r, n, h => by
    have hv := digV_range b
    have h1 := hexN_lt r (n * 16 + digV b) (by omega)
    show hexN r (n * 16 + digV b) < (n + 1) * 16 ^ (r.length + 1)
    have h2 : (n * 16 + digV b + 1) * 16 ^ r.length ≤ (n + 1) * 16 * 16 ^ r.length := Int.mul_le_mul_of_nonneg_right (by omega) (Int.le_of_lt (Int.pow_pos (by omega)))
    rw [Int.pow_succ, Int.mul_comm (16 ^ r.length) 16, ← Int.mul_assoc]
    omega
theorem hexN_small (l : List UInt8) {k : Nat} (hk : k ≤ 15) : 0 ≤ hexN (l.take k) 0 ∧ hexN (l.take k) 0 < 1152921504606846976 := by
  have h1 := hexN_lt (l.take k) 0 (by omega)
  refine ⟨hexN_ge _ 0 (by omega), ?_⟩
  have h2 : (16 : Int) ^ (l.take k).length ≤ 16 ^ 15 := (show ∀ n : Fin 16, (16 : Int) ^ n.1 ≤ 16 ^ 15 by decide) ⟨(l.take k).length, by rw [List.length_take]; omega⟩
  have h3 : (16 : Int) ^ 15 = 1152921504606846976 := by decide
  omega
theorem hexN_snoc {l : List UInt8} {k : Nat} {c : UInt8} (h : l[k]? = some c) : hexN (l.take (k + 1)) 0 = hexN (l.take k) 0 * 16 + digV c := by
  rw [take_snoc h]; unfold hexN; rw [List.foldl_append]; rfl
theorem bound_fold (l : List UInt8) (most : Int) : boundV 16 l most = (if 4611686018427387904 < hexN l 0 ∨ most < hexN l 0 then 0 else hexN l 0) ∧ boundE 16 l most = (if 4611686018427387904 < hexN l 0 ∨ most < hexN l 0 then 14 else 0) := by
  unfold boundV boundE
  rw [gather_fold l 0 (by omega) (by omega)]
  by_cases h1 : hexN l 0 ≤ 4611686018427387904
  · rw [if_pos h1]
    by_cases h2 : most < hexN l 0
    · simp only [if_pos h2]; rw [if_pos (.inr h2), if_pos (.inr h2)]; exact ⟨rfl, rfl⟩
    · simp only [if_neg h2]; rw [if_neg (by omega), if_neg (by omega)]; exact ⟨rfl, rfl⟩
  · rw [if_neg h1, if_pos (.inl (by omega)), if_pos (.inl (by omega))]
    exact ⟨rfl, rfl⟩

set_option maxRecDepth 100000 in
set_option maxHeartbeats 1000000 in
theorem ref_Unhexnum (l : List UInt8) (most : Int) (w : World) (hs : l.length ≤ maxLen) :
    Calls Tryz.prog 72 #[.string (S l), .int .i64 most] w fun e w' => e = .returned (.tuple #[.int .i64 (unhexV l most), .int .i64 (unhexE l most)]) ∧ w = w' := by
  have hs' : l.length ≤ 9223372036854775807 := hs
  have hsz := S_size l
  have hte := S_toList l
  have hV : unhexV l most = if hexOk l then boundV 16 l most else 0 := rfl
  have hE : unhexE l most = if hexOk l then boundE 16 l most else 3 := rfl
  have hO : hexOk l = (!l.isEmpty && decide (l.length ≤ 16) && l.all digOk) := rfl
  obtain ⟨hB1, hB2⟩ := bound_fold l most
  rw [hB1] at hV
  rw [hB2] at hE
  generalize unhexV l most = v at hV
  generalize unhexE l most = e0 at hE
  have HD := Lib.hid (fun (b : UInt8) (w1 : World) => ref_Value b w1)
  clear hs hB1 hB2
  by_cases h0 : l = []
  · have HF := Lib.hid (show v = 0 ∧ e0 = 3 by subst h0; rw [hV, hE, hO]; exact ⟨rfl, rfl⟩)
    have h0' : l.isEmpty = true := by rw [h0]; rfl
    clear hV hE hO h0
    go_enter Tryz.func72, Tryz.ntmps72
    go_wp2_with fail
    go_ret2
    exact ⟨two_ret HF.out.1.symm HF.out.2.symm, rfl⟩
  have h0' : l.isEmpty = false := by cases l with | nil => exact absurd rfl h0 | cons => rfl
  by_cases h16 : 16 < l.length
  · have HF := Lib.hid (show v = 0 ∧ e0 = 3 by rw [hV, hE, hO, decide_eq_false (show ¬ l.length ≤ 16 by omega)]; simp)
    have h16' : decide (((l.length : Nat) : Int) > 16) = true := by simp; omega
    clear hV hE hO h0
    go_enter Tryz.func72, Tryz.ntmps72
    go_wp2_with fail
    go_ret2
    exact ⟨two_ret HF.out.1.symm HF.out.2.symm, rfl⟩
  have h16' : decide (((l.length : Nat) : Int) > 16) = false := by simp; omega
  have hO2 : hexOk l = l.all digOk := by rw [hO, h0', decide_eq_true (show l.length ≤ 16 by omega)]; simp
  rw [hO2] at hV hE
  have HV := Lib.hid (And.intro hV hE)
  clear hV hE hO hO2 h0
  go_enter Tryz.func72, Tryz.ntmps72
  go_wp2_with fail
  go_loopg [6, 7] l.length (fun g nv i wr => ∃ (k : Nat) (n : Int), nv = .int .u64 n ∧ i = .int .i64 k ∧ k ≤ l.length ∧ g = l.length - k ∧ 0 ≤ n ∧ n < 18446744073709551616 ∧ w = wr ∧ Hid ((l.take k).all digOk = true ∧ n = hexN (l.take k) 0))
  case atStart => exact ⟨0, 0, rfl, rfl, Nat.zero_le _, by omega, by omega, by omega, rfl, Lib.hid ⟨by simp, rfl⟩⟩
  case round =>
    obtain ⟨k, n, rfl, rfl, hk, hgk, hn0, hn1, rfl, HA⟩ := hrel
    by_cases hlt : k < l.length
    · obtain ⟨c, hg⟩ : ∃ c, l[k]? = some c := ⟨_, List.getElem?_eq_getElem hlt⟩
      have hgc := fun hk2 => S_get (l := l) (k := k) (c := c) hg hk2
      have hdc := HD.out c
      have HG := Lib.hid hg
      have hh0 : (0 : Int) ≤ (k : Int) := by omega
      have hh1 : (k : Int) < (l.length : Int) := by omega
      clear hg
      cases hd : digOk c with
      | true =>
        rw [hd, if_pos rfl] at hdc
        have hsm := hexN_small l (k := k) (by omega)
        have HA2 := Lib.hid (show (l.take (k + 1)).all digOk = true ∧ n * 16 + digV c = hexN (l.take (k + 1)) 0 from ⟨by rw [take_snoc HG.out, List.all_append, HA.out.1]; simp [hd], by rw [hexN_snoc HG.out, ← HA.out.2]⟩)
        rw [← HA.out.2] at hsm
        obtain ⟨v0, v1⟩ := digV_range c
        generalize digV c = x at hdc HA2 v0 v1
        have x1 := IntWalk.u64_in (n * 16) (by omega)
        have x2 := IntWalk.u64_in x (by omega)
        have x3 := IntWalk.u64_in (n * 16 + x) (by omega)
        have x4 : decide (x < 0) = false := by simp; omega
        have HDC := Lib.hid hdc
        clear hd hdc
        go_wp2_with fail
        refine (HDC.out _).mono ?_
        rintro e w1 ⟨rfl, rfl⟩
        go_wp2_with fail
        refine (HDC.out _).mono ?_
        rintro e w1 ⟨rfl, rfl⟩
        go_wp2_with fail
        go_roundg (l.length - (k + 1))
        case measure => omega
        case rel => exact ⟨k + 1, n * 16 + x, rfl, by go_num, by omega, rfl, by omega, by omega, rfl, HA2⟩
      | false =>
        rw [hd, if_neg (by simp)] at hdc
        have hno : l.all digOk = false := by rw [List.all_eq_false]; exact ⟨c, List.mem_of_getElem? HG.out, by simp [hd]⟩
        have HF := Lib.hid (show v = 0 ∧ e0 = 3 by rw [HV.out.1, HV.out.2, hno]; exact ⟨rfl, rfl⟩)
        have HDC := Lib.hid hdc
        clear hd hdc hno
        go_wp2_with fail
        refine (HDC.out _).mono ?_
        rintro e w1 ⟨rfl, rfl⟩
        go_wp2_with fail
        go_ret2
        exact ⟨two_ret HF.out.1.symm HF.out.2.symm, rfl⟩
    · obtain ⟨hall, hn⟩ := HA.out
      rw [List.take_of_length_le (by omega)] at hall hn
      have hF : v = (if 4611686018427387904 < n ∨ most < n then 0 else n) ∧ e0 = (if 4611686018427387904 < n ∨ most < n then 14 else 0) := by rw [HV.out.1, HV.out.2, hall, hn]; exact ⟨rfl, rfl⟩
      have hge : ¬ (k : Int) < (l.length : Int) := by omega
      clear hall hn
      by_cases b1 : 4611686018427387904 < n
      · rw [if_pos (.inl b1), if_pos (.inl b1)] at hF
        have HF := Lib.hid hF
        clear hF
        go_wp2_with fail
        go_ret2
        exact ⟨two_ret HF.out.1.symm HF.out.2.symm, rfl⟩
      · have x1 := IntWalk.i64_in n (by omega)
        by_cases b2 : most < n
        · rw [if_pos (.inr b2), if_pos (.inr b2)] at hF
          have HF := Lib.hid hF
          clear hF
          go_wp2_with fail
          go_ret2
          exact ⟨two_ret HF.out.1.symm HF.out.2.symm, rfl⟩
        · rw [if_neg (by omega), if_neg (by omega)] at hF
          have HF := Lib.hid hF
          clear hF
          go_wp2_with fail
          go_ret2
          exact ⟨two_ret HF.out.1.symm HF.out.2.symm, rfl⟩
end Go.Proofs.YtpimfoohpfkciaaGreatDoor

/- Layer 10: the program's cut. No conditions but on lengths. -/
namespace Go.Proofs.YtpimfoohpfkciaaGreatDoor
open Go.RowKit Go.Shelf

theorem piece_snoc {l : List UInt8} {k f : Nat} {c : UInt8} (h : l[k]? = some c) (hf : f ≤ k) : (l.take (k + 1)).drop f = (l.take k).drop f ++ [c] := by
  have hl := (List.getElem?_eq_some_iff.1 h).1
  rw [take_snoc h, List.drop_append_of_le_length (by simp; omega)]

set_option maxRecDepth 100000 in
set_option maxHeartbeats 2000000 in
theorem field_cut (l : List UInt8) (b : UInt8) (w : World) (hs : l.length ≤ 1048576) :
    Calls Tryz.prog 86 #[.string (S l), .int .u8 b.toNat] w (Texts w (cutW l b)) := by
  have hsz := S_size l
  have HT := Lib.hid (fun (p : List UInt8) (h : p.length ≤ 1048576) (w1 : World) => field_trim p w1 (show p.length ≤ 9223372036854775807 by omega))
  have HM := Lib.hid (show maxLen = 9223372036854775807 from rfl)
  obtain ⟨is, Hs⟩ := strinfo'
  go_enter Tryz.func86, Tryz.ntmps86
  go_wp2_with fail
  go_loopg [4, 5, 6, 7] (l.length + 1) (fun g o fv qv i wr => ∃ (k f : Nat) (O : List (List UInt8)) (q : Bool), i = .int .i64 k ∧ k ≤ l.length + 1 ∧ g = l.length + 1 - k ∧ fv = .int .i64 f ∧ f ≤ l.length ∧ f ≤ k ∧ qv = .bool q ∧
    Own strC 1 w.heap.size 9 wr o O ∧ Keep [] w wr ∧ O.length ≤ k ∧ Hid (cutW l b = O ++ cutM b (l.drop k) q ((l.take k).drop f)))
  case atStart =>
    exact ⟨0, 0, [], false, rfl, Nat.zero_le _, by omega, rfl, Nat.zero_le _, Nat.le_refl _, rfl, Own.nil strC 1 _ _ w, Keep.refl [] w, Nat.le_refl _, rfl⟩
  case round =>
    obtain ⟨k, f, O, q, rfl, hk, hgk, rfl, hfl, hfk, rfl, ho, hkr, hol, hcm⟩ := hrel
    have HO := Lib.hid ho
    have HK := Lib.hid hkr
    clear ho hkr
    by_cases hlt : k < l.length
    · obtain ⟨c, hg⟩ : ∃ c, l[k]? = some c := ⟨_, List.getElem?_eq_getElem hlt⟩
      have hc8 := u8_nat c
      have hget := S_get hg
      have HD := Lib.hid (drop_at hg)
      have HPS := Lib.hid (piece_snoc hg hfk)
      clear hg
      by_cases h34 : c.toNat = 34
      · obtain ⟨q1, q2⟩ := int_eq (show ((c.toNat : Nat) : Int) = 34 by omega)
        have hn : Hid (cutW l b = O ++ cutM b (l.drop (k + 1)) (!q) ((l.take (k + 1)).drop f)) := by rw [Hid, hcm.out, HD.out, cutM_quote h34, HPS.out]
        clear hcm
        go_wp2_with fail
        go_roundg (l.length + 1 - (k + 1))
        case measure => omega
        case rel => exact ⟨k + 1, f, O, !q, by go_num, by omega, rfl, rfl, hfl, by omega, rfl, HO.out, HK.out, by omega, hn⟩
      · obtain ⟨q1, q2⟩ := int_ne (show ((c.toNat : Nat) : Int) ≠ 34 by omega)
        cases q with
        | true =>
          by_cases h92 : c.toNat = 92
          · obtain ⟨q3, q4⟩ := int_eq (show ((c.toNat : Nat) : Int) = 92 by omega)
            have hn : Hid (cutW l b = O ++ cutM b (l.drop (k + 2)) true ((l.take (k + 2)).drop f)) := by
              by_cases hl2 : k + 1 < l.length
              · obtain ⟨d, hg2⟩ : ∃ d, l[k + 1]? = some d := ⟨_, List.getElem?_eq_getElem hl2⟩
                rw [Hid, hcm.out, HD.out, drop_at hg2, cutM_slash h92, piece_snoc hg2 (by omega), HPS.out]; simp
              · have e1 : l.drop (k + 1) = [] := List.drop_eq_nil_of_le (by omega)
                have e2 : l.drop (k + 2) = [] := List.drop_eq_nil_of_le (by omega)
                have e3 : l.take (k + 2) = l.take (k + 1) := by rw [List.take_of_length_le (by omega), List.take_of_length_le (by omega)]
                rw [Hid, hcm.out, HD.out, e1, cutM_slash_end h92, e2, e3, HPS.out]; rfl
            clear hcm
            go_wp2_with fail
            go_roundg (l.length + 1 - (k + 2))
            case measure => omega
            case rel => exact ⟨k + 2, f, O, true, by go_num, by omega, rfl, rfl, hfl, by omega, rfl, HO.out, HK.out, by omega, hn⟩
          · obtain ⟨q3, q4⟩ := int_ne (show ((c.toNat : Nat) : Int) ≠ 92 by omega)
            have hn : Hid (cutW l b = O ++ cutM b (l.drop (k + 1)) true ((l.take (k + 1)).drop f)) := by rw [Hid, hcm.out, HD.out, cutM_plain h34 (by simp [h92]) (by simp), HPS.out]
            clear hcm
            by_cases hb : c = b
            · obtain ⟨q5, q6⟩ := nat_eq (congrArg UInt8.toNat hb)
              have hbn := congrArg UInt8.toNat hb
              clear hb
              go_wp2_with fail
              go_roundg (l.length + 1 - (k + 1))
              case measure => omega
              case rel => exact ⟨k + 1, f, O, true, by go_num, by omega, rfl, rfl, hfl, by omega, rfl, HO.out, HK.out, by omega, hn⟩
            · obtain ⟨q5, q6⟩ := nat_ne (a := c.toNat) (b := b.toNat) (fun h => hb (UInt8.toNat_inj.1 h))
              clear hb
              go_wp2_with fail
              go_roundg (l.length + 1 - (k + 1))
              case measure => omega
              case rel => exact ⟨k + 1, f, O, true, by go_num, by omega, rfl, rfl, hfl, by omega, rfl, HO.out, HK.out, by omega, hn⟩
        | false =>
          have H92 : Hid (∃ z : Bool, (((c.toNat : Nat) : Int) == 92) = z) := ⟨_, rfl⟩
          obtain ⟨z, hz⟩ := H92.out
          by_cases hb : c = b
          · have hn : Hid (cutW l b = (O ++ [trimW ((l.take k).drop f)]) ++ cutM b (l.drop (k + 1)) false ((l.take (k + 1)).drop (k + 1))) := by
              rw [Hid, hcm.out, HD.out, cutM_by h34 hb, show (l.take (k + 1)).drop (k + 1) = [] from List.drop_eq_nil_of_le (by simp; omega)]; simp
            obtain ⟨q5, q6⟩ := nat_eq (congrArg UInt8.toNat hb)
            have hx := S_extract l f k
            have hpl : ((l.take k).drop f).length ≤ 1048576 := by simp; omega
            generalize (l.take k).drop f = p at hx hpl hn
            clear hcm hb HPS
            go_wp2_with (first
              | (go_at_call 77; go_must (refine (HT.out p (by exact hpl) _).mono ?_); rintro e w1 ⟨rfl, hk1⟩)
              | (at_builtin; go_must (refine wpList_append2 rfl _ _ 22 rfl is (.string ⟨#[]⟩) 16 Tryz.underlying22 Hs rfl (by decide) strC_length strC_one w w1 rfl (HK.out.trans hk1) (by rfl) (HO.out.keep0 hk1) (trimW p) _ (strC_of rfl) _ rfl (by have := HM.out; omega) (by omega) ?_); intro v' w2 hown' hk' hside)
              | fail)
            all_goals (
              go_roundg (l.length + 1 - (k + 1))
              case measure => omega
              case rel => exact ⟨k + 1, k + 1, O ++ [trimW p], false, by go_num, by omega, rfl, by go_num, by omega, Nat.le_refl _, rfl, hown', hk', by simp; omega, hn⟩)
          · have hn : Hid (cutW l b = O ++ cutM b (l.drop (k + 1)) false ((l.take (k + 1)).drop f)) := by rw [Hid, hcm.out, HD.out, cutM_plain h34 (by simp) (by simp [hb]), HPS.out]
            obtain ⟨q5, q6⟩ := nat_ne (a := c.toNat) (b := b.toNat) (fun h => hb (UInt8.toNat_inj.1 h))
            clear hcm
            cases z with
            | true =>
              have h92 : ((c.toNat : Nat) : Int) = 92 := by simpa using hz
              have hbn : c.toNat ≠ b.toNat := fun h => hb (UInt8.toNat_inj.1 h)
              obtain ⟨q7, q8⟩ := int_ne (show (92 : Int) ≠ ((b.toNat : Nat) : Int) by omega)
              clear hb
              go_wp2_with fail
              go_roundg (l.length + 1 - (k + 1))
              case measure => omega
              case rel => exact ⟨k + 1, f, O, false, by go_num, by omega, rfl, rfl, hfl, by omega, rfl, HO.out, HK.out, by omega, hn⟩
            | false =>
              clear hb
              go_wp2_with fail
              go_roundg (l.length + 1 - (k + 1))
              case measure => omega
              case rel => exact ⟨k + 1, f, O, false, by go_num, by omega, rfl, rfl, hfl, by omega, rfl, HO.out, HK.out, by omega, hn⟩
    · have hn : Hid (cutW l b = O ++ [trimW (l.drop f)]) := by
        rw [Hid, hcm.out, List.drop_eq_nil_of_le (by omega), List.take_of_length_le (by omega)]; rfl
      have hx : (S l).extract f l.length = S (l.drop f) := by rw [S_extract, List.take_of_length_le (Nat.le_refl _)]
      have hpl : (l.drop f).length ≤ 1048576 := by simp; omega
      generalize l.drop f = p at hx hpl hn
      clear hcm
      go_wp2_with (first
        | (go_at_call 77; go_must (refine (HT.out p (by exact hpl) _).mono ?_); rintro e w1 ⟨rfl, hk1⟩)
        | (at_builtin; go_must (refine wpList_append2 rfl _ _ 22 rfl is (.string ⟨#[]⟩) 16 Tryz.underlying22 Hs rfl (by decide) strC_length strC_one w w1 rfl (HK.out.trans hk1) (by rfl) (HO.out.keep0 hk1) (trimW p) _ (strC_of rfl) _ rfl (by have := HM.out; omega) (by omega) ?_); intro v' w2 hown' hk' hside)
        | fail)
      go_ret
      exact ⟨_, rfl, by rw [hn.out]; exact hown', hk'⟩
end Go.Proofs.YtpimfoohpfkciaaGreatDoor

/- Layer 10: Get. No conditions but on lengths. -/
namespace Go.Proofs.YtpimfoohpfkciaaGreatDoor
open Go.RowKit Go.Shelf

theorem Keep.load {w w' : World} (k : Keep [] w w') {a : Addr} {v : Value} (h : w.cell? a = some v) : w'.cell? a = some v :=
  (k.cell (World.block_lt_of_cell? w a h) (by simp)).trans h
def sameN (n : List UInt8) (f : Fld) : Bool := decide (lowW f.name = lowW n)
def getS (L : List Fld) (n : List UInt8) : List Fld := L.filter (sameN n)
def getV (L : List Fld) (n : List UInt8) : List UInt8 := match getS L n with | [] => [] | f :: _ => f.value
def getN (L : List Fld) (n : List UInt8) : Nat := (getS L n).length
theorem getN_le (L : List Fld) (n : List UInt8) : getN L n ≤ L.length := List.length_filter_le _ _
theorem getS_yes {L : List Fld} {n : List UInt8} {k : Nat} {x : Fld} (h : L[k]? = some x) (hs : lowW x.name = lowW n) : getS (L.take (k + 1)) n = getS (L.take k) n ++ [x] := by
  unfold getS
  rw [List.take_add_one, h, List.filter_append]
  simp [sameN, hs]
theorem getS_no {L : List Fld} {n : List UInt8} {k : Nat} {x : Fld} (h : L[k]? = some x) (hs : ¬ lowW x.name = lowW n) : getS (L.take (k + 1)) n = getS (L.take k) n := by
  unfold getS
  rw [List.take_add_one, h, List.filter_append]
  simp [sameN, hs]
theorem get_first {L : List Fld} {n : List UInt8} {k : Nat} {x : Fld} (h : L[k]? = some x) (hs : lowW x.name = lowW n) (h0 : getN (L.take k) n = 0) : getV (L.take (k + 1)) n = x.value ∧ getN (L.take (k + 1)) n = 1 := by
  have e : getS (L.take k) n = [] := List.eq_nil_of_length_eq_zero h0
  unfold getV getN
  rw [getS_yes h hs, e]
  simp
theorem get_more {L : List Fld} {n : List UInt8} {k : Nat} {x : Fld} (h : L[k]? = some x) (hs : lowW x.name = lowW n) (h0 : getN (L.take k) n ≠ 0) : getV (L.take (k + 1)) n = getV (L.take k) n ∧ getN (L.take (k + 1)) n = getN (L.take k) n + 1 := by
  unfold getV getN
  rw [getS_yes h hs]
  unfold getN at h0
  cases he : getS (L.take k) n with
  | nil => rw [he] at h0; simp at h0
  | cons a r => simp
theorem get_none {L : List Fld} {n : List UInt8} {k : Nat} {x : Fld} (h : L[k]? = some x) (hs : ¬ lowW x.name = lowW n) : getV (L.take (k + 1)) n = getV (L.take k) n ∧ getN (L.take (k + 1)) n = getN (L.take k) n := by
  unfold getV getN
  rw [getS_no h hs]
  exact ⟨rfl, rfl⟩
def GetOut (w : World) (L : List Fld) (n : List UInt8) (e : Ending) (w' : World) : Prop := e = .returned (.tuple #[.string (S (getV L n)), .int .i64 (getN L n)]) ∧ Keep [] w w'

set_option maxRecDepth 100000 in
set_option maxHeartbeats 1000000 in
theorem ref_Get (va : Value) (L : List Fld) (n : List UInt8) (w : World) (ha : Sl Fld.cells 2 w va L) (hg : ∀ x ∈ L, x.name.length ≤ 70368744177664) (hn : n.length ≤ 70368744177664) :
    Calls Tryz.prog 24 #[va, .string (S n)] w (GetOut w L n) := by
  obtain ⟨aa, ca, rfl, hal⟩ := ha.shape
  have hal' : L.length ≤ 9223372036854775807 := hal
  have HA := Lib.hid ha
  have HG := Lib.hid hg
  have HN := Lib.hid hn
  have HL := Lib.hid (fun k => getN_le (L.take k) n)
  clear ha hg hn hal
  go_enter Tryz.func24, Tryz.ntmps24
  go_wp2_with fail
  go_loopg [6, 7, 8] L.length (fun g s c i wr => ∃ k : Nat, i = .int .i64 k ∧ k ≤ L.length ∧ g = L.length - k ∧ s = .string (S (getV (L.take k) n)) ∧ c = .int .i64 (getN (L.take k) n) ∧ Keep [] w wr)
  case atStart => exact ⟨0, rfl, Nat.zero_le _, by omega, rfl, rfl, Keep.refl [] w⟩
  case round =>
    obtain ⟨k, rfl, hk, hgk, rfl, rfl, hkr⟩ := hrel
    have hgl : getN (L.take k) n ≤ k := Nat.le_trans (HL.out k) (by simp; omega)
    by_cases hlt : k < L.length
    · obtain ⟨x, hx⟩ : ∃ x, L[k]? = some x := ⟨_, List.getElem?_eq_getElem hlt⟩
      obtain ⟨b1, o1, c1, e1, l1, m1, x1⟩ := HA.out.cell hx
      simp only [Value.slice.injEq] at e1
      obtain ⟨rfl, _, rfl⟩ := e1
      have a0 := x1 0 (by omega)
      have a1 := x1 1 (by omega)
      simp only [Fld.cells, List.getElem?_cons_zero, List.getElem?_cons_succ, Nat.add_zero] at a0 a1
      have A0 := Lib.hid a0
      have A1 := Lib.hid a1
      have HX := Lib.hid hx
      have HK := Lib.hid hkr
      have hb := HG.out x (List.mem_of_getElem? hx)
      have HB := Lib.hid hb
      clear hx x1 l1 m1 hb a0 a1 hkr
      have d0 := HK.out.load A0.out
      go_upto_region 6 with fail
      go_wp2_with fail
      refine (ref_Low x.name _ HB.out).mono ?_
      rintro e w1 ⟨rfl, hk1⟩
      go_wp2_with fail
      refine (ref_Low n _ HN.out).mono ?_
      rintro e w2 ⟨rfl, hk2⟩
      have HK2 := Lib.hid ((HK.out.trans hk1).trans hk2)
      clear hk1 hk2
      have d1 := HK2.out.load A1.out
      by_cases hs : lowW x.name = lowW n
      · have h1 : ((S (lowW x.name)).toList == (S (lowW n)).toList) = true := by rw [hs]; simp
        have HS := Lib.hid hs
        clear hs
        by_cases h0 : getN (L.take k) n = 0
        · have hr := get_first HX.out HS.out h0
          have HR := Lib.hid hr
          clear hr
          go_wp2_with fail
          go_roundg (L.length - (k + 1))
          case measure => omega
          case rel => exact ⟨k + 1, by go_num, by omega, rfl, by rw [HR.out.1], by rw [HR.out.2]; simp [h0], HK2.out⟩
        · have hr := get_more HX.out HS.out h0
          have HR := Lib.hid hr
          clear hr
          go_wp2_with fail
          go_roundg (L.length - (k + 1))
          case measure => omega
          case rel => exact ⟨k + 1, by go_num, by omega, rfl, by rw [HR.out.1], by rw [HR.out.2]; simp, HK2.out⟩
      · have h1 : ((S (lowW x.name)).toList == (S (lowW n)).toList) = false := by rw [S_toList, S_toList]; simpa using hs
        have HR := Lib.hid (get_none HX.out hs)
        clear hs
        go_wp2_with fail
        go_roundg (L.length - (k + 1))
        case measure => omega
        case rel => exact ⟨k + 1, by go_num, by omega, rfl, by rw [HR.out.1], by rw [HR.out.2], HK2.out⟩
    · have hke : L.take k = L := List.take_of_length_le (by omega)
      rw [hke]
      go_wp2_with fail
      go_ret2
      exact ⟨rfl, hkr⟩


set_option maxRecDepth 100000 in
set_option maxHeartbeats 1000000 in
theorem field_Get (va : Value) (L : List Fld) (n : List UInt8) (w : World) (ha : Sl Fld.cells 2 w va L) (hg : ∀ x ∈ L, x.name.length ≤ maxLen) (hn : n.length ≤ maxLen) :
    Calls Tryz.prog 13 #[va, .string (S n)] w (GetOut w L n) := by
  obtain ⟨aa, ca, rfl, hal⟩ := ha.shape
  have hal' : L.length ≤ 9223372036854775807 := hal
  have HA := Lib.hid ha
  have HG := Lib.hid hg
  have HN := Lib.hid hn
  have HL := Lib.hid (fun k => getN_le (L.take k) n)
  clear ha hg hn hal
  go_enter Tryz.func13, Tryz.ntmps13
  go_wp2_with fail
  go_loopg [4, 5, 10] L.length (fun g s c i wr => ∃ k : Nat, i = .int .i64 k ∧ k ≤ L.length ∧ g = L.length - k ∧ s = .string (S (getV (L.take k) n)) ∧ c = .int .i64 (getN (L.take k) n) ∧ Keep [] w wr)
  case atStart => exact ⟨0, rfl, Nat.zero_le _, by omega, rfl, rfl, Keep.refl [] w⟩
  case round =>
    obtain ⟨k, rfl, hk, hgk, rfl, rfl, hkr⟩ := hrel
    have hgl : getN (L.take k) n ≤ k := Nat.le_trans (HL.out k) (by simp; omega)
    by_cases hlt : k < L.length
    · obtain ⟨x, hx⟩ : ∃ x, L[k]? = some x := ⟨_, List.getElem?_eq_getElem hlt⟩
      obtain ⟨b1, o1, c1, e1, l1, m1, x1⟩ := HA.out.cell hx
      simp only [Value.slice.injEq] at e1
      obtain ⟨rfl, _, rfl⟩ := e1
      have a0 := x1 0 (by omega)
      have a1 := x1 1 (by omega)
      simp only [Fld.cells, List.getElem?_cons_zero, List.getElem?_cons_succ, Nat.add_zero] at a0 a1
      have A0 := Lib.hid a0
      have A1 := Lib.hid a1
      have HX := Lib.hid hx
      have HK := Lib.hid hkr
      have hb := HG.out x (List.mem_of_getElem? hx)
      have HB := Lib.hid hb
      clear hx x1 l1 m1 hb a0 a1 hkr
      have d0 := HK.out.load A0.out
      have hbA := Blk.newA wr #[.string (S x.name), .string (S x.value)] 40
      have HBA := Lib.hid hbA
      clear hbA
      have d2 := HK.out.load A1.out
      go_upto_region 4 with fail
      go_wp2_with fail
      refine (field_low x.name _ HB.out).mono ?_
      rintro e w1 ⟨rfl, hk1⟩
      go_wp2_with fail
      refine (field_low n _ HN.out).mono ?_
      rintro e w2 ⟨rfl, hk2⟩
      have HK2 := Lib.hid (((HK.out.alloc (.cells #[.string (S x.name), .string (S x.value)] 40)).trans hk1).trans hk2)
      have d1 := (hk1.trans hk2).load (HBA.out.get (k := 1) rfl)
      clear hk1 hk2 d0 d2
      by_cases hs : lowW x.name = lowW n
      · have h1 : ((S (lowW x.name)).toList == (S (lowW n)).toList) = true := by rw [hs]; simp
        have HS := Lib.hid hs
        clear hs
        by_cases h0 : getN (L.take k) n = 0
        · have hr := get_first HX.out HS.out h0
          have HR := Lib.hid hr
          clear hr
          go_wp2_with fail
          go_roundg (L.length - (k + 1))
          case measure => omega
          case rel => exact ⟨k + 1, by go_num, by omega, rfl, by rw [HR.out.1], by rw [HR.out.2]; simp, HK2.out⟩
        · have hr := get_more HX.out HS.out h0
          have HR := Lib.hid hr
          clear hr
          go_wp2_with fail
          go_roundg (L.length - (k + 1))
          case measure => omega
          case rel => exact ⟨k + 1, by go_num, by omega, rfl, by rw [HR.out.1], by rw [HR.out.2]; simp, HK2.out⟩
      · have h1 : ((S (lowW x.name)).toList == (S (lowW n)).toList) = false := by rw [S_toList, S_toList]; simpa using hs
        have HR := Lib.hid (get_none HX.out hs)
        clear hs
        go_wp2_with fail
        go_roundg (L.length - (k + 1))
        case measure => omega
        case rel => exact ⟨k + 1, by go_num, by omega, rfl, by rw [HR.out.1], by rw [HR.out.2], HK2.out⟩
    · have hke : L.take k = L := List.take_of_length_le (by omega)
      rw [hke]
      go_wp2_with fail
      go_ret2
      exact ⟨rfl, hkr⟩
end Go.Proofs.YtpimfoohpfkciaaGreatDoor

/- Layer 10: Elements. No conditions but on lengths. -/
namespace Go.Proofs.YtpimfoohpfkciaaGreatDoor
open Go.RowKit Go.Shelf

theorem Sep.of_base {α β : Type} {e1 : α → List Value} {e2 : β → List Value} {n1 n2 b1 b2 : Nat} {E1 E2 : TypeId} {w w' : World} {v u : Value} {L : List α} {M : List β} (h : Own e1 n1 b1 E1 w v L) (h2 : Own e2 n2 b2 E2 w' u M) (hb : w.heap.size ≤ b2) : Sep v u := fun g g1 g2 => by
  have := (h.lt g g1).2
  have := (h2.lt g g2).1
  omega
theorem cutM_length (b : UInt8) : ∀ (l : List UInt8) (q : Bool) (p : List UInt8), (cutM b l q p).length ≤ l.length + 1
  | [], _, _ => by simp [cutM]
  | [c], q, p => by
    rw [cutM.eq_def]; dsimp only
    split
    · have := cutM_length b [] (!q) (p ++ [c]); simp at this ⊢; omega
    · split
      · simp
      · split
        · have := cutM_length b [] q []; simp at this ⊢; omega
        · have := cutM_length b [] q (p ++ [c]); simp at this ⊢; omega
  | c :: d :: r, q, p => by
    rw [cutM.eq_def]; dsimp only
    split
    · have := cutM_length b (d :: r) (!q) (p ++ [c]); simp at this ⊢; omega
    · split
      · have := cutM_length b r q (p ++ [c, d]); simp at this ⊢; omega
      · split
        · have := cutM_length b (d :: r) q []; simp at this ⊢; omega
        · have := cutM_length b (d :: r) q (p ++ [c]); simp at this ⊢; omega
theorem cutW_length (l : List UInt8) (b : UInt8) : (cutW l b).length ≤ l.length + 1 := cutM_length b l _ _
def full (M : List (List UInt8)) : List (List UInt8) := M.filter (fun s => decide (s ≠ []))
def elsM (L : List Fld) (n : List UInt8) : List (List UInt8) := (getS L n).flatMap fun f => full (cutW f.value 44)
theorem els_yes {L : List Fld} {n : List UInt8} {k : Nat} {x : Fld} (h : L[k]? = some x) (hs : lowW x.name = lowW n) : elsM (L.take (k + 1)) n = elsM (L.take k) n ++ full (cutW x.value 44) := by
  unfold elsM
  rw [getS_yes h hs, List.flatMap_append]
  simp
theorem els_no {L : List Fld} {n : List UInt8} {k : Nat} {x : Fld} (h : L[k]? = some x) (hs : ¬ lowW x.name = lowW n) : elsM (L.take (k + 1)) n = elsM (L.take k) n := by
  unfold elsM
  rw [getS_no h hs]
theorem full_yes {M : List (List UInt8)} {j : Nat} {s : List UInt8} (h : M[j]? = some s) (hs : s ≠ []) : full (M.take (j + 1)) = full (M.take j) ++ [s] := by
  unfold full
  rw [List.take_add_one, h, List.filter_append]
  simp [hs]
theorem full_no {M : List (List UInt8)} {j : Nat} {s : List UInt8} (h : M[j]? = some s) (hs : s = []) : full (M.take (j + 1)) = full (M.take j) := by
  unfold full
  rw [List.take_add_one, h, List.filter_append]
  simp [hs]
theorem els_bound {a b m k : Nat} (h1 : a ≤ k * 1048577) (h2 : b ≤ m) (h3 : m ≤ 1048577) : a + b ≤ (k + 1) * 1048577 := by
  rw [Nat.add_mul, Nat.one_mul]
  exact Nat.add_le_add h1 (Nat.le_trans h2 h3)
theorem els_bound0 {a k : Nat} (h1 : a ≤ k * 1048577) : a ≤ (k + 1) * 1048577 := by
  rw [Nat.add_mul]
  exact Nat.le_add_right_of_le h1
theorem full_length (M : List (List UInt8)) : (full M).length ≤ M.length := List.length_filter_le _ _

set_option maxRecDepth 100000 in
set_option maxHeartbeats 2000000 in
theorem ref_Elements (va : Value) (L : List Fld) (n : List UInt8) (w : World) (ha : Sl Fld.cells 2 w va L) (hg : ∀ x ∈ L, x.name.length ≤ 1048576 ∧ x.value.length ≤ 1048576) (hn : n.length ≤ 1048576) (hl : L.length ≤ 1024) :
    Calls Tryz.prog 53 #[va, .string (S n)] w (Texts w (elsM L n)) := by
  obtain ⟨aa, ca, rfl, _⟩ := ha.shape
  have HA := Lib.hid ha
  have HG := Lib.hid hg
  have HN := Lib.hid hn
  obtain ⟨is, Hs⟩ := strinfo'
  have HM := Lib.hid (show maxLen = 9223372036854775807 from rfl)
  clear ha hg hn
  go_enter Tryz.func53, Tryz.ntmps53
  go_wp2_with fail
  go_loopg [5, 6] L.length (fun g o i wr => ∃ k : Nat, i = .int .i64 k ∧ k ≤ L.length ∧ g = L.length - k ∧ Own strC 1 w.heap.size 9 wr o (elsM (L.take k) n) ∧ (elsM (L.take k) n).length ≤ k * 1048577 ∧ Keep [] w wr)
  case atStart => exact ⟨0, rfl, Nat.zero_le _, by omega, Own.none strC 1 9 w (Nat.le_refl _), Nat.zero_le _, (Keep.refl [] w).alloc _⟩
  case round =>
    obtain ⟨k, rfl, hk, hgk, ho, hol, hkr⟩ := hrel
    have HO := Lib.hid ho
    have HK := Lib.hid hkr
    clear ho hkr
    by_cases hlt : k < L.length
    · obtain ⟨x, hx⟩ : ∃ x, L[k]? = some x := ⟨_, List.getElem?_eq_getElem hlt⟩
      obtain ⟨b1, o1, c1, e1, l1, m1, x1⟩ := HA.out.cell hx
      simp only [Value.slice.injEq] at e1
      obtain ⟨rfl, _, rfl⟩ := e1
      have a0 := x1 0 (by omega)
      have a1 := x1 1 (by omega)
      simp only [Fld.cells, List.getElem?_cons_zero, List.getElem?_cons_succ, Nat.add_zero] at a0 a1
      have A0 := Lib.hid a0
      have A1 := Lib.hid a1
      have HX := Lib.hid hx
      have hb := HG.out x (List.mem_of_getElem? hx)
      have HB := Lib.hid hb
      clear hx x1 l1 m1 hb a0 a1
      have d0 := HK.out.load A0.out
      go_upto_region 5 with fail
      go_wp2_with fail
      refine (ref_Low x.name _ (by have := HB.out.1; omega)).mono ?_
      rintro e w1 ⟨rfl, hk1⟩
      go_wp2_with fail
      refine (ref_Low n _ (by have := HN.out; omega)).mono ?_
      rintro e w2 ⟨rfl, hk2⟩
      have HK2 := Lib.hid ((HK.out.trans hk1).trans hk2)
      have HKK := Lib.hid (hk1.trans hk2)
      clear hk1 hk2
      have d1 := HK2.out.load A1.out
      have HO2 := Lib.hid (HO.out.keep0 HKK.out)
      by_cases hs : lowW x.name = lowW n
      · have h1 : ((S (lowW x.name)).toList == (S (lowW n)).toList) = true := by rw [hs]; simp
        have HE := Lib.hid (els_yes HX.out hs)
        have HV := Lib.hid (Nat.le_trans (cutW_length x.value 44) (Nat.succ_le_succ HB.out.2))
        clear hs
        go_wp2_with fail
        refine (ref_Cut x.value 44 _ HB.out.2).mono ?_
        rintro e w3 ⟨vc, rfl, hc, hk3⟩
        have hsep := Sep.of_base HO2.out hc (Nat.le_refl _)
        have HO3 := HO2.out.keep0 hk3
        have HK3 := HK2.out.trans hk3
        have hc3 := hc.lower (base' := w.heap.size) HK2.out.size
        generalize hM : cutW x.value 44 = M at hc3 HE HV
        clear hc hk3 hM
        obtain ⟨ac, cc, rfl, hml⟩ := hc3.shape
        have hml' : M.length ≤ 9223372036854775807 := hml
        have H0 := Lib.hid (And.intro HO3 (And.intro hc3 (And.intro hsep HK3)))
        clear HO3 hc3 hsep HK3 hml
        go_wp2_with fail
        go_loopg [5, 8] M.length (fun g o2 j wz => ∃ m : Nat, j = .int .i64 m ∧ m ≤ M.length ∧ g = M.length - m ∧ Own strC 1 w.heap.size 9 wz o2 (elsM (L.take k) n ++ full (M.take m)) ∧
          Own strC 1 w.heap.size 9 wz (.slice ac M.length cc) M ∧ Sep o2 (.slice ac M.length cc) ∧ Keep [] w wz)
        case atStart => exact ⟨0, rfl, Nat.zero_le _, by omega, by simpa [full] using H0.out.1, H0.out.2.1, H0.out.2.2.1, H0.out.2.2.2⟩
        case round =>
          obtain ⟨m, rfl, hm, hgm, ho2, hc2, hsep2, hkz⟩ := hrel
          have HOz := Lib.hid ho2
          have HCz := Lib.hid hc2
          have HSz := Lib.hid hsep2
          have HKz := Lib.hid hkz
          clear ho2 hc2 hsep2 hkz
          by_cases hlm : m < M.length
          · obtain ⟨s, hs⟩ : ∃ s, M[m]? = some s := ⟨_, List.getElem?_eq_getElem hlm⟩
            obtain ⟨b2, o2, c2, e2, _, _, x2⟩ := (HCz.out.sl strC_length).cell hs
            simp only [Value.slice.injEq] at e2
            obtain ⟨rfl, _, rfl⟩ := e2
            have s0 := x2 0 (by omega)
            simp only [strC, List.getElem?_cons_zero, Nat.add_zero, Nat.mul_one] at s0
            have hte := S_toList s
            have HSS := Lib.hid hs
            clear x2 hs
            by_cases hse : s = []
            · have HF := Lib.hid (full_no HSS.out hse)
              subst hse
              have hq : (S []).toList = [] := S_toList []
              go_wp2_with fail
              go_roundg (M.length - (m + 1))
              case measure => omega
              case rel => exact ⟨m + 1, by go_num, by omega, rfl, by rw [HF.out]; exact HOz.out, HCz.out, HSz.out, HKz.out⟩
            · have HF := Lib.hid (full_yes HSS.out hse)
              have hie : s.isEmpty = false := by cases s <;> simp_all
              have hfl := full_length (M.take m)
              have hfl2 : (M.take m).length ≤ m := by simp; omega
              have hvv : M.length ≤ 1048577 := HV.out
              clear HV
              go_wp2_with (first
                | (at_builtin; go_must (refine wpList_append2 rfl _ _ 22 rfl is (.string ⟨#[]⟩) 16 Tryz.underlying22 Hs rfl (by decide) strC_length strC_one w wr rfl HKz.out (by rfl) HOz.out s _ (strC_of rfl) _ rfl (by have := HM.out; simp; omega) (by simp; omega) ?_); intro v' w4 hown' hk4 hside)
                | fail)
              have h5 := hside HCz.out HSz.out
              go_roundg (M.length - (m + 1))
              case measure => omega
              case rel => exact ⟨m + 1, by go_num, by omega, rfl, by rw [HF.out, ← List.append_assoc]; exact hown', h5.1, h5.2, hk4⟩
          · have hme : M.take m = M := List.take_of_length_le (by omega)
            have hfl := full_length M
            have hvv : M.length ≤ 1048577 := HV.out
            clear HV
            go_wp2_with fail
            go_roundg (L.length - (k + 1))
            case measure => omega
            case rel => exact ⟨k + 1, by go_num, by omega, rfl, by rw [HE.out, ← hme]; exact HOz.out, by rw [HE.out, List.length_append]; exact els_bound hol hfl hvv, HKz.out⟩
      · have h1 : ((S (lowW x.name)).toList == (S (lowW n)).toList) = false := by rw [S_toList, S_toList]; simpa using hs
        have HE := Lib.hid (els_no HX.out hs)
        clear hs
        go_wp2_with fail
        go_roundg (L.length - (k + 1))
        case measure => omega
        case rel => exact ⟨k + 1, by go_num, by omega, rfl, by rw [HE.out]; exact HO2.out, by rw [HE.out]; exact els_bound0 hol, HK2.out⟩
    · have hke : L.take k = L := List.take_of_length_le (by omega)
      rw [hke] at HO
      go_wp2_with fail
      go_ret
      exact ⟨_, rfl, HO.out, HK.out⟩
end Go.Proofs.YtpimfoohpfkciaaGreatDoor

/- Layer 10: the program's Elements. No conditions but on lengths. -/
namespace Go.Proofs.YtpimfoohpfkciaaGreatDoor
open Go.RowKit Go.Shelf

set_option maxRecDepth 100000 in
set_option maxHeartbeats 2000000 in
theorem field_Elements (va : Value) (L : List Fld) (n : List UInt8) (w : World) (ha : Sl Fld.cells 2 w va L) (hg : ∀ x ∈ L, x.name.length ≤ 1048576 ∧ x.value.length ≤ 1048576) (hn : n.length ≤ 1048576) (hl : L.length ≤ 1024) :
    Calls Tryz.prog 67 #[va, .string (S n)] w (Texts w (elsM L n)) := by
  obtain ⟨aa, ca, rfl, _⟩ := ha.shape
  have HA := Lib.hid ha
  have HG := Lib.hid hg
  have HN := Lib.hid hn
  obtain ⟨is, Hs⟩ := strinfo'
  have HM := Lib.hid (show maxLen = 9223372036854775807 from rfl)
  clear ha hg hn
  go_enter Tryz.func67, Tryz.ntmps67
  go_wp2_with fail
  go_loopg [4, 11] L.length (fun g o i wr => ∃ k : Nat, i = .int .i64 k ∧ k ≤ L.length ∧ g = L.length - k ∧ Own strC 1 w.heap.size 9 wr o (elsM (L.take k) n) ∧ (elsM (L.take k) n).length ≤ k * 1048577 ∧ Keep [] w wr)
  case atStart => exact ⟨0, rfl, Nat.zero_le _, by omega, Own.nil strC 1 _ 9 w, Nat.zero_le _, Keep.refl [] w⟩
  case round =>
    obtain ⟨k, rfl, hk, hgk, ho, hol, hkr⟩ := hrel
    have HO := Lib.hid ho
    have HK := Lib.hid hkr
    clear ho hkr
    by_cases hlt : k < L.length
    · obtain ⟨x, hx⟩ : ∃ x, L[k]? = some x := ⟨_, List.getElem?_eq_getElem hlt⟩
      obtain ⟨b1, o1, c1, e1, l1, m1, x1⟩ := HA.out.cell hx
      simp only [Value.slice.injEq] at e1
      obtain ⟨rfl, _, rfl⟩ := e1
      have a0 := x1 0 (by omega)
      have a1 := x1 1 (by omega)
      simp only [Fld.cells, List.getElem?_cons_zero, List.getElem?_cons_succ, Nat.add_zero] at a0 a1
      have A0 := Lib.hid a0
      have A1 := Lib.hid a1
      have HX := Lib.hid hx
      have hb := HG.out x (List.mem_of_getElem? hx)
      have HB := Lib.hid hb
      clear hx x1 l1 m1 hb a0 a1
      have d0 := HK.out.load A0.out
      have hbA := Blk.newA wr #[.string (S x.name), .string (S x.value)] 40
      have HBA := Lib.hid hbA
      clear hbA
      have d2 := HK.out.load A1.out
      go_upto_region 4 with fail
      go_wp2_with fail
      refine (field_low x.name _ (show _ ≤ 9223372036854775807 by have := HB.out.1; omega)).mono ?_
      rintro e w1 ⟨rfl, hk1⟩
      go_wp2_with fail
      refine (field_low n _ (show _ ≤ 9223372036854775807 by have := HN.out; omega)).mono ?_
      rintro e w2 ⟨rfl, hk2⟩
      have HKA := (Keep.refl [] wr).alloc (.cells #[.string (S x.name), .string (S x.value)] 40)
      have HK2 := Lib.hid (((HK.out.trans HKA).trans hk1).trans hk2)
      have HKK := Lib.hid ((HKA.trans hk1).trans hk2)
      have d1 := (hk1.trans hk2).load (HBA.out.get (k := 1) rfl)
      clear hk1 hk2 d0 d2 HKA
      have HO2 := Lib.hid (HO.out.keep0 HKK.out)
      by_cases hs : lowW x.name = lowW n
      · have h1 : ((S (lowW x.name)).toList == (S (lowW n)).toList) = true := by rw [hs]; simp
        have HE := Lib.hid (els_yes HX.out hs)
        have HV := Lib.hid (Nat.le_trans (cutW_length x.value 44) (Nat.succ_le_succ HB.out.2))
        clear hs
        go_wp2_with fail
        refine (field_cut x.value 44 _ HB.out.2).mono ?_
        rintro e w3 ⟨vc, rfl, hc, hk3⟩
        have hsep := Sep.of_base HO2.out hc (Nat.le_refl _)
        have HO3 := HO2.out.keep0 hk3
        have HK3 := HK2.out.trans hk3
        have hc3 := hc.lower (base' := w.heap.size) HK2.out.size
        generalize hM : cutW x.value 44 = M at hc3 HE HV
        clear hc hk3 hM
        obtain ⟨ac, cc, rfl, hml⟩ := hc3.shape
        have hml' : M.length ≤ 9223372036854775807 := hml
        have H0 := Lib.hid (And.intro HO3 (And.intro hc3 (And.intro hsep HK3)))
        clear HO3 hc3 hsep HK3 hml
        go_wp2_with fail
        go_loopg [4, 25] M.length (fun g o2 j wz => ∃ m : Nat, j = .int .i64 m ∧ m ≤ M.length ∧ g = M.length - m ∧ Own strC 1 w.heap.size 9 wz o2 (elsM (L.take k) n ++ full (M.take m)) ∧
          Own strC 1 w.heap.size 9 wz (.slice ac M.length cc) M ∧ Sep o2 (.slice ac M.length cc) ∧ Keep [] w wz)
        case atStart => exact ⟨0, rfl, Nat.zero_le _, by omega, by simpa [full] using H0.out.1, H0.out.2.1, H0.out.2.2.1, H0.out.2.2.2⟩
        case round =>
          obtain ⟨m, rfl, hm, hgm, ho2, hc2, hsep2, hkz⟩ := hrel
          have HOz := Lib.hid ho2
          have HCz := Lib.hid hc2
          have HSz := Lib.hid hsep2
          have HKz := Lib.hid hkz
          clear ho2 hc2 hsep2 hkz
          by_cases hlm : m < M.length
          · obtain ⟨s, hs⟩ : ∃ s, M[m]? = some s := ⟨_, List.getElem?_eq_getElem hlm⟩
            obtain ⟨b2, o2, c2, e2, _, _, x2⟩ := (HCz.out.sl strC_length).cell hs
            simp only [Value.slice.injEq] at e2
            obtain ⟨rfl, _, rfl⟩ := e2
            have s0 := x2 0 (by omega)
            simp only [strC, List.getElem?_cons_zero, Nat.add_zero, Nat.mul_one] at s0
            have hte := S_toList s
            have HSS := Lib.hid hs
            clear x2 hs
            by_cases hse : s = []
            · have HF := Lib.hid (full_no HSS.out hse)
              subst hse
              have hq : (S []).toList = [] := S_toList []
              go_wp2_with fail
              go_roundg (M.length - (m + 1))
              case measure => omega
              case rel => exact ⟨m + 1, by go_num, by omega, rfl, by rw [HF.out]; exact HOz.out, HCz.out, HSz.out, HKz.out⟩
            · have HF := Lib.hid (full_yes HSS.out hse)
              have hie : s.isEmpty = false := by cases s <;> simp_all
              have hfl := full_length (M.take m)
              have hfl2 : (M.take m).length ≤ m := by simp; omega
              have hvv : M.length ≤ 1048577 := HV.out
              clear HV
              go_wp2_with (first
                | (at_builtin; go_must (refine wpList_append2 rfl _ _ 22 rfl is (.string ⟨#[]⟩) 16 Tryz.underlying22 Hs rfl (by decide) strC_length strC_one w wr rfl HKz.out (by rfl) HOz.out s _ (strC_of rfl) _ rfl (by have := HM.out; simp; omega) (by simp; omega) ?_); intro v' w4 hown' hk4 hside)
                | fail)
              have h5 := hside HCz.out HSz.out
              go_roundg (M.length - (m + 1))
              case measure => omega
              case rel => exact ⟨m + 1, by go_num, by omega, rfl, by rw [HF.out, ← List.append_assoc]; exact hown', h5.1, h5.2, hk4⟩
          · have hme : M.take m = M := List.take_of_length_le (by omega)
            have hfl := full_length M
            have hvv : M.length ≤ 1048577 := HV.out
            clear HV
            go_wp2_with fail
            go_roundg (L.length - (k + 1))
            case measure => omega
            case rel => exact ⟨k + 1, by go_num, by omega, rfl, by rw [HE.out, ← hme]; exact HOz.out, by rw [HE.out, List.length_append]; exact els_bound hol hfl hvv, HKz.out⟩
      · have h1 : ((S (lowW x.name)).toList == (S (lowW n)).toList) = false := by rw [S_toList, S_toList]; simpa using hs
        have HE := Lib.hid (els_no HX.out hs)
        clear hs
        go_wp2_with fail
        go_roundg (L.length - (k + 1))
        case measure => omega
        case rel => exact ⟨k + 1, by go_num, by omega, rfl, by rw [HE.out]; exact HO2.out, by rw [HE.out]; exact els_bound0 hol, HK2.out⟩
    · have hke : L.take k = L := List.take_of_length_le (by omega)
      rw [hke] at HO
      go_wp2_with fail
      go_ret
      exact ⟨_, rfl, HO.out, HK.out⟩
end Go.Proofs.YtpimfoohpfkciaaGreatDoor

/- Layer 10: the head: next, begin. No conditions but on lengths. -/
namespace Go.Proofs.YtpimfoohpfkciaaGreatDoor
open Go.RowKit Go.Shelf

def seenM (s : List UInt8) (at' : Nat) : List UInt8 := (s.take 4096).drop at'
def lineM (l : List UInt8) : Option (List UInt8) :=
  if Lib.hasSuffix l [13, 10] = true ∧ Lib.indexByte (Lib.trimSuffix l [13, 10]) 13 < 0 then some (Lib.trimSuffix l [13, 10]) else none
/-- the next line, where the text stands behind it, the error -/
def nextM (s : List UInt8) (at' : Nat) : List UInt8 × Nat × Int :=
  if Lib.indexByte (seenM s at') 10 < 0 then ([], at', if 4096 ≤ s.length then 4 else 17)
  else match lineM ((seenM s at').take ((Lib.indexByte (seenM s at') 10).toNat + 1)) with
    | none => ([], at' + ((Lib.indexByte (seenM s at') 10).toNat + 1), 3)
    | some l => (l, at' + ((Lib.indexByte (seenM s at') 10).toNat + 1), 0)

/-- the head as it is read: W: the world before the call; b: its block -/
def Hd (W w : World) (b : Nat) (st : List UInt8) (F : List Fld) (at' : Nat) : Prop :=
  ∃ fv, Blk w b 105 [.string (S st), fv, .int .i64 at'] ∧ Own Fld.cells 2 W.heap.size 40 w fv F ∧ (∀ g, fv.ownBlock = some g → g ≠ b) ∧ W.heap.size ≤ b ∧ Keep [] W w
theorem Hd.step {W w w' : World} {b : Nat} {st : List UInt8} {F : List Fld} {at' : Nat} (h : Hd W w b st F at') (k : Keep [] w w') : Hd W w' b st F at' := by
  obtain ⟨fv, h1, h2, h3, h4, h5⟩ := h
  exact ⟨fv, k.blk h1 (by simp), h2.keep0 k, h3, h4, h5.trans k⟩

set_option maxRecDepth 100000 in
set_option maxHeartbeats 1000000 in
theorem head_next (W : World) (s : List UInt8) (b : Nat) (st : List UInt8) (F : List Fld) (at' : Nat) (w : World) (h : Hd W w b st F at') (hs : s.length ≤ 1048576) (ha : at' ≤ s.length) (ha2 : at' ≤ 4096) :
    Calls Tryz.prog 81 #[.pointer (some ⟨b, 0, none⟩), .string (S s)] w fun e w' => e = .returned (.tuple #[.string (S (nextM s at').1), .int .i64 (nextM s at').2.2]) ∧ Hd W w' b st F (nextM s at').2.1 := by
  obtain ⟨fv, h1, h2, h3, h4, h5⟩ := h
  have c0 := h1.get (k := 2) rfl
  have f0 := h1.frozen
  have hlt := h1.lt
  have H := Lib.hid (And.intro h1 (And.intro h2 (And.intro h3 (And.intro h4 h5))))
  clear h1 h2 h3 h4 h5
  have hsz := S_size s
  have hx : (S s).extract at' (min ((s.length : Nat) : Int) 4096).toNat = S (seenM s at') := by
    have e : (min ((s.length : Nat) : Int) 4096).toNat = min s.length 4096 := by omega
    rw [e, S_extract]
    unfold seenM
    congr 2
    rw [Nat.min_comm, List.take_eq_take_iff]
    omega
  have hix := Tryz.strings_IndexByte (S (seenM s at')) 10
  have ec : ((10 : Int)).toNat.toUInt8 = 10 := rfl
  rw [ec, S_list] at hix
  have hseen : (seenM s at').length + at' ≤ 4096 ∧ (seenM s at').length + at' ≤ s.length := by unfold seenM; simp; omega
  obtain ⟨hq1, hq2⟩ := hseen
  have hN : nextM s at' = (if Lib.indexByte (seenM s at') 10 < 0 then ([], at', if 4096 ≤ s.length then 4 else 17)
    else match lineM ((seenM s at').take ((Lib.indexByte (seenM s at') 10).toNat + 1)) with
      | none => ([], at' + ((Lib.indexByte (seenM s at') 10).toNat + 1), 3)
      | some l => (l, at' + ((Lib.indexByte (seenM s at') 10).toNat + 1), 0) : List UInt8 × Nat × Int) := rfl
  generalize seenM s at' = l at hx hix hq1 hq2 hN
  have hsl := S_size l
  have hge := Lib.indexByte_ge l 10
  by_cases hi : Lib.indexByte l 10 = -1
  · rw [hi] at hix hN
    rw [if_pos (by omega)] at hN
    by_cases hbig : 4096 ≤ s.length
    · rw [if_pos hbig] at hN
      have HN := Lib.hid hN
      clear hN hi hge
      go_enter Tryz.func81, Tryz.ntmps81
      go_wp2_with fail
      refine (hix _).mono ?_
      rintro e w1 ⟨rfl, rfl⟩
      go_wp2_with fail
      go_ret2
      rw [HN.out]
      exact ⟨rfl, fv, H.out⟩
    · rw [if_neg hbig] at hN
      have HN := Lib.hid hN
      clear hN hi hge
      go_enter Tryz.func81, Tryz.ntmps81
      go_wp2_with fail
      refine (hix _).mono ?_
      rintro e w1 ⟨rfl, rfl⟩
      go_wp2_with fail
      go_ret2
      rw [HN.out]
      exact ⟨rfl, fv, H.out⟩
  · obtain ⟨o, ho⟩ : ∃ o : Nat, Lib.indexByte l 10 = o := ⟨(Lib.indexByte l 10).toNat, by omega⟩
    have hol := (List.getElem?_eq_some_iff.1 (Lib.indexByte_some ho).1).1
    rw [ho] at hix hN
    rw [if_neg (by omega), Int.toNat_natCast] at hN
    have hx3 : (S l).extract 0 (o + 1) = S (l.take (o + 1)) := by rw [S_extract]; simp
    have hcs := fun w1 => Tryz.strings_CutSuffix (S (l.take (o + 1))) ⟨#[13, 10]⟩ w1 (by rw [S_size]; simp; omega)
    rw [S_list] at hcs
    change ∀ w1, Calls Tryz.prog 99 #[.string (S (l.take (o + 1))), .string ⟨#[13, 10]⟩] w1 fun e w' => e = .returned (.tuple #[.string (S (Lib.trimSuffix (l.take (o + 1)) [13, 10])), .bool (Lib.hasSuffix (l.take (o + 1)) [13, 10])]) ∧ w' = w1 at hcs
    have hL : lineM (l.take (o + 1)) = if Lib.hasSuffix (l.take (o + 1)) [13, 10] = true ∧ Lib.indexByte (Lib.trimSuffix (l.take (o + 1)) [13, 10]) 13 < 0 then some (Lib.trimSuffix (l.take (o + 1)) [13, 10]) else none := rfl
    have hi2 := Tryz.strings_IndexByte (S (Lib.trimSuffix (l.take (o + 1)) [13, 10])) 13
    have ec2 : ((13 : Int)).toNat.toUInt8 = 13 := rfl
    rw [ec2, S_list] at hi2
    generalize Lib.trimSuffix (l.take (o + 1)) [13, 10] = tl at hcs hi2 hL
    have hge2 := Lib.indexByte_ge tl 13
    have hset : ∀ w1 : World, w1 = w → Hd W (w1.setCell ⟨b, 2, none⟩ (.int .i64 (((at' + (o + 1) : Nat) : Int)))) b st F (at' + (o + 1)) := by
      rintro w1 rfl
      obtain ⟨h1, h2, h3, h4, h5⟩ := H.out
      have hk : Keep [b] w1 (w1.setCell ⟨b, 2, none⟩ (.int .i64 (((at' + (o + 1) : Nat) : Int)))) := (Keep.refl [b] w1).setCell _ _ (by simp)
      exact ⟨fv, h1.set 2 _, h2.keep hk (fun g hg => by simpa using h3 g hg), h3, h4, h5.setCell _ _ (by simp; omega)⟩
    have HS := Lib.hid hset
    clear hset hi hge ho
    cases hsf : Lib.hasSuffix (l.take (o + 1)) [13, 10] with
    | false =>
      rw [hsf, if_neg (by simp)] at hL
      rw [hL] at hN
      rw [hsf] at hcs
      have HN := Lib.hid hN
      clear hN hL hi2 hge2 hsf
      go_enter Tryz.func81, Tryz.ntmps81
      go_wp2_with fail
      refine (hix _).mono ?_
      rintro e w1 ⟨rfl, rfl⟩
      go_wp2_with fail
      refine (hcs _).mono ?_
      rintro e w2 ⟨rfl, rfl⟩
      go_wp2_with fail
      go_ret2
      rw [HN.out]
      exact ⟨rfl, HS.out _ rfl⟩
    | true =>
      rw [hsf] at hL hcs
      by_cases h13 : Lib.indexByte tl 13 < 0
      · rw [if_pos ⟨rfl, h13⟩] at hL
        rw [hL] at hN
        have HN := Lib.hid hN
        have hm1 : Lib.indexByte tl 13 = -1 := by omega
        rw [hm1] at hi2
        clear hN hL hge2 hsf h13 hm1
        go_enter Tryz.func81, Tryz.ntmps81
        go_wp2_with fail
        refine (hix _).mono ?_
        rintro e w1 ⟨rfl, rfl⟩
        go_wp2_with fail
        refine (hcs _).mono ?_
        rintro e w2 ⟨rfl, rfl⟩
        go_wp2_with fail
        refine (hi2 _).mono ?_
        rintro e w3 ⟨rfl, rfl⟩
        go_wp2_with fail
        go_ret2
        rw [HN.out]
        exact ⟨rfl, HS.out _ rfl⟩
      · rw [if_neg (fun h => h13 h.2)] at hL
        rw [hL] at hN
        have HN := Lib.hid hN
        obtain ⟨o2, ho2⟩ : ∃ o : Nat, Lib.indexByte tl 13 = o := ⟨(Lib.indexByte tl 13).toNat, by omega⟩
        rw [ho2] at hi2
        clear hN hL hge2 hsf h13 ho2
        go_enter Tryz.func81, Tryz.ntmps81
        go_wp2_with fail
        refine (hix _).mono ?_
        rintro e w1 ⟨rfl, rfl⟩
        go_wp2_with fail
        refine (hcs _).mono ?_
        rintro e w2 ⟨rfl, rfl⟩
        go_wp2_with fail
        refine (hi2 _).mono ?_
        rintro e w3 ⟨rfl, rfl⟩
        go_wp2_with fail
        go_ret2
        rw [HN.out]
        exact ⟨rfl, HS.out _ rfl⟩
end Go.Proofs.YtpimfoohpfkciaaGreatDoor

/- Layer 10: the head: begin, add. No conditions but on lengths. -/
namespace Go.Proofs.YtpimfoohpfkciaaGreatDoor
open Go.RowKit Go.Shelf

/-- the append as a step of a region that draws -/
theorem step_append3 {P : Program} {ops : Array Oper} {o : Oper} {a : Act} {w : World} {K : Act → World → Prop} {Q : Exit → Act → World → Prop} {X : Prop} (hgd : o.guard = none) (s x : Operand) (t : TypeId)
    (ho : o.op = .call { callee := .builtin .append, args := #[s, x], argTypes := #[t, t] })
    {α : Type} {enc : α → List Value} {n base : Nat} {E : TypeId} {L : List α} {v : Value}
    (i : TypeInfo) (z : Value) (bytes : Nat) (ht : P.underlying t = some (.slice E)) (HI : Hid (P.info? E = some i ∧ i.zero = some z ∧ i.size = n ∧ i.bytes = bytes)) (hzs : z.cells.size = n) (hn0 : 0 < n)
    (hn : ∀ x, (enc x).length = n) (h1 : ∀ x, ∀ u ∈ enc x, u.oneCell' = true)
    (hs : a.eval s = v) (hown : Own enc n base E w v L) (y : α) (B c : Nat) (hx : a.eval x = .slice (some ⟨B, 0, none⟩) 1 c) (hB : Blk w B E (enc y))
    (h63 : L.length + 1 ≤ maxLen) (hbytes : (L.length + 1) * bytes ≤ 140737488355328) (hbase : base ≤ w.heap.size)
    (h : ∀ g cap w', Own enc n base E w' (.slice (some ⟨g, 0, none⟩) (L.length + 1) cap) (L ++ [y]) → w.grownBy w' v.ownBlock → (v.ownBlock = some g ∨ g = w.heap.size) → K (a.put o.dst (.slice (some ⟨g, 0, none⟩) (L.length + 1) cap)) w') :
    if Region.wanted o (yielded ops a.tmps) = true then Oper.wp P o a w K Q else X := by
  refine step_append_lies _ hgd s x t ho base E i z n bytes ht HI.out.1 HI.out.2.1 HI.out.2.2.1 HI.out.2.2.2 hzs hn0 v L.length (rows enc L) hs hown ⟨B, 0, none⟩ 1 c (enc y) hx (by rw [hn]; omega) ?_ (h1 y) (by omega) h63 hbytes hbase _ rfl ?_
  · intro j u hj
    have : (⟨B, 0, none⟩ : Addr).add j = ⟨B, j, none⟩ := by unfold Addr.add; split <;> simp_all
    rw [this, hB.cell j]
    exact hj
  · intro g cap w' hown' hg hat _
    refine h g cap w' ?_ hg hat
    have : rows enc (L ++ [y]) = rows enc L ++ enc y := by simp [rows]
    unfold Own
    rw [this, List.length_append]
    exact hown'

def beginE (l : List UInt8) : Int := if l = [] then 3 else if 1024 < l.length then 4 else 0
set_option maxRecDepth 100000 in
set_option maxHeartbeats 1000000 in
theorem head_begin (W : World) (l : List UInt8) (b : Nat) (st : List UInt8) (F : List Fld) (at' : Nat) (w : World) (h : Hd W w b st F at') (hs : l.length ≤ 1048576) :
    Calls Tryz.prog 82 #[.pointer (some ⟨b, 0, none⟩), .string (S l)] w fun e w' => e = .returned (.int .i64 (beginE l)) ∧ Hd W w' b (if beginE l = 0 then l else st) F at' := by
  have hsz := S_size l
  have hte := S_toList l
  have H := Lib.hid h
  obtain ⟨fv, h1, h2, h3, h4, h5⟩ := h
  have c0 := h1.get (k := 0) rfl
  have f0 := h1.frozen
  have hlt := h1.lt
  have hset : Hd W (w.setCell ⟨b, 0, none⟩ (.string (S l))) b l F at' := by
    have hk : Keep [b] w (w.setCell ⟨b, 0, none⟩ (.string (S l))) := (Keep.refl [b] w).setCell _ _ (by simp)
    exact ⟨fv, h1.set 0 _, h2.keep hk (fun g hg => by simpa using h3 g hg), h3, h4, h5.setCell _ _ (by simp; omega)⟩
  have HS := Lib.hid hset
  clear h1 h2 h3 h4 h5 hset
  by_cases he : l = []
  · have hb : beginE l = 3 := if_pos he
    have hee : l.isEmpty = true := by simp [he]
    rw [hb]
    clear he
    go_enter Tryz.func82, Tryz.ntmps82
    go_wp2_with fail
    go_ret
    exact ⟨rfl, H.out⟩
  · have hee : l.isEmpty = false := by cases l <;> simp_all
    by_cases hl : 1024 < l.length
    · have hb : beginE l = 4 := by unfold beginE; rw [if_neg he, if_pos hl]
      rw [hb]
      clear he
      go_enter Tryz.func82, Tryz.ntmps82
      go_wp2_with fail
      go_ret
      exact ⟨rfl, H.out⟩
    · have hb : beginE l = 0 := by unfold beginE; rw [if_neg he, if_neg hl]
      rw [hb]
      clear he
      go_enter Tryz.func82, Tryz.ntmps82
      go_wp2_with fail
      go_ret
      exact ⟨rfl, HS.out⟩

theorem fldinfo : (Tryz.prog.info? 40).map (fun i => (i.zero, i.size, i.bytes)) = some (some (.agg #[.string ⟨#[]⟩, .string ⟨#[]⟩]), 2, 32) := by kernel_rfl
theorem fldinfo' : ∃ i0, Hid (Tryz.prog.info? 40 = some i0 ∧ i0.zero = some (.agg #[.string ⟨#[]⟩, .string ⟨#[]⟩]) ∧ i0.size = 2 ∧ i0.bytes = 32) := by
  obtain ⟨i0, hi, hz0, hz1, hz2⟩ := info_parts fldinfo
  exact ⟨i0, hi, hz0, hz1, hz2⟩
theorem Fld.one (f : Fld) : ∀ u ∈ f.cells, u.oneCell' = true := by simp [Fld.cells, Value.oneCell']

/-- the fields behind a line more, and the error -/
def addM (F : List Fld) (l : List UInt8) : List Fld × Int :=
  match parseF l with
  | none => (F, 3)
  | some f => if 32 ≤ F.length then (F, 4) else (F ++ [f], 0)
set_option maxRecDepth 100000 in
set_option maxHeartbeats 1000000 in
theorem head_add (W : World) (hm : ML W) (l : List UInt8) (b : Nat) (st : List UInt8) (F : List Fld) (at' : Nat) (w : World) (h : Hd W w b st F at') (hs : l.length ≤ 1048576) :
    Calls Tryz.prog 83 #[.pointer (some ⟨b, 0, none⟩), .string (S l)] w fun e w' => e = .returned (.int .i64 (addM F l).2) ∧ Hd W w' b st (addM F l).1 at' := by
  have hP := field_Parse l w (hm.keep h.choose_spec.2.2.2.2 (by simp)) (by omega)
  have hA : addM F l = (match parseF l with | none => (F, 3) | some f => if 32 ≤ F.length then (F, 4) else (F ++ [f], 0)) := rfl
  obtain ⟨is, Hs⟩ := fldinfo'
  cases hp : parseF l with
  | none =>
    have e1 : parseV l = ⟨[], []⟩ := by unfold parseV; rw [hp]; rfl
    have e2 : parseE l = 3 := by unfold parseE; rw [hp]; rfl
    rw [e1, e2] at hP
    rw [hp] at hA
    change Calls _ _ _ _ (fun e w' => e = .returned (.tuple #[.agg #[.string (S []), .string (S [])], .int .i64 3]) ∧ Keep [] w w') at hP
    have H := Lib.hid h
    have HA := Lib.hid hA
    clear h hA hp e1 e2
    go_enter Tryz.func83, Tryz.ntmps83
    go_wp2_with fail
    refine hP.mono ?_
    rintro e w1 ⟨rfl, hk1⟩
    have H1 := Lib.hid ((H.out.step hk1).step ((Keep.refl [] w1).alloc (.cells #[.string (S []), .string (S [])] 40)))
    clear hk1
    go_wp2_with fail
    go_ret
    rw [HA.out]
    exact ⟨rfl, H1.out⟩
  | some f =>
    have e1 : parseV l = f := by unfold parseV; rw [hp]; rfl
    have e2 : parseE l = 0 := by unfold parseE; rw [hp]; rfl
    rw [e1, e2] at hP
    rw [hp] at hA
    change Calls _ _ _ _ (fun e w' => e = .returned (.tuple #[.agg #[.string (S f.name), .string (S f.value)], .int .i64 0]) ∧ Keep [] w w') at hP
    have H := Lib.hid h
    clear h hp e1 e2
    by_cases h32 : 32 ≤ F.length
    · dsimp only at hA
      rw [if_pos h32] at hA
      have HA := Lib.hid hA
      clear hA
      go_enter Tryz.func83, Tryz.ntmps83
      go_wp2_with fail
      refine hP.mono ?_
      rintro e w1 ⟨rfl, hk1⟩
      have H1 := Lib.hid ((H.out.step hk1).step ((Keep.refl [] w1).alloc (.cells #[.string (S f.name), .string (S f.value)] 40)))
      obtain ⟨fv, h1, h2, h3, h4, h5⟩ := H1.out
      obtain ⟨fa, fc, rfl, hml⟩ := h2.shape
      have hml' : F.length ≤ 9223372036854775807 := hml
      have c1 := h1.get (k := 1) rfl
      clear hk1 h1 h2 h3 h4 h5 hml
      go_wp2_with fail
      go_ret
      rw [HA.out]
      exact ⟨rfl, H1.out⟩
    · dsimp only at hA
      rw [if_neg h32] at hA
      have HA := Lib.hid hA
      clear hA
      go_enter Tryz.func83, Tryz.ntmps83
      go_wp2_with fail
      refine hP.mono ?_
      rintro e w1 ⟨rfl, hk1⟩
      have H1 := Lib.hid ((H.out.step hk1).step ((Keep.refl [] w1).alloc (.cells #[.string (S f.name), .string (S f.value)] 40)))
      have hbA := Blk.newA w1 #[.string (S f.name), .string (S f.value)] 40
      generalize hwa : w1.alloc (.cells #[.string (S f.name), .string (S f.value)] 40) = wa at H1 hbA
      obtain ⟨fv, h1, h2, h3, h4, h5⟩ := H1.out
      obtain ⟨fa, fc, rfl, hml⟩ := h2.shape
      have hml' : F.length ≤ 9223372036854775807 := hml
      have c1 := h1.get (k := 1) rfl
      have f1 := h1.frozen
      have hlt := h1.lt
      have d0 := hbA.get (k := 0) rfl
      have d1 := hbA.get (k := 1) rfl
      go_upto_region 6 with fail
      have hoA := (h2.of_heap (w' := wa.drew) rfl).alloc (.cells #[.string (S f.name), .string (S f.value)] 40)
      have hbB := Blk.newA wa.drew #[.string (S f.name), .string (S f.value)] 40
      have hbb := (h1.drew).alloc (.cells #[.string (S f.name), .string (S f.value)] 40)
      have hkB := (h5.drew).alloc (.cells #[.string (S f.name), .string (S f.value)] 40)
      have HOA := Lib.hid hoA
      have HBB := Lib.hid hbB
      have Hbb := Lib.hid hbb
      have HKB := Lib.hid hkB
      have HM := Lib.hid (show maxLen = 9223372036854775807 from rfl)
      have H3 := Lib.hid h3
      have hWb := h4
      clear hoA hbB hbb hkB h1 h2 h3 h5 hml hk1 hwa H1 hbA
      go_cut [] (fun wx => Hd W wx b st (F ++ [f]) at')
      case first =>
        go_region_law (
          refine step_append3 rfl (.tmp 27) (.tmp 29) 28 rfl is (.agg #[.string ⟨#[]⟩, .string ⟨#[]⟩]) 32 Tryz.underlying28 Hs rfl (by decide) Fld.cells_length Fld.one (by simp [Act.eval]) HOA.out f wa.heap.size 1 (by simp [Act.eval]) HBB.out (by have := HM.out; omega) (by omega) HKB.out.size ?_
          intro g cap w2 hown hgrow hat
          have hb2 : Blk w2 b 105 [.string (S st), .slice fa F.length fc, .int .i64 at'] := (hgrow.block b Hbb.out.lt (fun e => H3.out b e.symm rfl)).trans Hbb.out
          have e1 := hb2.get (k := 1) rfl
          have e2 := hb2.frozen
          have e3 := hb2.lt)
        all_goals (
          go_wp2_with fail
          go_meet
          have hk2 : Keep [] W w2 := HKB.out.grown hgrow (fun k hk1 hk2 => absurd (HOA.out.lt k hk1).1 (by omega))
          have hgb : g ≠ b := by
            rcases hat with h | h
            · exact H3.out g h
            · intro e
              have h' : g = wa.heap.size + 1 := h.trans (by simp)
              have : b < wa.heap.size := hlt
              omega
          have hks : Keep [b] w2 (w2.setCell ⟨b, 1, none⟩ (.slice (some ⟨g, 0, none⟩) (F.length + 1) cap)) := (Keep.refl [b] w2).setCell _ _ (by simp)
          exact ⟨.slice (some ⟨g, 0, none⟩) (F.length + 1) cap, hb2.set 1 _, hown.keep hks (fun k hk => by simp [Value.ownBlock] at hk; subst hk; simpa using hgb), fun k hk => by simp [Value.ownBlock] at hk; subst hk; exact hgb, hWb, hk2.setCell _ _ (by simp; omega)⟩)
      case rest =>
        have HC := Lib.hid hcut
        clear hcut
        go_wp2_with fail
        go_ret
        rw [HA.out]
        exact ⟨rfl, HC.out⟩
end Go.Proofs.YtpimfoohpfkciaaGreatDoor

/- Layer 10: the head: read, Split. No conditions but on lengths. -/
namespace Go.Proofs.YtpimfoohpfkciaaGreatDoor
open Go.RowKit Go.Shelf

/-- what has been read: the start line, the fields, where it ends, the error -/
structure Rd where
  st : List UInt8
  F : List Fld
  n : Nat
  e : Int
  deriving Inhabited
def loopM (s st : List UInt8) : Nat → List Fld → Nat → Rd
  | 0, F, n => ⟨st, F, n, 17⟩
  | k + 1, F, n =>
    if (nextM s n).2.2 ≠ 0 then ⟨st, F, (nextM s n).2.1, (nextM s n).2.2⟩
    else if (nextM s n).1 = [] then ⟨st, F, (nextM s n).2.1, 0⟩
    else if (addM F (nextM s n).1).2 ≠ 0 then ⟨st, (addM F (nextM s n).1).1, (nextM s n).2.1, (addM F (nextM s n).1).2⟩
    else loopM s st k (addM F (nextM s n).1).1 (nextM s n).2.1
def readM (s : List UInt8) : Rd :=
  if (nextM s 0).2.2 ≠ 0 then ⟨[], [], (nextM s 0).2.1, (nextM s 0).2.2⟩
  else if beginE (nextM s 0).1 ≠ 0 then ⟨[], [], (nextM s 0).2.1, beginE (nextM s 0).1⟩
  else loopM s (nextM s 0).1 4097 [] (nextM s 0).2.1
def splitM (s : List UInt8) : Rd := if (readM s).e ≠ 0 then ⟨[], [], 0, (readM s).e⟩ else readM s

theorem lineM_length {l l' : List UInt8} (h : lineM l = some l') : l'.length ≤ l.length := by
  unfold lineM at h
  split at h
  · cases h
    unfold Lib.trimSuffix
    split <;> simp
  · cases h
theorem next_bounds {s : List UInt8} {n : Nat} (h1 : n ≤ s.length) (h2 : n ≤ 4096) : (nextM s n).2.1 ≤ s.length ∧ (nextM s n).2.1 ≤ 4096 ∧ ((nextM s n).2.2 = 0 → n < (nextM s n).2.1) ∧ (nextM s n).1.length ≤ s.length := by
  have hq : (seenM s n).length + n ≤ 4096 ∧ (seenM s n).length + n ≤ s.length := by unfold seenM; simp; omega
  obtain ⟨q1, q2⟩ := hq
  have hge := Lib.indexByte_ge (seenM s n) 10
  unfold nextM
  by_cases hi : Lib.indexByte (seenM s n) 10 < 0
  · rw [if_pos hi]
    refine ⟨h1, h2, ?_, by simp⟩
    dsimp only
    split <;> (intro h; cases h)
  · rw [if_neg hi]
    obtain ⟨o, ho⟩ : ∃ o : Nat, Lib.indexByte (seenM s n) 10 = o := ⟨(Lib.indexByte (seenM s n) 10).toNat, by omega⟩
    have hol := (List.getElem?_eq_some_iff.1 (Lib.indexByte_some ho).1).1
    rw [ho, Int.toNat_natCast]
    cases hl : lineM ((seenM s n).take (o + 1)) with
    | none => dsimp only; exact ⟨by omega, by omega, by omega, by simp⟩
    | some l =>
      have := lineM_length hl
      dsimp only
      exact ⟨by omega, by omega, by omega, by simp at this; omega⟩

set_option maxRecDepth 100000 in
set_option maxHeartbeats 1000000 in
theorem head_read (W : World) (hm : ML W) (s : List UInt8) (b : Nat) (w : World) (h : Hd W w b [] [] 0) (hs : s.length ≤ 1048576) :
    Calls Tryz.prog 65 #[.pointer (some ⟨b, 0, none⟩), .string (S s)] w fun e w' => e = .returned (.int .i64 (readM s).e) ∧ Hd W w' b (readM s).st (readM s).F (readM s).n := by
  have hN := head_next W s b [] [] 0 w h hs (Nat.zero_le _) (Nat.zero_le _)
  have hB := next_bounds (s := s) (n := 0) (Nat.zero_le _) (Nat.zero_le _)
  have hR : readM s = if (nextM s 0).2.2 ≠ 0 then ⟨[], [], (nextM s 0).2.1, (nextM s 0).2.2⟩
    else if beginE (nextM s 0).1 ≠ 0 then ⟨[], [], (nextM s 0).2.1, beginE (nextM s 0).1⟩
    else loopM s (nextM s 0).1 4097 [] (nextM s 0).2.1 := rfl
  generalize nextM s 0 = r at hN hB hR
  obtain ⟨l, n, e0⟩ := r
  dsimp only at hN hB hR
  obtain ⟨b1, b2, b3, b4⟩ := hB
  have HN := Lib.hid hN
  clear hN h
  by_cases he : e0 = 0
  · subst he
    rw [if_neg (by simp)] at hR
    have HG := Lib.hid (fun w1 (h : Hd W w1 b [] [] n) => head_begin W l b [] [] n w1 h (by omega))
    go_enter Tryz.func65, Tryz.ntmps65
    go_wp2_with fail
    refine HN.out.mono ?_
    rintro e w1 ⟨rfl, hd1⟩
    have H1 := Lib.hid hd1
    clear hd1
    go_wp2_with fail
    refine (HG.out _ H1.out).mono ?_
    rintro e w2 ⟨rfl, hd2⟩
    have hst : ∃ st2, Hid (Hd W w2 b st2 [] n) ∧ Hid (readM s = if beginE l ≠ 0 then ⟨st2, [], n, beginE l⟩ else loopM s st2 4097 [] n) := by
      by_cases hz : beginE l = 0
      · exact ⟨l, by rw [if_pos hz] at hd2; exact hd2, by rw [hR]; simp [hz, Hid]⟩
      · exact ⟨[], by rw [if_neg hz] at hd2; exact hd2, by rw [hR]; simp [hz, Hid]⟩
    obtain ⟨st2, H2, HR⟩ := hst
    clear hd2 hR
    generalize beginE l = e2 at HR
    go_wp2_with fail
    go_loopg [5, 6] (4097 - n) (fun g lv ev wr => ∃ (l' : List UInt8) (F : List Fld) (n' k : Nat) (e' : Int), lv = .string (S l') ∧ ev = .int .i64 e' ∧ n' ≤ s.length ∧ n' ≤ 4096 ∧ 4097 - n' ≤ k ∧ g = 4097 - n' ∧ Hid (Hd W wr b st2 F n') ∧
      Hid (readM s = if e' ≠ 0 then ⟨st2, F, n', e'⟩ else loopM s st2 k F n'))
    case atStart => exact ⟨l, [], n, 4097, e2, rfl, rfl, b1, b2, by omega, rfl, H2, HR⟩
    case round =>
      obtain ⟨l', F, n', k, e', rfl, rfl, c1, c2, c3, rfl, HD, HR2⟩ := hrel
      by_cases hz : e' = 0
      · subst hz
        obtain ⟨k', rfl⟩ : ∃ k', k = k' + 1 := ⟨k - 1, by omega⟩
        have hN2 := head_next W s b st2 F n' wr HD.out hs c1 c2
        have hB2 := next_bounds c1 c2
        have hR2 := HR2.out
        rw [if_neg (by simp), loopM] at hR2
        generalize nextM s n' = r2 at hN2 hB2 hR2
        obtain ⟨l2, n2, e3⟩ := r2
        dsimp only at hN2 hB2 hR2
        obtain ⟨p1, p2, p3, p4⟩ := hB2
        have HN2 := Lib.hid hN2
        have hte := S_toList l2
        clear hN2 HR HR2 H2 HG HN H1
        by_cases h3 : e3 = 0
        · subst h3
          have p5 := p3 rfl
          rw [if_neg (by simp)] at hR2
          by_cases hle : l2 = []
          · rw [if_pos hle] at hR2
            have HR3 := Lib.hid hR2
            subst hle
            have hq : (S []).toList = [] := S_toList []
            clear hR2 p3
            go_wp2_with fail
            refine HN2.out.mono ?_
            rintro e w3 ⟨rfl, hd3⟩
            have H3 := Lib.hid hd3
            clear hd3
            go_wp2_with fail
            go_ret
            rw [HR3.out]
            exact ⟨rfl, H3.out⟩
          · rw [if_neg hle] at hR2
            have hie : l2.isEmpty = false := by cases l2 <;> simp_all
            have HR3 := Lib.hid hR2
            have HA := Lib.hid (fun w1 (h : Hd W w1 b st2 F n2) => head_add W hm l2 b st2 F n2 w1 h (by omega))
            clear hR2 p3 hle
            go_wp2_with fail
            refine HN2.out.mono ?_
            rintro e w3 ⟨rfl, hd3⟩
            have H3 := Lib.hid hd3
            clear hd3
            go_wp2_with fail
            refine (HA.out _ H3.out).mono ?_
            rintro e w4 ⟨rfl, hd4⟩
            have H4 := Lib.hid hd4
            clear hd4
            go_wp2_with fail
            go_roundg (4097 - n2)
            case measure => omega
            case rel => exact ⟨l2, (addM F l2).1, n2, k', (addM F l2).2, rfl, rfl, p1, p2, by omega, rfl, H4, HR3⟩
        · rw [if_pos h3] at hR2
          have HR3 := Lib.hid hR2
          have hq1 : (e3 == 0) = false := by simpa using h3
          clear hR2 p3
          go_wp2_with fail
          refine HN2.out.mono ?_
          rintro e w3 ⟨rfl, hd3⟩
          have H3 := Lib.hid hd3
          clear hd3
          go_wp2_with fail
          go_ret
          rw [HR3.out]
          exact ⟨rfl, H3.out⟩
      · have hR2 := HR2.out
        rw [if_pos hz] at hR2
        have HR3 := Lib.hid hR2
        clear hR2 HR HR2 H2 HG HN H1
        go_wp2_with fail
        go_ret
        rw [HR3.out]
        exact ⟨rfl, HD.out⟩
  · rw [if_pos he] at hR
    have HR := Lib.hid hR
    clear hR b3
    go_enter Tryz.func65, Tryz.ntmps65
    go_wp2_with fail
    refine HN.out.mono ?_
    rintro e w1 ⟨rfl, hd1⟩
    have H1 := Lib.hid hd1
    clear hd1
    go_wp2_with fail
    go_loopg [5, 6] 1 (fun g lv ev wr => lv = .string (S l) ∧ ev = .int .i64 e0 ∧ wr = w1)
    case atStart => exact ⟨rfl, rfl, rfl⟩
    case round =>
      obtain ⟨rfl, rfl, rfl⟩ := hrel
      go_wp2_with fail
      go_ret
      rw [HR.out]
      exact ⟨rfl, H1.out⟩
end Go.Proofs.YtpimfoohpfkciaaGreatDoor

/- Layer 10: Split. No conditions but on lengths. -/
namespace Go.Proofs.YtpimfoohpfkciaaGreatDoor
open Go.RowKit Go.Shelf

theorem results_tmp4 {fn : Func} {t u v x : Tmp} (h : fn.results = #[.tmp t, .tmp u, .tmp v, .tmp x]) (tmps : Array Value) (P : Program) (w : World) :
    (results fn tmps).run P w = .ok (.tuple #[tmps.getD t undef, tmps.getD u undef, tmps.getD v undef, tmps.getD x undef]) w := by
  simp [results, h]
def SplitOut (w : World) (r : Rd) (e : Ending) (w' : World) : Prop := ∃ v, e = .returned (.tuple #[.string (S r.st), v, .int .i64 r.n, .int .i64 r.e]) ∧ Own Fld.cells 2 w.heap.size 40 w' v r.F ∧ Keep [] w w'
set_option maxRecDepth 100000 in
set_option maxHeartbeats 1000000 in
theorem field_Split (s : List UInt8) (w : World) (hm : ML w) (hs : s.length ≤ 1048576) :
    Calls Tryz.prog 36 #[.string (S s)] w (SplitOut w (splitM s)) := by
  have HR := Lib.hid (fun w1 (h : Hd w w1 w.heap.size [] [] 0) => head_read w hm s w.heap.size w1 h hs)
  have hH : Hd w (w.alloc (.cells #[.string ⟨#[]⟩, .slice none 0 0, .int .i64 0] 105)) w.heap.size [] [] 0 :=
    ⟨.slice none 0 0, Blk.newA w #[.string ⟨#[]⟩, .slice none 0 0, .int .i64 0] _, Own.nil _ _ _ _ _, by simp [Value.ownBlock], Nat.le_refl _, (Keep.refl _ _).alloc _⟩
  have HH := Lib.hid hH
  have hsp : splitM s = if (readM s).e ≠ 0 then ⟨[], [], 0, (readM s).e⟩ else readM s := rfl
  generalize readM s = r at HR hsp
  clear hH
  by_cases he : r.e = 0
  · rw [if_neg (by simpa using he)] at hsp
    have HS := Lib.hid hsp
    have HE := Lib.hid he
    rw [he] at HR
    clear hsp he
    go_enter Tryz.func36, Tryz.ntmps36
    go_wp2_with fail
    refine (HR.out _ HH.out).mono ?_
    rintro e w1 ⟨rfl, hd1⟩
    obtain ⟨fv, h1, h2, h3, h4, h5⟩ := hd1
    have c0 := h1.get (k := 0) rfl
    have c1 := h1.get (k := 1) rfl
    have c2 := h1.get (k := 2) rfl
    have H2 := Lib.hid h2
    have H5 := Lib.hid h5
    clear h1 h2 h3 h4 h5
    go_wp2_with fail
    go_quiet (fail)
    go_wp2_with fail
    refine bodyPost_ret (results_tmp4 rfl _ _ _) rfl ?_
    rw [HS.out]
    exact ⟨fv, by rw [HE.out]; rfl, H2.out.of_heap rfl, H5.out.drewN _⟩
  · rw [if_pos he] at hsp
    have HS := Lib.hid hsp
    have hq1 : (r.e == 0) = false := by simpa using he
    clear hsp he
    go_enter Tryz.func36, Tryz.ntmps36
    go_wp2_with fail
    refine (HR.out _ HH.out).mono ?_
    rintro e w1 ⟨rfl, hd1⟩
    have H1 := Lib.hid hd1
    clear hd1
    go_wp2_with fail
    refine bodyPost_ret (results_tmp4 rfl _ _ _) rfl ?_
    rw [HS.out]
    exact ⟨_, rfl, Own.nil _ _ _ _ _, H1.out.choose_spec.2.2.2.2⟩
end Go.Proofs.YtpimfoohpfkciaaGreatDoor

/- Layer 10: what Split makes of a text that goes on. Plain laws; no program. No conditions. -/
namespace Go.Proofs.YtpimfoohpfkciaaGreatDoor
open Go.RowKit Go.Shelf

theorem indexByte_append {l m : List UInt8} {c : UInt8} (h : 0 ≤ Lib.indexByte l c) : Lib.indexByte (l ++ m) c = Lib.indexByte l c := by
  obtain ⟨o, ho⟩ : ∃ o : Nat, Lib.indexByte l c = o := ⟨(Lib.indexByte l c).toNat, by omega⟩
  obtain ⟨h1, h2⟩ := Lib.indexByte_some ho
  have hlt := (List.getElem?_eq_some_iff.1 h1).1
  rw [ho]
  refine indexByte_at ?_ fun j hj => ?_
  · rw [List.getElem?_append_left hlt]; exact h1
  · rw [List.getElem?_append_left (by omega)]; exact h2 j hj
theorem seen_append (p m : List UInt8) (n : Nat) (_ : n ≤ p.length) (_ : n ≤ 4096) : ∃ m', seenM (p ++ m) n = seenM p n ++ m' := by
  unfold seenM
  rw [List.take_append, List.drop_append]
  exact ⟨_, rfl⟩
theorem seen_whole (p m : List UInt8) (n : Nat) (h : 4096 ≤ p.length) : seenM (p ++ m) n = seenM p n := by
  unfold seenM
  rw [List.take_append_of_le_length h]
theorem next_append (p m : List UInt8) (n : Nat) (h : n ≤ p.length) (h2 : n ≤ 4096) : (nextM p n).2.2 = 17 ∨ nextM (p ++ m) n = nextM p n := by
  by_cases hb : 4096 ≤ p.length
  · refine .inr ?_
    unfold nextM
    rw [seen_whole p m n hb]
    have : 4096 ≤ (p ++ m).length := by simp; omega
    rw [if_pos this, if_pos hb]
  · by_cases hi : Lib.indexByte (seenM p n) 10 < 0
    · refine .inl ?_
      unfold nextM
      rw [if_pos hi]
      simp [hb]
    · refine .inr ?_
      obtain ⟨m', hm'⟩ := seen_append p m n h h2
      unfold nextM
      have e := indexByte_append (m := m') (show 0 ≤ Lib.indexByte (seenM p n) 10 by omega)
      rw [hm', e, if_neg hi, if_neg hi]
      obtain ⟨o, ho⟩ : ∃ o : Nat, Lib.indexByte (seenM p n) 10 = o := ⟨(Lib.indexByte (seenM p n) 10).toNat, by omega⟩
      have hlt := (List.getElem?_eq_some_iff.1 (Lib.indexByte_some ho).1).1
      rw [ho, Int.toNat_natCast, List.take_append_of_le_length (by omega)]
theorem loop_append (p m st : List UInt8) : ∀ (k : Nat) (F : List Fld) (n : Nat), n ≤ p.length → n ≤ 4096 → (loopM p st k F n).e = 17 ∨ loopM (p ++ m) st k F n = loopM p st k F n
  | 0, F, n, _, _ => .inl rfl
  | k + 1, F, n, h, h2 => by
    have hb := next_bounds h h2
    rcases next_append p m n h h2 with h3 | h3
    · refine .inl ?_
      unfold loopM
      rw [h3]
      simp
    · unfold loopM
      rw [h3]
      by_cases h4 : (nextM p n).2.2 = 0
      · have h4' : ¬ (nextM p n).2.2 ≠ 0 := by simpa using h4
        rw [if_neg h4', if_neg h4']
        by_cases h5 : (nextM p n).1 = []
        · rw [if_pos h5, if_pos h5]; exact .inr rfl
        · rw [if_neg h5, if_neg h5]
          by_cases h6 : (addM F (nextM p n).1).2 = 0
          · have h6' : ¬ (addM F (nextM p n).1).2 ≠ 0 := by simpa using h6
            rw [if_neg h6', if_neg h6']
            exact loop_append p m st k _ _ hb.1 hb.2.1
          · rw [if_pos h6, if_pos h6]; exact .inr rfl
      · rw [if_pos h4, if_pos h4]; exact .inr rfl
theorem read_append (p m : List UInt8) : (readM p).e = 17 ∨ readM (p ++ m) = readM p := by
  have hb := next_bounds (s := p) (n := 0) (Nat.zero_le _) (Nat.zero_le _)
  rcases next_append p m 0 (Nat.zero_le _) (Nat.zero_le _) with h3 | h3
  · refine .inl ?_
    unfold readM
    rw [h3]
    simp
  · unfold readM
    rw [h3]
    by_cases h4 : (nextM p 0).2.2 = 0
    · have h4' : ¬ (nextM p 0).2.2 ≠ 0 := by simpa using h4
      rw [if_neg h4', if_neg h4']
      by_cases h6 : beginE (nextM p 0).1 = 0
      · have h6' : ¬ beginE (nextM p 0).1 ≠ 0 := by simpa using h6
        rw [if_neg h6', if_neg h6']
        exact loop_append p m _ _ _ _ hb.1 hb.2.1
      · rw [if_pos h6, if_pos h6]; exact .inr rfl
    · rw [if_pos h4, if_pos h4]; exact .inr rfl
/-- whatever comes later: an error stays, a head stays -/
theorem split_append (p m : List UInt8) : (splitM p).e = 17 ∨ splitM (p ++ m) = splitM p := by
  rcases read_append p m with h | h
  · refine .inl ?_
    unfold splitM
    rw [h]
    simp
  · refine .inr ?_
    unfold splitM
    rw [h]
theorem split_take (s : List UInt8) (k : Nat) : (splitM (s.take k)).e = 17 ∨ splitM s = splitM (s.take k) := by
  have := split_append (s.take k) (s.drop k)
  rwa [List.take_append_drop] at this
end Go.Proofs.YtpimfoohpfkciaaGreatDoor

/- Layer 10: a head is read as it was written. Plain laws; no program. No conditions. -/
namespace Go.Proofs.YtpimfoohpfkciaaGreatDoor
open Go.RowKit Go.Shelf

/-- the lines of fields -/
def bodyT (K : List Fld) : List UInt8 := K.flatMap fun f => printF f ++ [13, 10]
def headT (st : List UInt8) (K : List Fld) : List UInt8 := st ++ [13, 10] ++ bodyT K ++ [13, 10]
/-- no CR, no LF -/
def clean (l : List UInt8) : Prop := ∀ b ∈ l, b ≠ 13 ∧ b ≠ 10

theorem tchar_clean {b : UInt8} (h : tchar b = true) : b ≠ 13 ∧ b ≠ 10 ∧ b ≠ 58 := by
  refine ⟨?_, ?_, ?_⟩ <;> (rintro rfl; revert h; decide)
theorem textB_clean {b : UInt8} (h : textB b = true) : b ≠ 13 ∧ b ≠ 10 := by
  refine ⟨?_, ?_⟩ <;> (rintro rfl; revert h; decide)
theorem good_parts {f : Fld} (h : goodF f = true) : isTok f.name = true ∧ isTxt f.value = true ∧ trimW f.value = f.value := by
  unfold goodF at h
  simp only [Bool.and_eq_true, beq_iff_eq] at h
  exact ⟨h.1.1, h.1.2, h.2⟩
theorem isTok_parts {l : List UInt8} (h : isTok l = true) : (∀ b ∈ l, tchar b = true) ∧ l ≠ [] := by
  unfold isTok at h
  simp only [Bool.and_eq_true, List.all_eq_true] at h
  exact ⟨h.1, by intro e; subst e; simp at h⟩
theorem print_clean {f : Fld} (h : goodF f = true) : clean (printF f) := by
  obtain ⟨h1, h2, _⟩ := good_parts h
  intro b hb
  unfold printF at hb
  simp only [List.mem_append, List.mem_cons, List.mem_nil_iff, or_false] at hb
  rcases hb with (hb | rfl | rfl) | hb
  · have := tchar_clean ((isTok_parts h1).1 b hb)
    exact ⟨this.1, this.2.1⟩
  · decide
  · decide
  · unfold isTxt at h2
    exact textB_clean (List.all_eq_true.1 h2 b hb)

theorem indexByte_first {x r : List UInt8} {c : UInt8} (h : ∀ b ∈ x, b ≠ c) : Lib.indexByte (x ++ c :: r) c = x.length := by
  refine indexByte_at (by simp) fun j hj => ?_
  rw [List.getElem?_append_left hj]
  intro e
  exact h c (List.mem_of_getElem? e) rfl
/-- a whole line is read -/
theorem next_line (pre x rest : List UInt8) (hx : clean x) (h : pre.length + x.length + 2 ≤ 4096) :
    nextM (pre ++ (x ++ [13, 10] ++ rest)) pre.length = (x, pre.length + (x.length + 2), 0) := by
  have hseen : ∃ r, seenM (pre ++ (x ++ [13, 10] ++ rest)) pre.length = (x ++ [13]) ++ 10 :: r := by
    unfold seenM
    rw [List.take_append, List.drop_append]
    have e1 : (pre.take 4096) = pre := List.take_of_length_le (by omega)
    rw [e1, List.drop_length, List.nil_append, Nat.sub_self, List.drop_zero]
    have e3 : x ++ [13, 10] ++ rest = (x ++ [13]) ++ 10 :: rest := by simp
    rw [e3, List.take_append, List.take_of_length_le (by simp; omega)]
    obtain ⟨m, hm⟩ : ∃ m, 4096 - pre.length - (x ++ [13]).length = m + 1 := ⟨4096 - pre.length - (x ++ [13]).length - 1, by simp; omega⟩
    rw [hm, List.take_succ_cons]
    exact ⟨_, rfl⟩
  obtain ⟨r, hr⟩ := hseen
  have hi : Lib.indexByte (seenM (pre ++ (x ++ [13, 10] ++ rest)) pre.length) 10 = ((x.length + 1 : Nat) : Int) := by
    rw [hr, indexByte_first (x := x ++ [13])]
    · simp
    · intro b hb
      simp only [List.mem_append, List.mem_singleton] at hb
      rcases hb with hb | rfl
      · exact (hx b hb).2
      · decide
  have ht : (seenM (pre ++ (x ++ [13, 10] ++ rest)) pre.length).take (x.length + 1 + 1) = x ++ [13, 10] := by
    rw [hr, List.take_append, List.take_of_length_le (by simp)]
    simp
  have hl : lineM (x ++ [13, 10]) = some x := by
    unfold lineM
    have hs : Lib.hasSuffix (x ++ [13, 10]) [13, 10] = true := by unfold Lib.hasSuffix; simp
    have htr : Lib.trimSuffix (x ++ [13, 10]) [13, 10] = x := by
      unfold Lib.trimSuffix
      rw [if_pos hs]
      simp
    rw [htr, if_pos]
    refine ⟨hs, ?_⟩
    rw [indexByte_no]
    · omega
    · intro j hj
      exact (hx 13 (List.mem_of_getElem? hj)).1 rfl
  unfold nextM
  rw [hi, if_neg (by omega), Int.toNat_natCast, ht, hl]

theorem trim_blank (v : List UInt8) : trimW (32 :: v) = trimW v := by
  rw [trimW_eq, trimL_cons, if_pos (.inl rfl), ← trimW_eq]
theorem parse_print {f : Fld} (h : goodF f = true) : parseF (printF f) = some f := by
  obtain ⟨h1, h2, h3⟩ := good_parts h
  obtain ⟨ht, hne⟩ := isTok_parts h1
  have hi : Lib.indexByte (printF f) 58 = f.name.length := by
    have e : printF f = f.name ++ 58 :: (32 :: f.value) := by simp [printF]
    rw [e]
    exact indexByte_first fun b hb => (tchar_clean (ht b hb)).2.2
  have e1 : (printF f).take f.name.length = f.name := by simp [printF]
  have e2 : (printF f).drop (f.name.length + 1) = 32 :: f.value := by simp [printF]
  have h4 : isTxt (32 :: f.value) = true := by
    unfold isTxt at *
    rw [List.all_cons, h2]
    rfl
  rw [parseF_eq, hi, Int.toNat_natCast, e1, e2, if_pos ⟨by omega, h1, h4⟩, trim_blank, h3]

theorem print_ne (f : Fld) : printF f ≠ [] := by simp [printF]
theorem loop_body (st : List UInt8) : ∀ (K : List Fld) (pre : List UInt8) (F : List Fld) (k : Nat) (rest : List UInt8), (∀ f ∈ K, goodF f = true) → F.length + K.length ≤ 32 → pre.length + (bodyT K).length + 2 ≤ 4096 → K.length < k →
    loopM (pre ++ (bodyT K ++ ([13, 10] ++ rest))) st k F pre.length = ⟨st, F ++ K, pre.length + (bodyT K).length + 2, 0⟩
  | [], pre, F, k, rest, _, _, h, hk => by
    obtain ⟨k', rfl⟩ : ∃ k', k = k' + 1 := ⟨k - 1, by simp at hk; omega⟩
    have hn := next_line pre [] rest (by intro b hb; cases hb) (by simpa [bodyT] using h)
    simp only [bodyT, List.flatMap_nil, List.nil_append, List.length_nil, Nat.add_zero, Nat.zero_add] at *
    unfold loopM
    rw [hn]
    simp
  | f :: K, pre, F, k, rest, hg, hF, h, hk => by
    obtain ⟨k', rfl⟩ : ∃ k', k = k' + 1 := ⟨k - 1, by simp at hk; omega⟩
    have hgf := hg f (by simp)
    have hb : bodyT (f :: K) = printF f ++ [13, 10] ++ bodyT K := by simp [bodyT]
    have hlen : (bodyT (f :: K)).length = (printF f).length + 2 + (bodyT K).length := by rw [hb]; simp; omega
    have hn := next_line pre (printF f) (bodyT K ++ ([13, 10] ++ rest)) (print_clean hgf) (by omega)
    have he : pre ++ (bodyT (f :: K) ++ ([13, 10] ++ rest)) = pre ++ (printF f ++ [13, 10] ++ (bodyT K ++ ([13, 10] ++ rest))) := by rw [hb]; simp
    have ha : addM F (printF f) = (F ++ [f], 0) := by
      unfold addM
      rw [parse_print hgf]
      simp at hF
      simp only
      rw [if_neg (by omega)]
    have ih := loop_body st K (pre ++ (printF f ++ [13, 10])) (F ++ [f]) k' rest (fun x hx => hg x (by simp [hx])) (by simp at hF ⊢; omega) (by simp; omega) (by simp at hk; omega)
    rw [he]
    unfold loopM
    rw [hn]
    simp only [ne_eq, not_true_eq_false, if_false, print_ne, ha]
    have e2 : pre ++ (printF f ++ [13, 10] ++ (bodyT K ++ ([13, 10] ++ rest))) = pre ++ (printF f ++ [13, 10]) ++ (bodyT K ++ ([13, 10] ++ rest)) := by simp
    have e3 : pre.length + ((printF f).length + 2) = (pre ++ (printF f ++ [13, 10])).length := by simp
    rw [e2, e3, ih]
    simp [hlen]
    omega
theorem split_head (st : List UInt8) (K : List Fld) (rest : List UInt8) (hst : clean st) (h0 : st ≠ []) (h1 : st.length ≤ 1024) (hg : ∀ f ∈ K, goodF f = true) (h32 : K.length ≤ 32) (hl : (headT st K).length ≤ 4096) :
    splitM (headT st K ++ rest) = ⟨st, K, (headT st K).length, 0⟩ := by
  have hlen : (headT st K).length = st.length + 2 + (bodyT K).length + 2 := by simp [headT]; omega
  have he : headT st K ++ rest = [] ++ (st ++ [13, 10] ++ (bodyT K ++ ([13, 10] ++ rest))) := by simp [headT]
  have hn := next_line [] st (bodyT K ++ ([13, 10] ++ rest)) hst (by simp; omega)
  have hlo := loop_body st K (st ++ [13, 10]) [] 4097 rest hg (by simpa using h32) (by simp; omega) (by omega)
  have hr : readM (headT st K ++ rest) = ⟨st, K, (headT st K).length, 0⟩ := by
    rw [he]
    unfold readM
    rw [show (0 : Nat) = ([] : List UInt8).length from rfl, hn]
    have hb : beginE st = 0 := by unfold beginE; rw [if_neg h0, if_neg (by omega)]
    simp only [ne_eq, not_true_eq_false, if_false, hb, List.nil_append, List.length_nil, Nat.zero_add]
    have e2 : st ++ [13, 10] ++ (bodyT K ++ ([13, 10] ++ rest)) = (st ++ [13, 10]) ++ (bodyT K ++ ([13, 10] ++ rest)) := rfl
    have e3 : st.length + 2 = (st ++ [13, 10]).length := by simp
    rw [e3, hlo, hlen]
    simp
  unfold splitM
  rw [hr]
  simp
theorem loop_n_le (s st : List UInt8) : ∀ (k : Nat) (F : List Fld) (n : Nat), n ≤ s.length → n ≤ 4096 → (loopM s st k F n).n ≤ s.length
  | 0, F, n, h, _ => h
  | k + 1, F, n, h, h2 => by
    have hb := next_bounds h h2
    unfold loopM
    by_cases h4 : (nextM s n).2.2 ≠ 0
    · rw [if_pos h4]; exact hb.1
    · rw [if_neg h4]
      by_cases h5 : (nextM s n).1 = []
      · rw [if_pos h5]; exact hb.1
      · rw [if_neg h5]
        by_cases h6 : (addM F (nextM s n).1).2 ≠ 0
        · rw [if_pos h6]; exact hb.1
        · rw [if_neg h6]; exact loop_n_le s st k _ _ hb.1 hb.2.1
theorem split_n_le (s : List UInt8) : (splitM s).n ≤ s.length := by
  have hb := next_bounds (s := s) (n := 0) (Nat.zero_le _) (Nat.zero_le _)
  have hr : (readM s).n ≤ s.length := by
    unfold readM
    by_cases h4 : (nextM s 0).2.2 ≠ 0
    · rw [if_pos h4]; exact hb.1
    · rw [if_neg h4]
      by_cases h6 : beginE (nextM s 0).1 ≠ 0
      · rw [if_pos h6]; exact hb.1
      · rw [if_neg h6]; exact loop_n_le s _ _ _ _ hb.1 hb.2.1
  unfold splitM
  split
  · simp
  · exact hr
/-- cut off anywhere it is too short -/
theorem split_cut (st : List UInt8) (K : List Fld) (hst : clean st) (h0 : st ≠ []) (h1 : st.length ≤ 1024) (hg : ∀ f ∈ K, goodF f = true) (h32 : K.length ≤ 32) (hl : (headT st K).length ≤ 4096) (j : Nat) (hj : j < (headT st K).length) :
    (splitM ((headT st K).take j)).e = 17 := by
  rcases split_take (headT st K) j with h | h
  · exact h
  · have hw := split_head st K [] hst h0 h1 hg h32 hl
    rw [List.append_nil] at hw
    have := split_n_le ((headT st K).take j)
    rw [← h, hw] at this
    simp at this
    omega
end Go.Proofs.YtpimfoohpfkciaaGreatDoor

/- Layer 11: what a chunked body's reader does, as a plain machine; however the bytes are cut it comes to the same. No program. No conditions but those that each theorem states. -/
namespace Go.Proofs.YtpimfoohpfkciaaGreatDoor
open Go.RowKit

structure Ck where
  st : Nat
  left : Nat
  most : Nat
  flds : Nat
  inp : List UInt8
  dat : List UInt8
  err : Int
def Ck.add (c : Ck) (s : List UInt8) : Ck := { c with inp := c.inp ++ s }
structure LnR where
  t : List UInt8
  e : Int
  r : List UInt8
def crlfC : List UInt8 := [13, 10]
/-- the next line -/
def lnC (l : List UInt8) : LnR :=
  if Lib.indexByte (l.take 256) 10 < 0 then (if 256 ≤ l.length then ⟨[], 3, l⟩ else ⟨[], 17, l⟩)
  else if Lib.hasSuffix (l.take ((Lib.indexByte (l.take 256) 10).toNat + 1)) crlfC then ⟨Lib.trimSuffix (l.take ((Lib.indexByte (l.take 256) 10).toNat + 1)) crlfC, 0, l.drop ((Lib.indexByte (l.take 256) 10).toNat + 1)⟩ else ⟨[], 3, l⟩
def digitsB : List UInt8 := [48, 49, 50, 51, 52, 53, 54, 55, 56, 57, 97, 98, 99, 100, 101, 102, 65, 66, 67, 68, 69, 70]
def restOk (r : List UInt8) : Bool := r.isEmpty || (isTxt r && decide (0 ≤ Lib.indexByte [32, 9, 59] (r.getD 0 0)))
def numRest (t : List UInt8) : List UInt8 := Lib.trimLeftS t digitsB
def numT (t : List UInt8) : List UInt8 := t.take (t.length - (numRest t).length)
def numE (t : List UInt8) (m : Int) : Int := if restOk (numRest t) then (if unhexE (numT t) m = 14 then 4 else unhexE (numT t) m) else 3
def numV (t : List UInt8) (m : Int) : Int := unhexV (numT t) m
def beginM (c : Ck) : Ck × Int :=
  if (lnC c.inp).e ≠ 0 then (c, (lnC c.inp).e)
  else if numE (lnC c.inp).t ((c.most : Int) - c.dat.length) ≠ 0 then ({ c with inp := (lnC c.inp).r }, numE (lnC c.inp).t ((c.most : Int) - c.dat.length))
  else ({ c with inp := (lnC c.inp).r, left := (numV (lnC c.inp).t ((c.most : Int) - c.dat.length)).toNat, st := if numV (lnC c.inp).t ((c.most : Int) - c.dat.length) = 0 then 3 else 1 }, 0)
def dataM (c : Ck) : Ck × Int :=
  if 0 < c.left - min c.left c.inp.length then ({ c with inp := c.inp.drop (min c.left c.inp.length), dat := c.dat ++ c.inp.take (min c.left c.inp.length), left := c.left - min c.left c.inp.length }, 17)
  else ({ c with inp := c.inp.drop (min c.left c.inp.length), dat := c.dat ++ c.inp.take (min c.left c.inp.length), left := c.left - min c.left c.inp.length, st := 2 }, 0)
def closeM (c : Ck) : Ck × Int :=
  if c.inp.take 2 ≠ crlfC.take c.inp.length then (c, 3)
  else if c.inp.length < 2 then (c, 17)
  else ({ c with inp := c.inp.drop 2, st := 0 }, 0)
def trailM (c : Ck) : Ck × Int :=
  if (lnC c.inp).e ≠ 0 then (c, (lnC c.inp).e)
  else if (lnC c.inp).t = [] then ({ c with inp := (lnC c.inp).r, st := 4 }, 0)
  else if parseE (lnC c.inp).t ≠ 0 then ({ c with inp := (lnC c.inp).r }, parseE (lnC c.inp).t)
  else ({ c with inp := (lnC c.inp).r, flds := c.flds + 1 }, if 16 < c.flds + 1 then 4 else 0)
def stepM (c : Ck) : Ck × Int := if c.st = 0 then beginM c else if c.st = 1 then dataM c else if c.st = 2 then closeM c else if c.st = 3 then trailM c else (c, 17)

theorem suffix_len {a b : List UInt8} (h : Lib.hasSuffix a b = true) : b.length ≤ a.length := by
  unfold Lib.hasSuffix at h
  rw [List.isSuffixOf_iff_suffix] at h
  exact h.length_le
theorem line_short {l : List UInt8} (h : Lib.indexByte (l.take 256) 10 < 0) : lnC l = if 256 ≤ l.length then ⟨[], 3, l⟩ else ⟨[], 17, l⟩ := by unfold lnC; rw [if_pos h]
theorem line_at {l : List UInt8} {k : Nat} (h : Lib.indexByte (l.take 256) 10 = (k : Nat)) : lnC l = if Lib.hasSuffix (l.take (k + 1)) crlfC then ⟨Lib.trimSuffix (l.take (k + 1)) crlfC, 0, l.drop (k + 1)⟩ else ⟨[], 3, l⟩ := by
  unfold lnC
  rw [if_neg (by omega), h]
  rfl
theorem line_cases (l : List UInt8) : Lib.indexByte (l.take 256) 10 < 0 ∨ ∃ k : Nat, Lib.indexByte (l.take 256) 10 = (k : Nat) ∧ k < l.length ∧ k < 256 := by
  by_cases h : Lib.indexByte (l.take 256) 10 < 0
  · exact .inl h
  · obtain ⟨k, hk⟩ : ∃ k : Nat, Lib.indexByte (l.take 256) 10 = (k : Nat) := ⟨(Lib.indexByte (l.take 256) 10).toNat, by omega⟩
    have := (List.getElem?_eq_some_iff.1 (Lib.indexByte_some hk).1).1
    rw [List.length_take] at this
    exact .inr ⟨k, hk, by omega, by omega⟩
theorem line_app (l s : List UInt8) (h : (lnC l).e ≠ 17) : lnC (l ++ s) = ⟨(lnC l).t, (lnC l).e, (lnC l).r ++ s⟩ := by
  rcases line_cases l with hn | ⟨k, hk, hkl, h256⟩
  · rw [line_short hn] at h ⊢
    by_cases hl : 256 ≤ l.length
    · have e : (l ++ s).take 256 = l.take 256 := List.take_append_of_le_length hl
      have hn' : Lib.indexByte ((l ++ s).take 256) 10 < 0 := by rw [e]; exact hn
      rw [line_short hn', if_pos hl, if_pos (by simp; omega)]
    · rw [if_neg hl] at h; simp at h
  · obtain ⟨h1, h2⟩ := Lib.indexByte_some hk
    have e : Lib.indexByte ((l ++ s).take 256) 10 = (k : Nat) := by
      have ek : ∀ j, j < l.length → j < 256 → ((l ++ s).take 256)[j]? = (l.take 256)[j]? := by
        intro j hj hj2
        rw [List.getElem?_take, List.getElem?_take, if_pos hj2, if_pos hj2, List.getElem?_append_left hj]
      refine indexByte_at ?_ (fun j hj => ?_)
      · rw [ek k hkl h256]; exact h1
      · rw [ek j (by omega) (by omega)]; exact h2 j hj
    rw [line_at e, line_at hk, List.take_append_of_le_length (by omega), List.drop_append_of_le_length (by omega)]
    split <;> rfl
theorem line_le (l : List UInt8) : (lnC l).r.length ≤ l.length ∧ ((lnC l).e = 0 → (lnC l).r.length + 2 ≤ l.length) ∧ (lnC l).t.length ≤ 256 ∧ ((lnC l).e = 0 ∨ (lnC l).e = 3 ∨ (lnC l).e = 17) ∧ (lnC l).t.length ≤ l.length := by
  rcases line_cases l with hn | ⟨k, hk, hkl, h256⟩
  · rw [line_short hn]
    split <;> simp
  · rw [line_at hk]
    by_cases hs : Lib.hasSuffix (l.take (k + 1)) crlfC = true
    · rw [if_pos hs]
      have := suffix_len hs
      rw [List.length_take] at this
      have h2 : crlfC.length = 2 := rfl
      unfold Lib.trimSuffix
      rw [if_pos hs]
      simp
      omega
    · rw [if_neg hs]; simp
theorem line_err {l : List UInt8} (h : (lnC l).e ≠ 0) : (lnC l).r = l ∧ (lnC l).t = [] := by
  rcases line_cases l with hn | ⟨k, hk, hkl, h256⟩
  · rw [line_short hn]
    split <;> simp
  · rw [line_at hk] at h ⊢
    by_cases hs : Lib.hasSuffix (l.take (k + 1)) crlfC = true
    · rw [if_pos hs] at h; simp at h
    · rw [if_neg hs]; simp

theorem numE_cases (t : List UInt8) (m : Int) : numE t m = 0 ∨ numE t m = 3 ∨ numE t m = 4 := by
  unfold numE
  have := unhex_range (numT t) m
  by_cases h0 : unhexE (numT t) m = 0
  · rw [h0]; split <;> simp
  · rcases (this.2 h0).2 with h | h <;> rw [h] <;> split <;> simp
theorem numV_range {t : List UInt8} {m : Int} (h : numE t m = 0) : 0 ≤ numV t m ∧ numV t m ≤ m := by
  unfold numE at h
  have := unhex_range (numT t) m
  by_cases h0 : unhexE (numT t) m = 0
  · exact this.1 h0
  · rcases (this.2 h0).2 with h1 | h1 <;> rw [h1] at h <;> split at h <;> simp at h
theorem parseE_cases (l : List UInt8) : parseE l = 0 ∨ parseE l = 3 := by unfold parseE; split <;> simp

/-- what a step's result says of the same step with more bytes behind -/
def Goes (f : Ck → Ck × Int) (c : Ck) (s : List UInt8) : Prop := ((f c).2 ≠ 17 → f (c.add s) = ((f c).1.add s, (f c).2)) ∧ ((f c).2 = 17 → f (c.add s) = f ((f c).1.add s))
theorem goes_line {f : Ck → Ck × Int} {c : Ck} {s : List UInt8} (g : Ck → LnR → Ck × Int) (hf : ∀ c, f c = if (lnC c.inp).e ≠ 0 then (c, (lnC c.inp).e) else g c (lnC c.inp)) (hg : ∀ t r, g (c.add s) ⟨t, 0, r ++ s⟩ = ((g c ⟨t, 0, r⟩).1.add s, (g c ⟨t, 0, r⟩).2) ∧ (g c ⟨t, 0, r⟩).2 ≠ 17) : Goes f c s := by
  unfold Goes
  by_cases h0 : (lnC c.inp).e = 0
  · have h1 : f c = g c (lnC c.inp) := by rw [hf, if_neg (by simp [h0])]
    have h2 := line_app c.inp s (by rw [h0]; decide)
    have h3 : f (c.add s) = g (c.add s) (lnC (c.inp ++ s)) := by rw [hf, if_neg (by show ¬ (lnC (c.inp ++ s)).e ≠ 0; rw [h2]; simp [h0])]; rfl
    have h4 : lnC c.inp = ⟨(lnC c.inp).t, 0, (lnC c.inp).r⟩ := by rw [← h0]
    obtain ⟨g1, g2⟩ := hg (lnC c.inp).t (lnC c.inp).r
    rw [← h4] at g1 g2
    rw [h1, h3, h2, h0]
    exact ⟨fun _ => g1, fun h => absurd h g2⟩
  · have h1 : f c = (c, (lnC c.inp).e) := by rw [hf, if_pos h0]
    rw [h1]
    refine ⟨fun h => ?_, fun _ => rfl⟩
    have h2 := line_app c.inp s h
    rw [hf, if_pos (by show (lnC (c.inp ++ s)).e ≠ 0; rw [h2]; exact h0)]
    show (c.add s, (lnC (c.inp ++ s)).e) = _
    rw [h2]
theorem goes_begin (c : Ck) (s : List UInt8) : Goes beginM c s := by
  refine goes_line (fun c L => if numE L.t ((c.most : Int) - c.dat.length) ≠ 0 then ({ c with inp := L.r }, numE L.t ((c.most : Int) - c.dat.length))
    else ({ c with inp := L.r, left := (numV L.t ((c.most : Int) - c.dat.length)).toNat, st := if numV L.t ((c.most : Int) - c.dat.length) = 0 then 3 else 1 }, 0)) (fun c => rfl) (fun t r => ?_)
  have hc := numE_cases t ((c.most : Int) - c.dat.length)
  by_cases h : numE t ((c.most : Int) - c.dat.length) = 0
  · exact ⟨by simp [h, Ck.add]; rfl, by simp [h]⟩
  · exact ⟨by simp [h, Ck.add], by simp [h]; omega⟩
theorem goes_trail (c : Ck) (s : List UInt8) : Goes trailM c s := by
  refine goes_line (fun c L => if L.t = [] then ({ c with inp := L.r, st := 4 }, 0)
    else if parseE L.t ≠ 0 then ({ c with inp := L.r }, parseE L.t)
    else ({ c with inp := L.r, flds := c.flds + 1 }, if 16 < c.flds + 1 then 4 else 0)) (fun c => rfl) (fun t r => ?_)
  have hc := parseE_cases t
  by_cases h1 : t = []
  · exact ⟨by simp [h1, Ck.add], by simp [h1]⟩
  · by_cases h : parseE t = 0
    · exact ⟨by simp [h1, h, Ck.add]; rfl, by simp [h1, h]; split <;> decide⟩
    · exact ⟨by simp [h1, h, Ck.add], by simp [h1, h]; omega⟩
theorem goes_close (c : Ck) (s : List UInt8) : Goes closeM c s := by
  unfold Goes
  by_cases h1 : c.inp.take 2 = crlfC.take c.inp.length
  · by_cases h2 : c.inp.length < 2
    · have e : closeM c = (c, 17) := by unfold closeM; rw [if_neg (by simp [h1]), if_pos h2]
      rw [e]
      exact ⟨fun h => absurd rfl h, fun _ => rfl⟩
    · have e : closeM c = ({ c with inp := c.inp.drop 2, st := 0 }, 0) := by unfold closeM; rw [if_neg (by simp [h1]), if_neg h2]
      rw [e]
      refine ⟨fun _ => ?_, fun h => by simp at h⟩
      have hk : (c.inp ++ s).take 2 = c.inp.take 2 := List.take_append_of_le_length (by omega)
      have hd : (c.inp ++ s).drop 2 = c.inp.drop 2 ++ s := List.drop_append_of_le_length (by omega)
      have h3 : crlfC.take (c.inp ++ s).length = crlfC.take c.inp.length := by
        rw [List.take_of_length_le (by simp [crlfC]; omega), List.take_of_length_le (by simp [crlfC]; omega)]
      show (if (c.inp ++ s).take 2 ≠ crlfC.take (c.inp ++ s).length then (c.add s, (3 : Int)) else if (c.inp ++ s).length < 2 then (c.add s, 17) else ({ c.add s with inp := (c.inp ++ s).drop 2, st := 0 }, 0)) = _
      rw [hk, h3, if_neg (by simp [h1]), if_neg (by simp; omega), hd]
      rfl
  · have e : closeM c = (c, 3) := by unfold closeM; rw [if_pos h1]
    rw [e]
    refine ⟨fun _ => ?_, fun h => by simp at h⟩
    show (if (c.inp ++ s).take 2 ≠ crlfC.take (c.inp ++ s).length then (c.add s, (3 : Int)) else if (c.inp ++ s).length < 2 then (c.add s, 17) else ({ c.add s with inp := (c.inp ++ s).drop 2, st := 0 }, 0)) = _
    rw [if_pos]
    · intro h
      apply h1
      have := congrArg (List.take c.inp.length) h
      rw [List.take_take, List.take_take] at this
      have e1 : min c.inp.length (c.inp ++ s).length = c.inp.length := by simp
      rw [e1] at this
      rw [← this]
      rcases Nat.lt_or_ge c.inp.length 2 with hl | hl
      · rw [Nat.min_eq_left (by omega), List.take_left, List.take_of_length_le (by omega)]
      · rw [Nat.min_eq_right hl, List.take_append_of_le_length hl]
theorem data_eq (c : Ck) (n : Nat) (hn : min c.left c.inp.length = n) : dataM c = if 0 < c.left - n then ({ c with inp := c.inp.drop n, dat := c.dat ++ c.inp.take n, left := c.left - n }, 17)
    else ({ c with inp := c.inp.drop n, dat := c.dat ++ c.inp.take n, left := c.left - n, st := 2 }, 0) := by subst hn; rfl
theorem goes_data (c : Ck) (s : List UInt8) : Goes dataM c s := by
  unfold Goes
  by_cases h : c.inp.length < c.left
  · have e : dataM c = ({ c with inp := [], dat := c.dat ++ c.inp, left := c.left - c.inp.length }, 17) := by
      rw [data_eq c c.inp.length (by omega), if_pos (by omega), List.drop_length, List.take_length]
    rw [e]
    refine ⟨fun h => absurd rfl h, fun _ => ?_⟩
    rw [data_eq (c.add s) (c.inp.length + min (c.left - c.inp.length) s.length) (by show min c.left (c.inp ++ s).length = _; rw [List.length_append]; omega),
      data_eq (({ c with inp := [], dat := c.dat ++ c.inp, left := c.left - c.inp.length } : Ck).add s) (min (c.left - c.inp.length) s.length) (by show min (c.left - c.inp.length) ([] ++ s).length = _; rw [List.nil_append])]
    have ht : (c.inp ++ s).take (c.inp.length + min (c.left - c.inp.length) s.length) = c.inp ++ s.take (min (c.left - c.inp.length) s.length) := by rw [List.take_length_add_append]
    have hd : (c.inp ++ s).drop (c.inp.length + min (c.left - c.inp.length) s.length) = s.drop (min (c.left - c.inp.length) s.length) := by rw [List.drop_length_add_append]
    show (if 0 < c.left - (c.inp.length + min (c.left - c.inp.length) s.length) then (({ c.add s with inp := (c.inp ++ s).drop (c.inp.length + min (c.left - c.inp.length) s.length), dat := c.dat ++ (c.inp ++ s).take (c.inp.length + min (c.left - c.inp.length) s.length), left := c.left - (c.inp.length + min (c.left - c.inp.length) s.length) } : Ck), (17 : Int))
      else ({ c.add s with inp := (c.inp ++ s).drop (c.inp.length + min (c.left - c.inp.length) s.length), dat := c.dat ++ (c.inp ++ s).take (c.inp.length + min (c.left - c.inp.length) s.length), left := c.left - (c.inp.length + min (c.left - c.inp.length) s.length), st := 2 }, 0)) = _
    rw [ht, hd, ← List.append_assoc, ← Nat.sub_sub]
    rfl
  · have e : dataM c = ({ c with inp := c.inp.drop c.left, dat := c.dat ++ c.inp.take c.left, left := 0, st := 2 }, 0) := by
      rw [data_eq c c.left (by omega), if_neg (by omega), Nat.sub_self]
    rw [e]
    refine ⟨fun _ => ?_, fun h => by simp at h⟩
    rw [data_eq (c.add s) c.left (by show min c.left (c.inp ++ s).length = _; rw [List.length_append]; omega), if_neg (by show ¬ 0 < c.left - c.left; omega)]
    show (({ c.add s with inp := (c.inp ++ s).drop c.left, dat := c.dat ++ (c.inp ++ s).take c.left, left := c.left - c.left, st := 2 } : Ck), (0 : Int)) = _
    rw [Nat.sub_self, List.take_append_of_le_length (by omega), List.drop_append_of_le_length (by omega)]
    rfl
theorem begin_st (c : Ck) : (beginM c).2 = 17 → (beginM c).1 = c := by
  unfold beginM
  split
  · intro _; rfl
  · split
    · have := numE_cases (lnC c.inp).t ((c.most : Int) - c.dat.length)
      intro h; simp only at h; omega
    · intro h; simp at h
theorem trail_st (c : Ck) : (trailM c).2 = 17 → (trailM c).1 = c := by
  unfold trailM
  split
  · intro _; rfl
  · split
    · intro h; simp at h
    · split
      · have := parseE_cases (lnC c.inp).t
        intro h; simp only at h; omega
      · intro h; simp only at h; split at h <;> simp at h
theorem close_st (c : Ck) : (closeM c).2 = 17 → (closeM c).1 = c := by
  unfold closeM
  split
  · intro h; simp at h
  · split
    · intro _; rfl
    · intro h; simp at h
theorem data_st (c : Ck) : (dataM c).2 = 17 → (dataM c).1.st = c.st := by
  unfold dataM
  split
  · intro _; rfl
  · intro h; simp at h
theorem goes_step (c : Ck) (s : List UInt8) : Goes stepM c s := by
  have key : ∀ (f : Ck → Ck × Int), Goes f c s → ((f c).2 = 17 → (f c).1.st = c.st) → (∀ d, d.st = c.st → stepM d = f d) → Goes stepM c s := by
    intro f hg hst hs
    unfold Goes at hg ⊢
    rw [hs c rfl]
    refine ⟨fun h => ?_, fun h => ?_⟩
    · rw [hs (c.add s) rfl]; exact hg.1 h
    · rw [hs (c.add s) rfl, hs ((f c).1.add s) (hst h)]; exact hg.2 h
  by_cases h0 : c.st = 0
  · exact key beginM (goes_begin c s) (fun h => by rw [begin_st c h]) (fun d hd => by unfold stepM; rw [if_pos (by omega)])
  by_cases h1 : c.st = 1
  · exact key dataM (goes_data c s) (fun h => data_st c h) (fun d hd => by unfold stepM; rw [if_neg (by omega), if_pos (by omega)])
  by_cases h2 : c.st = 2
  · exact key closeM (goes_close c s) (fun h => by rw [close_st c h]) (fun d hd => by unfold stepM; rw [if_neg (by omega), if_neg (by omega), if_pos (by omega)])
  by_cases h3 : c.st = 3
  · exact key trailM (goes_trail c s) (fun h => by rw [trail_st c h]) (fun d hd => by unfold stepM; rw [if_neg (by omega), if_neg (by omega), if_neg (by omega), if_pos (by omega)])
  · refine key (fun c => (c, 17)) ⟨fun h => absurd rfl h, fun _ => rfl⟩ (fun _ => rfl) (fun d hd => by unfold stepM; rw [if_neg (by omega), if_neg (by omega), if_neg (by omega), if_neg (by omega)])

/-- what a chunk may be -/
def Ck.ok (c : Ck) : Prop := c.left + c.dat.length ≤ c.most ∧ c.flds ≤ 16 ∧ c.st ≤ 4
def Ck.mu (c : Ck) : Nat := 2 * c.inp.length + (if c.st = 1 then 1 else 0)
theorem begin_ok {c : Ck} (h : c.ok) (_h0 : c.st = 0) : ((beginM c).2 = 0 → (beginM c).1.mu < c.mu) ∧ (beginM c).1.ok ∧ (beginM c).1.most = c.most ∧ (beginM c).1.err = c.err ∧ (beginM c).1.inp.length + (beginM c).1.dat.length ≤ c.inp.length + c.dat.length ∧ c.dat <+: (beginM c).1.dat := by
  obtain ⟨h1, h2, h3⟩ := h
  have hl := line_le c.inp
  unfold beginM
  split
  · exact ⟨fun hh => absurd hh (by assumption), ⟨h1, h2, h3⟩, rfl, rfl, Nat.le_refl _, List.prefix_refl _⟩
  · rename_i he
    have he : (lnC c.inp).e = 0 := by simpa using he
    have hl2 := hl.2.1 he
    split
    · exact ⟨fun hh => absurd hh (by assumption), ⟨h1, h2, h3⟩, rfl, rfl, by simp only; omega, List.prefix_refl _⟩
    · rename_i hn
      have hn : numE (lnC c.inp).t ((c.most : Int) - c.dat.length) = 0 := by simpa using hn
      have hv := numV_range hn
      refine ⟨fun _ => ?_, ⟨?_, h2, ?_⟩, rfl, rfl, by simp only; omega, List.prefix_refl _⟩
      · unfold Ck.mu; simp only; split <;> split <;> omega
      · simp only; omega
      · simp only; split <;> omega
theorem trail_ok {c : Ck} (h : c.ok) (h0 : c.st = 3) : ((trailM c).2 = 0 → (trailM c).1.mu < c.mu) ∧ ((trailM c).2 = 0 ∨ (trailM c).2 = 17 → (trailM c).1.ok) ∧ (trailM c).1.most = c.most ∧ (trailM c).1.err = c.err ∧ (trailM c).1.inp.length + (trailM c).1.dat.length ≤ c.inp.length + c.dat.length ∧ c.dat <+: (trailM c).1.dat := by
  obtain ⟨h1, h2, h3⟩ := h
  have hl := line_le c.inp
  unfold trailM
  split
  · exact ⟨fun hh => absurd hh (by assumption), fun _ => ⟨h1, h2, h3⟩, rfl, rfl, Nat.le_refl _, List.prefix_refl _⟩
  · rename_i he
    have he : (lnC c.inp).e = 0 := by simpa using he
    have hl2 := hl.2.1 he
    have hmu : c.mu = 2 * c.inp.length := by unfold Ck.mu; rw [if_neg (by omega)]; omega
    split
    · exact ⟨fun _ => by rw [hmu]; unfold Ck.mu; simp; omega, fun _ => ⟨h1, h2, by simp only; omega⟩, rfl, rfl, by simp only; omega, List.prefix_refl _⟩
    · split
      · exact ⟨fun hh => absurd hh (by assumption), fun _ => ⟨h1, h2, h3⟩, rfl, rfl, by simp only; omega, List.prefix_refl _⟩
      · refine ⟨fun _ => by rw [hmu]; unfold Ck.mu; simp only; rw [if_neg (by omega)]; omega, fun hh => ⟨h1, ?_, h3⟩, rfl, rfl, by simp only; omega, List.prefix_refl _⟩
        simp only at hh ⊢
        split at hh
        · rcases hh with hh | hh <;> simp at hh
        · omega
theorem close_ok {c : Ck} (h : c.ok) (h0 : c.st = 2) : ((closeM c).2 = 0 → (closeM c).1.mu < c.mu) ∧ (closeM c).1.ok ∧ (closeM c).1.most = c.most ∧ (closeM c).1.err = c.err ∧ (closeM c).1.inp.length + (closeM c).1.dat.length ≤ c.inp.length + c.dat.length ∧ c.dat <+: (closeM c).1.dat := by
  obtain ⟨h1, h2, h3⟩ := h
  unfold closeM
  split
  · exact ⟨fun hh => by simp at hh, ⟨h1, h2, h3⟩, rfl, rfl, Nat.le_refl _, List.prefix_refl _⟩
  · split
    · exact ⟨fun hh => by simp at hh, ⟨h1, h2, h3⟩, rfl, rfl, Nat.le_refl _, List.prefix_refl _⟩
    · refine ⟨fun _ => ?_, ⟨h1, h2, by simp only; omega⟩, rfl, rfl, by simp only [List.length_drop]; omega, List.prefix_refl _⟩
      unfold Ck.mu
      simp only [List.length_drop]
      rw [if_neg (by omega), if_neg (by omega)]
      omega
theorem data_ok {c : Ck} (h : c.ok) (h0 : c.st = 1) : ((dataM c).2 = 0 → (dataM c).1.mu < c.mu) ∧ (dataM c).1.ok ∧ (dataM c).1.most = c.most ∧ (dataM c).1.err = c.err ∧ (dataM c).1.inp.length + (dataM c).1.dat.length ≤ c.inp.length + c.dat.length ∧ c.dat <+: (dataM c).1.dat := by
  obtain ⟨h1, h2, h3⟩ := h
  unfold dataM
  split
  · refine ⟨fun hh => by simp at hh, ⟨?_, h2, h3⟩, rfl, rfl, ?_, List.prefix_append _ _⟩
    · simp only [List.length_append, List.length_take]; omega
    · simp only [List.length_append, List.length_take, List.length_drop]; omega
  · refine ⟨fun _ => ?_, ⟨?_, h2, by simp only; omega⟩, rfl, rfl, ?_, List.prefix_append _ _⟩
    · unfold Ck.mu; simp only [List.length_drop]; rw [if_neg (by omega), if_pos h0]; omega
    · simp only [List.length_append, List.length_take]; omega
    · simp only [List.length_append, List.length_take, List.length_drop]; omega
theorem step_ok {c : Ck} (h : c.ok) : ((stepM c).2 = 0 → (stepM c).1.mu < c.mu) ∧ ((stepM c).2 = 0 ∨ (stepM c).2 = 17 → (stepM c).1.ok) ∧ (stepM c).1.most = c.most ∧ (stepM c).1.err = c.err ∧ (stepM c).1.inp.length + (stepM c).1.dat.length ≤ c.inp.length + c.dat.length ∧ c.dat <+: (stepM c).1.dat := by
  unfold stepM
  split
  · have := begin_ok h (by assumption); exact ⟨this.1, fun _ => this.2.1, this.2.2⟩
  split
  · have := data_ok h (by assumption); exact ⟨this.1, fun _ => this.2.1, this.2.2⟩
  split
  · have := close_ok h (by assumption); exact ⟨this.1, fun _ => this.2.1, this.2.2⟩
  split
  · exact trail_ok h (by assumption)
  · exact ⟨fun hh => by simp at hh, fun _ => h, rfl, rfl, Nat.le_refl _, List.prefix_refl _⟩

/-- steps till one stops -/
inductive Runs : Ck → Ck → Int → Prop
  | stop {c : Ck} : (stepM c).2 ≠ 0 → Runs c (stepM c).1 (stepM c).2
  | more {c d : Ck} {e : Int} : (stepM c).2 = 0 → Runs (stepM c).1 d e → Runs c d e
theorem runs_ne {c d : Ck} {e : Int} (h : Runs c d e) : e ≠ 0 := by
  induction h with
  | stop h => exact h
  | more _ _ ih => exact ih
theorem runs_det {c d d' : Ck} {e e' : Int} (h : Runs c d e) (h' : Runs c d' e') : d = d' ∧ e = e' := by
  induction h with
  | stop h => cases h' with
    | stop _ => exact ⟨rfl, rfl⟩
    | more k _ => exact absurd k h
  | more h _ ih => cases h' with
    | stop k => exact absurd h k
    | more _ k => exact ih k
theorem runs_ex : ∀ (n : Nat) (c : Ck), c.ok → c.mu ≤ n → ∃ d e, Runs c d e
  | n, c, h, hn => by
    by_cases h0 : (stepM c).2 = 0
    · have hs := step_ok h
      have hm := hs.1 h0
      match n, hn with
      | 0, hn => omega
      | n + 1, hn =>
        obtain ⟨d, e, hr⟩ := runs_ex n (stepM c).1 (hs.2.1 (.inl h0)) (by omega)
        exact ⟨d, e, .more h0 hr⟩
    · exact ⟨_, _, .stop h0⟩
theorem runs_of {x y d : Ck} {e : Int} (hxy : stepM x = stepM y) (h : Runs y d e) : Runs x d e := by
  cases h with
  | stop h => rw [← hxy] at h ⊢; exact .stop h
  | more h k => rw [← hxy] at h k; exact .more h k
theorem runs_app {c d : Ck} {e : Int} (h : Runs c d e) (s : List UInt8) : (e ≠ 17 → Runs (c.add s) (d.add s) e) ∧ (e = 17 → ∀ d' e', Runs (d.add s) d' e' → Runs (c.add s) d' e') := by
  induction h with
  | @stop c h =>
    have hg := goes_step c s
    refine ⟨fun h17 => ?_, fun h17 d' e' hr => runs_of (hg.2 h17) hr⟩
    have := hg.1 h17
    have hs : Runs (c.add s) (stepM (c.add s)).1 (stepM (c.add s)).2 := .stop (by rw [this]; exact h)
    rw [this] at hs
    exact hs
  | @more c d e h hr ih =>
    have hg := (goes_step c s).1 (by rw [h]; decide)
    have h0 : (stepM (c.add s)).2 = 0 := by rw [hg]; exact h
    have h1 : (stepM (c.add s)).1 = (stepM c).1.add s := by rw [hg]
    refine ⟨fun h17 => .more h0 (by rw [h1]; exact ih.1 h17), fun h17 d' e' hr => .more h0 (by rw [h1]; exact ih.2 h17 d' e' hr)⟩
theorem runs_ok {c d : Ck} {e : Int} (h : Runs c d e) (hc : c.ok) : (e = 17 → d.ok) ∧ d.most = c.most ∧ d.err = c.err ∧ d.inp.length + d.dat.length ≤ c.inp.length + c.dat.length ∧ c.dat <+: d.dat := by
  induction h with
  | stop h => have := step_ok hc; exact ⟨fun h17 => this.2.1 (.inr h17), this.2.2⟩
  | more h _ ih =>
    have hs := step_ok hc
    obtain ⟨i1, i2, i3, i4, i5⟩ := ih (hs.2.1 (.inl h))
    exact ⟨i1, i2.trans hs.2.2.1, i3.trans hs.2.2.2.1, Nat.le_trans i4 hs.2.2.2.2.1, hs.2.2.2.2.2.trans i5⟩
end Go.Proofs.YtpimfoohpfkciaaGreatDoor

/- strings.Builder as this cut has it, at any place of a block of the call's own: copyCheck, WriteString. No conditions but on lengths. -/
namespace Go.Proofs.YtpimfoohpfkciaaGreatDoor
open Go.RowKit Go.Shelf

/-- a builder lies in block b from cell o on, its bytes l in v -/
structure Bd (B : Nat) (w : World) (b o : Nat) (T : TypeId) (cs : List Value) (v : Value) (l : List UInt8) : Prop where
  blk : Blk w b T cs
  ad : cs[o]? = some (.pointer none) ∨ cs[o]? = some (.pointer (some ⟨b, o, none⟩))
  buf : cs[o + 1]? = some v
  own : Own byteC 1 B 5 w v l
  ne : v.ownBlock ≠ some b
/-- a builder may lie there in a block of type T -/
def Lies (T : TypeId) (n o : Nat) : Prop := liesAt Tryz.prog Tryz.prog.depth T (n / Tryz.prog.cellsOf T) o 93 1 = true ∧ o + 1 < n
theorem lies_own : Lies 93 2 0 := ⟨by kernel_rfl, by omega⟩
theorem bld_info : ∃ j, Tryz.prog.info? 93 = some j ∧ j.size = 2 := by
  have : (Tryz.prog.info? 93).map (·.size) = some 2 := by kernel_rfl
  cases h : Tryz.prog.info? 93 with
  | none => rw [h] at this; cases this
  | some j => exact ⟨j, rfl, by rw [h] at this; simpa using this⟩
theorem u8_info : ∃ i, Tryz.prog.info? 5 = some i ∧ i.zero = some (.int .u8 0) ∧ i.size = 1 ∧ i.bytes = 1 := by
  have : (Tryz.prog.info? 5).map (fun i => (i.zero, i.size, i.bytes)) = some (some (.int .u8 0), 1, 1) := by kernel_rfl
  cases h : Tryz.prog.info? 5 with
  | none => rw [h] at this; cases this
  | some i => rw [h] at this; simp at this; exact ⟨i, rfl, this⟩
theorem rows_bytes (l : List UInt8) : rows byteC l = Lib.byteCells l := by
  induction l with
  | nil => rfl
  | cons c r ih => show byteC c ++ rows byteC r = _; rw [ih]; rfl

theorem append_string_at {P : Program} {w : World} (base : Nat) (t u ty e : TypeId) (i : TypeInfo) (ht : P.underlying t = some (.slice e)) (hu : P.underlying u = some .string) (hi : P.info? e = some i) (hz : i.zero = some (.int .u8 0))
    (hsize : i.size = 1) (hby : i.bytes = 1) (v : Value) (n : Nat) (xs : List Value) (hown : w.ownsRow base e 1 v n xs) (s : ByteArray)
    (h63 : n + s.size ≤ maxLen) (hbytes : n + s.size ≤ 140737488355328) (hbase : base ≤ w.heap.size) :
    ∃ v' w', (Builtin.append_ #[t, u] ty #[v, .string s]).run P w = .ok v' w' ∧ w'.ownsRow base e 1 v' (n + s.size) (xs ++ Lib.strCells s) ∧ w.grownBy w' v.ownBlock ∧
      (v'.ownBlock = v.ownBlock ∨ ∃ g, v'.ownBlock = some g ∧ w.heap.size ≤ g) := by
  obtain ⟨v', w', hr, h2, h3, _⟩ := Lib.run_append_own_string (P := P) w base t u ty e i ht hu hi hz hsize hby v n xs hown s h63 hbytes hbase
  refine ⟨v', w', hr, h2, h3, ?_⟩
  have hown0 := hown
  rcases hown.2 with ⟨rfl, rfl⟩ | ⟨g, cap, cur, rfl, hbg, hg, hnc, hcm, hcs, htake⟩
  · obtain ⟨v2, w2, hr2, k2, _, _⟩ := Lib.run_append_own_string (P := P) w w.heap.size t u ty e i ht hu hi hz hsize hby (.slice none 0 0) 0 xs ⟨hown.1, .inl ⟨rfl, rfl⟩⟩ s h63 hbytes (Nat.le_refl _)
    rw [hr] at hr2
    injection hr2 with e1 e2
    subst e1
    cases hb : v'.ownBlock with
    | none => exact .inl rfl
    | some g => exact .inr ⟨g, rfl, (World.ownsRow.lt k2 g hb).1⟩
  · by_cases hroom : n + s.size ≤ cap
    · have hr2 := Lib.run_append_room_string (P := P) w t u ty e i ht hu hi hsize g n cap cur hg s hroom (by have := hcs; simp at this; omega)
      rw [hr] at hr2
      injection hr2 with e1 e2
      subst e1
      exact .inl rfl
    · have hsmall : n + s.size ≤ 9223372036854775807 := h63
      have hr2 := Lib.run_append_grow_string (P := P) w t u ty e i (.int .u8 0) ht hu hi hz ⟨g, 0, none⟩ n cap xs (by rw [hsize]; simpa using hown0.1) (World.ownsRow.cells hown0 (g := g) rfl) s (by omega) (by omega) (by rw [hby]; exact growslice_fits (by omega) (by omega))
      rw [hr] at hr2
      injection hr2 with e1 e2
      subst e1
      exact .inr ⟨w.heap.size, rfl, Nat.le_refl _⟩
theorem wpList_append_string_at {P : Program} {ops : Array Oper} {rest : List Oper} {o : Oper} {a : Act} {w : World} {Q : Exit → Act → World → Prop} (hgd : o.guard = none) (sl x : Operand) (t u : TypeId)
    (ho : o.op = .call { callee := .builtin .append, args := #[sl, x], argTypes := #[t, u] })
    (base : Nat) (e : TypeId) (i : TypeInfo) (ht : P.underlying t = some (.slice e)) (hu : P.underlying u = some .string) (hi : P.info? e = some i) (hz : i.zero = some (.int .u8 0))
    (hsize : i.size = 1) (hby : i.bytes = 1)
    (v : Value) (n : Nat) (xs : List Value) (hs : a.eval sl = v) (hown : w.ownsRow base e 1 v n xs) (s : ByteArray) (hx : a.eval x = .string s)
    (h63 : n + s.size ≤ maxLen) (hbytes : n + s.size ≤ 140737488355328) (hbase : base ≤ w.heap.size)
    (h : ∀ v' w', w'.ownsRow base e 1 v' (n + s.size) (xs ++ Lib.strCells s) → w.grownBy w' v.ownBlock → (v'.ownBlock = v.ownBlock ∨ ∃ g, v'.ownBlock = some g ∧ w.heap.size ≤ g) → wpList P ops Q rest (a.put o.dst v') w') : wpList P ops Q (o :: rest) a w := by
  refine wpList_plain hgd fun K hK => ?_
  obtain ⟨v', w', hr, h2, h3, h4⟩ := append_string_at (P := P) (w := w) base t u o.type e i ht hu hi hz hsize hby v n xs hown s h63 hbytes hbase
  unfold Oper.wp execOp
  simp only [ho, resolve, invoke, builtin, Sem.run_bind, Sem.run_pure, Result.andThen_ok, List.map_toArray, List.map_cons, List.map_nil, hs, hx, hr]
  exact hK _ _ (h v' w' h2 h3 h4)

set_option maxHeartbeats 1000000 in
set_option maxRecDepth 100000 in
theorem bld_copyCheck (b o : Nat) (T : TypeId) (cs : List Value) (w : World) (hb : Blk w b T cs) (hl : Lies T cs.length o) (had : cs[o]? = some (.pointer none) ∨ cs[o]? = some (.pointer (some ⟨b, o, none⟩))) :
    Calls Tryz.prog 75 #[.pointer (some ⟨b, o, none⟩)] w fun e w' => e = .returned (.tuple #[]) ∧ Blk w' b T (cs.set o (.pointer (some ⟨b, o, none⟩))) ∧ Keep [b] w w' := by
  obtain ⟨j, hj, hjs⟩ := bld_info
  have hu82 := Tryz.underlying91
  have hu112 := Tryz.underlying118
  rcases had with h0 | h0
  · have c0 := hb.get h0
    have f0 := hb.frozen o
    have hsh : w.shape? b = some (T, cs.length) := by
      have : w.heap[b]? = some (.cells cs.toArray T (0, 0)) := hb
      simp [World.shape?, this]
    have hk : Keep [b] w (w.setCell ⟨b, o, none⟩ (.pointer (some ⟨b, o, none⟩))) := (Keep.refl _ _).setCell _ _ (by simp)
    have hb' := hb.set o (.pointer (some ⟨b, o, none⟩))
    have HP := Lib.hid (And.intro hb' hk)
    have HB := Lib.hid hb
    clear hb' hk hb
    go_enter Tryz.func75, Tryz.ntmps75
    go_wp2_with fail
    rw [Lib.run_to_unsafe w ⟨b, o, none⟩ hu82 hu112 hj (by rw [hjs]; decide) hsh (by have := hl.2; show o < _; omega)]
    simp only [Result.andThen]
    rw [Oper.upon_value]
    go_wp2_with fail
    rw [run_callFunc_extern Tryz.func92 (by kernel_rfl) (by kernel_rfl) (by kernel_rfl) (e := Extern.AbiNoEscape.same) (by kernel_rfl)]
    rw [Lib.run_noEscape]
    simp only [Result.andThen]
    rw [Oper.upon_value]
    go_wp2_with fail
    rw [Lib.run_from_unsafe w ⟨b, o, none⟩ hu112 hu82 hj hsh hl.1]
    simp only [Result.andThen]
    rw [Oper.upon_value]
    have g0 := HP.out.1.get (k := o) (v := .pointer (some ⟨b, o, none⟩)) (by rw [List.getElem?_set_self (by have := hl.2; omega)])
    go_wp2_with fail
    go_end0
    exact ⟨rfl, HP.out.1, HP.out.2⟩
  · have c0 := hb.get h0
    have hcs : cs.set o (.pointer (some ⟨b, o, none⟩)) = cs := list_set_self _ _ _ h0
    rw [hcs]
    have HB := Lib.hid hb
    clear hb hcs h0
    go_enter Tryz.func75, Tryz.ntmps75
    go_wp2_with fail
    rw [Lib.run_neq_ptr_same w _ hu82 hj]
    go_wp2_with fail
    go_end0
    exact ⟨rfl, HB.out, Keep.refl _ _⟩

set_option maxHeartbeats 1000000 in
set_option maxRecDepth 100000 in
theorem bld_Write {B b o : Nat} {T : TypeId} {cs : List Value} {v : Value} {l : List UInt8} {w : World} (s : List UInt8) (h : Bd B w b o T cs v l) (hl : Lies T cs.length o) (hB : B ≤ w.heap.size) (hlen : l.length + s.length ≤ 140737488355328) :
    Calls Tryz.prog 56 #[.pointer (some ⟨b, o, none⟩), .string (S s)] w fun e w' => e = .returned (.tuple #[.int .i64 (s.length : Nat), .nilIface]) ∧
      ∃ v', Bd B w' b o T ((cs.set o (.pointer (some ⟨b, o, none⟩))).set (o + 1) v') v' (l ++ s) ∧ Keep (b :: v.ownBlock.toList) w w' ∧ (v'.ownBlock = v.ownBlock ∨ ∃ g, v'.ownBlock = some g ∧ w.heap.size ≤ g) := by
  obtain ⟨i, hi, hz, h1, h2⟩ := u8_info
  have hC := Lib.hid (bld_copyCheck b o T cs w h.blk hl h.ad)
  have hsz := S_size s
  have H := Lib.hid h
  clear h
  go_enter Tryz.func56, Tryz.ntmps56
  go_wp2_with fail
  refine hC.out.mono ?_
  rintro e w1 ⟨rfl, hb1, hk1⟩
  have hown1 : Own byteC 1 B 5 w1 v l := H.out.own.keep hk1 (fun g hg => by
    simp only [List.mem_singleton]
    rintro rfl
    exact H.out.ne hg)
  have c1 := hb1.get (k := o + 1) (v := v) (by rw [List.getElem?_set_ne (by omega)]; exact H.out.buf)
  have hor := hown1
  unfold Own at hor
  rw [rows_bytes] at hor
  have HO := Lib.hid hor
  have HB1 := Lib.hid hb1
  have HK1 := Lib.hid hk1
  clear hor hown1 hb1 hk1
  go_wp2_with (at_builtin; go_must (refine wpList_append_string_at rfl _ _ 90 9 rfl B 5 i Tryz.underlying90 Tryz.underlying9 hi hz h1 h2 v l.length (Lib.byteCells l) rfl HO.out (S s) rfl (by rw [hsz]; unfold maxLen; omega) (by rw [hsz]; exact hlen) (by have := HK1.out.size; omega) ?_))
  intro v' w2 hown' hgrow hat
  have hbl := HB1.out.lt
  have hb2 : Blk w2 b T (cs.set o (.pointer (some ⟨b, o, none⟩))) := by
    unfold Blk
    rw [hgrow.block b hbl (fun e => H.out.ne e.symm)]
    exact HB1.out
  have d1 := hb2.get (k := o + 1) (v := v) (by rw [List.getElem?_set_ne (by omega)]; exact H.out.buf)
  have f1 := hb2.frozen (o + 1)
  have hb3 := hb2.set (o + 1) v'
  have hne' : v'.ownBlock ≠ some b := by
    rcases hat with e | ⟨g, e, hg⟩
    · rw [e]; exact H.out.ne
    · rw [e]; intro e'; injection e' with e'; omega
  have hown2 : Own byteC 1 B 5 w2 v' (l ++ s) := by
    unfold Own
    rw [rows_bytes, List.length_append]
    try rw [hsz] at hown'
    have e : Lib.byteCells (l ++ s) = Lib.byteCells l ++ Lib.strCells (S s) := by unfold Lib.byteCells; rw [List.map_append]; rfl
    rw [e]
    exact hown'
  have hown3 : Own byteC 1 B 5 (w2.setCell ⟨b, o + 1, none⟩ v') v' (l ++ s) := hown2.keep (S := [b]) ((Keep.refl _ _).setCell _ _ (by simp)) (fun g hg => by
    simp only [List.mem_singleton]
    rintro rfl
    exact hne' hg)
  have hkk : Keep (b :: v.ownBlock.toList) w (w2.setCell ⟨b, o + 1, none⟩ v') := ((HK1.out.mono (by simp)).grown hgrow (fun k hk _ => by simp [hk])).setCell _ _ (by simp)
  have hat' : v'.ownBlock = v.ownBlock ∨ ∃ g, v'.ownBlock = some g ∧ w.heap.size ≤ g := by
    rcases hat with e | ⟨g, e, hg⟩
    · exact .inl e
    · exact .inr ⟨g, e, Nat.le_trans HK1.out.size hg⟩
  have HF := Lib.hid (And.intro hb3 (And.intro hne' (And.intro hown3 (And.intro hkk hat'))))
  obtain ⟨ao, n', cap, rfl⟩ : ∃ ao n' cap, v' = .slice ao n' cap := by
    rcases hown'.2 with ⟨hv, _⟩ | ⟨g, cap, cur, hv, _⟩
    · exact ⟨_, _, _, hv⟩
    · exact ⟨_, _, _, hv⟩
  clear hb3 hne' hown3 hown2 hkk hat hat' hgrow hown' hb2
  have h20 : (cs.set o (.pointer (some ⟨b, o, none⟩)))[o]? = some (.pointer (some ⟨b, o, none⟩)) := by rw [List.getElem?_set_self (by have := hl.2; omega)]
  go_wp2_with fail
  go_ret2
  refine ⟨by rw [← hsz]; rfl, _, ⟨HF.out.1, .inr ?_, ?_, HF.out.2.2.1, HF.out.2.1⟩, HF.out.2.2.2.1, HF.out.2.2.2.2⟩
  · rw [List.getElem?_set_ne (by omega)]
    exact h20
  · rw [List.getElem?_set_self (by simpa using hl.2)]
/-- as the library's contracts have it -/
theorem Bd.lib {B b : Nat} {cs : List Value} {v : Value} {l : List UInt8} {w : World} (h : Bd B w b 0 93 cs v l) (hc : cs.length = 2) (hb : B ≤ b) : Lib.IsBuilder 93 5 B b (Lib.byteCells l) w := by
  obtain ⟨p, q, rfl⟩ : ∃ p q, cs = [p, q] := by
    match cs, hc with
    | [p, q], _ => exact ⟨p, q, rfl⟩
  have hq : q = v := by have := h.buf; simpa using this
  subst hq
  have hown := h.own
  unfold Own at hown
  rw [rows_bytes, ← Lib.byteCells_length l] at hown
  rcases h.ad with e | e
  · simp at e
    subst e
    exact .inl ⟨hb, q, h.blk, hown, h.ne⟩
  · simp at e
    subst e
    exact .inr ⟨hb, q, h.blk, hown, h.ne⟩
/-- a builder of the call's own -/
def Bld (w0 w : World) (b : Nat) (l : List UInt8) : Prop := ∃ cs v, Bd w0.heap.size w b 0 93 cs v l ∧ cs.length = 2 ∧ w0.heap.size ≤ b ∧ Keep [] w0 w
theorem Bd.keep {B b o : Nat} {T : TypeId} {cs : List Value} {v : Value} {l : List UInt8} {w w' : World} {S : List Nat} (h : Bd B w b o T cs v l) (k : Keep S w w') (hb : b ∉ S) (hv : ∀ g, v.ownBlock = some g → g ∉ S) : Bd B w' b o T cs v l :=
  ⟨k.blk h.blk hb, h.ad, h.buf, h.own.keep k hv, h.ne⟩
theorem Bld.keep0 {w0 w w' : World} {b : Nat} {l : List UInt8} (h : Bld w0 w b l) (k : Keep [] w w') : Bld w0 w' b l := by
  obtain ⟨cs, v, h1, h2, h3, h4⟩ := h
  exact ⟨cs, v, h1.keep k (by simp) (by simp), h2, h3, h4.trans k⟩
theorem Bld.kept {w0 w : World} {b : Nat} {l : List UInt8} (h : Bld w0 w b l) : Keep [] w0 w := let ⟨_, _, _, _, _, h4⟩ := h; h4
theorem bld_new {w0 w : World} (k : Keep [] w0 w) : Bld w0 (w.alloc (.cells #[.pointer none, .slice none 0 0] 93)) w.heap.size [] :=
  ⟨[.pointer none, .slice none 0 0], .slice none 0 0, ⟨Blk.newA w _ _, .inl rfl, rfl, Own.nil _ _ _ _ _, by simp [Value.ownBlock]⟩, rfl, k.size, k.alloc _⟩
theorem bld_write {w0 w : World} {b : Nat} {l : List UInt8} (h : Bld w0 w b l) (s : List UInt8) (hlen : l.length + s.length ≤ 140737488355328) :
    Calls Tryz.prog 56 #[.pointer (some ⟨b, 0, none⟩), .string (S s)] w fun e w' => e = .returned (.tuple #[.int .i64 (s.length : Nat), .nilIface]) ∧ Bld w0 w' b (l ++ s) := by
  obtain ⟨cs, v, h1, h2, h3, h4⟩ := h
  refine (bld_Write s h1 (by rw [h2]; exact lies_own) h4.size hlen).mono ?_
  rintro e w' ⟨rfl, v', k1, k2, _⟩
  exact ⟨rfl, _, v', k1, by simpa using h2, h3, h4.trans' k2 (fun x hx hl => by
    rcases List.mem_cons.1 hx with rfl | hx
    · omega
    · have := (h1.own.lt x (by simpa using hx)).1; omega)⟩
theorem bld_len {w0 w : World} {b : Nat} {l : List UInt8} (h : Bld w0 w b l) :
    Calls Tryz.prog 59 #[.pointer (some ⟨b, 0, none⟩)] w fun e w' => e = .returned (.int .i64 (l.length : Nat)) ∧ w' = w := by
  obtain ⟨cs, v, h1, h2, h3, h4⟩ := h
  have := Tryz.Builder_Len w0.heap.size b _ w (h1.lib h2 h3)
  rw [Lib.byteCells_length] at this
  exact this
theorem bld_string {w0 w : World} {b : Nat} {l : List UInt8} (h : Bld w0 w b l) :
    Calls Tryz.prog 60 #[.pointer (some ⟨b, 0, none⟩)] w fun e w' => e = .returned (.string (S l)) ∧ Keep [] w0 w' := by
  obtain ⟨cs, v, h1, h2, h3, h4⟩ := h
  refine (Tryz.Builder_String_any w0.heap.size b l w (h1.lib h2 h3) h4.size).mono ?_
  rintro e w' ⟨rfl, hb⟩
  exact ⟨rfl, hb.os.trans h4.os, hb.tape.trans h4.tape, hb.output.trans h4.output, Nat.le_trans h4.size hb.size, fun k hk hn => (hb.block k hk).trans (h4.block k hk hn)⟩
end Go.Proofs.YtpimfoohpfkciaaGreatDoor

/- Layer 11: a chunked body's reader in memory; its line, isRest. No conditions but on lengths. -/
namespace Go.Proofs.YtpimfoohpfkciaaGreatDoor
open Go.RowKit Go.Shelf

def ckC (c : Ck) (ad v : Value) : List Value := [.int .i64 (c.st : Nat), .int .i64 (c.left : Nat), .int .i64 (c.most : Nat), .int .i64 (c.flds : Nat), .string (S c.inp), ad, v, .int .i64 (c.dat.length : Nat), .int .i64 c.err]
theorem ck_lies : Lies 109 9 5 := ⟨by kernel_rfl, by omega⟩
/-- a reader of a chunked body lies in block b, its builder's bytes in v; of its data, p was taken -/
def Ct (B : Nat) (w : World) (b : Nat) (p : List UInt8) (c : Ck) (v : Value) : Prop := ∃ ad o, Bd B w b 5 109 (ckC c ad v) v o ∧ c.dat = p ++ o
theorem Ct.keep {B b : Nat} {w w' : World} {p : List UInt8} {c : Ck} {v : Value} {S : List Nat} (h : Ct B w b p c v) (k : Keep S w w') (hb : b ∉ S) (hv : ∀ g, v.ownBlock = some g → g ∉ S) : Ct B w' b p c v := by
  obtain ⟨ad, o, h1, h2⟩ := h
  exact ⟨ad, o, h1.keep k hb hv, h2⟩
theorem Ct.keep0 {B b : Nat} {w w' : World} {p : List UInt8} {c : Ck} {v : Value} (h : Ct B w b p c v) (k : Keep [] w w') : Ct B w' b p c v := h.keep k (by simp) (by simp)
theorem Ct.drew {B b : Nat} {w : World} {p : List UInt8} {c : Ck} {v : Value} (h : Ct B w b p c v) : Ct B w.drew b p c v := h.keep0 ((Keep.refl [] w).drew)
theorem Ct.cells {B b : Nat} {w : World} {p : List UInt8} {c : Ck} {v : Value} (h : Ct B w b p c v) : ∃ ad, Blk w b 109 (ckC c ad v) := let ⟨ad, _, h1, _⟩ := h; ⟨ad, h1.blk⟩
/-- a cell of a reader is stored -/
theorem Ct.set {B b : Nat} {w : World} {p : List UInt8} {c c' : Ck} {v : Value} (h : Ct B w b p c v) (k : Nat) (x : Value) (hc : ∀ ad, (ckC c ad v).set k x = ckC c' ad v) (hd : c'.dat = c.dat) : Ct B (w.setCell ⟨b, k, none⟩ x) b p c' v := by
  obtain ⟨ad, o, h1, h2⟩ := h
  refine ⟨ad, o, ⟨?_, ?_, rfl, ?_, h1.ne⟩, hd.trans h2⟩
  · rw [← hc ad]; exact h1.blk.set k x
  · have := h1.ad
    simpa [ckC] using this
  · exact h1.own.keep (S := [b]) ((Keep.refl _ _).setCell _ _ (by simp)) (fun g hg => by
      simp only [List.mem_singleton]
      rintro rfl
      exact h1.ne hg)
theorem Ct.at {B b : Nat} {w : World} {p : List UInt8} {c : Ck} {v : Value} (h : Ct B w b p c v) : w.cell? ⟨b, 0, none⟩ = some (.int .i64 (c.st : Nat)) ∧ w.cell? ⟨b, 1, none⟩ = some (.int .i64 (c.left : Nat)) ∧ w.cell? ⟨b, 2, none⟩ = some (.int .i64 (c.most : Nat)) ∧ w.cell? ⟨b, 3, none⟩ = some (.int .i64 (c.flds : Nat)) ∧
    w.cell? ⟨b, 4, none⟩ = some (.string (S c.inp)) ∧ w.cell? ⟨b, 7, none⟩ = some (.int .i64 (c.dat.length : Nat)) ∧ w.cell? ⟨b, 8, none⟩ = some (.int .i64 c.err) := by
  obtain ⟨ad, h1⟩ := h.cells
  exact ⟨h1.get rfl, h1.get rfl, h1.get rfl, h1.get rfl, h1.get rfl, h1.get rfl, h1.get rfl⟩
theorem Ct.free {B b : Nat} {w : World} {p : List UInt8} {c : Ck} {v : Value} (h : Ct B w b p c v) (k : Nat) : w.frozen? ⟨b, k, none⟩ = false := let ⟨_, h1⟩ := h.cells; h1.frozen k

theorem idx_n {l : List UInt8} {m : Nat} {w : World} (_hm : m ≤ l.length) : Calls Tryz.prog 79 #[.string ((S l).extract 0 m), .int .u8 10] w fun e w' => e = .returned (.int .i64 (Lib.indexByte (l.take m) 10)) ∧ w' = w := by
  have h := Tryz.strings_IndexByte ((S l).extract 0 m) 10 w
  rw [S_extract, List.drop_zero] at h ⊢
  exact h

set_option maxRecDepth 100000 in
set_option maxHeartbeats 1000000 in
theorem chunk_line (B b : Nat) (p : List UInt8) (c : Ck) (v : Value) (w : World) (h : Ct B w b p c v) (hl : c.inp.length ≤ 1048576) :
    Calls Tryz.prog 102 #[.pointer (some ⟨b, 0, none⟩)] w fun e w' => e = .returned (.tuple #[.string (S (lnC c.inp).t), .int .i64 (lnC c.inp).e]) ∧ Ct B w' b p { c with inp := (lnC c.inp).r } v ∧ Keep [b] w w' := by
  have sz := S_size c.inp
  obtain ⟨_, _, _, _, c4, _, _⟩ := h.at
  have H := Lib.hid h
  have hI := fun w1 => idx_n (l := c.inp) (m := min c.inp.length 256) (w := w1) (Nat.min_le_left _ _)
  have e256 : c.inp.take (min c.inp.length 256) = c.inp.take 256 := by
    rcases Nat.le_total c.inp.length 256 with hh | hh
    · rw [Nat.min_eq_left hh, List.take_length, List.take_of_length_le hh]
    · rw [Nat.min_eq_right hh]
  rw [e256] at hI
  have hmin : min ((c.inp.length : Nat) : Int) 256 = ((min c.inp.length 256 : Nat) : Int) := by omega
  generalize hmm : min c.inp.length 256 = m at *
  have m1 : (m : Int) ≤ (c.inp.length : Int) := by omega
  have m0 : (0 : Int) ≤ (m : Int) := by omega
  have HI := Lib.hid hI
  have hcases := line_cases c.inp
  have hshort := line_short (l := c.inp)
  have hat := fun k => line_at (l := c.inp) (k := k)
  clear h e256 hmm hI
  generalize Lib.indexByte (c.inp.take 256) 10 = ix at *
  go_enter Tryz.func102, Tryz.ntmps102
  go_upto_region 1 with fail
  go_cut [4] (fun y wx => y = .int .i64 ix ∧ Hid (Keep [] w wx))
  case first =>
    clear hcases hshort hat
    go_region_with (first
      | (go_at_call 79; refine (HI.out _).mono ?_; rintro e w1 ⟨rfl, rfl⟩)
      | fail)
    all_goals
      go_wp2_with fail
      go_meet
      exact ⟨rfl, Lib.hid (by repeat (first | exact Keep.refl _ _ | apply Keep.drew))⟩
  case rest =>
  obtain ⟨rfl, KX⟩ := hcut
  have H1 := Lib.hid (H.out.keep0 KX.out)
  clear c4 HI hmin m1 m0
  obtain ⟨_, _, _, _, c4, _, _⟩ := H1.out.at
  have f4 := H1.out.free 4
  have K1 := Lib.hid (KX.out.mono (S' := [b]) (by simp))
  rcases hcases with hn | ⟨k, hk, hkl, h256⟩
  · have hL := hshort hn
    by_cases h2 : 256 ≤ c.inp.length
    · rw [if_pos h2] at hL
      have HL := Lib.hid hL
      have h2' : decide (((c.inp.length : Nat) : Int) ≥ 256) = true := by simp; omega
      clear hL hshort hat
      go_wp2_with fail
      go_ret2
      rw [HL.out]
      exact ⟨rfl, H1.out, K1.out⟩
    · rw [if_neg h2] at hL
      have HL := Lib.hid hL
      have h2' : decide (((c.inp.length : Nat) : Int) ≥ 256) = false := by simp; omega
      clear hL hshort hat
      go_wp2_with fail
      go_ret2
      rw [HL.out]
      exact ⟨rfl, H1.out, K1.out⟩
  · have hL := hat k hk
    subst hk
    have hx1 : (S c.inp).extract 0 (k + 1) = S (c.inp.take (k + 1)) := by rw [S_extract, List.drop_zero]
    have hx2 : (S c.inp).extract (k + 1) c.inp.length = S (c.inp.drop (k + 1)) := by rw [S_extract, List.take_length]
    have hCS : ∀ w1, Calls Tryz.prog 99 #[.string (S (c.inp.take (k + 1))), .string ⟨#[13, 10]⟩] w1 fun e w' => e = .returned (.tuple #[.string (S (Lib.trimSuffix (c.inp.take (k + 1)) crlfC)), .bool (Lib.hasSuffix (c.inp.take (k + 1)) crlfC)]) ∧ w' = w1 := fun w1 =>
      Tryz.strings_CutSuffix (S (c.inp.take (k + 1))) ⟨#[13, 10]⟩ w1 (by rw [S_size, List.length_take]; omega)
    generalize Lib.trimSuffix (c.inp.take (k + 1)) crlfC = t at *
    generalize hsx : Lib.hasSuffix (c.inp.take (k + 1)) crlfC = sx at *
    have hkw := IntWalk.i64_in ((k : Int) + 1) (by omega)
    have hk1 : (k : Int) + 1 ≤ (c.inp.length : Int) := by omega
    have hk0 : (0 : Int) ≤ (k : Int) + 1 := by omega
    have hkn : ((k : Int) + 1).toNat = k + 1 := by omega
    have hkl0 : decide ((k : Int) < 0) = false := by simp
    clear hshort hat hsx
    cases sx with
    | false =>
      have HL := Lib.hid (show lnC c.inp = ⟨[], 3, c.inp⟩ from hL)
      have HCS := Lib.hid hCS
      clear hL hCS
      go_wp2_with fail
      refine (HCS.out _).mono ?_
      rintro e w1 ⟨rfl, rfl⟩
      go_wp2_with fail
      go_ret2
      rw [HL.out]
      exact ⟨rfl, H1.out, K1.out⟩
    | true =>
      have HL := Lib.hid (show lnC c.inp = ⟨t, 0, c.inp.drop (k + 1)⟩ from hL)
      have HCS := Lib.hid hCS
      clear hL hCS
      go_wp2_with fail
      refine (HCS.out _).mono ?_
      rintro e w1 ⟨rfl, rfl⟩
      go_wp2_with fail
      go_ret2
      rw [HL.out]
      exact ⟨rfl, H1.out.set 4 _ (fun _ => rfl) rfl, K1.out.setCell _ _ (by simp)⟩

def xColon : List UInt8 := [120, 58]
theorem isRest_parse (r : List UInt8) : parseE (xColon ++ r) = if isTxt r then 0 else 3 := by
  have hi : Lib.indexByte (xColon ++ r) 58 = ((1 : Nat) : Int) := indexByte_at rfl (fun j hj => by
    have : j = 0 := by omega
    subst this
    show (some (120 : UInt8)) ≠ some 58
    decide)
  unfold parseE
  rw [parseF_eq, hi]
  have h1 : (xColon ++ r).take ((1 : Nat) : Int).toNat = [120] := rfl
  have h2 : (xColon ++ r).drop (((1 : Nat) : Int).toNat + 1) = r := rfl
  rw [h1, h2]
  have h3 : isTok [120] = true := by decide +kernel
  cases isTxt r <;> simp [h3]

theorem parse_two (l : List UInt8) (w : World) (hm : ML w) (hl : l.length < 4294967281) : Calls Tryz.prog 100 #[.string (S l)] w fun e w' => e = .returned (.tuple #[.agg #[.string (S (parseV l).name), .string (S (parseV l).value)], .int .i64 (parseE l)]) ∧ Keep [] w w' := field_Parse l w hm hl

set_option maxRecDepth 100000 in
set_option maxHeartbeats 1000000 in
theorem chunk_isRest (r : List UInt8) (w : World) (hm : ML w) (hl : r.length ≤ 1048576) :
    Calls Tryz.prog 104 #[.string (S r)] w fun e w' => e = .returned (.bool (restOk r)) ∧ Keep [] w w' := by
  have hsz := S_size r
  have hte := S_toList r
  cases r with
  | nil =>
    go_enter Tryz.func104, Tryz.ntmps104
    go_wp2_with fail
    go_ret
    exact ⟨rfl, Keep.refl _ _⟩
  | cons c r =>
    have hO : restOk (c :: r) = (isTxt (c :: r) && decide (0 ≤ Lib.indexByte [32, 9, 59] c)) := rfl
    have hg := fun hk => S_get (l := c :: r) (k := 0) (c := c) rfl hk
    have hP := parse_two (xColon ++ (c :: r)) w hm (by simp [xColon] at hl ⊢; omega)
    rw [isRest_parse] at hP
    have hcat : (⟨#[120, 58]⟩ : ByteArray) ++ S (c :: r) = S (xColon ++ (c :: r)) := S_append xColon _
    have hix := Tryz.strings_IndexByte ⟨#[32, 9, 59]⟩ c.toNat
    have ec : ((c.toNat : Int)).toNat.toUInt8 = c := by simp
    rw [ec] at hix
    change ∀ w1, Calls Tryz.prog 79 #[.string ⟨#[32, 9, 59]⟩, .int .u8 c.toNat] w1 fun e w' => e = .returned (.int .i64 (Lib.indexByte [32, 9, 59] c)) ∧ w' = w1 at hix
    generalize restOk (c :: r) = ro at *
    generalize hl0 : c :: r = l at *
    have hemp : l.isEmpty = false := by rw [← hl0]; rfl
    have hlen : 0 < l.length := by rw [← hl0]; simp
    generalize (parseV (xColon ++ l)).name = pn at *
    generalize (parseV (xColon ++ l)).value = pw at *
    generalize xColon ++ l = xl at *
    generalize Lib.indexByte [32, 9, 59] c = ix at *
    have hcc := u8_nat c
    clear hl0 ec
    have HIX := Lib.hid hix
    cases htx : isTxt l with
    | false =>
      rw [htx] at hP hO
      have HP := Lib.hid hP
      have HO := Lib.hid hO
      clear hP hO htx hix hg
      go_enter Tryz.func104, Tryz.ntmps104
      go_wp2_with fail
      refine HP.out.mono ?_
      rintro e w1 ⟨rfl, k1⟩
      go_wp2_with fail
      go_ret
      refine ⟨ret_bool (by rw [HO.out]; rfl), ?_⟩
      repeat (first | exact k1 | exact Keep.alloc k1 _ | (refine Keep.setCell ?_ _ _ (by first | omega | (intro hh; exact absurd hh (by have := k1.size; simp; omega)))))
    | true =>
      rw [htx] at hP hO
      have HP := Lib.hid hP
      have HO := Lib.hid hO
      clear hP hO htx hix
      by_cases h0 : 0 ≤ ix
      · have h0' : decide (ix ≥ 0) = true := by simp; omega
        go_enter Tryz.func104, Tryz.ntmps104
        go_wp2_with fail
        refine HP.out.mono ?_
        rintro e w1 ⟨rfl, k1⟩
        go_wp2_with fail
        refine (HIX.out _).mono ?_
        rintro e w2 ⟨rfl, rfl⟩
        go_wp2_with fail
        go_ret
        refine ⟨ret_bool (by rw [HO.out]; simp [h0]), ?_⟩
        repeat (first | exact k1 | exact Keep.alloc k1 _ | (refine Keep.setCell ?_ _ _ (by first | omega | (intro hh; exact absurd hh (by have := k1.size; simp; omega)))))
      · have h0' : decide (ix ≥ 0) = false := by simp; omega
        go_enter Tryz.func104, Tryz.ntmps104
        go_wp2_with fail
        refine HP.out.mono ?_
        rintro e w1 ⟨rfl, k1⟩
        go_wp2_with fail
        refine (HIX.out _).mono ?_
        rintro e w2 ⟨rfl, rfl⟩
        go_wp2_with fail
        go_ret
        refine ⟨ret_bool (by rw [HO.out]; simp [h0]), ?_⟩
        repeat (first | exact k1 | exact Keep.alloc k1 _ | (refine Keep.setCell ?_ _ _ (by first | omega | (intro hh; exact absurd hh (by have := k1.size; simp; omega)))))
end Go.Proofs.YtpimfoohpfkciaaGreatDoor
