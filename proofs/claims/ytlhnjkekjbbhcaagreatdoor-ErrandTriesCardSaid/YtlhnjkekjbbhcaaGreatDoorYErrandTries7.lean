/- Parts of the proof of ErrandTries, in order. No conditions but those that each theorem states. -/
import Derived.Test.YtlhnjkekjbbhcaaGreatDoorYErrandTries0
import Derived.Maps.OwnOps
import Derived.Maps.OwnSet
import Derived.DeepKeys4
import Derived.Deep.MidRow
import Derived.Deep.WholeRow
import Derived.Deep.RegionHeld3
import Derived.Deep.Cut
import Derived.Deep.CutRange
import Derived.Deep.DeepCutAuto
import Derived.Deep.LoopGhost
import Derived.Test.YtlhnjkekjbbhcaaGreatDoorYErrandTries5
set_option linter.unusedSimpArgs false
set_option linter.unusedVariables false
namespace Go.Proofs.YtlhnjkekjbbhcaaGreatDoor
open Go.RowKit
def digV (b : UInt8) : Int := if 48 ≤ b.toNat ∧ b.toNat ≤ 57 then (b.toNat : Int) - 48 else if 97 ≤ b.toNat ∧ b.toNat ≤ 102 then (b.toNat : Int) - 97 + 10 else if 65 ≤ b.toNat ∧ b.toNat ≤ 70 then (b.toNat : Int) - 65 + 10 else 0
def digOk (b : UInt8) : Bool := decide (48 ≤ b.toNat ∧ b.toNat ≤ 57) || decide (97 ≤ b.toNat ∧ b.toNat ≤ 102) || decide (65 ≤ b.toNat ∧ b.toNat ≤ 70)
theorem digV_range (b : UInt8) : 0 ≤ digV b ∧ digV b ≤ 15 := by
  unfold digV
  split
  · omega
  · split
    · omega
    · split <;> omega
theorem dig_ret {a c : Int} {b d : Bool} (h : a = c) (h2 : b = d) : Ending.returned (.tuple #[.int .i64 a, .bool b]) = .returned (.tuple #[.int .i64 c, .bool d]) := by rw [h, h2]
set_option maxRecDepth 100000 in
set_option maxHeartbeats 1000000 in
theorem hexa_digit (b : UInt8) (w : World) :
    Calls Tryz.prog 239 #[.int .u8 b.toNat] w fun e w' => e = .returned (.tuple #[.int .i64 (digV b), .bool (digOk b)]) ∧ w = w' := by
  have hb := u8_nat b; have hV : digV b = if 48 ≤ b.toNat ∧ b.toNat ≤ 57 then (b.toNat : Int) - 48 else if 97 ≤ b.toNat ∧ b.toNat ≤ 102 then (b.toNat : Int) - 97 + 10 else if 65 ≤ b.toNat ∧ b.toNat ≤ 70 then (b.toNat : Int) - 65 + 10 else 0 := rfl
  have hO : digOk b = (decide (48 ≤ b.toNat ∧ b.toNat ≤ 57) || decide (97 ≤ b.toNat ∧ b.toNat ≤ 102) || decide (65 ≤ b.toNat ∧ b.toNat ≤ 70)) := rfl; generalize digV b = v at hV; generalize digOk b = o at hO; generalize b.toNat = x at *; by_cases h1 : x < 48
  · have HV := Lib.hid (show v = 0 by rw [hV, if_neg (by omega), if_neg (by omega), if_neg (by omega)]); have HO := Lib.hid (show o = false by rw [hO]; simp; omega); clear hV hO; go_enter Tryz.func239, Tryz.ntmps239; go_wp2; go_ret2; exact ⟨dig_ret HV.out.symm HO.out.symm, rfl⟩
  · by_cases h2 : x ≤ 57
    · have HV := Lib.hid (show v = (x : Int) - 48 by rw [hV, if_pos (by omega)]); have HO := Lib.hid (show o = true by rw [hO]; simp; omega); clear hV hO; go_enter Tryz.func239, Tryz.ntmps239; go_wp2; go_ret2; exact ⟨dig_ret HV.out.symm HO.out.symm, rfl⟩
    · by_cases h3 : x < 65
      · have HV := Lib.hid (show v = 0 by rw [hV, if_neg (by omega), if_neg (by omega), if_neg (by omega)]); have HO := Lib.hid (show o = false by rw [hO]; simp; omega); clear hV hO; go_enter Tryz.func239, Tryz.ntmps239; go_wp2; go_ret2; exact ⟨dig_ret HV.out.symm HO.out.symm, rfl⟩
      · by_cases h4 : x ≤ 70
        · have HV := Lib.hid (show v = (x : Int) + 32 - 97 + 10 by rw [hV, if_neg (by omega), if_neg (by omega), if_pos (by omega)]; omega); have HO := Lib.hid (show o = true by rw [hO]; simp; omega); clear hV hO; go_enter Tryz.func239, Tryz.ntmps239; go_wp2; go_ret2; exact ⟨dig_ret (by rw [HV.out]) HO.out.symm, rfl⟩
        · by_cases h5 : x < 97
          · have HV := Lib.hid (show v = 0 by rw [hV, if_neg (by omega), if_neg (by omega), if_neg (by omega)]); have HO := Lib.hid (show o = false by rw [hO]; simp; omega); clear hV hO; go_enter Tryz.func239, Tryz.ntmps239; go_wp2; go_ret2; exact ⟨dig_ret HV.out.symm HO.out.symm, rfl⟩
          · by_cases h6 : x ≤ 102
            · have HV := Lib.hid (show v = (x : Int) - 97 + 10 by rw [hV, if_neg (by omega), if_pos (by omega)]); have HO := Lib.hid (show o = true by rw [hO]; simp; omega); clear hV hO; go_enter Tryz.func239, Tryz.ntmps239; go_wp2; go_ret2; exact ⟨dig_ret HV.out.symm HO.out.symm, rfl⟩
            · have HV := Lib.hid (show v = 0 by rw [hV, if_neg (by omega), if_neg (by omega), if_neg (by omega)]); have HO := Lib.hid (show o = false by rw [hO]; simp; omega); clear hV hO; go_enter Tryz.func239, Tryz.ntmps239; go_wp2; go_ret2; exact ⟨dig_ret HV.out.symm HO.out.symm, rfl⟩
def gatherM (m : Int) : List UInt8 → Int → Option Int
  | [], n => some n
  | b :: r, n => if n * m + digV b ≤ 4611686018427387904 then gatherM m r (n * m + digV b) else none
def gatherV (m : Int) (l : List UInt8) : Int := (gatherM m l 0).getD 0
def gatherOk (m : Int) (l : List UInt8) : Bool := (gatherM m l 0).isSome
theorem gather_test {n m v : Int} (hm : 0 < m) : (4611686018427387904 - v) / m < n ↔ ¬ n * m + v ≤ 4611686018427387904 := by
  rw [Int.not_le]; constructor
  · intro h; have := (Int.ediv_lt_iff_lt_mul hm).1 h; omega
  · intro h; exact (Int.ediv_lt_iff_lt_mul hm).2 (by omega)
set_option maxRecDepth 100000 in
set_option maxHeartbeats 1000000 in
theorem hexa_gather (l : List UInt8) (m : Int) (w : World) (hs : l.length ≤ maxLen) (h2 : 2 ≤ m) (h16 : m ≤ 16) :
    Calls Tryz.prog 224 #[.string (S l), .int .i64 m] w fun e w' => e = .returned (.tuple #[.int .i64 (gatherV m l), .bool (gatherOk m l)]) ∧ Keep [] w w' := by
  have hs' : l.length ≤ 9223372036854775807 := hs; have hcv := conv_run w (S l); have hby := Bytes.conv w 5 l; have hkp := conv_keep w 5 (S l); have hsz := S_size l; have hV : gatherV m l = (gatherM m l 0).getD 0 := rfl; have hO : gatherOk m l = (gatherM m l 0).isSome := rfl; generalize gatherV m l = gv at hV; generalize gatherOk m l = go at hO; have HV := Lib.hid hV; have HO := Lib.hid hO; generalize Lib.bytesWorld w 5 (S l) = wb at hcv hby hkp; generalize hX : w.heap.size = X at hcv hby; have HB := Lib.hid hby; have HK := Lib.hid hkp; have HD := Lib.hid (fun (b : UInt8) (w1 : World) => hexa_digit b w1); clear hs hX hV hO hby hkp; go_enter Tryz.func224, Tryz.ntmps224; go_wp2_with fail
  go_loopg [4, 13] l.length (fun g nv i wr => ∃ (k : Nat) (n : Int), i = .int .i64 k ∧ nv = .int .i64 n ∧ k ≤ l.length ∧ g = l.length - k ∧ 0 ≤ n ∧ n ≤ 4611686018427387904 ∧ wb = wr ∧ Hid (gatherM m l 0 = gatherM m (l.drop k) n))
  case atStart => exact ⟨0, 0, rfl, rfl, Nat.zero_le _, by omega, by omega, by omega, rfl, Lib.hid rfl⟩
  case round =>
    obtain ⟨k, n, rfl, rfl, hk, hgk, hn0, hn1, rfl, HG⟩ := hrel; by_cases hlt : k < l.length
    · obtain ⟨c, hg⟩ : ∃ c, l[k]? = some c := ⟨_, List.getElem?_eq_getElem hlt⟩
      have hc := HB.out.1 k c hg; have hr := HG.out; rw [drop_at hg, gatherM] at hr; obtain ⟨v0, v1⟩ := digV_range c; have hdc := HD.out c; have ht := gather_test (n := n) (m := m) (v := digV c) (by omega); generalize digV c = v at hr v0 v1 hdc ht; have hm0 : 0 ≤ n * m := Int.mul_nonneg hn0 (by omega); have HDC := Lib.hid hdc; clear hg HG hdc; by_cases hle : n * m + v ≤ 4611686018427387904
      · rw [if_pos hle] at hr; have HR := Lib.hid hr; have ht' : ¬ (4611686018427387904 - v) / m < n := fun h => (ht.1 h) hle
        have hm1 : n * m ≤ 4611686018427387904 := by omega
        clear hr ht; go_wp2_with fail; refine (HDC.out _).mono ?_; rintro e w1 ⟨rfl, rfl⟩; go_wp2_with fail
        go_roundg (l.length - (k + 1))
        case measure => omega
        case rel => exact ⟨k + 1, n * m + v, by go_num, rfl, by omega, rfl, by omega, by omega, rfl, HR⟩
      · rw [if_neg hle] at hr; have HR := Lib.hid hr; have ht' : (4611686018427387904 - v) / m < n := ht.2 hle; clear hr ht hle; go_wp2_with fail; refine (HDC.out _).mono ?_; rintro e w1 ⟨rfl, rfl⟩; go_wp2_with fail; go_ret2; exact ⟨dig_ret (by rw [HV.out, HR.out]; rfl) (by rw [HO.out, HR.out]; rfl), HK.out⟩
    · have hke : k = l.length := by omega
      have hr := HG.out; rw [hke, List.drop_length, gatherM] at hr; have HR := Lib.hid hr; clear hr hke; go_wp2_with fail; go_ret2; exact ⟨dig_ret (by rw [HV.out, HR.out]; rfl) (by rw [HO.out, HR.out]; rfl), HK.out⟩
def boundV (m : Int) (l : List UInt8) (most : Int) : Int := match gatherM m l 0 with | some n => if most < n then 0 else n | none => 0
def boundE (m : Int) (l : List UInt8) (most : Int) : Int := match gatherM m l 0 with | some n => if most < n then 14 else 0 | none => 14
theorem two_ret {a c b d : Int} (h : a = c) (h2 : b = d) : Ending.returned (.tuple #[.int .i64 a, .int .i64 b]) = .returned (.tuple #[.int .i64 c, .int .i64 d]) := by rw [h, h2]
theorem gatherM_nonneg (m : Int) (hm : 0 ≤ m) : ∀ (l : List UInt8) (n r : Int), 0 ≤ n → gatherM m l n = some r → 0 ≤ r
  | [], n, r, h, e => by simp [gatherM] at e; omega
  | b :: s, n, r, h, e => by
    unfold gatherM at e
    split at e
    · have := digV_range b; have := Int.mul_nonneg h hm; exact gatherM_nonneg m hm s _ r (by omega) e
    · cases e
theorem boundV_range {m : Int} (hm : 0 ≤ m) (l : List UInt8) (most : Int) : (boundE m l most = 0 → 0 ≤ boundV m l most ∧ boundV m l most ≤ most) ∧ (boundE m l most ≠ 0 → boundV m l most = 0 ∧ boundE m l most = 14) := by
  unfold boundV boundE
  cases h : gatherM m l 0 with
  | none => simp
  | some n =>
    have := gatherM_nonneg m hm l 0 n (by omega) h; dsimp only
    split
    · simp
    · simp; omega
set_option maxRecDepth 100000 in
set_option maxHeartbeats 1000000 in
theorem hexa_bounded (l : List UInt8) (m most : Int) (w : World) (hs : l.length ≤ maxLen) (h2 : 2 ≤ m) (h16 : m ≤ 16) :
    Calls Tryz.prog 199 #[.string (S l), .int .i64 m, .int .i64 most] w fun e w' => e = .returned (.tuple #[.int .i64 (boundV m l most), .int .i64 (boundE m l most)]) ∧ Keep [] w w' := by
  have hG := hexa_gather l m w hs h2 h16; have hV : boundV m l most = (match gatherM m l 0 with | some n => if most < n then 0 else n | none => 0) := rfl; have hE : boundE m l most = (match gatherM m l 0 with | some n => if most < n then 14 else 0 | none => 14) := rfl; unfold gatherV gatherOk at hG; generalize boundV m l most = v at hV; generalize boundE m l most = e0 at hE
  cases hg : gatherM m l 0 with
  | none =>
    rw [hg] at hG hV hE; change Calls _ _ _ _ (fun e w' => e = .returned (.tuple #[.int .i64 0, .bool false]) ∧ Keep [] w w') at hG; have HG := Lib.hid hG; have HV := Lib.hid hV; have HE := Lib.hid hE; clear hG hV hE hg hs; go_enter Tryz.func199, Tryz.ntmps199; go_wp2_with fail; refine HG.out.mono ?_; rintro e w1 ⟨rfl, hk1⟩; have K1 := Lib.hid hk1; clear hk1; go_wp2_with fail; go_ret2; exact ⟨two_ret HV.out.symm HE.out.symm, K1.out⟩
  | some n =>
    rw [hg] at hG hV hE; change Calls _ _ _ _ (fun e w' => e = .returned (.tuple #[.int .i64 n, .bool true]) ∧ Keep [] w w') at hG; dsimp only at hV hE; by_cases ht : most < n
    · rw [if_pos ht] at hV hE; have HG := Lib.hid hG; have HV := Lib.hid hV; have HE := Lib.hid hE; clear hG hV hE hg hs; go_enter Tryz.func199, Tryz.ntmps199; go_wp2_with fail; refine HG.out.mono ?_; rintro e w1 ⟨rfl, hk1⟩; have K1 := Lib.hid hk1; clear hk1; go_wp2_with fail; go_ret2; exact ⟨two_ret HV.out.symm HE.out.symm, K1.out⟩
    · rw [if_neg ht] at hV hE; have HG := Lib.hid hG; have HV := Lib.hid hV; have HE := Lib.hid hE; clear hG hV hE hg hs; go_enter Tryz.func199, Tryz.ntmps199; go_wp2_with fail; refine HG.out.mono ?_; rintro e w1 ⟨rfl, hk1⟩; have K1 := Lib.hid hk1; clear hk1; go_wp2_with fail; go_ret2; exact ⟨two_ret HV.out.symm HE.out.symm, K1.out⟩
def decB (b : UInt8) : Bool := decide (48 ≤ b.toNat) && decide (b.toNat ≤ 57)
def isDecM (l : List UInt8) : Bool := l.all decB && !l.isEmpty && (decide (l.length = 1) || decide (l.head? ≠ some 48))
set_option maxRecDepth 100000 in
set_option maxHeartbeats 1000000 in
theorem hexa_isDec (l : List UInt8) (w : World) (hs : l.length ≤ maxLen) :
    Calls Tryz.prog 198 #[.string (S l)] w fun e w' => e = .returned (.bool (isDecM l)) ∧ Keep [] w w' := by
  have hs' : l.length ≤ 9223372036854775807 := hs; have hcv := conv_run w (S l); have hby := Bytes.conv w 5 l; have hkp := conv_keep w 5 (S l); have hsz := S_size l; have hD : isDecM l = (l.all decB && !l.isEmpty && (decide (l.length = 1) || decide (l.head? ≠ some 48))) := rfl; generalize isDecM l = dv at hD; generalize Lib.bytesWorld w 5 (S l) = wb at hcv hby hkp; generalize hX : w.heap.size = X at hcv hby; have HB := Lib.hid hby; have HK := Lib.hid hkp; have HD := Lib.hid hD; clear hs hX hby hkp hD; go_enter Tryz.func198, Tryz.ntmps198; go_wp2_with fail
  go_loopg [8] l.length (fun g i wr => ∃ (k : Nat), i = .int .i64 k ∧ k ≤ l.length ∧ g = l.length - k ∧ wb = wr ∧ Hid ((l.take k).all decB = true))
  case atStart => exact ⟨0, rfl, Nat.zero_le _, by omega, rfl, Lib.hid rfl⟩
  case round =>
    obtain ⟨k, rfl, hk, hgk, rfl, HG⟩ := hrel; by_cases hlt : k < l.length
    · obtain ⟨c, hg⟩ : ∃ c, l[k]? = some c := ⟨_, List.getElem?_eq_getElem hlt⟩
      have hc := HB.out.1 k c hg; have hc8 := u8_nat c; by_cases h1 : 48 ≤ c.toNat ∧ c.toNat ≤ 57
      · have HN : Hid ((l.take (k + 1)).all decB = true) := by
          rw [take_snoc hg, List.all_append, HG.out]; simp [decB, h1, Hid]
        obtain ⟨h2, h3⟩ := h1; clear hg HG; go_wp2_with fail
        go_roundg (l.length - (k + 1))
        case measure => omega
        case rel => exact ⟨k + 1, by go_num, by omega, rfl, rfl, HN⟩
      · have hno : dv = false := by
          rw [HD.out]
          have : l.all decB = false := by
            rw [List.all_eq_false]; exact ⟨c, List.mem_of_getElem? hg, by simp [decB]; omega⟩
          rw [this]; simp
        have HN := Lib.hid hno; clear hg HG hno; by_cases h2 : c.toNat < 48
        · go_wp2_with fail; go_ret; exact ⟨ret_bool HN.out.symm, HK.out⟩
        · have h3 : 57 < c.toNat := by omega
          clear h1; go_wp2_with fail; go_ret; exact ⟨ret_bool HN.out.symm, HK.out⟩
    · have hke : k = l.length := by omega
      have hall := HG.out; rw [hke, List.take_length] at hall; have hD := HD.out; rw [hall] at hD; have HDD := Lib.hid hD; clear hke hall hD HG
      cases l with
      | nil =>
        have q0 : (S []).toList = [] := S_toList []; go_wp2_with fail; go_ret; exact ⟨ret_bool (by rw [HDD.out]; rfl), HK.out⟩
      | cons b r =>
        have q0 : (S (b :: r)).toList = b :: r := S_toList _; have q1 : (S (b :: r))[0]'(by rw [hsz]; simp) = b := S_get rfl _
        cases r with
        | nil =>
          have hk1 : 1 ≤ k := by simp at hlt; omega
          go_wp2_with fail; go_ret; exact ⟨ret_bool (by rw [HDD.out]; rfl), HK.out⟩
        | cons b2 r2 =>
          have hk1 : r2.length + 1 + 1 ≤ k := by simp at hlt; omega
          have q2 : ((S (b :: b2 :: r2)).size) = r2.length + 1 + 1 := by rw [hsz]; simp
          obtain ⟨z1, z2⟩ := int_ne (show (r2.length : Int) + 1 + 1 ≠ 1 by omega); have hb8 := u8_nat b; by_cases hb : b.toNat = 48
          · obtain ⟨z3, z4⟩ := int_eq (show ((b.toNat : Nat) : Int) = 48 by omega)
            have HF : Hid (dv = false) := by
              rw [HDD.out]; have : b = 48 := UInt8.toNat_inj.1 hb; simp [this, Hid]
            clear hb; go_wp2_with fail; go_ret; exact ⟨ret_bool HF.out.symm, HK.out⟩
          · obtain ⟨z3, z4⟩ := int_ne (show ((b.toNat : Nat) : Int) ≠ 48 by omega)
            have HF : Hid (dv = true) := by
              rw [HDD.out]; have : b ≠ 48 := fun h => hb (by rw [h]; rfl)
              simp [this, Hid]
            clear hb; go_wp2_with fail; go_ret; exact ⟨ret_bool HF.out.symm, HK.out⟩
def undecV (l : List UInt8) (most : Int) : Int := if isDecM l then boundV 10 l most else 0
def undecE (l : List UInt8) (most : Int) : Int := if isDecM l then boundE 10 l most else 3
theorem undec_range (l : List UInt8) (most : Int) : (undecE l most = 0 → 0 ≤ undecV l most ∧ undecV l most ≤ most) ∧ (undecE l most ≠ 0 → undecV l most = 0 ∧ (undecE l most = 14 ∨ undecE l most = 3)) := by
  unfold undecV undecE; have h := boundV_range (m := 10) (by omega) l most
  split
  · exact ⟨h.1, fun h2 => ⟨(h.2 h2).1, .inl (h.2 h2).2⟩⟩
  · simp
set_option maxRecDepth 100000 in
set_option maxHeartbeats 1000000 in
theorem hexa_Undec (l : List UInt8) (most : Int) (w : World) (hs : l.length ≤ maxLen) :
    Calls Tryz.prog 164 #[.string (S l), .int .i64 most] w fun e w' => e = .returned (.tuple #[.int .i64 (undecV l most), .int .i64 (undecE l most)]) ∧ Keep [] w w' := by
  have hD := hexa_isDec l w hs; have hB := fun w1 => hexa_bounded l 10 most w1 hs (by omega) (by omega)
  have hV : undecV l most = if isDecM l then boundV 10 l most else 0 := rfl
  have hE : undecE l most = if isDecM l then boundE 10 l most else 3 := rfl
  generalize undecV l most = v at hV; generalize undecE l most = e0 at hE
  cases hd : isDecM l with
  | true =>
    rw [hd] at hD hV hE; rw [if_pos rfl] at hV hE; have HD := Lib.hid hD; have HB := Lib.hid hB; have HV := Lib.hid hV; have HE := Lib.hid hE; clear hD hB hV hE hd hs; go_enter Tryz.func164, Tryz.ntmps164; go_wp2_with fail; refine HD.out.mono ?_; rintro e w1 ⟨rfl, hk1⟩; have K1 := Lib.hid hk1; clear hk1; go_wp2_with fail; refine (HB.out _).mono ?_; rintro e w2 ⟨rfl, hk2⟩; have K2 := Lib.hid (K1.out.trans hk2); clear hk2; go_wp2_with fail; go_ret2; exact ⟨two_ret HV.out.symm HE.out.symm, K2.out⟩
  | false =>
    rw [hd] at hD hV hE; rw [if_neg (by simp)] at hV hE; have HD := Lib.hid hD; have HV := Lib.hid hV; have HE := Lib.hid hE; clear hD hB hV hE hd hs; go_enter Tryz.func164, Tryz.ntmps164; go_wp2_with fail; refine HD.out.mono ?_; rintro e w1 ⟨rfl, hk1⟩; have K1 := Lib.hid hk1; clear hk1; go_wp2_with fail; go_ret2; exact ⟨two_ret HV.out.symm HE.out.symm, K1.out⟩
def hexOk (l : List UInt8) : Bool := !l.isEmpty && decide (l.length ≤ 16) && l.all digOk
def unhexV (l : List UInt8) (most : Int) : Int := if hexOk l then boundV 16 l most else 0
def unhexE (l : List UInt8) (most : Int) : Int := if hexOk l then boundE 16 l most else 3
theorem unhex_range (l : List UInt8) (most : Int) : (unhexE l most = 0 → 0 ≤ unhexV l most ∧ unhexV l most ≤ most) ∧ (unhexE l most ≠ 0 → unhexV l most = 0 ∧ (unhexE l most = 14 ∨ unhexE l most = 3)) := by
  unfold unhexE unhexV; have := boundV_range (m := 16) (by omega) l most
  cases hexOk l with
  | false => simp
  | true => simp only [if_true]; exact ⟨this.1, fun h => ⟨(this.2 h).1, .inl (this.2 h).2⟩⟩
set_option maxRecDepth 100000 in
set_option maxHeartbeats 1000000 in
theorem hexa_Unhexnum (l : List UInt8) (most : Int) (w : World) (hs : l.length ≤ maxLen) :
    Calls Tryz.prog 227 #[.string (S l), .int .i64 most] w fun e w' => e = .returned (.tuple #[.int .i64 (unhexV l most), .int .i64 (unhexE l most)]) ∧ Keep [] w w' := by
  have hs' : l.length ≤ 9223372036854775807 := hs; have hcv := conv_run w (S l); have hby := Bytes.conv w 5 l; have hkp := conv_keep w 5 (S l); have hsz := S_size l; have hte := S_toList l; have hV : unhexV l most = if hexOk l then boundV 16 l most else 0 := rfl
  have hE : unhexE l most = if hexOk l then boundE 16 l most else 3 := rfl
  have hO : hexOk l = (!l.isEmpty && decide (l.length ≤ 16) && l.all digOk) := rfl; have hBd := fun w1 => hexa_bounded l 16 most w1 hs (by omega) (by omega)
  generalize unhexV l most = v at hV; generalize unhexE l most = e0 at hE; generalize Lib.bytesWorld w 5 (S l) = wb at hcv hby hkp; generalize hX : w.heap.size = X at hcv hby; have HB := Lib.hid hby; have HK := Lib.hid hkp; have HD := Lib.hid (fun (b : UInt8) (w1 : World) => hexa_digit b w1); have HBd := Lib.hid hBd; clear hs hX hby hkp hBd; by_cases h0 : l = []
  · have HF := Lib.hid (show v = 0 ∧ e0 = 3 by subst h0; rw [hV, hE, hO]; exact ⟨rfl, rfl⟩); have h0' : l.isEmpty = true := by rw [h0]; rfl
    clear hV hE hO h0; go_enter Tryz.func227, Tryz.ntmps227; go_wp2_with fail; go_ret2; exact ⟨two_ret HF.out.1.symm HF.out.2.symm, Keep.refl _ _⟩
  have h0' : l.isEmpty = false := by cases l with | nil => exact absurd rfl h0 | cons => rfl
  by_cases h16 : 16 < l.length
  · have HF := Lib.hid (show v = 0 ∧ e0 = 3 by rw [hV, hE, hO, decide_eq_false (show ¬ l.length ≤ 16 by omega)]; simp); have h16' : decide (((l.length : Nat) : Int) > 16) = true := by simp; omega
    clear hV hE hO h0; go_enter Tryz.func227, Tryz.ntmps227; go_wp2_with fail; go_ret2; exact ⟨two_ret HF.out.1.symm HF.out.2.symm, Keep.refl _ _⟩
  have h16' : decide (((l.length : Nat) : Int) > 16) = false := by simp; omega
  have hO2 : hexOk l = l.all digOk := by rw [hO, h0', decide_eq_true (show l.length ≤ 16 by omega)]; simp
  rw [hO2] at hV hE; have HV := Lib.hid (And.intro hV hE); clear hV hE hO hO2 h0; go_enter Tryz.func227, Tryz.ntmps227; go_wp2_with fail
  go_loopg [20] l.length (fun g i wr => ∃ k : Nat, i = .int .i64 k ∧ k ≤ l.length ∧ g = l.length - k ∧ wb = wr ∧ Hid ((l.take k).all digOk = true))
  case atStart => exact ⟨0, rfl, Nat.zero_le _, by omega, rfl, by simp [Hid]⟩
  case round =>
    obtain ⟨k, rfl, hk, hgk, rfl, HA⟩ := hrel; by_cases hlt : k < l.length
    · obtain ⟨c, hg⟩ : ∃ c, l[k]? = some c := ⟨_, List.getElem?_eq_getElem hlt⟩
      have hc := HB.out.1 k c hg; have hdc := HD.out c; have HG := Lib.hid hg; clear hg
      cases hd : digOk c with
      | true =>
        rw [hd] at hdc; have HA2 := Lib.hid (show (l.take (k + 1)).all digOk = true by rw [take_snoc HG.out, List.all_append, HA.out]; simp [hd]); generalize digV c = x at hdc; have HDC := Lib.hid hdc; clear hd hdc; go_wp2_with fail; refine (HDC.out _).mono ?_; rintro e w1 ⟨rfl, rfl⟩; go_wp2_with fail
        go_roundg (l.length - (k + 1))
        case measure => omega
        case rel => exact ⟨k + 1, by go_num, by omega, rfl, rfl, HA2⟩
      | false =>
        rw [hd] at hdc; have hno : l.all digOk = false := by rw [List.all_eq_false]; exact ⟨c, List.mem_of_getElem? HG.out, by simp [hd]⟩
        have HF := Lib.hid (show v = 0 ∧ e0 = 3 by rw [HV.out.1, HV.out.2, hno]; exact ⟨rfl, rfl⟩); generalize digV c = x at hdc; have HDC := Lib.hid hdc; clear hd hdc hno; go_wp2_with fail; refine (HDC.out _).mono ?_; rintro e w1 ⟨rfl, rfl⟩; go_wp2_with fail; go_ret2; exact ⟨two_ret HF.out.1.symm HF.out.2.symm, HK.out⟩
    · have hall := HA.out; rw [List.take_of_length_le (by omega)] at hall; have HF := Lib.hid (show v = boundV 16 l most ∧ e0 = boundE 16 l most by rw [HV.out.1, HV.out.2, hall]; exact ⟨rfl, rfl⟩); clear hall; go_wp2_with fail; refine (HBd.out _).mono ?_; rintro e w1 ⟨rfl, k1⟩; go_wp2_with fail; go_ret2; exact ⟨two_ret HF.out.1.symm HF.out.2.symm, HK.out.trans k1⟩
end Go.Proofs.YtlhnjkekjbbhcaaGreatDoor
namespace Go.Proofs.YtlhnjkekjbbhcaaGreatDoor
open Go.RowKit Go.Maps
abbrev Dig := { l : List UInt8 // l.length = 32 }
instance : Inhabited Dig := ⟨⟨List.replicate 32 0, by simp⟩⟩
def digC (d : Dig) : List Value := d.1.map fun b => .int .u8 (b.toNat : Nat)
theorem digC_length (d : Dig) : (digC d).length = 32 := by simp [digC, d.2]
theorem map_inj {α β : Type} {f : α → β} (hf : ∀ x y, f x = f y → x = y) : ∀ (a b : List α), a.map f = b.map f → a = b
  | [], [], _ => rfl
  | [], y :: s, h => by simp at h
  | x :: r, [], h => by simp at h
  | x :: r, y :: s, h => by
    simp only [List.map_cons, List.cons.injEq] at h; rw [hf x y h.1, map_inj hf r s h.2]
theorem flatten_one {α β : Type} (f : α → β) : ∀ l : List α, (l.map fun x => [f x]).flatten = l.map f
  | [] => rfl
  | x :: r => by simp [flatten_one f r]
theorem range_map {α : Type} (l : List UInt8) (f : UInt8 → α) : (List.range l.length).map (fun i => f (l.getD i 0)) = l.map f := by
  apply List.ext_getElem?; intro j; by_cases h : j < l.length
  · simp [h, List.getD]
  · simp [h]
theorem mapM_some {α β : Type} (f : α → Option β) (h : α → β) : ∀ (l : List α), (∀ x ∈ l, f x = some (h x)) → l.mapM f = some (l.map h)
  | [], _ => rfl
  | x :: r, hx => by
    rw [List.mapM_cons, hx x (by simp), mapM_some f h r (fun y hy => hx y (by simp [hy]))]; rfl
theorem keyLits_bytes {P : Program} {t e : TypeId} {n : Nat} (ht : P.underlying t = some (.array n e)) (he : P.underlying e = some (.int .u8)) (hce : P.cellsOf e = 1) (hct : P.cellsOf t = n) (D : Nat) (l : List UInt8) (hl : l.length = n) :
    P.keyLits (D + 2) t (l.map fun b => .int .u8 (b.toNat : Nat)) = some (l.map fun b => .int .u8 (b.toNat : Nat)) := by
  have h1 : ∀ i ∈ List.range n, P.keyLits (D + 1) e (((l.map fun b => Value.int .u8 (b.toNat : Nat)).drop (i * P.cellsOf e)).take (P.cellsOf e)) = some [Lit.int .u8 ((l.getD i 0).toNat : Nat)] := fun i hi => by
    have hlt : i < l.length := by rw [hl]; exact List.mem_range.1 hi
    rw [hce, Nat.mul_one]
    have e1 : ((l.map fun b => Value.int .u8 (b.toNat : Nat)).drop i).take 1 = [Value.int .u8 ((l.getD i 0).toNat : Nat)] := by
      rw [← List.map_drop, ← List.map_take, List.drop_eq_getElem_cons hlt]; have e2 : l.getD i 0 = l[i] := by simp [List.getD, hlt]
      rw [e2]; rfl
    rw [e1]; unfold Program.keyLits; rw [he]; generalize l.getD i 0 = c; have := u8_nat c; have hw : (Lit.int .u8 (c.toNat : Nat)).wf = true := by simp [Lit.wf, IntKind.min, IntKind.max, IntKind.signed, IntKind.bits]; omega
    simp [hw]
  unfold Program.keyLits; rw [ht]; simp only; rw [if_pos (by rw [hct]; simp [hl]), mapM_some _ _ _ h1]; simp only [Option.map_some]; rw [flatten_one (fun i => Lit.int .u8 ((l.getD i 0).toNat : Nat)), ← hl]; exact congrArg some (range_map l (fun b => Lit.int .u8 (b.toNat : Nat)))
theorem keyBytes_bytes (l : List UInt8) : keyBytes (l.map fun b => Lit.int .u8 (b.toNat : Nat)) = l := by
  induction l with
  | nil => rfl
  | cons b r ih =>
    unfold keyBytes at *; simp only [List.map_cons, List.flatMap_cons, ih]; have := u8_nat b
    have e : Lit.keyBytes (.int .u8 (b.toNat : Nat)) = [b] := by
      have e1 : (((b.toNat : Nat) : Int) % 2 ^ IntKind.u8.bits).toNat = b.toNat := by
        simp only [IntKind.bits]; omega
      simp only [Lit.keyBytes, e1]; show [UInt8.ofNat (b.toNat % 256)].reverse = [b]; rw [Nat.mod_eq_of_lt this]; simp
    rw [e]; rfl
theorem dig_key (d : Dig) : keyOf Tryz.prog 23 (.agg (digC d).toArray) = some (.string d.1) := by
  have hk : Tryz.prog.keyType 23 = true := by kernel_rfl
  have hc : Tryz.prog.cellsOf 23 = 32 := by kernel_rfl
  have h1 : Tryz.prog.cellsOf 5 = 1 := by kernel_rfl
  have hf : Value.formed Tryz.prog 23 (.agg (digC d).toArray) = true := by
    unfold Value.formed; rw [Tryz.underlying23]; simp [hc, digC_length]
  unfold keyOf; rw [Tryz.underlying23]; simp only [hk, hf, Bool.and_self, if_true]; have hs : Tryz.prog.types.size + 1 = (Tryz.prog.types.size - 1) + 2 := by kernel_rfl
  rw [hs]; have := keyLits_bytes Tryz.underlying23 Tryz.underlying5 h1 hc (Tryz.prog.types.size - 1) d.1 d.2; have e : (Value.agg (digC d).toArray).cells.toList = d.1.map fun b => Value.int .u8 (b.toNat : Nat) := by simp [Value.cells, digC]
  rw [e, this]; simp [keyBytes_bytes]
theorem wpList_store_new {P : Program} {ops : Array Oper} {rest : List Oper} {op : Oper} {a : Act} {w : World} {Q : Exit → Act → World → Prop} (hgd : op.guard = none) (ty : TypeId) (x y : Operand) (ho : op.op = .store ty x y)
    (Z : Array Value) (cells : List Value) (hx : a.eval x = .pointer (some ⟨w.heap.size, 0, none⟩)) (hy : a.eval y = .agg cells.toArray) (hi : (P.info? ty).map (·.size) = some cells.length) (hz : Z.size = cells.length)
    (h1 : ∀ v ∈ cells, v.oneCell' = true) (h : wpList P ops Q rest (a.put op.dst undef) (w.alloc (.cells cells.toArray ty))) : wpList P ops Q (op :: rest) a (w.alloc (.cells Z ty)) :=
  wpList_plain hgd fun _ hK => by
    unfold Oper.wp execOp; simp only [ho, hx, hy, Instr.storeAt, Instr.sureAddr, Sem.run_bind, Sem.run_pure, Result.andThen_ok, run_storeVar_new (P := P) w ty Z cells.toArray (by simpa using hi) (by simpa using hz) (all_oneCell_toArray h1)]; exact hK _ _ h
end Go.Proofs.YtlhnjkekjbbhcaaGreatDoor
namespace Go.Proofs.YtlhnjkekjbbhcaaGreatDoor
open Go.RowKit Go.Shelf
def bodyT (K : List Fld) : List UInt8 := K.flatMap fun f => printF f ++ [13, 10]
def headT (st : List UInt8) (K : List Fld) : List UInt8 := st ++ [13, 10] ++ bodyT K ++ [13, 10]
theorem loop_n_le (s st : List UInt8) : ∀ (k : Nat) (F : List Fld) (n : Nat), n ≤ s.length → n ≤ 4096 → (loopM s st k F n).n ≤ s.length
  | 0, F, n, h, _ => h
  | k + 1, F, n, h, h2 => by
    have hb := next_bounds h h2; unfold loopM; by_cases h4 : (nextM s n).2.2 ≠ 0
    · rw [if_pos h4]; exact hb.1
    · rw [if_neg h4]; by_cases h5 : (nextM s n).1 = []
      · rw [if_pos h5]; exact hb.1
      · rw [if_neg h5]; by_cases h6 : (addM F (nextM s n).1).2 ≠ 0
        · rw [if_pos h6]; exact hb.1
        · rw [if_neg h6]; exact loop_n_le s st k _ _ hb.1 hb.2.1
theorem split_n_le (s : List UInt8) : (splitM s).n ≤ s.length := by
  have hb := next_bounds (s := s) (n := 0) (Nat.zero_le _) (Nat.zero_le _)
  have hr : (readM s).n ≤ s.length := by
    unfold readM; by_cases h4 : (nextM s 0).2.2 ≠ 0
    · rw [if_pos h4]; exact hb.1
    · rw [if_neg h4]; by_cases h6 : beginE (nextM s 0).1 ≠ 0
      · rw [if_pos h6]; exact hb.1
      · rw [if_neg h6]; exact loop_n_le s _ _ _ _ hb.1 hb.2.1
  unfold splitM
  split
  · simp
  · exact hr
end Go.Proofs.YtlhnjkekjbbhcaaGreatDoor
