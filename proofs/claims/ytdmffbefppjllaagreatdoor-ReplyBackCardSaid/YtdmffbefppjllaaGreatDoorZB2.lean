/- Parts of the proof, in order. No conditions but those that each theorem states. -/
import Derived.Test.YtdmffbefppjllaaGreatDoorZB1
import Derived.Lib.ItoaNum
import Derived.Lib.SlTrimSet
import Derived.Lib.SlBytesConst
import Derived.Lib.LaidTab
import Derived.Lib.ItoaLen
import Derived.Sort.Grow
import Derived.Deep.RegionHeld3
import Derived.Deep.LoopGhost
import Derived.Test.YtdmffbefppjllaaGreatDoorShelf
import Derived.Lib.Builder
import Derived.Lib.AppendStr
/- Layer 1: numbers out of digits: digit, gather, bounded, isDec, Undec. No conditions but on lengths. -/
namespace Go.Proofs.YtdmffbefppjllaaGreatDoor
open Go.RowKit

def digV (b : UInt8) : Int := if 48 ≤ b.toNat ∧ b.toNat ≤ 57 then (b.toNat : Int) - 48 else if 97 ≤ b.toNat ∧ b.toNat ≤ 102 then (b.toNat : Int) - 97 + 10 else if 65 ≤ b.toNat ∧ b.toNat ≤ 70 then (b.toNat : Int) - 65 + 10 else 0
def digOk (b : UInt8) : Bool := decide (48 ≤ b.toNat ∧ b.toNat ≤ 57) || decide (97 ≤ b.toNat ∧ b.toNat ≤ 102) || decide (65 ≤ b.toNat ∧ b.toNat ≤ 70)
theorem digV_range (b : UInt8) : 0 ≤ digV b ∧ digV b ≤ 15 := by
  unfold digV
  split
  · omega
  · split
    · omega
    · split <;> omega
theorem dig_ret {a c : Int} {b d : Bool} (h : a = c) (h2 : b = d) : Ending.returned (.tuple #[.int .i64 a, .bool b]) = .returned (.tuple #[.int .i64 c, .bool d]) := by rw [h, h2]

set_option maxRecDepth 100000 in
set_option maxHeartbeats 1000000 in
theorem hexa_digit (b : UInt8) (w : World) :
    Calls Tryz.prog 129 #[.int .u8 b.toNat] w fun e w' => e = .returned (.tuple #[.int .i64 (digV b), .bool (digOk b)]) ∧ w = w' := by
  have hb := u8_nat b
  have hV : digV b = if 48 ≤ b.toNat ∧ b.toNat ≤ 57 then (b.toNat : Int) - 48 else if 97 ≤ b.toNat ∧ b.toNat ≤ 102 then (b.toNat : Int) - 97 + 10 else if 65 ≤ b.toNat ∧ b.toNat ≤ 70 then (b.toNat : Int) - 65 + 10 else 0 := rfl
  have hO : digOk b = (decide (48 ≤ b.toNat ∧ b.toNat ≤ 57) || decide (97 ≤ b.toNat ∧ b.toNat ≤ 102) || decide (65 ≤ b.toNat ∧ b.toNat ≤ 70)) := rfl
  generalize digV b = v at hV
  generalize digOk b = o at hO
  generalize b.toNat = x at *
  by_cases h1 : x < 48
  · have HV := Lib.hid (show v = 0 by rw [hV, if_neg (by omega), if_neg (by omega), if_neg (by omega)])
    have HO := Lib.hid (show o = false by rw [hO]; simp; omega)
    clear hV hO
    go_enter Tryz.func129, Tryz.ntmps129
    go_wp2
    go_ret2
    exact ⟨dig_ret HV.out.symm HO.out.symm, rfl⟩
  · by_cases h2 : x ≤ 57
    · have HV := Lib.hid (show v = (x : Int) - 48 by rw [hV, if_pos (by omega)])
      have HO := Lib.hid (show o = true by rw [hO]; simp; omega)
      clear hV hO
      go_enter Tryz.func129, Tryz.ntmps129
      go_wp2
      go_ret2
      exact ⟨dig_ret HV.out.symm HO.out.symm, rfl⟩
    · by_cases h3 : x < 65
      · have HV := Lib.hid (show v = 0 by rw [hV, if_neg (by omega), if_neg (by omega), if_neg (by omega)])
        have HO := Lib.hid (show o = false by rw [hO]; simp; omega)
        clear hV hO
        go_enter Tryz.func129, Tryz.ntmps129
        go_wp2
        go_ret2
        exact ⟨dig_ret HV.out.symm HO.out.symm, rfl⟩
      · by_cases h4 : x ≤ 70
        · have HV := Lib.hid (show v = (x : Int) + 32 - 97 + 10 by rw [hV, if_neg (by omega), if_neg (by omega), if_pos (by omega)]; omega)
          have HO := Lib.hid (show o = true by rw [hO]; simp; omega)
          clear hV hO
          go_enter Tryz.func129, Tryz.ntmps129
          go_wp2
          go_ret2
          exact ⟨dig_ret (by rw [HV.out]) HO.out.symm, rfl⟩
        · by_cases h5 : x < 97
          · have HV := Lib.hid (show v = 0 by rw [hV, if_neg (by omega), if_neg (by omega), if_neg (by omega)])
            have HO := Lib.hid (show o = false by rw [hO]; simp; omega)
            clear hV hO
            go_enter Tryz.func129, Tryz.ntmps129
            go_wp2
            go_ret2
            exact ⟨dig_ret HV.out.symm HO.out.symm, rfl⟩
          · by_cases h6 : x ≤ 102
            · have HV := Lib.hid (show v = (x : Int) - 97 + 10 by rw [hV, if_neg (by omega), if_pos (by omega)])
              have HO := Lib.hid (show o = true by rw [hO]; simp; omega)
              clear hV hO
              go_enter Tryz.func129, Tryz.ntmps129
              go_wp2
              go_ret2
              exact ⟨dig_ret HV.out.symm HO.out.symm, rfl⟩
            · have HV := Lib.hid (show v = 0 by rw [hV, if_neg (by omega), if_neg (by omega), if_neg (by omega)])
              have HO := Lib.hid (show o = false by rw [hO]; simp; omega)
              clear hV hO
              go_enter Tryz.func129, Tryz.ntmps129
              go_wp2
              go_ret2
              exact ⟨dig_ret HV.out.symm HO.out.symm, rfl⟩

/-- the number of digits; none: it is too great -/
def gatherM (m : Int) : List UInt8 → Int → Option Int
  | [], n => some n
  | b :: r, n => if n * m + digV b ≤ 4611686018427387904 then gatherM m r (n * m + digV b) else none
def gatherV (m : Int) (l : List UInt8) : Int := (gatherM m l 0).getD 0
def gatherOk (m : Int) (l : List UInt8) : Bool := (gatherM m l 0).isSome
theorem gather_test {n m v : Int} (hm : 0 < m) : (4611686018427387904 - v) / m < n ↔ ¬ n * m + v ≤ 4611686018427387904 := by
  rw [Int.not_le]
  constructor
  · intro h
    have := (Int.ediv_lt_iff_lt_mul hm).1 h
    omega
  · intro h
    exact (Int.ediv_lt_iff_lt_mul hm).2 (by omega)

set_option maxRecDepth 100000 in
set_option maxHeartbeats 1000000 in
theorem hexa_gather (l : List UInt8) (m : Int) (w : World) (hs : l.length ≤ maxLen) (h2 : 2 ≤ m) (h16 : m ≤ 16) :
    Calls Tryz.prog 112 #[.string (S l), .int .i64 m] w fun e w' => e = .returned (.tuple #[.int .i64 (gatherV m l), .bool (gatherOk m l)]) ∧ Keep [] w w' := by
  have hs' : l.length ≤ 9223372036854775807 := hs
  have hcv := conv_run w (S l)
  have hby := Bytes.conv w 5 l
  have hkp := conv_keep w 5 (S l)
  have hsz := S_size l
  have hV : gatherV m l = (gatherM m l 0).getD 0 := rfl
  have hO : gatherOk m l = (gatherM m l 0).isSome := rfl
  generalize gatherV m l = gv at hV
  generalize gatherOk m l = go at hO
  have HV := Lib.hid hV
  have HO := Lib.hid hO
  generalize Lib.bytesWorld w 5 (S l) = wb at hcv hby hkp
  generalize hX : w.heap.size = X at hcv hby
  have HB := Lib.hid hby
  have HK := Lib.hid hkp
  have HD := Lib.hid (fun (b : UInt8) (w1 : World) => hexa_digit b w1)
  clear hs hX hV hO hby hkp
  go_enter Tryz.func112, Tryz.ntmps112
  go_wp2_with fail
  go_loopg [4, 13] l.length (fun g nv i wr => ∃ (k : Nat) (n : Int), i = .int .i64 k ∧ nv = .int .i64 n ∧ k ≤ l.length ∧ g = l.length - k ∧ 0 ≤ n ∧ n ≤ 4611686018427387904 ∧ wb = wr ∧ Hid (gatherM m l 0 = gatherM m (l.drop k) n))
  case atStart => exact ⟨0, 0, rfl, rfl, Nat.zero_le _, by omega, by omega, by omega, rfl, Lib.hid rfl⟩
  case round =>
    obtain ⟨k, n, rfl, rfl, hk, hgk, hn0, hn1, rfl, HG⟩ := hrel
    by_cases hlt : k < l.length
    · obtain ⟨c, hg⟩ : ∃ c, l[k]? = some c := ⟨_, List.getElem?_eq_getElem hlt⟩
      have hc := HB.out.1 k c hg
      have hr := HG.out
      rw [drop_at hg, gatherM] at hr
      obtain ⟨v0, v1⟩ := digV_range c
      have hdc := HD.out c
      have ht := gather_test (n := n) (m := m) (v := digV c) (by omega)
      generalize digV c = v at hr v0 v1 hdc ht
      have hm0 : 0 ≤ n * m := Int.mul_nonneg hn0 (by omega)
      have HDC := Lib.hid hdc
      clear hg HG hdc
      by_cases hle : n * m + v ≤ 4611686018427387904
      · rw [if_pos hle] at hr
        have HR := Lib.hid hr
        have ht' : ¬ (4611686018427387904 - v) / m < n := fun h => (ht.1 h) hle
        have hm1 : n * m ≤ 4611686018427387904 := by omega
        clear hr ht
        go_wp2_with fail
        refine (HDC.out _).mono ?_
        rintro e w1 ⟨rfl, rfl⟩
        go_wp2_with fail
        go_roundg (l.length - (k + 1))
        case measure => omega
        case rel => exact ⟨k + 1, n * m + v, by go_num, rfl, by omega, rfl, by omega, by omega, rfl, HR⟩
      · rw [if_neg hle] at hr
        have HR := Lib.hid hr
        have ht' : (4611686018427387904 - v) / m < n := ht.2 hle
        clear hr ht hle
        go_wp2_with fail
        refine (HDC.out _).mono ?_
        rintro e w1 ⟨rfl, rfl⟩
        go_wp2_with fail
        go_ret2
        exact ⟨dig_ret (by rw [HV.out, HR.out]; rfl) (by rw [HO.out, HR.out]; rfl), HK.out⟩
    · have hke : k = l.length := by omega
      have hr := HG.out
      rw [hke, List.drop_length, gatherM] at hr
      have HR := Lib.hid hr
      clear hr hke
      go_wp2_with fail
      go_ret2
      exact ⟨dig_ret (by rw [HV.out, HR.out]; rfl) (by rw [HO.out, HR.out]; rfl), HK.out⟩

def boundV (m : Int) (l : List UInt8) (most : Int) : Int := match gatherM m l 0 with | some n => if most < n then 0 else n | none => 0
def boundE (m : Int) (l : List UInt8) (most : Int) : Int := match gatherM m l 0 with | some n => if most < n then 14 else 0 | none => 14
theorem two_ret {a c b d : Int} (h : a = c) (h2 : b = d) : Ending.returned (.tuple #[.int .i64 a, .int .i64 b]) = .returned (.tuple #[.int .i64 c, .int .i64 d]) := by rw [h, h2]
theorem gatherM_nonneg (m : Int) (hm : 0 ≤ m) : ∀ (l : List UInt8) (n r : Int), 0 ≤ n → gatherM m l n = some r → 0 ≤ r
  | [], n, r, h, e => by simp [gatherM] at e; omega
  | b :: s, n, r, h, e => by
    unfold gatherM at e
    split at e
    · have := digV_range b
      have := Int.mul_nonneg h hm
      exact gatherM_nonneg m hm s _ r (by omega) e
    · cases e
theorem boundV_range {m : Int} (hm : 0 ≤ m) (l : List UInt8) (most : Int) : (boundE m l most = 0 → 0 ≤ boundV m l most ∧ boundV m l most ≤ most) ∧ (boundE m l most ≠ 0 → boundV m l most = 0 ∧ boundE m l most = 14) := by
  unfold boundV boundE
  cases h : gatherM m l 0 with
  | none => simp
  | some n =>
    have := gatherM_nonneg m hm l 0 n (by omega) h
    dsimp only
    split
    · simp
    · simp; omega

set_option maxRecDepth 100000 in
set_option maxHeartbeats 1000000 in
theorem hexa_bounded (l : List UInt8) (m most : Int) (w : World) (hs : l.length ≤ maxLen) (h2 : 2 ≤ m) (h16 : m ≤ 16) :
    Calls Tryz.prog 88 #[.string (S l), .int .i64 m, .int .i64 most] w fun e w' => e = .returned (.tuple #[.int .i64 (boundV m l most), .int .i64 (boundE m l most)]) ∧ Keep [] w w' := by
  have hG := hexa_gather l m w hs h2 h16
  have hV : boundV m l most = (match gatherM m l 0 with | some n => if most < n then 0 else n | none => 0) := rfl
  have hE : boundE m l most = (match gatherM m l 0 with | some n => if most < n then 14 else 0 | none => 14) := rfl
  unfold gatherV gatherOk at hG
  generalize boundV m l most = v at hV
  generalize boundE m l most = e0 at hE
  cases hg : gatherM m l 0 with
  | none =>
    rw [hg] at hG hV hE
    change Calls _ _ _ _ (fun e w' => e = .returned (.tuple #[.int .i64 0, .bool false]) ∧ Keep [] w w') at hG
    have HG := Lib.hid hG
    have HV := Lib.hid hV
    have HE := Lib.hid hE
    clear hG hV hE hg hs
    go_enter Tryz.func88, Tryz.ntmps88
    go_wp2_with fail
    refine HG.out.mono ?_
    rintro e w1 ⟨rfl, hk1⟩
    have K1 := Lib.hid hk1
    clear hk1
    go_wp2_with fail
    go_ret2
    exact ⟨two_ret HV.out.symm HE.out.symm, K1.out⟩
  | some n =>
    rw [hg] at hG hV hE
    change Calls _ _ _ _ (fun e w' => e = .returned (.tuple #[.int .i64 n, .bool true]) ∧ Keep [] w w') at hG
    dsimp only at hV hE
    by_cases ht : most < n
    · rw [if_pos ht] at hV hE
      have HG := Lib.hid hG
      have HV := Lib.hid hV
      have HE := Lib.hid hE
      clear hG hV hE hg hs
      go_enter Tryz.func88, Tryz.ntmps88
      go_wp2_with fail
      refine HG.out.mono ?_
      rintro e w1 ⟨rfl, hk1⟩
      have K1 := Lib.hid hk1
      clear hk1
      go_wp2_with fail
      go_ret2
      exact ⟨two_ret HV.out.symm HE.out.symm, K1.out⟩
    · rw [if_neg ht] at hV hE
      have HG := Lib.hid hG
      have HV := Lib.hid hV
      have HE := Lib.hid hE
      clear hG hV hE hg hs
      go_enter Tryz.func88, Tryz.ntmps88
      go_wp2_with fail
      refine HG.out.mono ?_
      rintro e w1 ⟨rfl, hk1⟩
      have K1 := Lib.hid hk1
      clear hk1
      go_wp2_with fail
      go_ret2
      exact ⟨two_ret HV.out.symm HE.out.symm, K1.out⟩

def decB (b : UInt8) : Bool := decide (48 ≤ b.toNat) && decide (b.toNat ≤ 57)
def isDecM (l : List UInt8) : Bool := l.all decB && !l.isEmpty && (decide (l.length = 1) || decide (l.head? ≠ some 48))

set_option maxRecDepth 100000 in
set_option maxHeartbeats 1000000 in
theorem hexa_isDec (l : List UInt8) (w : World) (hs : l.length ≤ maxLen) :
    Calls Tryz.prog 87 #[.string (S l)] w fun e w' => e = .returned (.bool (isDecM l)) ∧ Keep [] w w' := by
  have hs' : l.length ≤ 9223372036854775807 := hs
  have hcv := conv_run w (S l)
  have hby := Bytes.conv w 5 l
  have hkp := conv_keep w 5 (S l)
  have hsz := S_size l
  have hD : isDecM l = (l.all decB && !l.isEmpty && (decide (l.length = 1) || decide (l.head? ≠ some 48))) := rfl
  generalize isDecM l = dv at hD
  generalize Lib.bytesWorld w 5 (S l) = wb at hcv hby hkp
  generalize hX : w.heap.size = X at hcv hby
  have HB := Lib.hid hby
  have HK := Lib.hid hkp
  have HD := Lib.hid hD
  clear hs hX hby hkp hD
  go_enter Tryz.func87, Tryz.ntmps87
  go_wp2_with fail
  go_loopg [8] l.length (fun g i wr => ∃ (k : Nat), i = .int .i64 k ∧ k ≤ l.length ∧ g = l.length - k ∧ wb = wr ∧ Hid ((l.take k).all decB = true))
  case atStart => exact ⟨0, rfl, Nat.zero_le _, by omega, rfl, Lib.hid rfl⟩
  case round =>
    obtain ⟨k, rfl, hk, hgk, rfl, HG⟩ := hrel
    by_cases hlt : k < l.length
    · obtain ⟨c, hg⟩ : ∃ c, l[k]? = some c := ⟨_, List.getElem?_eq_getElem hlt⟩
      have hc := HB.out.1 k c hg
      have hc8 := u8_nat c
      by_cases h1 : 48 ≤ c.toNat ∧ c.toNat ≤ 57
      · have HN : Hid ((l.take (k + 1)).all decB = true) := by
          rw [take_snoc hg, List.all_append, HG.out]
          simp [decB, h1, Hid]
        obtain ⟨h2, h3⟩ := h1
        clear hg HG
        go_wp2_with fail
        go_roundg (l.length - (k + 1))
        case measure => omega
        case rel => exact ⟨k + 1, by go_num, by omega, rfl, rfl, HN⟩
      · have hno : dv = false := by
          rw [HD.out]
          have : l.all decB = false := by
            rw [List.all_eq_false]
            exact ⟨c, List.mem_of_getElem? hg, by simp [decB]; omega⟩
          rw [this]; simp
        have HN := Lib.hid hno
        clear hg HG hno
        by_cases h2 : c.toNat < 48
        · go_wp2_with fail
          go_ret
          exact ⟨ret_bool HN.out.symm, HK.out⟩
        · have h3 : 57 < c.toNat := by omega
          clear h1
          go_wp2_with fail
          go_ret
          exact ⟨ret_bool HN.out.symm, HK.out⟩
    · have hke : k = l.length := by omega
      have hall := HG.out
      rw [hke, List.take_length] at hall
      have hD := HD.out
      rw [hall] at hD
      have HDD := Lib.hid hD
      clear hke hall hD HG
      cases l with
      | nil =>
        have q0 : (S []).toList = [] := S_toList []
        go_wp2_with fail
        go_ret
        exact ⟨ret_bool (by rw [HDD.out]; rfl), HK.out⟩
      | cons b r =>
        have q0 : (S (b :: r)).toList = b :: r := S_toList _
        have q1 : (S (b :: r))[0]'(by rw [hsz]; simp) = b := S_get rfl _
        cases r with
        | nil =>
          have hk1 : 1 ≤ k := by simp at hlt; omega
          go_wp2_with fail
          go_ret
          exact ⟨ret_bool (by rw [HDD.out]; rfl), HK.out⟩
        | cons b2 r2 =>
          have hk1 : r2.length + 1 + 1 ≤ k := by simp at hlt; omega
          have q2 : ((S (b :: b2 :: r2)).size) = r2.length + 1 + 1 := by rw [hsz]; simp
          obtain ⟨z1, z2⟩ := int_ne (show (r2.length : Int) + 1 + 1 ≠ 1 by omega)
          have hb8 := u8_nat b
          by_cases hb : b.toNat = 48
          · obtain ⟨z3, z4⟩ := int_eq (show ((b.toNat : Nat) : Int) = 48 by omega)
            have HF : Hid (dv = false) := by
              rw [HDD.out]
              have : b = 48 := UInt8.toNat_inj.1 hb
              simp [this, Hid]
            clear hb
            go_wp2_with fail
            go_ret
            exact ⟨ret_bool HF.out.symm, HK.out⟩
          · obtain ⟨z3, z4⟩ := int_ne (show ((b.toNat : Nat) : Int) ≠ 48 by omega)
            have HF : Hid (dv = true) := by
              rw [HDD.out]
              have : b ≠ 48 := fun h => hb (by rw [h]; rfl)
              simp [this, Hid]
            clear hb
            go_wp2_with fail
            go_ret
            exact ⟨ret_bool HF.out.symm, HK.out⟩

def undecV (l : List UInt8) (most : Int) : Int := if isDecM l then boundV 10 l most else 0
def undecE (l : List UInt8) (most : Int) : Int := if isDecM l then boundE 10 l most else 3
theorem undec_range (l : List UInt8) (most : Int) : (undecE l most = 0 → 0 ≤ undecV l most ∧ undecV l most ≤ most) ∧ (undecE l most ≠ 0 → undecV l most = 0 ∧ (undecE l most = 14 ∨ undecE l most = 3)) := by
  unfold undecV undecE
  have h := boundV_range (m := 10) (by omega) l most
  split
  · exact ⟨h.1, fun h2 => ⟨(h.2 h2).1, .inl (h.2 h2).2⟩⟩
  · simp

set_option maxRecDepth 100000 in
set_option maxHeartbeats 1000000 in
theorem hexa_Undec (l : List UInt8) (most : Int) (w : World) (hs : l.length ≤ maxLen) :
    Calls Tryz.prog 70 #[.string (S l), .int .i64 most] w fun e w' => e = .returned (.tuple #[.int .i64 (undecV l most), .int .i64 (undecE l most)]) ∧ Keep [] w w' := by
  have hD := hexa_isDec l w hs
  have hB := fun w1 => hexa_bounded l 10 most w1 hs (by omega) (by omega)
  have hV : undecV l most = if isDecM l then boundV 10 l most else 0 := rfl
  have hE : undecE l most = if isDecM l then boundE 10 l most else 3 := rfl
  generalize undecV l most = v at hV
  generalize undecE l most = e0 at hE
  cases hd : isDecM l with
  | true =>
    rw [hd] at hD hV hE
    rw [if_pos rfl] at hV hE
    have HD := Lib.hid hD
    have HB := Lib.hid hB
    have HV := Lib.hid hV
    have HE := Lib.hid hE
    clear hD hB hV hE hd hs
    go_enter Tryz.func70, Tryz.ntmps70
    go_wp2_with fail
    refine HD.out.mono ?_
    rintro e w1 ⟨rfl, hk1⟩
    have K1 := Lib.hid hk1
    clear hk1
    go_wp2_with fail
    refine (HB.out _).mono ?_
    rintro e w2 ⟨rfl, hk2⟩
    have K2 := Lib.hid (K1.out.trans hk2)
    clear hk2
    go_wp2_with fail
    go_ret2
    exact ⟨two_ret HV.out.symm HE.out.symm, K2.out⟩
  | false =>
    rw [hd] at hD hV hE
    rw [if_neg (by simp)] at hV hE
    have HD := Lib.hid hD
    have HV := Lib.hid hV
    have HE := Lib.hid hE
    clear hD hB hV hE hd hs
    go_enter Tryz.func70, Tryz.ntmps70
    go_wp2_with fail
    refine HD.out.mono ?_
    rintro e w1 ⟨rfl, hk1⟩
    have K1 := Lib.hid hk1
    clear hk1
    go_wp2_with fail
    go_ret2
    exact ⟨two_ret HV.out.symm HE.out.symm, K1.out⟩
end Go.Proofs.YtdmffbefppjllaaGreatDoor

/- Layer 16: numbers in decimal, as they are written and read. Plain laws; no program. No conditions but on sizes. -/
namespace Go.Proofs.YtdmffbefppjllaaGreatDoor
open Go.RowKit

def digs : List UInt8 := [48, 49, 50, 51, 52, 53, 54, 55, 56, 57]
def GT : Int := 4611686018427387904
theorem digs_iff (b : UInt8) : digs.contains b = decB b := by
  unfold digs decB
  rw [Bool.eq_iff_iff]
  simp only [List.contains_iff_mem, List.mem_cons, List.not_mem_nil, or_false, Bool.and_eq_true, decide_eq_true_eq, ← UInt8.toNat_inj]
  simp
  omega
theorem dig_byte {u : Nat} (h : u < 10) : (UInt8.ofNat (48 + u)).toNat = 48 + u := by
  simp [UInt8.toNat_ofNat']; omega
theorem dig_dec {u : Nat} (h : u < 10) : decB (UInt8.ofNat (48 + u)) = true := by
  unfold decB; rw [dig_byte h]; simp; omega
theorem dec_small {u : Nat} (h : u < 10) : Lib.decDigits u = [UInt8.ofNat (48 + u)] := by rw [Lib.decDigits, dif_pos h]
theorem dec_big {u : Nat} (h : ¬ u < 10) : Lib.decDigits u = Lib.decDigits (u / 10) ++ [UInt8.ofNat (48 + u % 10)] := by rw [Lib.decDigits, dif_neg h]
theorem dec_all (u : Nat) : (Lib.decDigits u).all decB = true := by
  induction u using Nat.strongRecOn with
  | _ u ih =>
    by_cases h : u < 10
    · rw [dec_small h, List.all_cons, List.all_nil, dig_dec h]; rfl
    · rw [dec_big h, List.all_append, ih (u / 10) (by omega), List.all_cons, List.all_nil, dig_dec (show u % 10 < 10 by omega)]; rfl
theorem dec_ne (u : Nat) : Lib.decDigits u ≠ [] := by
  by_cases h : u < 10
  · rw [dec_small h]; simp
  · rw [dec_big h]; simp
theorem dec_head (u : Nat) (h1 : 1 ≤ u) : (Lib.decDigits u).head? ≠ some 48 := by
  induction u using Nat.strongRecOn with
  | _ u ih =>
    by_cases h : u < 10
    · rw [dec_small h]
      intro e
      have := congrArg UInt8.toNat (Option.some.inj e)
      rw [dig_byte h] at this
      have h48 : (48 : UInt8).toNat = 48 := rfl
      omega
    · rw [dec_big h, List.head?_append]
      have := ih (u / 10) (by omega) (by omega)
      cases hd : (Lib.decDigits (u / 10)).head? with
      | none => exact absurd (List.head?_eq_none_iff.1 hd) (dec_ne _)
      | some x => rw [hd] at this; simpa using this
theorem gather_append (m : Int) : ∀ (a b : List UInt8) (n : Int), gatherM m (a ++ b) n = (gatherM m a n).bind (gatherM m b)
  | [], b, n => rfl
  | x :: a, b, n => by
    simp only [List.cons_append, gatherM]
    split
    · exact gather_append m a b _
    · rfl
theorem digV_dig {u : Nat} (h : u < 10) : digV (UInt8.ofNat (48 + u)) = u := by
  unfold digV
  rw [dig_byte h, if_pos (by omega)]
  omega
theorem gather_dec (u : Nat) (h : (u : Int) ≤ 4611686018427387904) : gatherM 10 (Lib.decDigits u) 0 = some (u : Int) := by
  induction u using Nat.strongRecOn with
  | _ u ih =>
    by_cases h1 : u < 10
    · rw [dec_small h1]
      simp only [gatherM]
      rw [digV_dig h1, if_pos (by omega)]
      simp
    · rw [dec_big h1, gather_append, ih (u / 10) (by omega) (by omega)]
      simp only [Option.bind_some, gatherM]
      rw [digV_dig (show u % 10 < 10 by omega), if_pos (by omega)]
      congr 1
      omega
theorem dec_isDec (u : Nat) : isDecM (Lib.decDigits u) = true := by
  unfold isDecM
  rw [dec_all]
  have hn : (Lib.decDigits u).isEmpty = false := by simp [dec_ne]
  rw [hn]
  by_cases h : u < 10
  · rw [dec_small h]; simp
  · have := dec_head u (by omega)
    simp [this]
theorem undec_dec (u : Nat) (most : Int) (h : (u : Int) ≤ most) (hm : most ≤ 4611686018427387904) : undecV (Lib.decDigits u) most = u ∧ undecE (Lib.decDigits u) most = 0 := by
  unfold undecV undecE boundV boundE
  rw [dec_isDec, gather_dec u (by omega)]
  simp only [if_true]
  rw [if_neg (by omega), if_neg (by omega)]
  exact ⟨rfl, rfl⟩
theorem drop_nil {p : UInt8 → Bool} : ∀ {l : List UInt8}, l.dropWhile p = [] ↔ ∀ x ∈ l, p x = true
  | [] => by simp
  | x :: l => by
    cases h : p x with
    | true => rw [List.dropWhile_cons_of_pos h, drop_nil]; simp [h]
    | false => rw [List.dropWhile_cons_of_neg (by simp [h])]; simp [h]
theorem trim_dec {l : List UInt8} (h : l.all decB = true) : Lib.trimS l digs = [] := by
  have h1 : Lib.trimRightS l digs = [] := by
    unfold Lib.trimRightS
    rw [drop_nil.2]
    · rfl
    · intro x hx
      rw [digs_iff]
      exact List.all_eq_true.1 h x (List.mem_reverse.1 hx)
  unfold Lib.trimS
  rw [h1]; rfl
theorem trim_nodec {l : List UInt8} (h : l.all decB = false) : Lib.trimS l digs ≠ [] := by
  intro he
  obtain ⟨x, hx, hn⟩ := List.all_eq_false.1 h
  unfold Lib.trimS Lib.trimLeftS at he
  have h1 := drop_nil.1 he
  have h2 : ∀ y ∈ l, digs.contains y = true := by
    intro y hy
    unfold Lib.trimRightS at h1
    by_cases hm : y ∈ (l.reverse.dropWhile (digs.contains ·)).reverse
    · exact h1 y hm
    · have : l.reverse = l.reverse.takeWhile (digs.contains ·) ++ l.reverse.dropWhile (digs.contains ·) := (List.takeWhile_append_dropWhile).symm
      have hy' : y ∈ l.reverse := List.mem_reverse.2 hy
      rw [this] at hy'
      rcases List.mem_append.1 hy' with h3 | h3
      · exact List.all_eq_true.1 List.all_takeWhile y h3
      · exact absurd (List.mem_reverse.2 h3) hm
  have := h2 x hx
  rw [digs_iff] at this
  exact hn this

def numD (l : List UInt8) : List UInt8 := if Lib.trimLeftB l 48 = [] then [48] else Lib.trimLeftB l 48
def numN (l : List UInt8) : Int := if l = [] ∨ l.all decB = false then 0 else if undecE (numD l) GT = 14 then GT else undecV (numD l) GT
def numI (l : List UInt8) : Bool := !l.isEmpty && l.all decB
def numK (l : List UInt8) : Bool := l.all decB
theorem num_dec (u : Nat) (h : (u : Int) ≤ 4611686018427387904) : numN (Lib.decDigits u) = u ∧ numI (Lib.decDigits u) = true ∧ numK (Lib.decDigits u) = true := by
  have hd : numD (Lib.decDigits u) = Lib.decDigits u := by
    unfold numD
    by_cases h0 : u = 0
    · subst h0; rw [dec_small (by omega)]; rfl
    · have hh := dec_head u (by omega)
      have ht : Lib.trimLeftB (Lib.decDigits u) 48 = Lib.decDigits u := by
        unfold Lib.trimLeftB
        cases hc : Lib.decDigits u with
        | nil => rfl
        | cons x r =>
          rw [hc] at hh
          have : x ≠ 48 := by simpa using hh
          rw [List.dropWhile_cons_of_neg (by simpa using this)]
      rw [ht, if_neg (dec_ne u)]
  refine ⟨?_, ?_, dec_all u⟩
  · unfold numN
    rw [if_neg (by simp [dec_ne, dec_all]), hd, (undec_dec u GT h (by unfold GT; omega)).1, (undec_dec u GT h (by unfold GT; omega)).2]
    rfl
  · unfold numI; rw [dec_all]; simp [dec_ne]
end Go.Proofs.YtdmffbefppjllaaGreatDoor

/- Layer 16: number, isUnit. No conditions but on lengths. -/
namespace Go.Proofs.YtdmffbefppjllaaGreatDoor
open Go.RowKit Go.Shelf

def NumOut (w : World) (l : List UInt8) (e : Ending) (w' : World) : Prop := e = .returned (.tuple #[.agg #[.int .i64 (numN l), .bool (numI l)], .bool (numK l)]) ∧ Keep [] w w'
theorem num_ret {a c : Int} {b d x y : Bool} (h : a = c) (h2 : b = d) (h3 : x = y) : Ending.returned (.tuple #[.agg #[.int .i64 a, .bool b], .bool x]) = .returned (.tuple #[.agg #[.int .i64 c, .bool d], .bool y]) := by rw [h, h2, h3]

end Go.Proofs.YtdmffbefppjllaaGreatDoor

/- Layer 16: isUnit. No conditions but on lengths. -/
namespace Go.Proofs.YtdmffbefppjllaaGreatDoor
open Go.RowKit Go.Shelf

def unitB : List UInt8 := [98, 121, 116, 101, 115, 61]
/-- the byte of a text that stands for a byte of the unit -/
def unitOk (b c : UInt8) : Bool := c == b || decide (97 ≤ b.toNat) && decide (c.toNat = b.toNat - 32)
def isUnitM (l : List UInt8) : Bool := decide (6 ≤ l.length) && (l.zip unitB).all fun p => unitOk p.2 p.1

def unitCells : Array Value := #[.int .u8 98, .int .u8 121, .int .u8 116, .int .u8 101, .int .u8 115, .int .u8 61]
theorem unit_cell (w : World) (o : Obj) {T : TypeId} {fr : Nat × Nat} (ho : o = .cells unitCells T fr) {k : Nat} {b : UInt8} (h : unitB[k]? = some b) : (w.alloc o).cell? ⟨w.heap.size, k, none⟩ = some (.int .u8 (b.toNat : Nat)) := by
  subst ho
  have hh : (w.alloc (.cells unitCells T fr)).heap[w.heap.size]? = some (.cells unitCells T fr) := heap_alloc_new w _
  have hc : unitCells[k]? = some (.int .u8 (b.toNat : Nat)) := by
    match k, h with
    | 0, h => cases h; rfl
    | 1, h => cases h; rfl
    | 2, h => cases h; rfl
    | 3, h => cases h; rfl
    | 4, h => cases h; rfl
    | 5, h => cases h; rfl
    | k + 6, h => simp [unitB] at h
  unfold World.cell?
  simp only [hh]
  exact hc
theorem zip_take {l : List UInt8} {k : Nat} {b c : UInt8} (hb : unitB[k]? = some b) (hc : l[k]? = some c) : (l.zip unitB).take (k + 1) = (l.zip unitB).take k ++ [(c, b)] := by
  rw [List.take_add_one, (List.getElem?_zip_eq_some (z := (c, b))).2 ⟨hc, hb⟩]; rfl

end Go.Proofs.YtdmffbefppjllaaGreatDoor

/- Layer 10: the text of a value, in quotes or not: both sides. No conditions but on lengths. -/
namespace Go.Proofs.YtdmffbefppjllaaGreatDoor
open Go.RowKit Go.Shelf

/-- behind the first quote -/
def unqM : List UInt8 → List UInt8 → List UInt8 × Bool
  | [], _ => ([], false)
  | [c], out => if c.toNat = 34 then (out, true) else ([], false)
  | c :: d :: r, out => if c.toNat = 34 then (out, false) else if c.toNat = 92 then unqM r (out ++ [d]) else unqM (d :: r) (out ++ [c])
def unqQ : List UInt8 → List UInt8 × Bool
  | c :: d :: r => if c.toNat = 34 then unqM (d :: r) [] else ([], false)
  | _ => ([], false)
def unqW (s : List UInt8) : List UInt8 × Bool := if isTok s then (s, true) else unqQ s
theorem unqM_quote {c : UInt8} {r out : List UInt8} (h : c.toNat = 34) : unqM (c :: r) out = (out, r.isEmpty) := by
  cases r with
  | nil => unfold unqM; rw [if_pos h]; rfl
  | cons d r => unfold unqM; rw [if_pos h]; rfl
theorem unqM_slash {c d : UInt8} {r out : List UInt8} (h : c.toNat = 92) : unqM (c :: d :: r) out = unqM r (out ++ [d]) := by
  conv => lhs; unfold unqM
  rw [if_neg (by omega), if_pos h]
theorem unqM_slash_end {c : UInt8} {out : List UInt8} (h : c.toNat ≠ 34) : unqM [c] out = ([], false) := by
  unfold unqM; rw [if_neg h]
theorem unqM_plain {c : UInt8} {r out : List UInt8} (h : c.toNat ≠ 34) (h2 : c.toNat ≠ 92) : unqM (c :: r) out = unqM r (out ++ [c]) := by
  cases r with
  | nil => unfold unqM; rw [if_neg h]
  | cons d r =>
    conv => lhs; unfold unqM
    rw [if_neg h, if_neg h2]
theorem unqM_len : ∀ (n : Nat) (s out : List UInt8), s.length ≤ n → (unqM s out).1.length ≤ out.length + s.length
  | _, [], out, _ => by simp [unqM]
  | _, [c], out, _ => by unfold unqM; split <;> simp
  | 0, c :: d :: r, out, h => by simp at h
  | 1, c :: d :: r, out, h => by simp at h
  | n + 2, c :: d :: r, out, h => by
    unfold unqM
    split
    · simp
    · split
      · have := unqM_len n r (out ++ [d]) (by simp at h; omega)
        simp at this ⊢; omega
      · have := unqM_len (n + 1) (d :: r) (out ++ [c]) (by simp at h ⊢; omega)
        simp at this ⊢; omega
theorem unqW_len (s : List UInt8) : (unqW s).1.length ≤ s.length := by
  unfold unqW
  split
  · simp
  · unfold unqQ
    split
    · split
      · exact Nat.le_trans (unqM_len _ _ [] (Nat.le_refl _)) (by simp)
      · simp
    · simp
theorem str_ret {a c : List UInt8} {b d : Bool} (h : (a, b) = (c, d)) : Ending.returned (.tuple #[.string (S a), .bool b]) = .returned (.tuple #[.string (S c), .bool d]) := by cases h; rfl
theorem str_ret' {x : List UInt8 × Bool} {c : List UInt8} {d : Bool} (h : x = (c, d)) : Ending.returned (.tuple #[.string (S c), .bool d]) = .returned (.tuple #[.string (S x.1), .bool x.2]) := by rw [h]

end Go.Proofs.YtdmffbefppjllaaGreatDoor

/- Layer 10: the document's Parse, its result written out. No conditions but on lengths. -/
namespace Go.Proofs.YtdmffbefppjllaaGreatDoor
open Go.RowKit Go.Shelf

end Go.Proofs.YtdmffbefppjllaaGreatDoor

/- Layer 10: the document's Split. No conditions but on lengths. -/
namespace Go.Proofs.YtdmffbefppjllaaGreatDoor
open Go.RowKit Go.Shelf

theorem hasSuffix_two {l : List UInt8} {a b : UInt8} : Lib.hasSuffix l [a, b] = true ↔ ∃ x, l = x ++ [a, b] := by
  unfold Lib.hasSuffix
  constructor
  · intro h
    obtain ⟨x, hx⟩ : [a, b] <:+ l := by simpa using h
    exact ⟨x, hx.symm⟩
  · rintro ⟨x, rfl⟩
    simp
theorem trimSuffix_two {x : List UInt8} {a b : UInt8} : Lib.trimSuffix (x ++ [a, b]) [a, b] = x := by
  have h : Lib.hasSuffix (x ++ [a, b]) [a, b] = true := hasSuffix_two.2 ⟨x, rfl⟩
  unfold Lib.trimSuffix
  rw [if_pos h]
  simp
/-- a line that ends in LF: as the document takes it -/
theorem line_no {l : List UInt8} (h : l.length < 2 ∨ Lib.indexByte l 13 ≠ (l.length : Int) - 2) : lineM l = none := by
  unfold lineM
  rw [if_neg]
  rintro ⟨h1, h2⟩
  obtain ⟨x, rfl⟩ := hasSuffix_two.1 h1
  rw [trimSuffix_two] at h2
  have e : Lib.indexByte (x ++ [13, 10]) 13 = x.length := by
    have hge := Lib.indexByte_ge x 13
    have hn := Lib.indexByte_none (l := x) (c := 13) (by omega)
    refine indexByte_at (by simp) fun j hj => ?_
    rw [List.getElem?_append_left hj]
    exact hn j
  rw [e] at h
  simp at h
  omega
theorem line_yes {l : List UInt8} (hn : l[l.length - 1]? = some 10) (h1 : 2 ≤ l.length) (h : Lib.indexByte l 13 = (l.length : Int) - 2) : lineM l = some (l.take (l.length - 2)) := by
  have h2 : Lib.indexByte l 13 = ((l.length - 2 : Nat) : Int) := by rw [h]; omega
  obtain ⟨h3, h4⟩ := Lib.indexByte_some h2
  have e : l = l.take (l.length - 2) ++ [13, 10] := by
    have e1 : l.drop (l.length - 2) = [13, 10] := by
      rw [drop_at h3, show l.length - 2 + 1 = l.length - 1 by omega, drop_at hn]
      simp; omega
    rw [← e1, List.take_append_drop]
  have hs : Lib.hasSuffix l [13, 10] = true := hasSuffix_two.2 ⟨_, e⟩
  have ht : Lib.trimSuffix l [13, 10] = l.take (l.length - 2) := by
    conv => lhs; rw [e]
    exact trimSuffix_two
  unfold lineM
  rw [ht, if_pos]
  refine ⟨hs, ?_⟩
  rw [indexByte_no]
  · omega
  · intro j hj
    rw [List.getElem?_take] at hj
    split at hj
    · exact h4 j (by assumption) hj
    · cases hj

theorem isEmpty_false {l : List UInt8} (h : l ≠ []) : l.isEmpty = false := by cases l <;> simp at *
theorem ret4 {a b c c' d : Value} (h : c = c') : Ending.returned (.tuple #[a, b, c, d]) = Ending.returned (.tuple #[a, b, c', d]) := by rw [h]
/-- where the document's loop stands -/
def Stage (s st : List UInt8) (F : List Fld) (n : Nat) (first : Bool) : Prop :=
  (first = true ∧ st = [] ∧ F = [] ∧ n = 0) ∨ (first = false ∧ ∃ k, readM s = loopM s st k F n ∧ 4097 - n ≤ k)

end Go.Proofs.YtdmffbefppjllaaGreatDoor

/- Layer 10: param, Params: both sides. No conditions but on lengths. -/
namespace Go.Proofs.YtdmffbefppjllaaGreatDoor
open Go.RowKit Go.Shelf

/-- a parameter; false: it is none -/
def parM (x : List UInt8) : Fld × Bool :=
  if (Lib.cut x [61]).2.2 && isTok (Lib.cut x [61]).1 then (⟨lowW (Lib.cut x [61]).1, (unqW (Lib.cut x [61]).2.1).1⟩, (unqW (Lib.cut x [61]).2.1).2) else (⟨[], []⟩, false)
def parsM : List (List UInt8) → List Fld → Option (List Fld)
  | [], out => some out
  | x :: r, out => if x = [] then parsM r out else if (parM x).2 then parsM r (out ++ [(parM x).1]) else none
structure Prm where
  hd : List UInt8
  F : List Fld
  e : Int
def paramsM (s : List UInt8) : Prm := match parsM (cutW s 59).tail [] with
  | none => ⟨[], [], 3⟩
  | some F => ⟨(cutW s 59).headD [], F, 0⟩
def ParOut (x : Fld × Bool) (w : World) (e : Ending) (w' : World) : Prop := e = .returned (.tuple #[.agg #[.string (S x.1.name), .string (S x.1.value)], .bool x.2]) ∧ Keep [] w w'

def PrmOut (w : World) (r : Prm) (e : Ending) (w' : World) : Prop := ∃ v, e = .returned (.tuple #[.string (S r.hd), v, .int .i64 r.e]) ∧ Own Fld.cells 2 w.heap.size 26 w' v r.F ∧ Keep [] w w'
theorem drop_atG {α : Type} {l : List α} {k : Nat} {c : α} (h : l[k]? = some c) : l.drop k = c :: l.drop (k + 1) := by
  obtain ⟨hl, hc⟩ := List.getElem?_eq_some_iff.1 h
  rw [List.drop_eq_getElem_cons hl, hc]
theorem trimW_len (l : List UInt8) : (trimW l).length ≤ l.length := by
  unfold trimW Lib.trimS Lib.trimLeftS Lib.trimRightS
  refine Nat.le_trans (List.dropWhile_sublist _).length_le ?_
  rw [List.length_reverse]
  refine Nat.le_trans (List.dropWhile_sublist _).length_le ?_
  simp
theorem cutM_elem (b : UInt8) (m : Nat) : ∀ (l : List UInt8) (q : Bool) (p : List UInt8), p.length + l.length ≤ m → ∀ x ∈ cutM b l q p, x.length ≤ m
  | [], q, p, h, x, hx => by
    simp [cutM] at hx
    subst hx
    have := trimW_len p
    simp at h; omega
  | [c], q, p, h, x, hx => by
    rw [cutM.eq_def] at hx; dsimp only at hx
    split at hx
    · exact cutM_elem b m [] _ _ (by simp at h ⊢; omega) x hx
    · split at hx
      · simp at hx
        subst hx
        have := trimW_len (p ++ [c])
        simp at h this; omega
      · split at hx
        · rcases List.mem_cons.1 hx with rfl | hx
          · have := trimW_len p
            simp at h; omega
          · exact cutM_elem b m [] _ _ (by simp at h ⊢) x hx
        · exact cutM_elem b m [] _ _ (by simp at h ⊢; omega) x hx
  | c :: d :: r, q, p, h, x, hx => by
    rw [cutM.eq_def] at hx; dsimp only at hx
    split at hx
    · exact cutM_elem b m (d :: r) _ _ (by simp at h ⊢; omega) x hx
    · split at hx
      · exact cutM_elem b m r _ _ (by simp at h ⊢; omega) x hx
      · split at hx
        · rcases List.mem_cons.1 hx with rfl | hx
          · have := trimW_len p
            simp at h; omega
          · exact cutM_elem b m (d :: r) _ _ (by simp at h ⊢; omega) x hx
        · exact cutM_elem b m (d :: r) _ _ (by simp at h ⊢; omega) x hx
theorem cutW_elem {l : List UInt8} {b : UInt8} {x : List UInt8} (h : x ∈ cutW l b) : x.length ≤ l.length := cutM_elem b l.length l false [] (by simp) x h

end Go.Proofs.YtdmffbefppjllaaGreatDoor

/- Layer 16: bounds. No conditions but on lengths. -/
namespace Go.Proofs.YtdmffbefppjllaaGreatDoor
open Go.RowKit Go.Shelf

structure Bds where
  ln : Int
  li : Bool
  hn : Int
  hi : Bool
  ok : Bool
def bdsM (l : List UInt8) : Bds :=
  if isUnitM l then
    let c := Lib.cut (l.drop 6) [45]
    ⟨numN c.1, numI c.1, numN c.2.1, numI c.2.1, c.2.2 && numK c.1 && numK c.2.1 && (numI c.1 || numI c.2.1) && !(numI c.1 && numI c.2.1 && decide (numN c.2.1 < numN c.1))⟩
  else ⟨0, false, 0, false, false⟩
def BdsOut (w : World) (r : Bds) (e : Ending) (w' : World) : Prop := e = .returned (.tuple #[.agg #[.int .i64 r.ln, .bool r.li], .agg #[.int .i64 r.hn, .bool r.hi], .bool r.ok]) ∧ Keep [] w w'

end Go.Proofs.YtdmffbefppjllaaGreatDoor

/- Layer 16: Parse. No conditions but on lengths. -/
namespace Go.Proofs.YtdmffbefppjllaaGreatDoor
open Go.RowKit Go.Shelf

def rangeB : List UInt8 := [82, 97, 110, 103, 101]
structure Prt where
  kind : Int
  a : Int
  b : Int
  deriving DecidableEq
/-- what is asked for -/
def prtM (n : Int) (r : Bds) (size : Int) : Prt :=
  if n ≠ 1 ∨ r.ok = false then ⟨1, 0, max size 0 - 1⟩
  else if size ≤ 0 ∨ size ≤ r.ln ∨ (r.li = false ∧ r.hn = 0) then ⟨3, 0, 0⟩
  else if r.li = false then ⟨2, size - min r.hn size, max size 0 - 1⟩
  else if r.hi then ⟨2, r.ln, min r.hn (max size 0 - 1)⟩
  else ⟨2, r.ln, max size 0 - 1⟩
def parseM (L : List Fld) (size : Int) : Prt := prtM (getN L rangeB) (bdsM (getV L rangeB)) size

theorem numN_range (l : List UInt8) : 0 ≤ numN l ∧ numN l ≤ GT := by
  have h := undec_range (numD l) GT
  unfold numN
  have hG : GT = 4611686018427387904 := rfl
  split
  · omega
  · split
    · omega
    · by_cases h0 : undecE (numD l) GT = 0
      · exact h.1 h0
      · have := (h.2 h0).1; omega
theorem bds_range (l : List UInt8) : 0 ≤ (bdsM l).ln ∧ 0 ≤ (bdsM l).hn ∧ (bdsM l).ln ≤ GT ∧ (bdsM l).hn ≤ GT := by
  have hG : GT = 4611686018427387904 := rfl
  unfold bdsM
  split
  · exact ⟨(numN_range _).1, (numN_range _).1, (numN_range _).2, (numN_range _).2⟩
  · exact ⟨by decide, by decide, by decide, by decide⟩
theorem prt_ret {r : Prt} {a b c : Int} (h : r = ⟨a, b, c⟩) : Ending.returned (.tuple #[.int .i64 a, .int .i64 b, .int .i64 c]) = .returned (.tuple #[.int .i64 r.kind, .int .i64 r.a, .int .i64 r.b]) := by rw [h]

end Go.Proofs.YtdmffbefppjllaaGreatDoor

/- Layer 1: numbers in decimal are written. No conditions but on the numbers' table. -/
namespace Go.Proofs.YtdmffbefppjllaaGreatDoor
open Go.RowKit Go.Shelf

/-- the library's table of powers of ten is as it was laid -/
def P10 (w : World) : Prop := Lib.TabIs Tryz.prog w "internal/strconv.uint64pow10" .u64 Lib.pow10Tab
theorem P10.keep {w w' : World} {S : List Nat} (h : P10 w) (k : Keep S w w') (hn : ∀ g, Tryz.prog.globalNamed "internal/strconv.uint64pow10" = some g → g ∉ S) : P10 w' := by
  unfold P10 Lib.TabIs World.var? at *
  cases hg : Tryz.prog.globalNamed "internal/strconv.uint64pow10" with
  | none => simp [hg] at h
  | some g =>
    try rw [hg] at h
    simp only [Option.bind_some] at h ⊢
    cases ho : w.heap[g]? with
    | none => rw [ho] at h; simp at h
    | some o =>
      rw [k.heap ho (hn g hg)]
      rw [ho] at h
      exact h
theorem P10.keep0 {w w' : World} (h : P10 w) (k : Keep [] w w') : P10 w' := h.keep k (by simp)
theorem laid_at {P : Program} {W : World} {name : String} {k : IntKind} {zs : List Int} {g : Nat} {t e : TypeId} {n : Nat}
    (hg : P.globalNamed name = some g) (hty : (P.globals[g]?).map (·.type) = some t) (ht : P.underlying t = some (.array n e)) (he : P.underlying e = some (.int k)) (hce : P.cellsOf e = 1) (hct : P.cellsOf t = n) :
    ∀ {laid : List (String × DataW Unit)} {ps : List MemPlace}, (name, Lib.tabData k zs) ∈ laid → DataW.LaidVars P W laid ps → Lib.TabIs P W name k zs
  | [], ps, hm, _ => by simp at hm
  | x :: r, ps, hm, h => by
    obtain ⟨g', t', cs, fuel, p, q, hg', ht', hvar, hd, hr, _⟩ := h
    rcases List.mem_cons.1 hm with e | hm
    · subst e
      obtain rfl := Option.some.inj (hg.symm.trans hg')
      obtain rfl := Option.some.inj (hty.symm.trans ht')
      unfold Lib.TabIs
      rw [hvar, ← Lib.cells_of_tab ht he hce hct hd]
    · exact laid_at hg hty ht he hce hct hm hr
theorem P10.laid {W : World} {laid : List (String × DataW Unit)} (h : laidMet Tryz.prog laid W) (hm : ("internal/strconv.uint64pow10", Lib.tabData .u64 Lib.pow10Tab) ∈ laid := by first | (repeat (first | exact List.Mem.head _ | exact List.Mem.tail _ (List.Mem.head _) | exact List.Mem.tail _ (List.Mem.tail _ (List.Mem.head _)))) | simp) : P10 W := by
  obtain ⟨ps, h, _⟩ := h
  exact laid_at (g := 1) (t := 141) (e := 124) (n := 20) (by kernel_rfl) rfl (by kernel_rfl) (by kernel_rfl) (by kernel_rfl) (by kernel_rfl) hm h
theorem keep_grow (w : World) (k : Nat) (os : Array Obj) : Keep [] w (Sort.grow (w.drewN k) os) :=
  ⟨rfl, rfl, rfl, by simp [Sort.grow, World.drewN], fun i hi _ => by
    show (w.heap ++ os)[i]? = w.heap[i]?
    rw [Array.getElem?_append_left hi]⟩
theorem hexa_Dec (n : Int) (w : World) (hn : in64 n) (hp : P10 w) :
    Calls Tryz.prog 33 #[.int .i64 n] w fun e w' => e = .returned (.string (S (Lib.itoa n))) ∧ Keep [] w w' := by
  have hI := Lib.hid (fun w' (k : Keep [] w w') => Tryz.strconv_Itoa n hn.1 hn.2 w' (hp.keep0 k))
  go_enter Tryz.func33, Tryz.ntmps33
  go_wp2_with fail
  refine (hI.out _ (Keep.refl _ _)).mono ?_
  rintro e w1 ⟨rfl, k, os, rfl⟩
  have hk := keep_grow w k os
  generalize Sort.grow (w.drewN k) os = w1 at hk
  go_wp2_with fail
  go_ret
  exact ⟨rfl, hk⟩
theorem itoa_len (n : Int) (h : in64 n) : (Lib.itoa n).length ≤ 21 := Lib.itoa_length_le n h.1 h.2
/-- 'bytes ' -/
def saidB : List UInt8 := [98, 121, 116, 101, 115, 32]
def prnOk (a b n : Int) : Bool := decide (0 ≤ a) && decide (a ≤ b) && decide (b < n) && decide (n ≤ 4611686018427387904)
/-- a part as it is written -/
def prnS (a b n : Int) : List UInt8 := if prnOk a b n then saidB ++ Lib.itoa a ++ [45] ++ Lib.itoa b ++ [47] ++ Lib.itoa n else []
def prnE (a b n : Int) : Int := if prnOk a b n then 0 else 1
def unmetS (n : Int) : List UInt8 := [98, 121, 116, 101, 115, 32, 42, 47] ++ Lib.itoa (max n 0)

end Go.Proofs.YtdmffbefppjllaaGreatDoor

/- Layer 13: what its functions compute, as plain functions of lists of bytes; the request line of layer 12. No program. No conditions. -/
namespace Go.Proofs.YtdmffbefppjllaaGreatDoor
open Go.RowKit Go.Shelf

/-- a status' words -/
def reasonM (s : Int) : List UInt8 :=
  if s = 200 then [79, 75] else
  if s = 206 then [80, 97, 114, 116, 105, 97, 108, 32, 67, 111, 110, 116, 101, 110, 116] else
  if s = 304 then [78, 111, 116, 32, 77, 111, 100, 105, 102, 105, 101, 100] else
  if s = 400 then [66, 97, 100, 32, 82, 101, 113, 117, 101, 115, 116] else
  if s = 404 then [78, 111, 116, 32, 70, 111, 117, 110, 100] else
  if s = 405 then [77, 101, 116, 104, 111, 100, 32, 78, 111, 116, 32, 65, 108, 108, 111, 119, 101, 100] else
  if s = 406 then [78, 111, 116, 32, 65, 99, 99, 101, 112, 116, 97, 98, 108, 101] else
  if s = 413 then [67, 111, 110, 116, 101, 110, 116, 32, 84, 111, 111, 32, 76, 97, 114, 103, 101] else
  if s = 416 then [82, 97, 110, 103, 101, 32, 78, 111, 116, 32, 83, 97, 116, 105, 115, 102, 105, 97, 98, 108, 101] else
  if s = 431 then [82, 101, 113, 117, 101, 115, 116, 32, 72, 101, 97, 100, 101, 114, 32, 70, 105, 101, 108, 100, 115, 32, 84, 111, 111, 32, 76, 97, 114, 103, 101] else
  if s = 502 then [66, 97, 100, 32, 71, 97, 116, 101, 119, 97, 121] else
  if s = 503 then [83, 101, 114, 118, 105, 99, 101, 32, 85, 110, 97, 118, 97, 105, 108, 97, 98, 108, 101] else
  if s = 504 then [71, 97, 116, 101, 119, 97, 121, 32, 84, 105, 109, 101, 111, 117, 116] else
  if s = 505 then [72, 84, 84, 80, 32, 86, 101, 114, 115, 105, 111, 110, 32, 78, 111, 116, 32, 83, 117, 112, 112, 111, 114, 116, 101, 100] else
  [85, 110, 107, 110, 111, 119, 110]
def crlfB : List UInt8 := [13, 10]
/-- 'HTTP/1.1' -/
def protB : List UInt8 := [72, 84, 84, 80, 47, 49, 46, 49]
def laidOk (L : List Fld) : Bool := decide (L.length ≤ 32) && L.all goodF
def laidE (st : List UInt8) (L : List Fld) : Int := if laidOk L then (if (headT st L).length ≤ 4096 then 0 else 4) else 1
def laidS (st : List UInt8) (L : List Fld) : List UInt8 := if laidE st L = 0 then headT st L else []
def stOf (s : Int) : List UInt8 := protB ++ [32] ++ Lib.itoa s ++ [32] ++ reasonM s
def statOk (s : Int) : Bool := decide (100 ≤ s) && decide (s ≤ 599)
def ansE (s : Int) (L : List Fld) : Int := if statOk s then laidE (stOf s) L else 1
def ansS (s : Int) (L : List Fld) : List UInt8 := if statOk s then laidS (stOf s) L else []
/-- a byte of a target -/
def tgtB (b : UInt8) : Bool := decide (33 ≤ b.toNat) && decide (b.toNat ≤ 126)
def isTgt (l : List UInt8) : Bool := l.all tgtB && !l.isEmpty
/-- 'HTTP/' -/
def httpB : List UInt8 := [72, 84, 84, 80, 47]
def digB (b : UInt8) : Bool := decide (48 ≤ b.toNat) && decide (b.toNat ≤ 57)
def verOk (l : List UInt8) : Bool := decide (l.length = 8) && decide (l.take 5 = httpB) && digB (l.getD 5 0) && (l.getD 6 0 == 46) && digB (l.getD 7 0)
def minS (l : List UInt8) : Int := if verOk l then (if l.getD 5 0 = 49 ∧ (l.getD 7 0).toNat ≤ 49 then 200 else 505) else 400
def minV (l : List UInt8) : Int := if minS l = 200 then ((l.getD 7 0).toNat : Int) - 48 else 0
structure Ln where
  m : List UInt8
  t : List UInt8
  v : Int
  s : Int
/-- a request line -/
def lnM (l : List UInt8) : Ln :=
  let c := Lib.cut l [32]
  let d := Lib.cut c.2.1 [32]
  if c.2.2 && d.2.2 && isTok c.1 && isTgt d.1 then (if minS d.2.1 = 200 then ⟨c.1, d.1, minV d.2.1, 200⟩ else ⟨[], [], 0, minS d.2.1⟩) else ⟨[], [], 0, 400⟩
def askT (m t : List UInt8) : List UInt8 := m ++ [32] ++ t ++ [32] ++ protB
def askOk (m t : List UInt8) : Bool := decide ((lnM (askT m t)).s = 200) && decide ((askT m t).length ≤ 1024)
def askE (m t : List UInt8) (L : List Fld) : Int := if askOk m t then laidE (askT m t) L else 1
def askS (m t : List UInt8) (L : List Fld) : List UInt8 := if askOk m t then laidS (askT m t) L else []
theorem len_ite {c : Prop} [Decidable c] {a b : List UInt8} {n : Nat} (ha : a.length ≤ n) (hb : b.length ≤ n) : (if c then a else b).length ≤ n := by split <;> assumption
theorem reason_len (s : Int) : (reasonM s).length ≤ 40 := by
  unfold reasonM
  repeat (refine len_ite (by decide) ?_)
  decide
theorem stOf_len (s : Int) (h : in64 s) : (stOf s).length ≤ 100 := by
  have h1 := reason_len s
  have h2 := itoa_len s h
  unfold stOf
  simp [protB]
  omega
end Go.Proofs.YtdmffbefppjllaaGreatDoor

/- Layer 13 and 12: Reason, Bodyless; a request line's parts: isDigit, isTarget, minor. No conditions but on lengths. -/
namespace Go.Proofs.YtdmffbefppjllaaGreatDoor
open Go.RowKit Go.Shelf

set_option maxRecDepth 100000 in
set_option maxHeartbeats 4000000 in
theorem outlet_Reason (s : Int) (w : World) : Calls Tryz.prog 34 #[.int .i64 s] w fun e w' => e = .returned (.string (S (reasonM s))) ∧ w' = w := by
  by_cases h200 : s = 200
  · subst h200
    go_enter Tryz.func34, Tryz.ntmps34
    go_wp2_with fail
    go_ret
    exact ⟨rfl, rfl⟩
  by_cases h206 : s = 206
  · subst h206
    go_enter Tryz.func34, Tryz.ntmps34
    go_wp2_with fail
    go_ret
    exact ⟨rfl, rfl⟩
  by_cases h304 : s = 304
  · subst h304
    go_enter Tryz.func34, Tryz.ntmps34
    go_wp2_with fail
    go_ret
    exact ⟨rfl, rfl⟩
  by_cases h400 : s = 400
  · subst h400
    go_enter Tryz.func34, Tryz.ntmps34
    go_wp2_with fail
    go_ret
    exact ⟨rfl, rfl⟩
  by_cases h404 : s = 404
  · subst h404
    go_enter Tryz.func34, Tryz.ntmps34
    go_wp2_with fail
    go_ret
    exact ⟨rfl, rfl⟩
  by_cases h405 : s = 405
  · subst h405
    go_enter Tryz.func34, Tryz.ntmps34
    go_wp2_with fail
    go_ret
    exact ⟨rfl, rfl⟩
  by_cases h406 : s = 406
  · subst h406
    go_enter Tryz.func34, Tryz.ntmps34
    go_wp2_with fail
    go_ret
    exact ⟨rfl, rfl⟩
  by_cases h413 : s = 413
  · subst h413
    go_enter Tryz.func34, Tryz.ntmps34
    go_wp2_with fail
    go_ret
    exact ⟨rfl, rfl⟩
  by_cases h416 : s = 416
  · subst h416
    go_enter Tryz.func34, Tryz.ntmps34
    go_wp2_with fail
    go_ret
    exact ⟨rfl, rfl⟩
  by_cases h431 : s = 431
  · subst h431
    go_enter Tryz.func34, Tryz.ntmps34
    go_wp2_with fail
    go_ret
    exact ⟨rfl, rfl⟩
  by_cases h502 : s = 502
  · subst h502
    go_enter Tryz.func34, Tryz.ntmps34
    go_wp2_with fail
    go_ret
    exact ⟨rfl, rfl⟩
  by_cases h503 : s = 503
  · subst h503
    go_enter Tryz.func34, Tryz.ntmps34
    go_wp2_with fail
    go_ret
    exact ⟨rfl, rfl⟩
  by_cases h504 : s = 504
  · subst h504
    go_enter Tryz.func34, Tryz.ntmps34
    go_wp2_with fail
    go_ret
    exact ⟨rfl, rfl⟩
  by_cases h505 : s = 505
  · subst h505
    go_enter Tryz.func34, Tryz.ntmps34
    go_wp2_with fail
    go_ret
    exact ⟨rfl, rfl⟩
  have q200 : (s == 200) = false := (int_ne h200).1
  have q206 : (s == 206) = false := (int_ne h206).1
  have q304 : (s == 304) = false := (int_ne h304).1
  have q400 : (s == 400) = false := (int_ne h400).1
  have q404 : (s == 404) = false := (int_ne h404).1
  have q405 : (s == 405) = false := (int_ne h405).1
  have q406 : (s == 406) = false := (int_ne h406).1
  have q413 : (s == 413) = false := (int_ne h413).1
  have q416 : (s == 416) = false := (int_ne h416).1
  have q431 : (s == 431) = false := (int_ne h431).1
  have q502 : (s == 502) = false := (int_ne h502).1
  have q503 : (s == 503) = false := (int_ne h503).1
  have q504 : (s == 504) = false := (int_ne h504).1
  have q505 : (s == 505) = false := (int_ne h505).1
  have HR := Lib.hid (show reasonM s = [85, 110, 107, 110, 111, 119, 110] by unfold reasonM; simp only [h200, h206, h304, h400, h404, h405, h406, h413, h416, h431, h502, h503, h504, h505, if_false])
  clear h200 h206 h304 h400 h404 h405 h406 h413 h416 h431 h502 h503 h504 h505
  go_enter Tryz.func34, Tryz.ntmps34
  go_wp2_with fail
  go_ret
  exact ⟨by rw [HR.out]; rfl, rfl⟩
set_option maxHeartbeats 1000000 in
theorem outlet_Bodyless (s : Int) (h : Bool) (w : World) :
    Calls Tryz.prog 23 #[.int .i64 s, .bool h] w fun e w' => e = .returned (.bool (h || (decide (100 ≤ s) && decide (s < 200)) || decide (s = 204) || decide (s = 304))) ∧ w' = w := by
  cases h with
  | true =>
    go_enter Tryz.func23, Tryz.ntmps23
    go_wp2_with fail
    go_ret
    exact ⟨by simp, rfl⟩
  | false =>
    by_cases h1 : 100 ≤ s ∧ s < 200
    · obtain ⟨ha, hb⟩ := h1
      have ha' : decide (s ≥ 100) = true := by simp; omega
      go_enter Tryz.func23, Tryz.ntmps23
      go_wp2_with fail
      go_ret
      exact ⟨by simp [ha, hb], rfl⟩
    · have hx : (decide (100 ≤ s) && decide (s < 200)) = false := by simp; omega
      rw [hx]
      by_cases ha : 100 ≤ s
      · have hb : decide (s < 200) = false := by simp; omega
        by_cases h4 : s = 204
        · have h4' := (int_eq h4).1
          clear h1 hx
          go_enter Tryz.func23, Tryz.ntmps23
          go_wp2_with fail
          go_ret
          exact ⟨by simp [h4], rfl⟩
        · have h4' := (int_ne h4).1
          clear h1 hx
          go_enter Tryz.func23, Tryz.ntmps23
          go_wp2_with fail
          all_goals (go_ret; refine ⟨?_, rfl⟩)
          all_goals (by_cases h5 : s = 304 <;> simp [h4, h5])
      · by_cases h4 : s = 204
        · omega
        · have h4' := (int_ne h4).1
          clear h1 hx
          go_enter Tryz.func23, Tryz.ntmps23
          go_wp2_with fail
          all_goals (go_ret; refine ⟨?_, rfl⟩)
          all_goals (by_cases h5 : s = 304 <;> simp [h5])

set_option maxHeartbeats 400000 in
theorem inlet_isDigit (b : UInt8) (w : World) :
    Calls Tryz.prog 66 #[.int .u8 b.toNat] w fun e w' => e = .returned (.bool (digB b)) ∧ w = w' := by
  have hb := u8_nat b
  by_cases h1 : 48 ≤ b.toNat
  · by_cases h2 : b.toNat ≤ 57
    · go_enter Tryz.func66, Tryz.ntmps66
      go_wp2_with fail
      go_ret
      exact ⟨by simp [digB, h1, h2] <;> omega, rfl⟩
    · go_enter Tryz.func66, Tryz.ntmps66
      go_wp2_with fail
      go_ret
      exact ⟨by simp [digB, h1, h2] <;> omega, rfl⟩
  · go_enter Tryz.func66, Tryz.ntmps66
    go_wp2_with fail
    go_ret
    exact ⟨by simp [digB, h1], rfl⟩

set_option maxRecDepth 100000 in
set_option maxHeartbeats 1000000 in
theorem inlet_isTarget (l : List UInt8) (w : World) (hs : l.length ≤ maxLen) :
    Calls Tryz.prog 42 #[.string (S l)] w fun e w' => e = .returned (.bool (isTgt l)) ∧ Keep [] w w' := by
  have hs' : l.length ≤ 9223372036854775807 := hs
  have hcv := conv_run w (S l)
  have hcell : Hid (∀ (k : Nat) (c : UInt8), l[k]? = some c → _) := fun k c h => conv_at w 5 h
  have hkp := conv_keep w 5 (S l)
  generalize Lib.bytesWorld w 5 (S l) = wb at hcv hcell hkp
  have hsz := S_size l
  have hte := S_toList l
  clear hs
  go_enter Tryz.func42, Tryz.ntmps42
  go_wp2_with fail
  go_loop [8] (fun i => ∃ k : Nat, i = .int .i64 k ∧ k ≤ l.length ∧ Hid ((l.take k).all tgtB = true)) (fun i => l.length - (intOf i).toNat)
  case atStart => exact ⟨0, rfl, Nat.zero_le _, by simp [Hid]⟩
  case round =>
    obtain ⟨k, rfl, hk, hall⟩ := hrel
    by_cases hlt : k < l.length
    · obtain ⟨c, hg⟩ : ∃ c, l[k]? = some c := ⟨_, List.getElem?_eq_getElem hlt⟩
      have hc := hcell.out k c hg
      have hc8 := u8_nat c
      have HG := Lib.hid hg
      clear hg
      by_cases ht : tgtB c = true
      · have h1 : 33 ≤ c.toNat ∧ c.toNat ≤ 126 := by simpa [tgtB] using ht
        have h2 : ¬ c.toNat ≤ 32 := by omega
        have h3 : ¬ 126 < c.toNat := by omega
        have HT := Lib.hid ht
        clear ht h1
        go_wp2_with fail
        go_round
        case rel => exact ⟨k + 1, by go_num, by omega, by rw [Hid, take_snoc HG.out, List.all_append, hall.out]; simp [HT.out]⟩
        case measure => simp [intOf]; omega
      · have this : isTgt l = false := by
          unfold isTgt
          rw [show l.all tgtB = false from by rw [List.all_eq_false]; exact ⟨c, List.mem_of_getElem? HG.out, ht⟩]
          rfl
        have H := Lib.hid this
        by_cases h2 : c.toNat ≤ 32
        · clear this ht
          go_wp2_with fail
          go_ret
          exact ⟨ret_bool H.out.symm, hkp⟩
        · have h3 : 126 < c.toNat := by
            simp [tgtB] at ht
            omega
          clear this ht
          go_wp2_with fail
          go_ret
          exact ⟨ret_bool H.out.symm, hkp⟩
    · have e : l.take k = l := List.take_of_length_le (by omega)
      rw [e] at hall
      clear e
      go_wp2_with fail
      go_ret
      refine ⟨ret_bool ?_, hkp⟩
      unfold isTgt
      rw [hall.out]
      simp
end Go.Proofs.YtdmffbefppjllaaGreatDoor

/- Layer 12: minor, Line: a request line. No conditions but on lengths. -/
namespace Go.Proofs.YtdmffbefppjllaaGreatDoor
open Go.RowKit Go.Shelf

theorem take5_prefix (l : List UInt8) : Lib.hasPrefix l httpB = decide (l.take 5 = httpB) := by
  rw [Bool.eq_iff_iff]
  unfold Lib.hasPrefix
  rw [List.isPrefixOf_iff_prefix, List.prefix_iff_eq_take]
  constructor
  · intro h; exact decide_eq_true h.symm
  · intro h; exact (of_decide_eq_true h).symm
theorem ver_no {l : List UInt8} (h : Lib.hasPrefix l httpB = false ∨ l.length ≠ 8) : minS l = 400 ∧ minV l = 0 := by
  have hv : verOk l = false := by
    unfold verOk
    rcases h with h | h
    · rw [take5_prefix] at h; rw [h]; simp
    · simp [h]
  have hs : minS l = 400 := by unfold minS; rw [hv]; rfl
  exact ⟨hs, by unfold minV; rw [hs]; rfl⟩
theorem ver_of (a p c : UInt8) : minS (httpB ++ [a, p, c]) = (if digB a && (p == 46) && digB c then (if a = 49 ∧ c.toNat ≤ 49 then 200 else 505) else 400) ∧ minV (httpB ++ [a, p, c]) = (if digB a && (p == 46) && digB c then (if a = 49 ∧ c.toNat ≤ 49 then (c.toNat : Int) - 48 else 0) else 0) := by
  have hv : verOk (httpB ++ [a, p, c]) = (digB a && (p == 46) && digB c) := by
    unfold verOk
    simp [httpB]
  have hs : minS (httpB ++ [a, p, c]) = (if digB a && (p == 46) && digB c then (if a = 49 ∧ c.toNat ≤ 49 then 200 else 505) else 400) := by
    unfold minS
    rw [hv]
    rfl
  refine ⟨hs, ?_⟩
  unfold minV
  rw [hs]
  by_cases h1 : (digB a && (p == 46) && digB c) = true
  · by_cases h2 : a = 49 ∧ c.toNat ≤ 49
    · rw [if_pos h1, if_pos h2, if_pos rfl, if_pos h1, if_pos h2]; rfl
    · rw [if_pos h1, if_neg h2, if_neg (by decide), if_pos h1, if_neg h2]
  · rw [if_neg h1, if_neg (by decide), if_neg h1]

set_option maxRecDepth 100000 in
set_option maxHeartbeats 2000000 in
theorem inlet_minor (l : List UInt8) (w : World) (hl : l.length ≤ maxLen) :
    Calls Tryz.prog 43 #[.string (S l)] w fun e w' => e = .returned (.tuple #[.int .i64 (minV l), .int .i64 (minS l)]) ∧ Keep [] w w' := by
  have hl' : l.length ≤ 9223372036854775807 := hl
  have hP : Calls Tryz.prog 55 #[.string (S l), .string ⟨#[72, 84, 84, 80, 47]⟩] w fun e w' => e = .returned (.tuple #[.string (S (Lib.trimPrefix l httpB)), .bool (Lib.hasPrefix l httpB)]) ∧ w' = w := by
    have := Tryz.strings_CutPrefix (S l) ⟨#[72, 84, 84, 80, 47]⟩ w
    rw [S_list] at this
    exact this
  have hsz := S_size l
  cases hpf : Lib.hasPrefix l httpB with
  | false =>
    obtain ⟨e1, e2⟩ := ver_no (.inl hpf)
    rw [e1, e2]
    rw [hpf] at hP
    have HP := Lib.hid hP
    clear hP hpf e1 e2
    go_enter Tryz.func43, Tryz.ntmps43
    go_wp2_with fail
    refine HP.out.mono ?_
    rintro e w1 ⟨rfl, rfl⟩
    go_wp2_with fail
    go_ret2
    exact ⟨rfl, Keep.refl _ _⟩
  | true =>
    rw [hpf] at hP
    by_cases h8 : l.length = 8
    · have hle : l = httpB ++ l.drop 5 := by
        rw [take5_prefix] at hpf
        have := of_decide_eq_true hpf
        rw [← this, List.take_append_drop]
      have htr : Lib.trimPrefix l httpB = l.drop 5 := by unfold Lib.trimPrefix; rw [if_pos hpf]; rfl
      have hr3 : (l.drop 5).length = 3 := by rw [List.length_drop, h8]
      rw [htr] at hP
      generalize l.drop 5 = r at *
      obtain ⟨a, p, c, rfl⟩ : ∃ a p c, r = [a, p, c] := by
        match r, hr3 with
        | [a, p, c], _ => exact ⟨a, p, c, rfl⟩
      have g0 := S_get (l := [a, p, c]) (k := 0) (c := a) rfl
      have g1 := S_get (l := [a, p, c]) (k := 1) (c := p) rfl
      have g2 := S_get (l := [a, p, c]) (k := 2) (c := c) rfl
      have hs3 : (S [a, p, c]).size = 3 := S_size _
      obtain ⟨hms, hmv⟩ := ver_of a p c
      rw [← hle] at hms hmv
      generalize minS l = ms at hms ⊢
      generalize minV l = mv at hmv ⊢
      have h8' : ((l.length : Nat) : Int) = 8 := by omega
      have h8q := (int_eq h8').2
      have HP := Lib.hid hP
      have Da := Lib.hid (fun w1 => inlet_isDigit a w1)
      have Dc := Lib.hid (fun w1 => inlet_isDigit c w1)
      have ca := u8_nat a
      have cp := u8_nat p
      have cc := u8_nat c
      generalize S [a, p, c] = sr at *
      clear hP hpf hle htr hr3 h8 h8'
      cases hda : digB a with
      | false =>
        rw [hda] at Da hms hmv
        have HX := Lib.hid (show mv = 0 ∧ ms = 400 from ⟨by simpa using hmv, by simpa using hms⟩)
        clear hms hmv hda
        go_enter Tryz.func43, Tryz.ntmps43
        go_wp2_with fail
        refine HP.out.mono ?_
        rintro e w1 ⟨rfl, rfl⟩
        go_wp2_with (first | (go_at_call 66; refine (Da.out _).mono ?_; rintro e w2 ⟨rfl, rfl⟩) | (go_at_call 66; refine (Dc.out _).mono ?_; rintro e w2 ⟨rfl, rfl⟩))
        go_ret2
        exact ⟨by rw [HX.out.1, HX.out.2]; rfl, Keep.refl _ _⟩
      | true =>
        by_cases hp : p = 46
        · have hpb : (p == 46) = true := by simp [hp]
          have hpn : ((p.toNat : Nat) : Int) = 46 := by rw [hp]; rfl
          have hpq := (int_eq hpn).2
          rw [hda, hpb] at hms hmv
          rw [hda] at Da
          clear hpn hp hpb
          cases hdc : digB c with
          | false =>
            rw [hdc] at Dc hms hmv
            have HX := Lib.hid (show mv = 0 ∧ ms = 400 from ⟨by simpa using hmv, by simpa using hms⟩)
            clear hms hmv hda hdc
            go_enter Tryz.func43, Tryz.ntmps43
            go_wp2_with fail
            refine HP.out.mono ?_
            rintro e w1 ⟨rfl, rfl⟩
            go_wp2_with (first | (go_at_call 66; refine (Da.out _).mono ?_; rintro e w2 ⟨rfl, rfl⟩) | (go_at_call 66; refine (Dc.out _).mono ?_; rintro e w2 ⟨rfl, rfl⟩))
            go_ret2
            exact ⟨by rw [HX.out.1, HX.out.2]; rfl, Keep.refl _ _⟩
          | true =>
            rw [hdc] at Dc hms hmv
            simp only [Bool.and_self, if_true] at hms hmv
            have hc9 : 48 ≤ c.toNat ∧ c.toNat ≤ 57 := by simpa [digB] using hdc
            obtain ⟨hc0, hc1⟩ := hc9
            by_cases ha : a = 49
            · have han : ((a.toNat : Nat) : Int) = 49 := by rw [ha]; rfl
              have haq := (int_eq han).2
              by_cases hc : c.toNat ≤ 49
              · rw [if_pos ⟨ha, hc⟩] at hms hmv
                have hcq : decide (((c.toNat : Nat) : Int) > 49) = false := by simp; omega
                have hwr := IntWalk.u8_in ((c.toNat : Int) - 48) (by omega)
                have hwi := IntWalk.i64_in ((c.toNat : Int) - 48) (by omega)
                have HX := Lib.hid (And.intro hmv hms)
                clear hms hmv hda hdc ha han
                go_enter Tryz.func43, Tryz.ntmps43
                go_wp2_with fail
                refine HP.out.mono ?_
                rintro e w1 ⟨rfl, rfl⟩
                go_wp2_with (first | (go_at_call 66; refine (Da.out _).mono ?_; rintro e w2 ⟨rfl, rfl⟩) | (go_at_call 66; refine (Dc.out _).mono ?_; rintro e w2 ⟨rfl, rfl⟩))
                go_ret2
                exact ⟨by rw [HX.out.1, HX.out.2]; rfl, Keep.refl _ _⟩
              · rw [if_neg (fun h => hc h.2)] at hms hmv
                have hcq : decide (((c.toNat : Nat) : Int) > 49) = true := by simp; omega
                have HX := Lib.hid (And.intro hmv hms)
                clear hms hmv hda hdc ha han
                go_enter Tryz.func43, Tryz.ntmps43
                go_wp2_with fail
                refine HP.out.mono ?_
                rintro e w1 ⟨rfl, rfl⟩
                go_wp2_with (first | (go_at_call 66; refine (Da.out _).mono ?_; rintro e w2 ⟨rfl, rfl⟩) | (go_at_call 66; refine (Dc.out _).mono ?_; rintro e w2 ⟨rfl, rfl⟩))
                go_ret2
                exact ⟨by rw [HX.out.1, HX.out.2]; rfl, Keep.refl _ _⟩
            · rw [if_neg (fun h => ha h.1)] at hms hmv
              have han : ((a.toNat : Nat) : Int) ≠ 49 := fun e => ha (UInt8.toNat_inj.1 (by show a.toNat = 49; omega))
              have haq := (int_ne han).2
              have HX := Lib.hid (And.intro hmv hms)
              clear hms hmv hda hdc ha han
              go_enter Tryz.func43, Tryz.ntmps43
              go_wp2_with fail
              refine HP.out.mono ?_
              rintro e w1 ⟨rfl, rfl⟩
              go_wp2_with (first | (go_at_call 66; refine (Da.out _).mono ?_; rintro e w2 ⟨rfl, rfl⟩) | (go_at_call 66; refine (Dc.out _).mono ?_; rintro e w2 ⟨rfl, rfl⟩))
              go_ret2
              exact ⟨by rw [HX.out.1, HX.out.2]; rfl, Keep.refl _ _⟩
        · have hpb : (p == 46) = false := by simp [hp]
          have hpn : ((p.toNat : Nat) : Int) ≠ 46 := fun e => hp (UInt8.toNat_inj.1 (by show p.toNat = 46; omega))
          have hpq := (int_ne hpn).2
          rw [hda, hpb] at hms hmv
          rw [hda] at Da
          have HX := Lib.hid (show mv = 0 ∧ ms = 400 from ⟨by simpa using hmv, by simpa using hms⟩)
          clear hms hmv hda hpn hp hpb
          go_enter Tryz.func43, Tryz.ntmps43
          go_wp2_with fail
          refine HP.out.mono ?_
          rintro e w1 ⟨rfl, rfl⟩
          go_wp2_with (first | (go_at_call 66; refine (Da.out _).mono ?_; rintro e w2 ⟨rfl, rfl⟩) | (go_at_call 66; refine (Dc.out _).mono ?_; rintro e w2 ⟨rfl, rfl⟩))
          go_ret2
          exact ⟨by rw [HX.out.1, HX.out.2]; rfl, Keep.refl _ _⟩
    · obtain ⟨e1, e2⟩ := ver_no (.inr h8)
      rw [e1, e2]
      have h8' : ((l.length : Nat) : Int) ≠ 8 := by omega
      have h8q := (int_ne h8').2
      have HP := Lib.hid hP
      clear hP hpf e1 e2 h8 h8'
      go_enter Tryz.func43, Tryz.ntmps43
      go_wp2_with fail
      refine HP.out.mono ?_
      rintro e w1 ⟨rfl, rfl⟩
      go_wp2_with fail
      go_ret2
      exact ⟨rfl, Keep.refl _ _⟩
end Go.Proofs.YtdmffbefppjllaaGreatDoor

/- Layer 12: Line: a request line. No conditions but on lengths. -/
namespace Go.Proofs.YtdmffbefppjllaaGreatDoor
open Go.RowKit Go.Shelf

theorem res4 {fn : Func} {t u v x : Tmp} (h : fn.results = #[.tmp t, .tmp u, .tmp v, .tmp x]) (tmps : Array Value) (P : Program) (w : World) :
    (results fn tmps).run P w = .ok (.tuple #[tmps.getD t undef, tmps.getD u undef, tmps.getD v undef, tmps.getD x undef]) w := by
  simp [results, h]
def Ln.out (r : Ln) : Value := .tuple #[.string (S r.m), .string (S r.t), .int .i64 r.v, .int .i64 r.s]
theorem ln_no {l : List UInt8} (h : ((Lib.cut l [32]).2.2 && (Lib.cut (Lib.cut l [32]).2.1 [32]).2.2 && isTok (Lib.cut l [32]).1 && isTgt (Lib.cut (Lib.cut l [32]).2.1 [32]).1) = false) : lnM l = ⟨[], [], 0, 400⟩ := by
  unfold lnM
  dsimp only
  rw [h]
  rfl
theorem ln_yes {l : List UInt8} (h : ((Lib.cut l [32]).2.2 && (Lib.cut (Lib.cut l [32]).2.1 [32]).2.2 && isTok (Lib.cut l [32]).1 && isTgt (Lib.cut (Lib.cut l [32]).2.1 [32]).1) = true) :
    lnM l = if minS (Lib.cut (Lib.cut l [32]).2.1 [32]).2.1 = 200 then ⟨(Lib.cut l [32]).1, (Lib.cut (Lib.cut l [32]).2.1 [32]).1, minV (Lib.cut (Lib.cut l [32]).2.1 [32]).2.1, 200⟩ else ⟨[], [], 0, minS (Lib.cut (Lib.cut l [32]).2.1 [32]).2.1⟩ := by
  unfold lnM
  dsimp only
  rw [h]
  rfl

set_option maxRecDepth 100000 in
set_option maxHeartbeats 2000000 in
theorem inlet_Line (l : List UInt8) (w : World) (hm : ML w) (hl : l.length < 4294967281) :
    Calls Tryz.prog 25 #[.string (S l)] w fun e w' => e = .returned (lnM l).out ∧ Keep [] w w' := by
  have hC1 : Calls Tryz.prog 40 #[.string (S l), .string ⟨#[32]⟩] w fun e w' => e = .returned (.tuple #[.string (S (Lib.cut l [32]).1), .string (S (Lib.cut l [32]).2.1), .bool (Lib.cut l [32]).2.2]) ∧ Keep [] w w' := strings_Cut l ⟨#[32]⟩ w hm hl
  have hl1 := cut_len l [32]
  have hno := ln_no (l := l)
  have hyes := ln_yes (l := l)
  generalize lnM l = R at *
  generalize Lib.cut l [32] = c1 at *
  obtain ⟨xm, r, ok1⟩ := c1
  dsimp only at *
  have hC2 := fun w1 (k : Keep [] w w1) => show Calls Tryz.prog 40 #[.string (S r), .string ⟨#[32]⟩] w1 fun e w' => e = .returned (.tuple #[.string (S (Lib.cut r [32]).1), .string (S (Lib.cut r [32]).2.1), .bool (Lib.cut r [32]).2.2]) ∧ Keep [] w1 w' from strings_Cut r ⟨#[32]⟩ w1 (hm.keep k (by simp)) (by omega)
  have hl2 := cut_len r [32]
  generalize Lib.cut r [32] = c2 at *
  obtain ⟨xt, xl, ok2⟩ := c2
  dsimp only at *
  have HT := Lib.hid (fun w' => field_IsToken xm w' (show xm.length ≤ 9223372036854775807 by omega))
  have HG := Lib.hid (fun w' => inlet_isTarget xt w' (show xt.length ≤ 9223372036854775807 by omega))
  have HM := Lib.hid (fun w' => inlet_minor xl w' (show xl.length ≤ 9223372036854775807 by omega))
  have HC1 := Lib.hid hC1
  have HC2 := Lib.hid hC2
  clear hC1 hC2 hl1 hl2
  cases ok1 with
  | false =>
    have HR := Lib.hid (hno rfl)
    clear hno hyes
    go_enter Tryz.func25, Tryz.ntmps25
    go_wp2_with fail
    refine HC1.out.mono ?_
    rintro e w1 ⟨rfl, k1⟩
    go_wp2_with fail
    refine (HC2.out _ k1).mono ?_
    rintro e w2 ⟨rfl, k2⟩
    go_wp2_with fail
    refine bodyPost_ret (res4 rfl _ _ _) rfl ⟨?_, k1.trans k2⟩
    rw [HR.out]
    rfl
  | true =>
    cases ok2 with
    | false =>
      have HR := Lib.hid (hno rfl)
      clear hno hyes
      go_enter Tryz.func25, Tryz.ntmps25
      go_wp2_with fail
      refine HC1.out.mono ?_
      rintro e w1 ⟨rfl, k1⟩
      go_wp2_with fail
      refine (HC2.out _ k1).mono ?_
      rintro e w2 ⟨rfl, k2⟩
      go_wp2_with fail
      refine bodyPost_ret (res4 rfl _ _ _) rfl ⟨?_, k1.trans k2⟩
      rw [HR.out]
      rfl
    | true =>
      cases htk : isTok xm with
      | false =>
        rw [htk] at HT hno
        have HR := Lib.hid (hno rfl)
        clear hno hyes htk
        go_enter Tryz.func25, Tryz.ntmps25
        go_wp2_with fail
        refine HC1.out.mono ?_
        rintro e w1 ⟨rfl, k1⟩
        go_wp2_with fail
        refine (HC2.out _ k1).mono ?_
        rintro e w2 ⟨rfl, k2⟩
        go_wp2_with fail
        refine (HT.out _).mono ?_
        rintro e w3 ⟨rfl, k3⟩
        go_wp2_with fail
        refine bodyPost_ret (res4 rfl _ _ _) rfl ⟨?_, (k1.trans k2).trans k3⟩
        rw [HR.out]
        rfl
      | true =>
        rw [htk] at HT hno hyes
        cases htg : isTgt xt with
        | false =>
          rw [htg] at HG hno
          have HR := Lib.hid (hno rfl)
          clear hno hyes htk htg
          go_enter Tryz.func25, Tryz.ntmps25
          go_wp2_with fail
          refine HC1.out.mono ?_
          rintro e w1 ⟨rfl, k1⟩
          go_wp2_with fail
          refine (HC2.out _ k1).mono ?_
          rintro e w2 ⟨rfl, k2⟩
          go_wp2_with fail
          refine (HT.out _).mono ?_
          rintro e w3 ⟨rfl, k3⟩
          go_wp2_with fail
          refine (HG.out _).mono ?_
          rintro e w4 ⟨rfl, k4⟩
          go_wp2_with fail
          refine bodyPost_ret (res4 rfl _ _ _) rfl ⟨?_, ((k1.trans k2).trans k3).trans k4⟩
          rw [HR.out]
          rfl
        | true =>
          rw [htg] at HG hyes
          have hR := hyes rfl
          clear hno hyes htk htg
          generalize minS xl = ms at *
          generalize minV xl = mv at *
          by_cases h2 : ms = 200
          · rw [if_pos h2] at hR
            have q := (int_eq h2).2
            have HR := Lib.hid hR
            clear hR h2
            go_enter Tryz.func25, Tryz.ntmps25
            go_wp2_with fail
            refine HC1.out.mono ?_
            rintro e w1 ⟨rfl, k1⟩
            go_wp2_with fail
            refine (HC2.out _ k1).mono ?_
            rintro e w2 ⟨rfl, k2⟩
            go_wp2_with fail
            refine (HT.out _).mono ?_
            rintro e w3 ⟨rfl, k3⟩
            go_wp2_with fail
            refine (HG.out _).mono ?_
            rintro e w4 ⟨rfl, k4⟩
            go_wp2_with fail
            refine (HM.out _).mono ?_
            rintro e w5 ⟨rfl, k5⟩
            go_wp2_with fail
            refine bodyPost_ret (res4 rfl _ _ _) rfl ⟨?_, (((k1.trans k2).trans k3).trans k4).trans k5⟩
            rw [HR.out]
            rfl
          · rw [if_neg h2] at hR
            have q := (int_ne h2).2
            have HR := Lib.hid hR
            clear hR h2
            go_enter Tryz.func25, Tryz.ntmps25
            go_wp2_with fail
            refine HC1.out.mono ?_
            rintro e w1 ⟨rfl, k1⟩
            go_wp2_with fail
            refine (HC2.out _ k1).mono ?_
            rintro e w2 ⟨rfl, k2⟩
            go_wp2_with fail
            refine (HT.out _).mono ?_
            rintro e w3 ⟨rfl, k3⟩
            go_wp2_with fail
            refine (HG.out _).mono ?_
            rintro e w4 ⟨rfl, k4⟩
            go_wp2_with fail
            refine (HM.out _).mono ?_
            rintro e w5 ⟨rfl, k5⟩
            go_wp2_with fail
            refine bodyPost_ret (res4 rfl _ _ _) rfl ⟨?_, (((k1.trans k2).trans k3).trans k4).trans k5⟩
            rw [HR.out]
            rfl
end Go.Proofs.YtdmffbefppjllaaGreatDoor

/- Layer 16: what the statements are awake to; the statements' own decimal numbers. No conditions but on sizes. -/
namespace Go.Proofs.YtdmffbefppjllaaGreatDoor
open Go.RowKit Go.Shelf

theorem cut_by (a b : List UInt8) (c : UInt8) (h : c ∉ a) : Lib.cut (a ++ c :: b) [c] = (a, b, true) := by
  unfold Lib.cut
  have hi : Lib.index (a ++ c :: b) [c] = (a.length : Int) := by
    rw [Lib.index_one]
    refine indexByte_at (by simp) (fun j hj => ?_)
    rw [List.getElem?_append_left hj]
    intro e
    exact h (List.mem_of_getElem? e)
  rw [hi, if_pos (by omega)]
  simp
theorem dec_no (u : Nat) {c : UInt8} (h : decB c = false) : c ∉ Lib.decDigits u := fun hm => by
  have := List.all_eq_true.1 (dec_all u) c hm
  rw [h] at this
  cases this
theorem unit_pre {u : List UInt8} (h6 : u.length = 6) (hu : (u.zip unitB).all (fun p => unitOk p.2 p.1) = true) (r : List UInt8) : isUnitM (u ++ r) = true ∧ (u ++ r).drop 6 = r := by
  refine ⟨?_, by rw [List.drop_append_of_le_length (by omega), List.drop_of_length_le (by omega)]; rfl⟩
  unfold isUnitM
  have : (u ++ r).zip unitB = u.zip unitB := by
    have e : unitB = unitB ++ [] := (List.append_nil _).symm
    rw [e, List.zip_append (by rw [h6]; rfl), List.zip_nil_right]
    simp
  rw [this, hu]
  simp; omega
/-- what a Range of two numbers is -/
theorem bds_of {u a b : List UInt8} (h6 : u.length = 6) (hu : (u.zip unitB).all (fun p => unitOk p.2 p.1) = true) (ha : (45 : UInt8) ∉ a) :
    bdsM (u ++ (a ++ 45 :: b)) = ⟨numN a, numI a, numN b, numI b, true && numK a && numK b && (numI a || numI b) && !(numI a && numI b && decide (numN b < numN a))⟩ := by
  unfold bdsM
  obtain ⟨h1, h2⟩ := unit_pre h6 hu (a ++ 45 :: b)
  rw [if_pos h1]
  simp only [h2, cut_by a b 45 ha]
theorem ask_get (l : List UInt8) : getV [⟨rangeB, l⟩] rangeB = l ∧ getN [⟨rangeB, l⟩] rangeB = 1 := by
  have : getS [⟨rangeB, l⟩] rangeB = [⟨rangeB, l⟩] := by
    unfold getS
    rw [List.filter_cons_of_pos (by simp [sameN]), List.filter_nil]
  unfold getV getN
  rw [this]
  exact ⟨rfl, rfl⟩
theorem ask_parse (l : List UInt8) (size : Int) : parseM [⟨rangeB, l⟩] size = prtM 1 (bdsM l) size := by
  unfold parseM
  rw [(ask_get l).1, (ask_get l).2]
  rfl

theorem nat_mod (n : Nat) : ((n : Int)).tmod 10 = ((n % 10 : Nat) : Int) := by rw [Int.tmod_eq_emod_of_nonneg (by omega)]; omega
theorem nat_div (n : Nat) : ((n : Int)).tdiv 10 = ((n / 10 : Nat) : Int) := by rw [Int.tdiv_eq_ediv_of_nonneg (by omega)]; omega
theorem dig_cut {r : Nat} (h : r < 10) : (⟨#[48, 49, 50, 51, 52, 53, 54, 55, 56, 57]⟩ : ByteArray).extract r (r + 1) = S [UInt8.ofNat (48 + r)] := by
  have : ∀ r : Fin 10, (⟨#[48, 49, 50, 51, 52, 53, 54, 55, 56, 57]⟩ : ByteArray).extract r.1 (r.1 + 1) = S [UInt8.ofNat (48 + r.1)] := by decide +kernel
  exact this ⟨r, h⟩
def decI (first : Bool) (n : Nat) : List UInt8 := if first = true ∨ 0 < n then Lib.decDigits n else []
theorem decI_step (first : Bool) (n : Nat) (h : first = true ∨ 0 < n) : decI first n = decI false (n / 10) ++ [UInt8.ofNat (48 + n % 10)] := by
  unfold decI
  rw [if_pos h]
  by_cases h1 : n < 10
  · rw [dec_small h1, if_neg (by simp; omega), Nat.mod_eq_of_lt h1]; rfl
  · rw [dec_big h1, if_pos (by right; omega)]

end Go.Proofs.YtdmffbefppjllaaGreatDoor

/- Layer 14: a status line. No conditions but on lengths. -/
namespace Go.Proofs.YtdmffbefppjllaaGreatDoor
open Go.RowKit Go.Shelf

def http1B : List UInt8 := [72, 84, 84, 80, 47, 49, 46]
structure StL where
  n : Int
  v : Int
  ok : Bool
def stl0 : StL := ⟨0, 0, false⟩
def stN (cs : List UInt8) : Int := cs.foldl (fun a c => a * 10 + ((c.toNat : Int) - 48)) 0
def wdOk (ws : List UInt8) : Bool := match ws with
  | [] => true
  | b :: _ => b == 32 && isTxt ws
def sixOk (v sp a b c : UInt8) (ws : List UInt8) : Bool := (v == 48 || v == 49) && sp == 32 && [a, b, c].all digB && decide (49 ≤ a.toNat) && decide (a.toNat ≤ 53) && wdOk ws
def slM (l : List UInt8) : StL := if Lib.hasPrefix l http1B then (match l.drop 7 with
  | v :: sp :: a :: b :: c :: ws => if sixOk v sp a b c ws then ⟨stN [a, b, c], (v.toNat : Int) - 48, true⟩ else stl0
  | _ => stl0) else stl0
theorem slM_pre {l : List UInt8} (h : Lib.hasPrefix l http1B = false) : slM l = stl0 := by unfold slM; rw [h]; rfl
theorem slM_short {l : List UInt8} (h : l.length < 12) : slM l = stl0 := by
  unfold slM
  split
  · have h5 : (l.drop 7).length < 5 := by rw [List.length_drop]; omega
    match hd : l.drop 7, h5 with
    | [], _ => rfl
    | [_], _ => rfl
    | [_, _], _ => rfl
    | [_, _, _], _ => rfl
    | [_, _, _, _], _ => rfl
    | _ :: _ :: _ :: _ :: _ :: ws, h => simp at h; omega
  · rfl
theorem slM_six {l ws : List UInt8} {v sp a b c : UInt8} (h : Lib.hasPrefix l http1B = true) (hd : l.drop 7 = v :: sp :: a :: b :: c :: ws) : slM l = if sixOk v sp a b c ws then ⟨stN [a, b, c], (v.toNat : Int) - 48, true⟩ else stl0 := by
  unfold slM; rw [h, hd]; rfl
theorem six_of {l : List UInt8} (h : 12 ≤ l.length) : ∃ v sp a b c ws, l.drop 7 = v :: sp :: a :: b :: c :: ws ∧ ws = l.drop 12 := by
  have h5 : 5 ≤ (l.drop 7).length := by rw [List.length_drop]; omega
  have e : l.drop 12 = (l.drop 7).drop 5 := by rw [List.drop_drop]
  match hd : l.drop 7, h5 with
  | [], h => simp at h
  | [_], h => simp at h
  | [_, _], h => simp at h
  | [_, _, _], h => simp at h
  | [_, _, _, _], h => simp at h
  | v :: sp :: a :: b :: c :: ws, _ => exact ⟨v, sp, a, b, c, ws, rfl, by rw [e, hd]; rfl⟩
theorem parse_x (l : List UInt8) : parseE ([120, 58] ++ l) = if isTxt l then 0 else 3 := by
  have h : Lib.cut ([120, 58] ++ l) [58] = ([120], l, true) := cut_by [120] l 58 (by decide)
  have ht : isTok [120] = true := by decide +kernel
  have hp : parseF ([120, 58] ++ l) = if isTxt l then some ⟨[120], trimW l⟩ else none := by
    unfold parseF
    rw [h]
    simp only [ht, Bool.true_and]
  unfold parseE
  rw [hp]
  cases isTxt l <;> rfl

set_option maxRecDepth 100000 in
set_option maxHeartbeats 2000000 in
theorem reply_isText (l : List UInt8) (w : World) (hm : ML w) (hl : l.length < 4294967000) :
    Calls Tryz.prog 56 #[.string (S l)] w fun e w' => e = .returned (.bool (isTxt l)) ∧ Keep [] w w' := by
  have HP := Lib.hid (field_Parse ([120, 58] ++ l) w hm (by simp; omega))
  rw [parse_x] at HP
  have hc : (⟨#[120, 58]⟩ : ByteArray) ++ S l = S ([120, 58] ++ l) := S_append [120, 58] l
  have sz := S_size l
  have hov : ¬ 9223372036854775807 < 2 + l.length := by omega
  generalize [120, 58] ++ l = x at *
  obtain ⟨v1, v2, hv⟩ : ∃ v1 v2, (parseV x).cells = [.string (S v1), .string (S v2)] := ⟨_, _, rfl⟩
  rw [hv] at HP
  cases ht : isTxt l with
  | false =>
    rw [ht] at HP
    clear hm hv ht
    go_enter Tryz.func56, Tryz.ntmps56
    go_wp2_with fail
    refine HP.out.mono ?_
    rintro e w1 ⟨rfl, k1⟩
    have K1 := Lib.hid (k1.alloc (.cells #[.string (S v1), .string (S v2)] 26))
    clear k1
    go_wp2_with fail
    go_ret
    exact ⟨rfl, K1.out⟩
  | true =>
    rw [ht] at HP
    clear hm hv ht
    go_enter Tryz.func56, Tryz.ntmps56
    go_wp2_with fail
    refine HP.out.mono ?_
    rintro e w1 ⟨rfl, k1⟩
    have K1 := Lib.hid (k1.alloc (.cells #[.string (S v1), .string (S v2)] 26))
    clear k1
    go_wp2_with fail
    go_ret
    exact ⟨rfl, K1.out⟩
/-- the walk's facts of the bytes of a line behind its first seven -/
structure Six (r : ByteArray) (n : Nat) (v sp a b c : UInt8) (ws : List UInt8) : Prop where
  sz : r.size = n
  g0 : ∀ h : 0 < r.size, r[0]'h = v
  g1 : ∀ h : 1 < r.size, r[1]'h = sp
  x1 : r.extract 2 5 = S [a, b, c]
  x2 : r.extract 5 n = S ws
  le : n = ws.length + 5
theorem six_S (v sp a b c : UInt8) (ws : List UInt8) : Six (S (v :: sp :: a :: b :: c :: ws)) (ws.length + 5) v sp a b c ws :=
  ⟨by rw [S_size]; rfl, fun h => S_get rfl h, fun h => S_get rfl h, by rw [S_extract]; rfl, by rw [S_extract, show ws.length + 5 = (v :: sp :: a :: b :: c :: ws).length from rfl, List.take_length]; rfl, rfl⟩
theorem res3 {fn : Func} {t u v : Tmp} (h : fn.results = #[.tmp t, .tmp u, .tmp v]) (tmps : Array Value) (P : Program) (w : World) :
    (results fn tmps).run P w = .ok (.tuple #[tmps.getD t undef, tmps.getD u undef, tmps.getD v undef]) w := by
  simp [results, h]
theorem stN_nat (cs : List UInt8) (h : cs.all digB = true) (hl : cs.length ≤ 3) : ∃ m : Nat, stN cs = (m : Nat) ∧ m < 10 ^ cs.length := by
  have hd : ∀ x ∈ cs, 48 ≤ x.toNat ∧ x.toNat ≤ 57 := fun x hx => by simpa [digB] using List.all_eq_true.1 h x hx
  match cs, hl with
  | [], _ => exact ⟨0, rfl, by decide⟩
  | [x], _ =>
    have hx := hd x (by simp)
    exact ⟨x.toNat - 48, by simp [stN]; omega, by simp; omega⟩
  | [x, y], _ =>
    have hx := hd x (by simp)
    have hy := hd y (by simp)
    exact ⟨(x.toNat - 48) * 10 + (y.toNat - 48), by simp [stN]; omega, by simp; omega⟩
  | [x, y, z], _ =>
    have hx := hd x (by simp)
    have hy := hd y (by simp)
    have hz := hd z (by simp)
    exact ⟨((x.toNat - 48) * 10 + (y.toNat - 48)) * 10 + (z.toNat - 48), by simp [stN]; omega, by simp; omega⟩
theorem six_no {v sp a b c : UInt8} {ws : List UInt8} {R y : StL} (hR : R = if sixOk v sp a b c ws then y else stl0) (h : sixOk v sp a b c ws = false) : R = stl0 := by rw [hR, h]; rfl
theorem stN_snoc (l : List UInt8) (c : UInt8) : stN (l ++ [c]) = stN l * 10 + ((c.toNat : Int) - 48) := by unfold stN; rw [List.foldl_append]; rfl
def StL.out (r : StL) : Value := .tuple #[.int .i64 r.n, .int .i64 r.v, .bool r.ok]

set_option maxRecDepth 100000 in
set_option maxHeartbeats 4000000 in
theorem reply_Line (l : List UInt8) (w : World) (hm : ML w) (hl : l.length < 4294967000) :
    Calls Tryz.prog 32 #[.string (S l)] w fun e w' => e = .returned (slM l).out ∧ Keep [] w w' := by
  have hP : Calls Tryz.prog 55 #[.string (S l), .string ⟨#[72, 84, 84, 80, 47, 49, 46]⟩] w fun e w' => e = .returned (.tuple #[.string (S (Lib.trimPrefix l http1B)), .bool (Lib.hasPrefix l http1B)]) ∧ w' = w := by
    have := Tryz.strings_CutPrefix (S l) ⟨#[72, 84, 84, 80, 47, 49, 46]⟩ w
    rw [S_list] at this
    exact this
  have hsz := S_size l
  have hcut := slM_pre (l := l)
  have hsh := slM_short (l := l)
  have hsx := @slM_six l
  have hsi := six_of (l := l)
  have htr : Lib.hasPrefix l http1B = true → Lib.trimPrefix l http1B = l.drop 7 := fun h => by unfold Lib.trimPrefix; rw [if_pos h]; rfl
  generalize slM l = R at *
  cases hpf : Lib.hasPrefix l http1B with
  | false =>
    rw [hpf] at hP
    have HR := Lib.hid (hcut hpf)
    have HP := Lib.hid hP
    clear hP hpf hcut hsh hsx hsi htr hm
    go_enter Tryz.func32, Tryz.ntmps32
    go_wp2_with fail
    refine HP.out.mono ?_
    rintro e w1 ⟨rfl, rfl⟩
    go_wp2_with fail
    refine bodyPost_ret (res3 rfl _ _ _) rfl ⟨?_, Keep.refl _ _⟩
    rw [HR.out]
    rfl
  | true =>
    rw [hpf, htr hpf] at hP
    by_cases h12 : l.length < 12
    · have HR := Lib.hid (hsh h12)
      have HP := Lib.hid hP
      have q : decide ((l.length : Int) < 12) = true := by simp; omega
      clear hP hpf hcut hsh hsx hsi htr hm
      go_enter Tryz.func32, Tryz.ntmps32
      go_wp2_with fail
      refine HP.out.mono ?_
      rintro e w1 ⟨rfl, rfl⟩
      go_wp2_with fail
      refine bodyPost_ret (res3 rfl _ _ _) rfl ⟨?_, Keep.refl _ _⟩
      rw [HR.out]
      rfl
    have q : decide ((l.length : Int) < 12) = false := by simp; omega
    obtain ⟨v, sp, a, b, c, ws, hd, hws⟩ := hsi (by omega)
    have hr := hsx hpf hd
    have hwl : ws.length ≤ l.length := by rw [hws]; simp
    rw [hd] at hP
    have hS := six_S v sp a b c ws
    generalize S (v :: sp :: a :: b :: c :: ws) = r at *
    obtain ⟨n, hn⟩ : ∃ n, ws.length + 5 = n := ⟨_, rfl⟩
    rw [hn] at hS
    obtain ⟨s1, s2, s3, s4, s5, -⟩ := hS
    have n5 : (5 : Int) ≤ (n : Int) := by omega
    have nl : (n : Int) ≤ 9223372036854775807 := by omega
    clear hn
    have HP := Lib.hid hP
    have HR := Lib.hid hr
    have HT := Lib.hid (fun w' (k : Keep [] w w') => reply_isText ws w' (hm.keep k (by simp)) (by omega))
    have hs3 : (S [a, b, c]).size = 3 := S_size _
    have hsw := S_size ws
    have cv := u8_nat v
    have csp := u8_nat sp
    clear hP hr hpf hcut hsh hsx hsi htr hd hws
    by_cases hvv : v = 48 ∨ v = 49
    case neg =>
      have hR := Lib.hid (six_no HR.out (by unfold sixOk; have h1 : (v == 48) = false := by simp; exact fun h => hvv (.inl h)
                                            have h2 : (v == 49) = false := by simp; exact fun h => hvv (.inr h)
                                            rw [h1, h2]; rfl))
      have hn1 : v.toNat ≠ 48 := fun h => hvv (.inl (UInt8.toNat_inj.1 (by rw [h]; rfl)))
      have hn2 : v.toNat ≠ 49 := fun h => hvv (.inr (UInt8.toNat_inj.1 (by rw [h]; rfl)))
      have q1 : (((v.toNat : Nat) : Int) != 48) = true := by simp; omega
      have q2 : (((v.toNat : Nat) : Int) != 49) = true := by simp; omega
      clear hvv hn1 hn2
      go_enter Tryz.func32, Tryz.ntmps32
      go_wp2_with fail
      refine HP.out.mono ?_
      rintro e w1 ⟨rfl, rfl⟩
      go_wp2_with fail
      refine bodyPost_ret (res3 rfl _ _ _) rfl ⟨?_, Keep.refl _ _⟩
      rw [hR.out]
      rfl
    have hv2 : ((((v.toNat : Nat) : Int) != 48) = false ∨ ((((v.toNat : Nat) : Int) != 48) = true ∧ (((v.toNat : Nat) : Int) != 49) = false)) := by
      rcases hvv with rfl | rfl
      · exact .inl rfl
      · exact .inr ⟨rfl, rfl⟩
    have hvb : (v == 48 || v == 49) = true := by rcases hvv with rfl | rfl <;> rfl
    have hvr : 48 ≤ v.toNat ∧ v.toNat ≤ 49 := by rcases hvv with rfl | rfl <;> decide
    have wv1 := IntWalk.u8_in ((v.toNat : Int) - 48) (by omega)
    have wv2 := IntWalk.i64_in ((v.toNat : Int) - 48) (by omega)
    have HVB := Lib.hid hvb
    clear hvv hvb hvr
    by_cases hsp : sp = 32
    case neg =>
      have hR := Lib.hid (six_no HR.out (by unfold sixOk; have h1 : (sp == 32) = false := by simpa using hsp
                                            rw [h1]; simp))
      have hn : sp.toNat ≠ 32 := fun h => hsp (UInt8.toNat_inj.1 (by rw [h]; rfl))
      have q3 : (((sp.toNat : Nat) : Int) != 32) = true := by simp; omega
      clear hsp hn
      rcases hv2 with q1 | ⟨q1, q2⟩
      all_goals
        go_enter Tryz.func32, Tryz.ntmps32
        go_wp2_with fail
        refine HP.out.mono ?_
        rintro e w1 ⟨rfl, rfl⟩
        go_wp2_with fail
        refine bodyPost_ret (res3 rfl _ _ _) rfl ⟨?_, Keep.refl _ _⟩
        rw [hR.out]
        rfl
    have q3 : (((sp.toNat : Nat) : Int) != 32) = false := by rw [hsp]; rfl
    have HSP := Lib.hid hsp
    clear hsp
    have HCS : Hid ([a, b, c].length = 3) := Lib.hid rfl
    have HA0 : Hid (∀ h : 0 < (S [a, b, c]).size, (S [a, b, c])[0]'h = a) := Lib.hid (fun h => S_get rfl h)
    have HX6 : Hid (R = if (v == 48 || v == 49) && sp == 32 && [a, b, c].all digB && decide (49 ≤ a.toNat) && decide (a.toNat ≤ 53) && wdOk ws then ⟨stN [a, b, c], (v.toNat : Int) - 48, true⟩ else stl0) := HR
    generalize hcs : [a, b, c] = cs at *
    have hcv := conv_run w.drew (S cs)
    have hcell : Hid (∀ (k : Nat) (x : UInt8), cs[k]? = some x → (Lib.bytesWorld w.drew 5 (S cs)).cell? ⟨w.heap.size, k, none⟩ = some (.int .u8 (x.toNat : Nat))) := fun k x h => conv_at w.drew 5 h
    have hkp := ((Keep.refl [] w).drew).trans (conv_keep w.drew 5 (S cs))
    generalize Lib.bytesWorld w.drew 5 (S cs) = wb at hcv hcell hkp
    have HK := Lib.hid hkp
    clear hkp hcs HR
    rcases hv2 with q1 | ⟨q1, q2⟩
    all_goals
      go_enter Tryz.func32, Tryz.ntmps32
      go_wp2_with fail
      refine HP.out.mono ?_
      rintro e w1 ⟨rfl, rfl⟩
      go_wp2_with fail
      go_region_with fail
      go_wp2_with fail
      go_loopg [9, 46] 3 (fun gg sv iv wr => ∃ k m : Nat, sv = .int .i64 (m : Nat) ∧ iv = .int .i64 (k : Nat) ∧ k ≤ 3 ∧ gg = 3 - k ∧ m ≤ 999 ∧ (k ≤ 2 → m ≤ 99) ∧ Hid (stN (cs.take k) = (m : Nat) ∧ (cs.take k).all digB = true) ∧ wr = wb)
      case atStart => exact ⟨0, 0, rfl, rfl, by omega, rfl, by omega, by omega, Lib.hid ⟨rfl, rfl⟩, rfl⟩
      case round =>
        obtain ⟨k, m, rfl, rfl, hk, hgg, hm1, hm2, HS, rfl⟩ := hrel
        by_cases hlt : k < 3
        · obtain ⟨x, hx⟩ : ∃ x, cs[k]? = some x := ⟨_, List.getElem?_eq_getElem (by rw [HCS.out]; exact hlt)⟩
          have hc := hcell.out k x hx
          have hx8 := u8_nat x
          have hts := take_snoc hx
          by_cases hdx : digB x = true
          · have hd9 : 48 ≤ x.toNat ∧ x.toNat ≤ 57 := by simpa [digB] using hdx
            obtain ⟨hd1, hd2⟩ := hd9
            have hm3 := hm2 (by omega)
            have wx1 := IntWalk.u8_in ((x.toNat : Int) - 48) (by omega)
            have wx2 := IntWalk.i64_in ((x.toNat : Int) - 48) (by omega)
            have wm1 := IntWalk.i64_in ((m : Int) * 10) (by omega)
            have wm2 := IntWalk.i64_in ((m : Int) * 10 + ((x.toNat : Int) - 48)) (by omega)
            have hall : (cs.take (k + 1)).all digB = true := by rw [hts, List.all_append, HS.out.2]; simp [hdx]
            obtain ⟨m', e', hb'⟩ := stN_nat _ hall (by rw [List.length_take]; omega)
            have he : (m : Int) * 10 + ((x.toNat : Int) - 48) = (m' : Nat) := by rw [← e', hts, stN_snoc, HS.out.1]
            have hlk : (cs.take (k + 1)).length = k + 1 := by rw [List.length_take, HCS.out]; omega
            rw [hlk] at hb'
            have hb1 : m' ≤ 999 ∧ (k + 1 ≤ 2 → m' ≤ 99) := by
              have : k = 0 ∨ k = 1 ∨ k = 2 := by omega
              rcases this with rfl | rfl | rfl <;> (simp at hb'; omega)
            have HN := Lib.hid (And.intro e' hall)
            clear hx hts hdx hall e' hb' hlk hm3 hm2 HS
            go_wp2_with fail
            go_roundg (3 - (k + 1))
            case measure => omega
            case rel => exact ⟨k + 1, m', by rw [← he], by go_num, by omega, rfl, hb1.1, hb1.2, HN, rfl⟩
          · have hno : cs.all digB = false := by rw [List.all_eq_false]; exact ⟨x, List.mem_of_getElem? hx, hdx⟩
            have hR : R = stl0 := by rw [HX6.out, hno]; simp
            have HR := Lib.hid hR
            have hd9 : x.toNat < 48 ∨ (48 ≤ x.toNat ∧ 57 < x.toNat) := by
              have : ¬ (48 ≤ x.toNat ∧ x.toNat ≤ 57) := by simpa [digB] using hdx
              omega
            clear hx hts hdx hno hR hm2 HS
            rcases hd9 with hd1 | ⟨hd1, hd2⟩
            all_goals
              go_wp2_with fail
              refine bodyPost_ret (res3 rfl _ _ _) rfl ⟨?_, HK.out⟩
              rw [HR.out]
              rfl
        · have hk3 : k = 3 := by omega
          have hfull : cs.take k = cs := List.take_of_length_le (by rw [HCS.out]; omega)
          rw [hfull] at HS
          have hR : R = if decide (49 ≤ a.toNat) && decide (a.toNat ≤ 53) && wdOk ws then ⟨m, (v.toNat : Int) - 48, true⟩ else stl0 := by
            rw [HX6.out, HVB.out, HSP.out, HS.out.1, HS.out.2]; simp
          have HR := Lib.hid hR
          have ca := u8_nat a
          have a0 := HA0.out
          clear hfull HS hm2 hR hlt
          by_cases ha1 : a.toNat < 49
          · have hR := Lib.hid (show R = stl0 by rw [HR.out, decide_eq_false (show ¬ 49 ≤ a.toNat by omega)]; rfl)
            go_wp2_with fail
            refine bodyPost_ret (res3 rfl _ _ _) rfl ⟨?_, HK.out⟩
            rw [hR.out]
            rfl
          by_cases ha2 : 53 < a.toNat
          · have hR := Lib.hid (show R = stl0 by rw [HR.out, decide_eq_false (show ¬ a.toNat ≤ 53 by omega)]; simp)
            go_wp2_with fail
            refine bodyPost_ret (res3 rfl _ _ _) rfl ⟨?_, HK.out⟩
            rw [hR.out]
            rfl
          have hR2 : R = if wdOk ws then ⟨m, (v.toNat : Int) - 48, true⟩ else stl0 := by rw [HR.out, decide_eq_true (show 49 ≤ a.toNat by omega), decide_eq_true (show a.toNat ≤ 53 by omega)]; rfl
          clear HR
          by_cases hnil : ws = []
          case pos =>
            have hR := Lib.hid (show R = ⟨m, (v.toNat : Int) - 48, true⟩ by rw [hR2, hnil]; rfl)
            have tl0 := S_toList []
            subst hnil
            clear hR2
            go_wp2_with fail
            go_region_with fail
            all_goals
              go_wp2_with fail
              refine bodyPost_ret (res3 rfl _ _ _) rfl ⟨?_, ?_⟩
              · rw [hR.out]
                rfl
              · repeat (first | exact HK.out | apply Keep.drew)
          case neg =>
            obtain ⟨d, wt, hws⟩ := List.exists_cons_of_ne_nil hnil
            clear hnil
            have hw1 : wdOk ws = (d == 32 && isTxt ws) := by rw [hws]; rfl
            have d0 : ∀ h : 0 < (S ws).size, (S ws)[0]'h = d := fun h => S_get (by rw [hws]; rfl) h
            have tl := S_toList ws
            have te : ws.isEmpty = false := by rw [hws]; rfl
            have te2 : (ws == []) = false := by rw [hws]; rfl
            have cd := u8_nat d
            have hlw : 0 < ws.length := by rw [hws]; simp
            clear hws
            by_cases hd : d = 32
            case neg =>
              have hR := Lib.hid (show R = stl0 by rw [hR2, hw1, show (d == 32) = false by simpa using hd]; rfl)
              have hn : d.toNat ≠ 32 := fun h => hd (UInt8.toNat_inj.1 (by rw [h]; rfl))
              have q4 : (((d.toNat : Nat) : Int) != 32) = true := by simp; omega
              clear hR2 hw1 hd hn
              go_wp2_with fail
              refine bodyPost_ret (res3 rfl _ _ _) rfl ⟨?_, HK.out⟩
              rw [hR.out]
              rfl
            have q4 : (((d.toNat : Nat) : Int) != 32) = false := by rw [hd]; rfl
            rw [show (d == 32) = true by simp [hd], Bool.true_and] at hw1
            clear hd
            have HT2 := Lib.hid (HT.out _ HK.out)
            cases hit : isTxt ws with
            | false =>
              rw [hit] at HT2
              have hR := Lib.hid (show R = stl0 by rw [hR2, hw1, hit]; rfl)
              clear hR2 hw1 hit
              go_wp2_with fail
              refine HT2.out.mono ?_
              rintro e w3 ⟨rfl, k3⟩
              have K3 := Lib.hid (HK.out.trans k3)
              clear k3
              go_wp2_with fail
              refine bodyPost_ret (res3 rfl _ _ _) rfl ⟨?_, K3.out⟩
              rw [hR.out]
              rfl
            | true =>
              rw [hit] at HT2
              have hR := Lib.hid (show R = ⟨m, (v.toNat : Int) - 48, true⟩ by rw [hR2, hw1, hit]; rfl)
              clear hR2 hw1 hit
              go_wp2_with fail
              refine HT2.out.mono ?_
              rintro e w3 ⟨rfl, k3⟩
              have K3 := Lib.hid (HK.out.trans k3)
              clear k3
              go_wp2_with fail
              go_region_with fail
              all_goals
                go_wp2_with fail
                refine bodyPost_ret (res3 rfl _ _ _) rfl ⟨?_, ?_⟩
                · rw [hR.out]
                  rfl
                · repeat (first | exact K3.out | apply Keep.drew)
end Go.Proofs.YtdmffbefppjllaaGreatDoor

/- Layer 1: Unhexnum, Value; the document's. No conditions but on lengths. -/
namespace Go.Proofs.YtdmffbefppjllaaGreatDoor
open Go.RowKit

def hexOk (l : List UInt8) : Bool := !l.isEmpty && decide (l.length ≤ 16) && l.all digOk
def unhexV (l : List UInt8) (most : Int) : Int := if hexOk l then boundV 16 l most else 0
def unhexE (l : List UInt8) (most : Int) : Int := if hexOk l then boundE 16 l most else 3
theorem unhex_range (l : List UInt8) (most : Int) : (unhexE l most = 0 → 0 ≤ unhexV l most ∧ unhexV l most ≤ most) ∧ (unhexE l most ≠ 0 → unhexV l most = 0 ∧ (unhexE l most = 14 ∨ unhexE l most = 3)) := by
  unfold unhexE unhexV
  have := boundV_range (m := 16) (by omega) l most
  cases hexOk l with
  | false => simp
  | true => simp only [if_true]; exact ⟨this.1, fun h => ⟨(this.2 h).1, .inl (this.2 h).2⟩⟩

set_option maxRecDepth 100000 in
set_option maxHeartbeats 1000000 in
theorem hexa_Unhexnum (l : List UInt8) (most : Int) (w : World) (hs : l.length ≤ maxLen) :
    Calls Tryz.prog 116 #[.string (S l), .int .i64 most] w fun e w' => e = .returned (.tuple #[.int .i64 (unhexV l most), .int .i64 (unhexE l most)]) ∧ Keep [] w w' := by
  have hs' : l.length ≤ 9223372036854775807 := hs
  have hcv := conv_run w (S l)
  have hby := Bytes.conv w 5 l
  have hkp := conv_keep w 5 (S l)
  have hsz := S_size l
  have hte := S_toList l
  have hV : unhexV l most = if hexOk l then boundV 16 l most else 0 := rfl
  have hE : unhexE l most = if hexOk l then boundE 16 l most else 3 := rfl
  have hO : hexOk l = (!l.isEmpty && decide (l.length ≤ 16) && l.all digOk) := rfl
  have hBd := fun w1 => hexa_bounded l 16 most w1 hs (by omega) (by omega)
  generalize unhexV l most = v at hV
  generalize unhexE l most = e0 at hE
  generalize Lib.bytesWorld w 5 (S l) = wb at hcv hby hkp
  generalize hX : w.heap.size = X at hcv hby
  have HB := Lib.hid hby
  have HK := Lib.hid hkp
  have HD := Lib.hid (fun (b : UInt8) (w1 : World) => hexa_digit b w1)
  have HBd := Lib.hid hBd
  clear hs hX hby hkp hBd
  by_cases h0 : l = []
  · have HF := Lib.hid (show v = 0 ∧ e0 = 3 by subst h0; rw [hV, hE, hO]; exact ⟨rfl, rfl⟩)
    have h0' : l.isEmpty = true := by rw [h0]; rfl
    clear hV hE hO h0
    go_enter Tryz.func116, Tryz.ntmps116
    go_wp2_with fail
    go_ret2
    exact ⟨two_ret HF.out.1.symm HF.out.2.symm, Keep.refl _ _⟩
  have h0' : l.isEmpty = false := by cases l with | nil => exact absurd rfl h0 | cons => rfl
  by_cases h16 : 16 < l.length
  · have HF := Lib.hid (show v = 0 ∧ e0 = 3 by rw [hV, hE, hO, decide_eq_false (show ¬ l.length ≤ 16 by omega)]; simp)
    have h16' : decide (((l.length : Nat) : Int) > 16) = true := by simp; omega
    clear hV hE hO h0
    go_enter Tryz.func116, Tryz.ntmps116
    go_wp2_with fail
    go_ret2
    exact ⟨two_ret HF.out.1.symm HF.out.2.symm, Keep.refl _ _⟩
  have h16' : decide (((l.length : Nat) : Int) > 16) = false := by simp; omega
  have hO2 : hexOk l = l.all digOk := by rw [hO, h0', decide_eq_true (show l.length ≤ 16 by omega)]; simp
  rw [hO2] at hV hE
  have HV := Lib.hid (And.intro hV hE)
  clear hV hE hO hO2 h0
  go_enter Tryz.func116, Tryz.ntmps116
  go_wp2_with fail
  go_loopg [20] l.length (fun g i wr => ∃ k : Nat, i = .int .i64 k ∧ k ≤ l.length ∧ g = l.length - k ∧ wb = wr ∧ Hid ((l.take k).all digOk = true))
  case atStart => exact ⟨0, rfl, Nat.zero_le _, by omega, rfl, by simp [Hid]⟩
  case round =>
    obtain ⟨k, rfl, hk, hgk, rfl, HA⟩ := hrel
    by_cases hlt : k < l.length
    · obtain ⟨c, hg⟩ : ∃ c, l[k]? = some c := ⟨_, List.getElem?_eq_getElem hlt⟩
      have hc := HB.out.1 k c hg
      have hdc := HD.out c
      have HG := Lib.hid hg
      clear hg
      cases hd : digOk c with
      | true =>
        rw [hd] at hdc
        have HA2 := Lib.hid (show (l.take (k + 1)).all digOk = true by rw [take_snoc HG.out, List.all_append, HA.out]; simp [hd])
        generalize digV c = x at hdc
        have HDC := Lib.hid hdc
        clear hd hdc
        go_wp2_with fail
        refine (HDC.out _).mono ?_
        rintro e w1 ⟨rfl, rfl⟩
        go_wp2_with fail
        go_roundg (l.length - (k + 1))
        case measure => omega
        case rel => exact ⟨k + 1, by go_num, by omega, rfl, rfl, HA2⟩
      | false =>
        rw [hd] at hdc
        have hno : l.all digOk = false := by rw [List.all_eq_false]; exact ⟨c, List.mem_of_getElem? HG.out, by simp [hd]⟩
        have HF := Lib.hid (show v = 0 ∧ e0 = 3 by rw [HV.out.1, HV.out.2, hno]; exact ⟨rfl, rfl⟩)
        generalize digV c = x at hdc
        have HDC := Lib.hid hdc
        clear hd hdc hno
        go_wp2_with fail
        refine (HDC.out _).mono ?_
        rintro e w1 ⟨rfl, rfl⟩
        go_wp2_with fail
        go_ret2
        exact ⟨two_ret HF.out.1.symm HF.out.2.symm, HK.out⟩
    · have hall := HA.out
      rw [List.take_of_length_le (by omega)] at hall
      have HF := Lib.hid (show v = boundV 16 l most ∧ e0 = boundE 16 l most by rw [HV.out.1, HV.out.2, hall]; exact ⟨rfl, rfl⟩)
      clear hall
      go_wp2_with fail
      refine (HBd.out _).mono ?_
      rintro e w1 ⟨rfl, k1⟩
      go_wp2_with fail
      go_ret2
      exact ⟨two_ret HF.out.1.symm HF.out.2.symm, HK.out.trans k1⟩

def hexN (l : List UInt8) (n : Int) : Int := l.foldl (fun n b => n * 16 + digV b) n
theorem hexN_ge : ∀ (l : List UInt8) (n : Int), 0 ≤ n → n ≤ hexN l n
  | [], n, _ => Int.le_refl _
  | b :: r, n, h => by
    have hv := digV_range b
    have := hexN_ge r (n * 16 + digV b) (by omega)
    show n ≤ hexN r (n * 16 + digV b)
    omega
theorem gather_fold : ∀ (l : List UInt8) (n : Int), 0 ≤ n → n ≤ 4611686018427387904 → gatherM 16 l n = if hexN l n ≤ 4611686018427387904 then some (hexN l n) else none
  | [], n, _, h => by rw [if_pos (show hexN [] n ≤ _ from h)]; rfl
  | b :: r, n, h0, h => by
    have hv := digV_range b
    show (if n * 16 + digV b ≤ 4611686018427387904 then gatherM 16 r (n * 16 + digV b) else none) = if hexN r (n * 16 + digV b) ≤ _ then some (hexN r (n * 16 + digV b)) else none
    by_cases h1 : n * 16 + digV b ≤ 4611686018427387904
    · rw [if_pos h1, gather_fold r _ (by omega) h1]
    · have := hexN_ge r (n * 16 + digV b) (by omega)
      rw [if_neg h1, if_neg (by omega)]
theorem hexN_lt : ∀ (l : List UInt8) (n : Int), 0 ≤ n → hexN l n < (n + 1) * 16 ^ l.length
  | [], n, _ => by show n < (n + 1) * 1; omega
  | b :: r, n, h => by
    have hv := digV_range b
    have h1 := hexN_lt r (n * 16 + digV b) (by omega)
    show hexN r (n * 16 + digV b) < (n + 1) * 16 ^ (r.length + 1)
    have h2 : (n * 16 + digV b + 1) * 16 ^ r.length ≤ (n + 1) * 16 * 16 ^ r.length := Int.mul_le_mul_of_nonneg_right (by omega) (Int.le_of_lt (Int.pow_pos (by omega)))
    rw [Int.pow_succ, Int.mul_comm (16 ^ r.length) 16, ← Int.mul_assoc]
    omega
theorem hexN_small (l : List UInt8) {k : Nat} (hk : k ≤ 15) : 0 ≤ hexN (l.take k) 0 ∧ hexN (l.take k) 0 < 1152921504606846976 := by
  have h1 := hexN_lt (l.take k) 0 (by omega)
  refine ⟨hexN_ge _ 0 (by omega), ?_⟩
  have h2 : (16 : Int) ^ (l.take k).length ≤ 16 ^ 15 := (show ∀ n : Fin 16, (16 : Int) ^ n.1 ≤ 16 ^ 15 by decide) ⟨(l.take k).length, by rw [List.length_take]; omega⟩
  have h3 : (16 : Int) ^ 15 = 1152921504606846976 := by decide
  omega
theorem hexN_snoc {l : List UInt8} {k : Nat} {c : UInt8} (h : l[k]? = some c) : hexN (l.take (k + 1)) 0 = hexN (l.take k) 0 * 16 + digV c := by
  rw [take_snoc h]; unfold hexN; rw [List.foldl_append]; rfl
theorem bound_fold (l : List UInt8) (most : Int) : boundV 16 l most = (if 4611686018427387904 < hexN l 0 ∨ most < hexN l 0 then 0 else hexN l 0) ∧ boundE 16 l most = (if 4611686018427387904 < hexN l 0 ∨ most < hexN l 0 then 14 else 0) := by
  unfold boundV boundE
  rw [gather_fold l 0 (by omega) (by omega)]
  by_cases h1 : hexN l 0 ≤ 4611686018427387904
  · rw [if_pos h1]
    by_cases h2 : most < hexN l 0
    · simp only [if_pos h2]; rw [if_pos (.inr h2), if_pos (.inr h2)]; exact ⟨rfl, rfl⟩
    · simp only [if_neg h2]; rw [if_neg (by omega), if_neg (by omega)]; exact ⟨rfl, rfl⟩
  · rw [if_neg h1, if_pos (.inl (by omega)), if_pos (.inl (by omega))]
    exact ⟨rfl, rfl⟩

end Go.Proofs.YtdmffbefppjllaaGreatDoor

/- Layer 11: what a chunked body's reader does, as a plain machine; however the bytes are cut it comes to the same. No program. No conditions but those that each theorem states. -/
namespace Go.Proofs.YtdmffbefppjllaaGreatDoor
open Go.RowKit

structure Ck where
  st : Nat
  left : Nat
  most : Nat
  flds : Nat
  inp : List UInt8
  dat : List UInt8
  err : Int
def Ck.add (c : Ck) (s : List UInt8) : Ck := { c with inp := c.inp ++ s }
structure LnR where
  t : List UInt8
  e : Int
  r : List UInt8
def crlfC : List UInt8 := [13, 10]
/-- the next line -/
def lnC (l : List UInt8) : LnR :=
  if Lib.indexByte (l.take 256) 10 < 0 then (if 256 ≤ l.length then ⟨[], 3, l⟩ else ⟨[], 17, l⟩)
  else if Lib.hasSuffix (l.take ((Lib.indexByte (l.take 256) 10).toNat + 1)) crlfC then ⟨Lib.trimSuffix (l.take ((Lib.indexByte (l.take 256) 10).toNat + 1)) crlfC, 0, l.drop ((Lib.indexByte (l.take 256) 10).toNat + 1)⟩ else ⟨[], 3, l⟩
def digitsB : List UInt8 := [48, 49, 50, 51, 52, 53, 54, 55, 56, 57, 97, 98, 99, 100, 101, 102, 65, 66, 67, 68, 69, 70]
def restOk (r : List UInt8) : Bool := r.isEmpty || (isTxt r && decide (0 ≤ Lib.indexByte [32, 9, 59] (r.getD 0 0)))
def numRest (t : List UInt8) : List UInt8 := Lib.trimLeftS t digitsB
def numT (t : List UInt8) : List UInt8 := t.take (t.length - (numRest t).length)
def numE (t : List UInt8) (m : Int) : Int := if restOk (numRest t) then (if unhexE (numT t) m = 14 then 4 else unhexE (numT t) m) else 3
def numV (t : List UInt8) (m : Int) : Int := unhexV (numT t) m
def beginM (c : Ck) : Ck × Int :=
  if (lnC c.inp).e ≠ 0 then (c, (lnC c.inp).e)
  else if numE (lnC c.inp).t ((c.most : Int) - c.dat.length) ≠ 0 then ({ c with inp := (lnC c.inp).r }, numE (lnC c.inp).t ((c.most : Int) - c.dat.length))
  else ({ c with inp := (lnC c.inp).r, left := (numV (lnC c.inp).t ((c.most : Int) - c.dat.length)).toNat, st := if numV (lnC c.inp).t ((c.most : Int) - c.dat.length) = 0 then 3 else 1 }, 0)
def dataM (c : Ck) : Ck × Int :=
  if 0 < c.left - min c.left c.inp.length then ({ c with inp := c.inp.drop (min c.left c.inp.length), dat := c.dat ++ c.inp.take (min c.left c.inp.length), left := c.left - min c.left c.inp.length }, 17)
  else ({ c with inp := c.inp.drop (min c.left c.inp.length), dat := c.dat ++ c.inp.take (min c.left c.inp.length), left := c.left - min c.left c.inp.length, st := 2 }, 0)
def closeM (c : Ck) : Ck × Int :=
  if c.inp.take 2 ≠ crlfC.take c.inp.length then (c, 3)
  else if c.inp.length < 2 then (c, 17)
  else ({ c with inp := c.inp.drop 2, st := 0 }, 0)
def trailM (c : Ck) : Ck × Int :=
  if (lnC c.inp).e ≠ 0 then (c, (lnC c.inp).e)
  else if (lnC c.inp).t = [] then ({ c with inp := (lnC c.inp).r, st := 4 }, 0)
  else if parseE (lnC c.inp).t ≠ 0 then ({ c with inp := (lnC c.inp).r }, parseE (lnC c.inp).t)
  else ({ c with inp := (lnC c.inp).r, flds := c.flds + 1 }, if 16 < c.flds + 1 then 4 else 0)
def stepM (c : Ck) : Ck × Int := if c.st = 0 then beginM c else if c.st = 1 then dataM c else if c.st = 2 then closeM c else if c.st = 3 then trailM c else (c, 17)

theorem suffix_len {a b : List UInt8} (h : Lib.hasSuffix a b = true) : b.length ≤ a.length := by
  unfold Lib.hasSuffix at h
  rw [List.isSuffixOf_iff_suffix] at h
  exact h.length_le
theorem line_short {l : List UInt8} (h : Lib.indexByte (l.take 256) 10 < 0) : lnC l = if 256 ≤ l.length then ⟨[], 3, l⟩ else ⟨[], 17, l⟩ := by unfold lnC; rw [if_pos h]
theorem line_at {l : List UInt8} {k : Nat} (h : Lib.indexByte (l.take 256) 10 = (k : Nat)) : lnC l = if Lib.hasSuffix (l.take (k + 1)) crlfC then ⟨Lib.trimSuffix (l.take (k + 1)) crlfC, 0, l.drop (k + 1)⟩ else ⟨[], 3, l⟩ := by
  unfold lnC
  rw [if_neg (by omega), h]
  rfl
theorem line_cases (l : List UInt8) : Lib.indexByte (l.take 256) 10 < 0 ∨ ∃ k : Nat, Lib.indexByte (l.take 256) 10 = (k : Nat) ∧ k < l.length ∧ k < 256 := by
  by_cases h : Lib.indexByte (l.take 256) 10 < 0
  · exact .inl h
  · obtain ⟨k, hk⟩ : ∃ k : Nat, Lib.indexByte (l.take 256) 10 = (k : Nat) := ⟨(Lib.indexByte (l.take 256) 10).toNat, by omega⟩
    have := (List.getElem?_eq_some_iff.1 (Lib.indexByte_some hk).1).1
    rw [List.length_take] at this
    exact .inr ⟨k, hk, by omega, by omega⟩
theorem line_app (l s : List UInt8) (h : (lnC l).e ≠ 17) : lnC (l ++ s) = ⟨(lnC l).t, (lnC l).e, (lnC l).r ++ s⟩ := by
  rcases line_cases l with hn | ⟨k, hk, hkl, h256⟩
  · rw [line_short hn] at h ⊢
    by_cases hl : 256 ≤ l.length
    · have e : (l ++ s).take 256 = l.take 256 := List.take_append_of_le_length hl
      have hn' : Lib.indexByte ((l ++ s).take 256) 10 < 0 := by rw [e]; exact hn
      rw [line_short hn', if_pos hl, if_pos (by simp; omega)]
    · rw [if_neg hl] at h; simp at h
  · obtain ⟨h1, h2⟩ := Lib.indexByte_some hk
    have e : Lib.indexByte ((l ++ s).take 256) 10 = (k : Nat) := by
      have ek : ∀ j, j < l.length → j < 256 → ((l ++ s).take 256)[j]? = (l.take 256)[j]? := by
        intro j hj hj2
        rw [List.getElem?_take, List.getElem?_take, if_pos hj2, if_pos hj2, List.getElem?_append_left hj]
      refine indexByte_at ?_ (fun j hj => ?_)
      · rw [ek k hkl h256]; exact h1
      · rw [ek j (by omega) (by omega)]; exact h2 j hj
    rw [line_at e, line_at hk, List.take_append_of_le_length (by omega), List.drop_append_of_le_length (by omega)]
    split <;> rfl
theorem line_le (l : List UInt8) : (lnC l).r.length ≤ l.length ∧ ((lnC l).e = 0 → (lnC l).r.length + 2 ≤ l.length) ∧ (lnC l).t.length ≤ 256 ∧ ((lnC l).e = 0 ∨ (lnC l).e = 3 ∨ (lnC l).e = 17) ∧ (lnC l).t.length ≤ l.length := by
  rcases line_cases l with hn | ⟨k, hk, hkl, h256⟩
  · rw [line_short hn]
    split <;> simp
  · rw [line_at hk]
    by_cases hs : Lib.hasSuffix (l.take (k + 1)) crlfC = true
    · rw [if_pos hs]
      have := suffix_len hs
      rw [List.length_take] at this
      have h2 : crlfC.length = 2 := rfl
      unfold Lib.trimSuffix
      rw [if_pos hs]
      simp
      omega
    · rw [if_neg hs]; simp
theorem line_err {l : List UInt8} (h : (lnC l).e ≠ 0) : (lnC l).r = l ∧ (lnC l).t = [] := by
  rcases line_cases l with hn | ⟨k, hk, hkl, h256⟩
  · rw [line_short hn]
    split <;> simp
  · rw [line_at hk] at h ⊢
    by_cases hs : Lib.hasSuffix (l.take (k + 1)) crlfC = true
    · rw [if_pos hs] at h; simp at h
    · rw [if_neg hs]; simp

theorem numE_cases (t : List UInt8) (m : Int) : numE t m = 0 ∨ numE t m = 3 ∨ numE t m = 4 := by
  unfold numE
  have := unhex_range (numT t) m
  by_cases h0 : unhexE (numT t) m = 0
  · rw [h0]; split <;> simp
  · rcases (this.2 h0).2 with h | h <;> rw [h] <;> split <;> simp
theorem numV_range {t : List UInt8} {m : Int} (h : numE t m = 0) : 0 ≤ numV t m ∧ numV t m ≤ m := by
  unfold numE at h
  have := unhex_range (numT t) m
  by_cases h0 : unhexE (numT t) m = 0
  · exact this.1 h0
  · rcases (this.2 h0).2 with h1 | h1 <;> rw [h1] at h <;> split at h <;> simp at h
theorem parseE_cases (l : List UInt8) : parseE l = 0 ∨ parseE l = 3 := by unfold parseE; split <;> simp

/-- what a step's result says of the same step with more bytes behind -/
def Goes (f : Ck → Ck × Int) (c : Ck) (s : List UInt8) : Prop := ((f c).2 ≠ 17 → f (c.add s) = ((f c).1.add s, (f c).2)) ∧ ((f c).2 = 17 → f (c.add s) = f ((f c).1.add s))
theorem goes_line {f : Ck → Ck × Int} {c : Ck} {s : List UInt8} (g : Ck → LnR → Ck × Int) (hf : ∀ c, f c = if (lnC c.inp).e ≠ 0 then (c, (lnC c.inp).e) else g c (lnC c.inp)) (hg : ∀ t r, g (c.add s) ⟨t, 0, r ++ s⟩ = ((g c ⟨t, 0, r⟩).1.add s, (g c ⟨t, 0, r⟩).2) ∧ (g c ⟨t, 0, r⟩).2 ≠ 17) : Goes f c s := by
  unfold Goes
  by_cases h0 : (lnC c.inp).e = 0
  · have h1 : f c = g c (lnC c.inp) := by rw [hf, if_neg (by simp [h0])]
    have h2 := line_app c.inp s (by rw [h0]; decide)
    have h3 : f (c.add s) = g (c.add s) (lnC (c.inp ++ s)) := by rw [hf, if_neg (by show ¬ (lnC (c.inp ++ s)).e ≠ 0; rw [h2]; simp [h0])]; rfl
    have h4 : lnC c.inp = ⟨(lnC c.inp).t, 0, (lnC c.inp).r⟩ := by rw [← h0]
    obtain ⟨g1, g2⟩ := hg (lnC c.inp).t (lnC c.inp).r
    rw [← h4] at g1 g2
    rw [h1, h3, h2, h0]
    exact ⟨fun _ => g1, fun h => absurd h g2⟩
  · have h1 : f c = (c, (lnC c.inp).e) := by rw [hf, if_pos h0]
    rw [h1]
    refine ⟨fun h => ?_, fun _ => rfl⟩
    have h2 := line_app c.inp s h
    rw [hf, if_pos (by show (lnC (c.inp ++ s)).e ≠ 0; rw [h2]; exact h0)]
    show (c.add s, (lnC (c.inp ++ s)).e) = _
    rw [h2]
theorem goes_begin (c : Ck) (s : List UInt8) : Goes beginM c s := by
  refine goes_line (fun c L => if numE L.t ((c.most : Int) - c.dat.length) ≠ 0 then ({ c with inp := L.r }, numE L.t ((c.most : Int) - c.dat.length))
    else ({ c with inp := L.r, left := (numV L.t ((c.most : Int) - c.dat.length)).toNat, st := if numV L.t ((c.most : Int) - c.dat.length) = 0 then 3 else 1 }, 0)) (fun c => rfl) (fun t r => ?_)
  have hc := numE_cases t ((c.most : Int) - c.dat.length)
  by_cases h : numE t ((c.most : Int) - c.dat.length) = 0
  · exact ⟨by simp [h, Ck.add]; rfl, by simp [h]⟩
  · exact ⟨by simp [h, Ck.add], by simp [h]; omega⟩
theorem goes_trail (c : Ck) (s : List UInt8) : Goes trailM c s := by
  refine goes_line (fun c L => if L.t = [] then ({ c with inp := L.r, st := 4 }, 0)
    else if parseE L.t ≠ 0 then ({ c with inp := L.r }, parseE L.t)
    else ({ c with inp := L.r, flds := c.flds + 1 }, if 16 < c.flds + 1 then 4 else 0)) (fun c => rfl) (fun t r => ?_)
  have hc := parseE_cases t
  by_cases h1 : t = []
  · exact ⟨by simp [h1, Ck.add], by simp [h1]⟩
  · by_cases h : parseE t = 0
    · exact ⟨by simp [h1, h, Ck.add]; rfl, by simp [h1, h]; split <;> decide⟩
    · exact ⟨by simp [h1, h, Ck.add], by simp [h1, h]; omega⟩
theorem goes_close (c : Ck) (s : List UInt8) : Goes closeM c s := by
  unfold Goes
  by_cases h1 : c.inp.take 2 = crlfC.take c.inp.length
  · by_cases h2 : c.inp.length < 2
    · have e : closeM c = (c, 17) := by unfold closeM; rw [if_neg (by simp [h1]), if_pos h2]
      rw [e]
      exact ⟨fun h => absurd rfl h, fun _ => rfl⟩
    · have e : closeM c = ({ c with inp := c.inp.drop 2, st := 0 }, 0) := by unfold closeM; rw [if_neg (by simp [h1]), if_neg h2]
      rw [e]
      refine ⟨fun _ => ?_, fun h => by simp at h⟩
      have hk : (c.inp ++ s).take 2 = c.inp.take 2 := List.take_append_of_le_length (by omega)
      have hd : (c.inp ++ s).drop 2 = c.inp.drop 2 ++ s := List.drop_append_of_le_length (by omega)
      have h3 : crlfC.take (c.inp ++ s).length = crlfC.take c.inp.length := by
        rw [List.take_of_length_le (by simp [crlfC]; omega), List.take_of_length_le (by simp [crlfC]; omega)]
      show (if (c.inp ++ s).take 2 ≠ crlfC.take (c.inp ++ s).length then (c.add s, (3 : Int)) else if (c.inp ++ s).length < 2 then (c.add s, 17) else ({ c.add s with inp := (c.inp ++ s).drop 2, st := 0 }, 0)) = _
      rw [hk, h3, if_neg (by simp [h1]), if_neg (by simp; omega), hd]
      rfl
  · have e : closeM c = (c, 3) := by unfold closeM; rw [if_pos h1]
    rw [e]
    refine ⟨fun _ => ?_, fun h => by simp at h⟩
    show (if (c.inp ++ s).take 2 ≠ crlfC.take (c.inp ++ s).length then (c.add s, (3 : Int)) else if (c.inp ++ s).length < 2 then (c.add s, 17) else ({ c.add s with inp := (c.inp ++ s).drop 2, st := 0 }, 0)) = _
    rw [if_pos]
    · intro h
      apply h1
      have := congrArg (List.take c.inp.length) h
      rw [List.take_take, List.take_take] at this
      have e1 : min c.inp.length (c.inp ++ s).length = c.inp.length := by simp
      rw [e1] at this
      rw [← this]
      rcases Nat.lt_or_ge c.inp.length 2 with hl | hl
      · rw [Nat.min_eq_left (by omega), List.take_left, List.take_of_length_le (by omega)]
      · rw [Nat.min_eq_right hl, List.take_append_of_le_length hl]
theorem data_eq (c : Ck) (n : Nat) (hn : min c.left c.inp.length = n) : dataM c = if 0 < c.left - n then ({ c with inp := c.inp.drop n, dat := c.dat ++ c.inp.take n, left := c.left - n }, 17)
    else ({ c with inp := c.inp.drop n, dat := c.dat ++ c.inp.take n, left := c.left - n, st := 2 }, 0) := by subst hn; rfl
theorem goes_data (c : Ck) (s : List UInt8) : Goes dataM c s := by
  unfold Goes
  by_cases h : c.inp.length < c.left
  · have e : dataM c = ({ c with inp := [], dat := c.dat ++ c.inp, left := c.left - c.inp.length }, 17) := by
      rw [data_eq c c.inp.length (by omega), if_pos (by omega), List.drop_length, List.take_length]
    rw [e]
    refine ⟨fun h => absurd rfl h, fun _ => ?_⟩
    rw [data_eq (c.add s) (c.inp.length + min (c.left - c.inp.length) s.length) (by show min c.left (c.inp ++ s).length = _; rw [List.length_append]; omega),
      data_eq (({ c with inp := [], dat := c.dat ++ c.inp, left := c.left - c.inp.length } : Ck).add s) (min (c.left - c.inp.length) s.length) (by show min (c.left - c.inp.length) ([] ++ s).length = _; rw [List.nil_append])]
    have ht : (c.inp ++ s).take (c.inp.length + min (c.left - c.inp.length) s.length) = c.inp ++ s.take (min (c.left - c.inp.length) s.length) := by rw [List.take_length_add_append]
    have hd : (c.inp ++ s).drop (c.inp.length + min (c.left - c.inp.length) s.length) = s.drop (min (c.left - c.inp.length) s.length) := by rw [List.drop_length_add_append]
    show (if 0 < c.left - (c.inp.length + min (c.left - c.inp.length) s.length) then (({ c.add s with inp := (c.inp ++ s).drop (c.inp.length + min (c.left - c.inp.length) s.length), dat := c.dat ++ (c.inp ++ s).take (c.inp.length + min (c.left - c.inp.length) s.length), left := c.left - (c.inp.length + min (c.left - c.inp.length) s.length) } : Ck), (17 : Int))
      else ({ c.add s with inp := (c.inp ++ s).drop (c.inp.length + min (c.left - c.inp.length) s.length), dat := c.dat ++ (c.inp ++ s).take (c.inp.length + min (c.left - c.inp.length) s.length), left := c.left - (c.inp.length + min (c.left - c.inp.length) s.length), st := 2 }, 0)) = _
    rw [ht, hd, ← List.append_assoc, ← Nat.sub_sub]
    rfl
  · have e : dataM c = ({ c with inp := c.inp.drop c.left, dat := c.dat ++ c.inp.take c.left, left := 0, st := 2 }, 0) := by
      rw [data_eq c c.left (by omega), if_neg (by omega), Nat.sub_self]
    rw [e]
    refine ⟨fun _ => ?_, fun h => by simp at h⟩
    rw [data_eq (c.add s) c.left (by show min c.left (c.inp ++ s).length = _; rw [List.length_append]; omega), if_neg (by show ¬ 0 < c.left - c.left; omega)]
    show (({ c.add s with inp := (c.inp ++ s).drop c.left, dat := c.dat ++ (c.inp ++ s).take c.left, left := c.left - c.left, st := 2 } : Ck), (0 : Int)) = _
    rw [Nat.sub_self, List.take_append_of_le_length (by omega), List.drop_append_of_le_length (by omega)]
    rfl
theorem begin_st (c : Ck) : (beginM c).2 = 17 → (beginM c).1 = c := by
  unfold beginM
  split
  · intro _; rfl
  · split
    · have := numE_cases (lnC c.inp).t ((c.most : Int) - c.dat.length)
      intro h; simp only at h; omega
    · intro h; simp at h
theorem trail_st (c : Ck) : (trailM c).2 = 17 → (trailM c).1 = c := by
  unfold trailM
  split
  · intro _; rfl
  · split
    · intro h; simp at h
    · split
      · have := parseE_cases (lnC c.inp).t
        intro h; simp only at h; omega
      · intro h; simp only at h; split at h <;> simp at h
theorem close_st (c : Ck) : (closeM c).2 = 17 → (closeM c).1 = c := by
  unfold closeM
  split
  · intro h; simp at h
  · split
    · intro _; rfl
    · intro h; simp at h
theorem data_st (c : Ck) : (dataM c).2 = 17 → (dataM c).1.st = c.st := by
  unfold dataM
  split
  · intro _; rfl
  · intro h; simp at h
theorem goes_step (c : Ck) (s : List UInt8) : Goes stepM c s := by
  have key : ∀ (f : Ck → Ck × Int), Goes f c s → ((f c).2 = 17 → (f c).1.st = c.st) → (∀ d, d.st = c.st → stepM d = f d) → Goes stepM c s := by
    intro f hg hst hs
    unfold Goes at hg ⊢
    rw [hs c rfl]
    refine ⟨fun h => ?_, fun h => ?_⟩
    · rw [hs (c.add s) rfl]; exact hg.1 h
    · rw [hs (c.add s) rfl, hs ((f c).1.add s) (hst h)]; exact hg.2 h
  by_cases h0 : c.st = 0
  · exact key beginM (goes_begin c s) (fun h => by rw [begin_st c h]) (fun d hd => by unfold stepM; rw [if_pos (by omega)])
  by_cases h1 : c.st = 1
  · exact key dataM (goes_data c s) (fun h => data_st c h) (fun d hd => by unfold stepM; rw [if_neg (by omega), if_pos (by omega)])
  by_cases h2 : c.st = 2
  · exact key closeM (goes_close c s) (fun h => by rw [close_st c h]) (fun d hd => by unfold stepM; rw [if_neg (by omega), if_neg (by omega), if_pos (by omega)])
  by_cases h3 : c.st = 3
  · exact key trailM (goes_trail c s) (fun h => by rw [trail_st c h]) (fun d hd => by unfold stepM; rw [if_neg (by omega), if_neg (by omega), if_neg (by omega), if_pos (by omega)])
  · refine key (fun c => (c, 17)) ⟨fun h => absurd rfl h, fun _ => rfl⟩ (fun _ => rfl) (fun d hd => by unfold stepM; rw [if_neg (by omega), if_neg (by omega), if_neg (by omega), if_neg (by omega)])

/-- what a chunk may be -/
def Ck.ok (c : Ck) : Prop := c.left + c.dat.length ≤ c.most ∧ c.flds ≤ 16 ∧ c.st ≤ 4
def Ck.mu (c : Ck) : Nat := 2 * c.inp.length + (if c.st = 1 then 1 else 0)
theorem begin_ok {c : Ck} (h : c.ok) (_h0 : c.st = 0) : ((beginM c).2 = 0 → (beginM c).1.mu < c.mu) ∧ (beginM c).1.ok ∧ (beginM c).1.most = c.most ∧ (beginM c).1.err = c.err ∧ (beginM c).1.inp.length + (beginM c).1.dat.length ≤ c.inp.length + c.dat.length ∧ c.dat <+: (beginM c).1.dat := by
  obtain ⟨h1, h2, h3⟩ := h
  have hl := line_le c.inp
  unfold beginM
  split
  · exact ⟨fun hh => absurd hh (by assumption), ⟨h1, h2, h3⟩, rfl, rfl, Nat.le_refl _, List.prefix_refl _⟩
  · rename_i he
    have he : (lnC c.inp).e = 0 := by simpa using he
    have hl2 := hl.2.1 he
    split
    · exact ⟨fun hh => absurd hh (by assumption), ⟨h1, h2, h3⟩, rfl, rfl, by simp only; omega, List.prefix_refl _⟩
    · rename_i hn
      have hn : numE (lnC c.inp).t ((c.most : Int) - c.dat.length) = 0 := by simpa using hn
      have hv := numV_range hn
      refine ⟨fun _ => ?_, ⟨?_, h2, ?_⟩, rfl, rfl, by simp only; omega, List.prefix_refl _⟩
      · unfold Ck.mu; simp only; split <;> split <;> omega
      · simp only; omega
      · simp only; split <;> omega
theorem trail_ok {c : Ck} (h : c.ok) (h0 : c.st = 3) : ((trailM c).2 = 0 → (trailM c).1.mu < c.mu) ∧ ((trailM c).2 = 0 ∨ (trailM c).2 = 17 → (trailM c).1.ok) ∧ (trailM c).1.most = c.most ∧ (trailM c).1.err = c.err ∧ (trailM c).1.inp.length + (trailM c).1.dat.length ≤ c.inp.length + c.dat.length ∧ c.dat <+: (trailM c).1.dat := by
  obtain ⟨h1, h2, h3⟩ := h
  have hl := line_le c.inp
  unfold trailM
  split
  · exact ⟨fun hh => absurd hh (by assumption), fun _ => ⟨h1, h2, h3⟩, rfl, rfl, Nat.le_refl _, List.prefix_refl _⟩
  · rename_i he
    have he : (lnC c.inp).e = 0 := by simpa using he
    have hl2 := hl.2.1 he
    have hmu : c.mu = 2 * c.inp.length := by unfold Ck.mu; rw [if_neg (by omega)]; omega
    split
    · exact ⟨fun _ => by rw [hmu]; unfold Ck.mu; simp; omega, fun _ => ⟨h1, h2, by simp only; omega⟩, rfl, rfl, by simp only; omega, List.prefix_refl _⟩
    · split
      · exact ⟨fun hh => absurd hh (by assumption), fun _ => ⟨h1, h2, h3⟩, rfl, rfl, by simp only; omega, List.prefix_refl _⟩
      · refine ⟨fun _ => by rw [hmu]; unfold Ck.mu; simp only; rw [if_neg (by omega)]; omega, fun hh => ⟨h1, ?_, h3⟩, rfl, rfl, by simp only; omega, List.prefix_refl _⟩
        simp only at hh ⊢
        split at hh
        · rcases hh with hh | hh <;> simp at hh
        · omega
theorem close_ok {c : Ck} (h : c.ok) (h0 : c.st = 2) : ((closeM c).2 = 0 → (closeM c).1.mu < c.mu) ∧ (closeM c).1.ok ∧ (closeM c).1.most = c.most ∧ (closeM c).1.err = c.err ∧ (closeM c).1.inp.length + (closeM c).1.dat.length ≤ c.inp.length + c.dat.length ∧ c.dat <+: (closeM c).1.dat := by
  obtain ⟨h1, h2, h3⟩ := h
  unfold closeM
  split
  · exact ⟨fun hh => by simp at hh, ⟨h1, h2, h3⟩, rfl, rfl, Nat.le_refl _, List.prefix_refl _⟩
  · split
    · exact ⟨fun hh => by simp at hh, ⟨h1, h2, h3⟩, rfl, rfl, Nat.le_refl _, List.prefix_refl _⟩
    · refine ⟨fun _ => ?_, ⟨h1, h2, by simp only; omega⟩, rfl, rfl, by simp only [List.length_drop]; omega, List.prefix_refl _⟩
      unfold Ck.mu
      simp only [List.length_drop]
      rw [if_neg (by omega), if_neg (by omega)]
      omega
theorem data_ok {c : Ck} (h : c.ok) (h0 : c.st = 1) : ((dataM c).2 = 0 → (dataM c).1.mu < c.mu) ∧ (dataM c).1.ok ∧ (dataM c).1.most = c.most ∧ (dataM c).1.err = c.err ∧ (dataM c).1.inp.length + (dataM c).1.dat.length ≤ c.inp.length + c.dat.length ∧ c.dat <+: (dataM c).1.dat := by
  obtain ⟨h1, h2, h3⟩ := h
  unfold dataM
  split
  · refine ⟨fun hh => by simp at hh, ⟨?_, h2, h3⟩, rfl, rfl, ?_, List.prefix_append _ _⟩
    · simp only [List.length_append, List.length_take]; omega
    · simp only [List.length_append, List.length_take, List.length_drop]; omega
  · refine ⟨fun _ => ?_, ⟨?_, h2, by simp only; omega⟩, rfl, rfl, ?_, List.prefix_append _ _⟩
    · unfold Ck.mu; simp only [List.length_drop]; rw [if_neg (by omega), if_pos h0]; omega
    · simp only [List.length_append, List.length_take]; omega
    · simp only [List.length_append, List.length_take, List.length_drop]; omega
theorem step_ok {c : Ck} (h : c.ok) : ((stepM c).2 = 0 → (stepM c).1.mu < c.mu) ∧ ((stepM c).2 = 0 ∨ (stepM c).2 = 17 → (stepM c).1.ok) ∧ (stepM c).1.most = c.most ∧ (stepM c).1.err = c.err ∧ (stepM c).1.inp.length + (stepM c).1.dat.length ≤ c.inp.length + c.dat.length ∧ c.dat <+: (stepM c).1.dat := by
  unfold stepM
  split
  · have := begin_ok h (by assumption); exact ⟨this.1, fun _ => this.2.1, this.2.2⟩
  split
  · have := data_ok h (by assumption); exact ⟨this.1, fun _ => this.2.1, this.2.2⟩
  split
  · have := close_ok h (by assumption); exact ⟨this.1, fun _ => this.2.1, this.2.2⟩
  split
  · exact trail_ok h (by assumption)
  · exact ⟨fun hh => by simp at hh, fun _ => h, rfl, rfl, Nat.le_refl _, List.prefix_refl _⟩

/-- steps till one stops -/
inductive Runs : Ck → Ck → Int → Prop
  | stop {c : Ck} : (stepM c).2 ≠ 0 → Runs c (stepM c).1 (stepM c).2
  | more {c d : Ck} {e : Int} : (stepM c).2 = 0 → Runs (stepM c).1 d e → Runs c d e
theorem runs_ne {c d : Ck} {e : Int} (h : Runs c d e) : e ≠ 0 := by
  induction h with
  | stop h => exact h
  | more _ _ ih => exact ih
theorem runs_det {c d d' : Ck} {e e' : Int} (h : Runs c d e) (h' : Runs c d' e') : d = d' ∧ e = e' := by
  induction h with
  | stop h => cases h' with
    | stop _ => exact ⟨rfl, rfl⟩
    | more k _ => exact absurd k h
  | more h _ ih => cases h' with
    | stop k => exact absurd h k
    | more _ k => exact ih k
theorem runs_ex : ∀ (n : Nat) (c : Ck), c.ok → c.mu ≤ n → ∃ d e, Runs c d e
  | n, c, h, hn => by
    by_cases h0 : (stepM c).2 = 0
    · have hs := step_ok h
      have hm := hs.1 h0
      match n, hn with
      | 0, hn => omega
      | n + 1, hn =>
        obtain ⟨d, e, hr⟩ := runs_ex n (stepM c).1 (hs.2.1 (.inl h0)) (by omega)
        exact ⟨d, e, .more h0 hr⟩
    · exact ⟨_, _, .stop h0⟩
theorem runs_of {x y d : Ck} {e : Int} (hxy : stepM x = stepM y) (h : Runs y d e) : Runs x d e := by
  cases h with
  | stop h => rw [← hxy] at h ⊢; exact .stop h
  | more h k => rw [← hxy] at h k; exact .more h k
theorem runs_app {c d : Ck} {e : Int} (h : Runs c d e) (s : List UInt8) : (e ≠ 17 → Runs (c.add s) (d.add s) e) ∧ (e = 17 → ∀ d' e', Runs (d.add s) d' e' → Runs (c.add s) d' e') := by
  induction h with
  | @stop c h =>
    have hg := goes_step c s
    refine ⟨fun h17 => ?_, fun h17 d' e' hr => runs_of (hg.2 h17) hr⟩
    have := hg.1 h17
    have hs : Runs (c.add s) (stepM (c.add s)).1 (stepM (c.add s)).2 := .stop (by rw [this]; exact h)
    rw [this] at hs
    exact hs
  | @more c d e h hr ih =>
    have hg := (goes_step c s).1 (by rw [h]; decide)
    have h0 : (stepM (c.add s)).2 = 0 := by rw [hg]; exact h
    have h1 : (stepM (c.add s)).1 = (stepM c).1.add s := by rw [hg]
    refine ⟨fun h17 => .more h0 (by rw [h1]; exact ih.1 h17), fun h17 d' e' hr => .more h0 (by rw [h1]; exact ih.2 h17 d' e' hr)⟩
theorem runs_ok {c d : Ck} {e : Int} (h : Runs c d e) (hc : c.ok) : (e = 17 → d.ok) ∧ d.most = c.most ∧ d.err = c.err ∧ d.inp.length + d.dat.length ≤ c.inp.length + c.dat.length ∧ c.dat <+: d.dat := by
  induction h with
  | stop h => have := step_ok hc; exact ⟨fun h17 => this.2.1 (.inr h17), this.2.2⟩
  | more h _ ih =>
    have hs := step_ok hc
    obtain ⟨i1, i2, i3, i4, i5⟩ := ih (hs.2.1 (.inl h))
    exact ⟨i1, i2.trans hs.2.2.1, i3.trans hs.2.2.2.1, Nat.le_trans i4 hs.2.2.2.2.1, hs.2.2.2.2.2.trans i5⟩
end Go.Proofs.YtdmffbefppjllaaGreatDoor

/- strings.Builder as this cut has it, at any place of a block of the call's own: copyCheck, WriteString. No conditions but on lengths. -/
namespace Go.Proofs.YtdmffbefppjllaaGreatDoor
open Go.RowKit Go.Shelf

/-- a builder lies in block b from cell o on, its bytes l in v -/
structure Bd (B : Nat) (w : World) (b o : Nat) (T : TypeId) (cs : List Value) (v : Value) (l : List UInt8) : Prop where
  blk : Blk w b T cs
  ad : cs[o]? = some (.pointer none) ∨ cs[o]? = some (.pointer (some ⟨b, o, none⟩))
  buf : cs[o + 1]? = some v
  own : Own byteC 1 B 5 w v l
  ne : v.ownBlock ≠ some b
/-- a builder may lie there in a block of type T -/
def Lies (T : TypeId) (n o : Nat) : Prop := liesAt Tryz.prog Tryz.prog.depth T (n / Tryz.prog.cellsOf T) o 77 1 = true ∧ o + 1 < n
theorem lies_own : Lies 77 2 0 := ⟨by kernel_rfl, by omega⟩
theorem bld_info : ∃ j, Tryz.prog.info? 77 = some j ∧ j.size = 2 := by
  have : (Tryz.prog.info? 77).map (·.size) = some 2 := by kernel_rfl
  cases h : Tryz.prog.info? 77 with
  | none => rw [h] at this; cases this
  | some j => exact ⟨j, rfl, by rw [h] at this; simpa using this⟩
theorem u8_info : ∃ i, Tryz.prog.info? 5 = some i ∧ i.zero = some (.int .u8 0) ∧ i.size = 1 ∧ i.bytes = 1 := by
  have : (Tryz.prog.info? 5).map (fun i => (i.zero, i.size, i.bytes)) = some (some (.int .u8 0), 1, 1) := by kernel_rfl
  cases h : Tryz.prog.info? 5 with
  | none => rw [h] at this; cases this
  | some i => rw [h] at this; simp at this; exact ⟨i, rfl, this⟩
theorem rows_bytes (l : List UInt8) : rows byteC l = Lib.byteCells l := by
  induction l with
  | nil => rfl
  | cons c r ih => show byteC c ++ rows byteC r = _; rw [ih]; rfl

theorem append_string_at {P : Program} {w : World} (base : Nat) (t u ty e : TypeId) (i : TypeInfo) (ht : P.underlying t = some (.slice e)) (hu : P.underlying u = some .string) (hi : P.info? e = some i) (hz : i.zero = some (.int .u8 0))
    (hsize : i.size = 1) (hby : i.bytes = 1) (v : Value) (n : Nat) (xs : List Value) (hown : w.ownsRow base e 1 v n xs) (s : ByteArray)
    (h63 : n + s.size ≤ maxLen) (hbytes : n + s.size ≤ 140737488355328) (hbase : base ≤ w.heap.size) :
    ∃ v' w', (Builtin.append_ #[t, u] ty #[v, .string s]).run P w = .ok v' w' ∧ w'.ownsRow base e 1 v' (n + s.size) (xs ++ Lib.strCells s) ∧ w.grownBy w' v.ownBlock ∧
      (v'.ownBlock = v.ownBlock ∨ ∃ g, v'.ownBlock = some g ∧ w.heap.size ≤ g) := by
  obtain ⟨v', w', hr, h2, h3, _⟩ := Lib.run_append_own_string (P := P) w base t u ty e i ht hu hi hz hsize hby v n xs hown s h63 hbytes hbase
  refine ⟨v', w', hr, h2, h3, ?_⟩
  have hown0 := hown
  rcases hown.2 with ⟨rfl, rfl⟩ | ⟨g, cap, cur, rfl, hbg, hg, hnc, hcm, hcs, htake⟩
  · obtain ⟨v2, w2, hr2, k2, _, _⟩ := Lib.run_append_own_string (P := P) w w.heap.size t u ty e i ht hu hi hz hsize hby (.slice none 0 0) 0 xs ⟨hown.1, .inl ⟨rfl, rfl⟩⟩ s h63 hbytes (Nat.le_refl _)
    rw [hr] at hr2
    injection hr2 with e1 e2
    subst e1
    cases hb : v'.ownBlock with
    | none => exact .inl rfl
    | some g => exact .inr ⟨g, rfl, (World.ownsRow.lt k2 g hb).1⟩
  · by_cases hroom : n + s.size ≤ cap
    · have hr2 := Lib.run_append_room_string (P := P) w t u ty e i ht hu hi hsize g n cap cur hg s hroom (by have := hcs; simp at this; omega)
      rw [hr] at hr2
      injection hr2 with e1 e2
      subst e1
      exact .inl rfl
    · have hsmall : n + s.size ≤ 9223372036854775807 := h63
      have hr2 := Lib.run_append_grow_string (P := P) w t u ty e i (.int .u8 0) ht hu hi hz ⟨g, 0, none⟩ n cap xs (by rw [hsize]; simpa using hown0.1) (World.ownsRow.cells hown0 (g := g) rfl) s (by omega) (by omega) (by rw [hby]; exact growslice_fits (by omega) (by omega))
      rw [hr] at hr2
      injection hr2 with e1 e2
      subst e1
      exact .inr ⟨w.heap.size, rfl, Nat.le_refl _⟩
theorem wpList_append_string_at {P : Program} {ops : Array Oper} {rest : List Oper} {o : Oper} {a : Act} {w : World} {Q : Exit → Act → World → Prop} (hgd : o.guard = none) (sl x : Operand) (t u : TypeId)
    (ho : o.op = .call { callee := .builtin .append, args := #[sl, x], argTypes := #[t, u] })
    (base : Nat) (e : TypeId) (i : TypeInfo) (ht : P.underlying t = some (.slice e)) (hu : P.underlying u = some .string) (hi : P.info? e = some i) (hz : i.zero = some (.int .u8 0))
    (hsize : i.size = 1) (hby : i.bytes = 1)
    (v : Value) (n : Nat) (xs : List Value) (hs : a.eval sl = v) (hown : w.ownsRow base e 1 v n xs) (s : ByteArray) (hx : a.eval x = .string s)
    (h63 : n + s.size ≤ maxLen) (hbytes : n + s.size ≤ 140737488355328) (hbase : base ≤ w.heap.size)
    (h : ∀ v' w', w'.ownsRow base e 1 v' (n + s.size) (xs ++ Lib.strCells s) → w.grownBy w' v.ownBlock → (v'.ownBlock = v.ownBlock ∨ ∃ g, v'.ownBlock = some g ∧ w.heap.size ≤ g) → wpList P ops Q rest (a.put o.dst v') w') : wpList P ops Q (o :: rest) a w := by
  refine wpList_plain hgd fun K hK => ?_
  obtain ⟨v', w', hr, h2, h3, h4⟩ := append_string_at (P := P) (w := w) base t u o.type e i ht hu hi hz hsize hby v n xs hown s h63 hbytes hbase
  unfold Oper.wp execOp
  simp only [ho, resolve, invoke, builtin, Sem.run_bind, Sem.run_pure, Result.andThen_ok, List.map_toArray, List.map_cons, List.map_nil, hs, hx, hr]
  exact hK _ _ (h v' w' h2 h3 h4)

set_option maxHeartbeats 1000000 in
set_option maxRecDepth 100000 in
theorem bld_copyCheck (b o : Nat) (T : TypeId) (cs : List Value) (w : World) (hb : Blk w b T cs) (hl : Lies T cs.length o) (had : cs[o]? = some (.pointer none) ∨ cs[o]? = some (.pointer (some ⟨b, o, none⟩))) :
    Calls Tryz.prog 62 #[.pointer (some ⟨b, o, none⟩)] w fun e w' => e = .returned (.tuple #[]) ∧ Blk w' b T (cs.set o (.pointer (some ⟨b, o, none⟩))) ∧ Keep [b] w w' := by
  obtain ⟨j, hj, hjs⟩ := bld_info
  have hu82 := Tryz.underlying74
  have hu112 := Tryz.underlying114
  rcases had with h0 | h0
  · have c0 := hb.get h0
    have f0 := hb.frozen o
    have hsh : w.shape? b = some (T, cs.length) := by
      have : w.heap[b]? = some (.cells cs.toArray T (0, 0)) := hb
      simp [World.shape?, this]
    have hk : Keep [b] w (w.setCell ⟨b, o, none⟩ (.pointer (some ⟨b, o, none⟩))) := (Keep.refl _ _).setCell _ _ (by simp)
    have hb' := hb.set o (.pointer (some ⟨b, o, none⟩))
    have HP := Lib.hid (And.intro hb' hk)
    have HB := Lib.hid hb
    clear hb' hk hb
    go_enter Tryz.func62, Tryz.ntmps62
    go_wp2_with fail
    rw [Lib.run_to_unsafe w ⟨b, o, none⟩ hu82 hu112 hj (by rw [hjs]; decide) hsh (by have := hl.2; show o < _; omega)]
    simp only [Result.andThen]
    rw [Oper.upon_value]
    go_wp2_with fail
    rw [run_callFunc_extern Tryz.func79 (by kernel_rfl) (by kernel_rfl) (by kernel_rfl) (e := Extern.AbiNoEscape.same) (by kernel_rfl)]
    rw [Lib.run_noEscape]
    simp only [Result.andThen]
    rw [Oper.upon_value]
    go_wp2_with fail
    rw [Lib.run_from_unsafe w ⟨b, o, none⟩ hu112 hu82 hj hsh hl.1]
    simp only [Result.andThen]
    rw [Oper.upon_value]
    have g0 := HP.out.1.get (k := o) (v := .pointer (some ⟨b, o, none⟩)) (by rw [List.getElem?_set_self (by have := hl.2; omega)])
    go_wp2_with fail
    go_end0
    exact ⟨rfl, HP.out.1, HP.out.2⟩
  · have c0 := hb.get h0
    have hcs : cs.set o (.pointer (some ⟨b, o, none⟩)) = cs := list_set_self _ _ _ h0
    rw [hcs]
    have HB := Lib.hid hb
    clear hb hcs h0
    go_enter Tryz.func62, Tryz.ntmps62
    go_wp2_with fail
    rw [Lib.run_neq_ptr_same w _ hu82 hj]
    go_wp2_with fail
    go_end0
    exact ⟨rfl, HB.out, Keep.refl _ _⟩

set_option maxHeartbeats 1000000 in
set_option maxRecDepth 100000 in
theorem bld_Write {B b o : Nat} {T : TypeId} {cs : List Value} {v : Value} {l : List UInt8} {w : World} (s : List UInt8) (h : Bd B w b o T cs v l) (hl : Lies T cs.length o) (hB : B ≤ w.heap.size) (hlen : l.length + s.length ≤ 140737488355328) :
    Calls Tryz.prog 37 #[.pointer (some ⟨b, o, none⟩), .string (S s)] w fun e w' => e = .returned (.tuple #[.int .i64 (s.length : Nat), .nilIface]) ∧
      ∃ v', Bd B w' b o T ((cs.set o (.pointer (some ⟨b, o, none⟩))).set (o + 1) v') v' (l ++ s) ∧ Keep (b :: v.ownBlock.toList) w w' ∧ (v'.ownBlock = v.ownBlock ∨ ∃ g, v'.ownBlock = some g ∧ w.heap.size ≤ g) := by
  obtain ⟨i, hi, hz, h1, h2⟩ := u8_info
  have hC := Lib.hid (bld_copyCheck b o T cs w h.blk hl h.ad)
  have hsz := S_size s
  have H := Lib.hid h
  clear h
  go_enter Tryz.func37, Tryz.ntmps37
  go_wp2_with fail
  refine hC.out.mono ?_
  rintro e w1 ⟨rfl, hb1, hk1⟩
  have hown1 : Own byteC 1 B 5 w1 v l := H.out.own.keep hk1 (fun g hg => by
    simp only [List.mem_singleton]
    rintro rfl
    exact H.out.ne hg)
  have c1 := hb1.get (k := o + 1) (v := v) (by rw [List.getElem?_set_ne (by omega)]; exact H.out.buf)
  have hor := hown1
  unfold Own at hor
  rw [rows_bytes] at hor
  have HO := Lib.hid hor
  have HB1 := Lib.hid hb1
  have HK1 := Lib.hid hk1
  clear hor hown1 hb1 hk1
  go_wp2_with (at_builtin; go_must (refine wpList_append_string_at rfl _ _ 75 9 rfl B 5 i Tryz.underlying75 Tryz.underlying9 hi hz h1 h2 v l.length (Lib.byteCells l) rfl HO.out (S s) rfl (by rw [hsz]; unfold maxLen; omega) (by rw [hsz]; exact hlen) (by have := HK1.out.size; omega) ?_))
  intro v' w2 hown' hgrow hat
  have hbl := HB1.out.lt
  have hb2 : Blk w2 b T (cs.set o (.pointer (some ⟨b, o, none⟩))) := by
    unfold Blk
    rw [hgrow.block b hbl (fun e => H.out.ne e.symm)]
    exact HB1.out
  have d1 := hb2.get (k := o + 1) (v := v) (by rw [List.getElem?_set_ne (by omega)]; exact H.out.buf)
  have f1 := hb2.frozen (o + 1)
  have hb3 := hb2.set (o + 1) v'
  have hne' : v'.ownBlock ≠ some b := by
    rcases hat with e | ⟨g, e, hg⟩
    · rw [e]; exact H.out.ne
    · rw [e]; intro e'; injection e' with e'; omega
  have hown2 : Own byteC 1 B 5 w2 v' (l ++ s) := by
    unfold Own
    rw [rows_bytes, List.length_append]
    try rw [hsz] at hown'
    have e : Lib.byteCells (l ++ s) = Lib.byteCells l ++ Lib.strCells (S s) := by unfold Lib.byteCells; rw [List.map_append]; rfl
    rw [e]
    exact hown'
  have hown3 : Own byteC 1 B 5 (w2.setCell ⟨b, o + 1, none⟩ v') v' (l ++ s) := hown2.keep (S := [b]) ((Keep.refl _ _).setCell _ _ (by simp)) (fun g hg => by
    simp only [List.mem_singleton]
    rintro rfl
    exact hne' hg)
  have hkk : Keep (b :: v.ownBlock.toList) w (w2.setCell ⟨b, o + 1, none⟩ v') := ((HK1.out.mono (by simp)).grown hgrow (fun k hk _ => by simp [hk])).setCell _ _ (by simp)
  have hat' : v'.ownBlock = v.ownBlock ∨ ∃ g, v'.ownBlock = some g ∧ w.heap.size ≤ g := by
    rcases hat with e | ⟨g, e, hg⟩
    · exact .inl e
    · exact .inr ⟨g, e, Nat.le_trans HK1.out.size hg⟩
  have HF := Lib.hid (And.intro hb3 (And.intro hne' (And.intro hown3 (And.intro hkk hat'))))
  obtain ⟨ao, n', cap, rfl⟩ : ∃ ao n' cap, v' = .slice ao n' cap := by
    rcases hown'.2 with ⟨hv, _⟩ | ⟨g, cap, cur, hv, _⟩
    · exact ⟨_, _, _, hv⟩
    · exact ⟨_, _, _, hv⟩
  clear hb3 hne' hown3 hown2 hkk hat hat' hgrow hown' hb2
  have h20 : (cs.set o (.pointer (some ⟨b, o, none⟩)))[o]? = some (.pointer (some ⟨b, o, none⟩)) := by rw [List.getElem?_set_self (by have := hl.2; omega)]
  go_wp2_with fail
  go_ret2
  refine ⟨by rw [← hsz]; rfl, _, ⟨HF.out.1, .inr ?_, ?_, HF.out.2.2.1, HF.out.2.1⟩, HF.out.2.2.2.1, HF.out.2.2.2.2⟩
  · rw [List.getElem?_set_ne (by omega)]
    exact h20
  · rw [List.getElem?_set_self (by simpa using hl.2)]
/-- as the library's contracts have it -/
theorem Bd.lib {B b : Nat} {cs : List Value} {v : Value} {l : List UInt8} {w : World} (h : Bd B w b 0 77 cs v l) (hc : cs.length = 2) (hb : B ≤ b) : Lib.IsBuilder 77 5 B b (Lib.byteCells l) w := by
  obtain ⟨p, q, rfl⟩ : ∃ p q, cs = [p, q] := by
    match cs, hc with
    | [p, q], _ => exact ⟨p, q, rfl⟩
  have hq : q = v := by have := h.buf; simpa using this
  subst hq
  have hown := h.own
  unfold Own at hown
  rw [rows_bytes, ← Lib.byteCells_length l] at hown
  rcases h.ad with e | e
  · simp at e
    subst e
    exact .inl ⟨hb, q, h.blk, hown, h.ne⟩
  · simp at e
    subst e
    exact .inr ⟨hb, q, h.blk, hown, h.ne⟩
/-- a builder of the call's own -/
def Bld (w0 w : World) (b : Nat) (l : List UInt8) : Prop := ∃ cs v, Bd w0.heap.size w b 0 77 cs v l ∧ cs.length = 2 ∧ w0.heap.size ≤ b ∧ Keep [] w0 w
theorem Bd.keep {B b o : Nat} {T : TypeId} {cs : List Value} {v : Value} {l : List UInt8} {w w' : World} {S : List Nat} (h : Bd B w b o T cs v l) (k : Keep S w w') (hb : b ∉ S) (hv : ∀ g, v.ownBlock = some g → g ∉ S) : Bd B w' b o T cs v l :=
  ⟨k.blk h.blk hb, h.ad, h.buf, h.own.keep k hv, h.ne⟩
theorem Bld.keep0 {w0 w w' : World} {b : Nat} {l : List UInt8} (h : Bld w0 w b l) (k : Keep [] w w') : Bld w0 w' b l := by
  obtain ⟨cs, v, h1, h2, h3, h4⟩ := h
  exact ⟨cs, v, h1.keep k (by simp) (by simp), h2, h3, h4.trans k⟩
theorem Bld.kept {w0 w : World} {b : Nat} {l : List UInt8} (h : Bld w0 w b l) : Keep [] w0 w := let ⟨_, _, _, _, _, h4⟩ := h; h4
theorem bld_new {w0 w : World} (k : Keep [] w0 w) : Bld w0 (w.alloc (.cells #[.pointer none, .slice none 0 0] 77)) w.heap.size [] :=
  ⟨[.pointer none, .slice none 0 0], .slice none 0 0, ⟨Blk.newA w _ _, .inl rfl, rfl, Own.nil _ _ _ _ _, by simp [Value.ownBlock]⟩, rfl, k.size, k.alloc _⟩
theorem bld_write {w0 w : World} {b : Nat} {l : List UInt8} (h : Bld w0 w b l) (s : List UInt8) (hlen : l.length + s.length ≤ 140737488355328) :
    Calls Tryz.prog 37 #[.pointer (some ⟨b, 0, none⟩), .string (S s)] w fun e w' => e = .returned (.tuple #[.int .i64 (s.length : Nat), .nilIface]) ∧ Bld w0 w' b (l ++ s) := by
  obtain ⟨cs, v, h1, h2, h3, h4⟩ := h
  refine (bld_Write s h1 (by rw [h2]; exact lies_own) h4.size hlen).mono ?_
  rintro e w' ⟨rfl, v', k1, k2, _⟩
  exact ⟨rfl, _, v', k1, by simpa using h2, h3, h4.trans' k2 (fun x hx hl => by
    rcases List.mem_cons.1 hx with rfl | hx
    · omega
    · have := (h1.own.lt x (by simpa using hx)).1; omega)⟩
theorem bld_len {w0 w : World} {b : Nat} {l : List UInt8} (h : Bld w0 w b l) :
    Calls Tryz.prog 46 #[.pointer (some ⟨b, 0, none⟩)] w fun e w' => e = .returned (.int .i64 (l.length : Nat)) ∧ w' = w := by
  obtain ⟨cs, v, h1, h2, h3, h4⟩ := h
  have := Tryz.Builder_Len w0.heap.size b _ w (h1.lib h2 h3)
  rw [Lib.byteCells_length] at this
  exact this
theorem bld_string {w0 w : World} {b : Nat} {l : List UInt8} (h : Bld w0 w b l) :
    Calls Tryz.prog 39 #[.pointer (some ⟨b, 0, none⟩)] w fun e w' => e = .returned (.string (S l)) ∧ Keep [] w0 w' := by
  obtain ⟨cs, v, h1, h2, h3, h4⟩ := h
  refine (Tryz.Builder_String_any w0.heap.size b l w (h1.lib h2 h3) h4.size).mono ?_
  rintro e w' ⟨rfl, hb⟩
  exact ⟨rfl, hb.os.trans h4.os, hb.tape.trans h4.tape, hb.output.trans h4.output, Nat.le_trans h4.size hb.size, fun k hk hn => (hb.block k hk).trans (h4.block k hk hn)⟩
end Go.Proofs.YtdmffbefppjllaaGreatDoor
