/- Layer 16: what the statements are awake to; the statement SliceCovers: its function answers true for every input. No conditions but on the library's tables. -/
import Derived.Test.YthhnmfjfgbgjeaaDoorSl5
namespace Go.Proofs.YthhnmfjfgbgjeaaDoor
open Go.RowKit Go.Shelf

def q1 : List UInt8 := [98, 121, 116, 101, 115, 61, 50, 45, 52]
def q2 : List UInt8 := [98, 121, 116, 101, 115, 61, 45, 51]
def q3 : List UInt8 := [98, 121, 116, 101, 115, 61, 49, 48, 45]
def q4 : List UInt8 := [98, 121, 116, 101, 115, 61, 49, 45, 50, 44, 52, 45, 53]
theorem awake16_parse : prtM 1 (bdsM q1) 10 = ⟨2, 2, 4⟩ ∧ prtM 1 (bdsM q2) 10 = ⟨2, 7, 9⟩ ∧ prtM 1 (bdsM q3) 10 = ⟨3, 0, 0⟩ ∧ prtM 1 (bdsM q4) 10 = ⟨1, 0, 9⟩ := by decide +kernel
theorem itoa_10 : Lib.itoa 10 = [49, 48] := by
  have := Lib.itoa_nonneg 10
  rw [show ((10 : Nat) : Int) = 10 from rfl] at this
  rw [this, dec_big (by omega), dec_small (by omega)]
  rfl
theorem itoa_1 {n : Nat} (h : n < 10) : Lib.itoa (n : Int) = [UInt8.ofNat (48 + n)] := by rw [Lib.itoa_nonneg, dec_small h]
theorem awake16_print : prnS 2 4 10 = [98, 121, 116, 101, 115, 32, 50, 45, 52, 47, 49, 48] ∧ prnE 2 4 10 = 0 ∧ unmetS 10 = [98, 121, 116, 101, 115, 32, 42, 47, 49, 48] := by
  have h2 : Lib.itoa 2 = [50] := itoa_1 (n := 2) (by omega)
  have h4 : Lib.itoa 4 = [52] := itoa_1 (n := 4) (by omega)
  refine ⟨?_, rfl, ?_⟩
  · unfold prnS
    rw [if_pos (show prnOk 2 4 10 = true by decide), h2, h4, itoa_10]; rfl
  · unfold unmetS
    rw [show max (10 : Int) 0 = 10 from rfl, itoa_10]; rfl

set_option maxRecDepth 100000 in
set_option maxHeartbeats 2000000 in
theorem slice_awake (w : World) (hm : ML w) (hp : P10 w) : Calls Tryd.prog 8 #[] w fun e w' => e = .returned (.bool true) ∧ Keep [] w w' := by
  obtain ⟨a1, a2, a3, a4⟩ := awake16_parse
  obtain ⟨b1, b2, b3⟩ := awake16_print
  have HA := Lib.hid (fun l w' => law_ask l w')
  have HP := Lib.hid (fun (l : List UInt8) (r : Prt) (hr : prtM 1 (bdsM l) 10 = r) (hl : l.length ≤ 1048576) (v : Value) (w' : World) (hv : Sl Fld.cells 2 w' v [⟨rangeB, l⟩]) (k : Keep [] w w') => ask_Parse l 10 v w' hv (hm.keep k (by simp)) hl ⟨by omega, by omega⟩ r hr)
  have h5 := slice_Print 2 4 10
  have hin : in64 2 ∧ in64 4 ∧ in64 10 := ⟨⟨by omega, by omega⟩, ⟨by omega, by omega⟩, ⟨by omega, by omega⟩⟩
  have HN := Lib.hid (fun (w' : World) (k : Keep [] w w') => h5 w' hin.1 hin.2.1 hin.2.2 (hp.keep0 k))
  have HU := Lib.hid (fun (w' : World) (k : Keep [] w w') => slice_Unmet 10 w' hin.2.2 (hp.keep0 k))
  rw [b1, b2] at HN
  rw [b3] at HU
  have t1 := S_toList [98, 121, 116, 101, 115, 32, 50, 45, 52, 47, 49, 48]
  have t2 := S_toList [98, 121, 116, 101, 115, 32, 42, 47, 49, 48]
  have HT := Lib.hid (And.intro a1 (And.intro a2 (And.intro a3 a4)))
  clear a1 a2 a3 a4 b1 b2 b3 h5 hin
  go_enter Tryd.func8, Tryd.ntmps8
  go_wp2_with fail
  refine (show Calls Tryd.prog 10 #[.string ⟨#[98, 121, 116, 101, 115, 61, 50, 45, 52]⟩] w _ from HA.out q1 w).mono ?_
  rintro e w1 ⟨v1, rfl, s1, k1⟩
  go_wp2_with fail
  refine (HP.out q1 _ HT.out.1 (by decide) v1 w1 s1 k1).mono ?_
  rintro e w2 ⟨rfl, k2⟩
  have k12 := k1.trans k2
  clear k1 k2 s1
  go_wp2_with fail
  refine (show Calls Tryd.prog 10 #[.string ⟨#[98, 121, 116, 101, 115, 61, 45, 51]⟩] w2 _ from HA.out q2 w2).mono ?_
  rintro e w3 ⟨v3, rfl, s3, k3⟩
  have k13 := k12.trans k3
  clear k12 k3
  go_wp2_with fail
  refine (HP.out q2 _ HT.out.2.1 (by decide) v3 w3 s3 k13).mono ?_
  rintro e w4 ⟨rfl, k4⟩
  have k14 := k13.trans k4
  clear k13 k4 s3
  go_wp2_with fail
  refine (show Calls Tryd.prog 10 #[.string ⟨#[98, 121, 116, 101, 115, 61, 49, 48, 45]⟩] w4 _ from HA.out q3 w4).mono ?_
  rintro e w5 ⟨v5, rfl, s5, k5⟩
  have k15 := k14.trans k5
  clear k14 k5
  go_wp2_with fail
  refine (HP.out q3 _ HT.out.2.2.1 (by decide) v5 w5 s5 k15).mono ?_
  rintro e w6 ⟨rfl, k6⟩
  have k16 := k15.trans k6
  clear k15 k6 s5
  go_wp2_with fail
  refine (show Calls Tryd.prog 10 #[.string ⟨#[98, 121, 116, 101, 115, 61, 49, 45, 50, 44, 52, 45, 53]⟩] w6 _ from HA.out q4 w6).mono ?_
  rintro e w7 ⟨v7, rfl, s7, k7⟩
  have k17 := k16.trans k7
  clear k16 k7
  go_wp2_with fail
  refine (HP.out q4 _ HT.out.2.2.2 (by decide) v7 w7 s7 k17).mono ?_
  rintro e w8 ⟨rfl, k8⟩
  have k18 := k17.trans k8
  clear k17 k8 s7
  go_wp2_with fail
  refine (HN.out w8 k18).mono ?_
  rintro e w9 ⟨rfl, k9⟩
  have k19 := k18.trans k9
  clear k18 k9
  go_wp2_with fail
  refine (HU.out w9 k19).mono ?_
  rintro e w10 ⟨rfl, k10⟩
  go_wp2_with fail
  go_ret
  exact ⟨rfl, k19.trans k10⟩

def unitC : List UInt8 := [66, 121, 116, 101, 115, 61]
theorem num_zero : numN [48] = 0 ∧ numI [48] = true ∧ numK [48] = true ∧ numN [] = 0 ∧ numI [] = false ∧ numK [] = true := by decide +kernel
/-- the three parts that are asked for -/
theorem covers_plain (size n : Nat) (h2 : 2 ≤ size) (hs : (size : Int) ≤ 4611686018427387904) (h1 : 1 ≤ n) (hn : n < size) :
    prtM 1 (bdsM (unitB ++ ([48] ++ 45 :: Lib.decDigits (n - 1)))) size = ⟨2, 0, (n : Int) - 1⟩ ∧ prtM 1 (bdsM (unitB ++ (Lib.decDigits n ++ 45 :: []))) size = ⟨2, n, (size : Int) - 1⟩ ∧ prtM 1 (bdsM (unitC ++ ([] ++ 45 :: Lib.decDigits (size - n)))) size = ⟨2, n, (size : Int) - 1⟩ := by
  obtain ⟨z1, z2, z3, z4, z5, z6⟩ := num_zero
  have hB : (unitB.zip unitB).all (fun p => unitOk p.2 p.1) = true := by decide
  have hC : (unitC.zip unitB).all (fun p => unitOk p.2 p.1) = true := by decide
  refine ⟨?_, ?_, ?_⟩
  · obtain ⟨n1, n2, n3⟩ := num_dec (n - 1) (by omega)
    rw [bds_of rfl hB (by decide), z1, z2, z3, n1, n2, n3]
    unfold prtM
    dsimp only
    rw [if_neg (by simp <;> omega), if_neg (by simp <;> omega), if_neg (by simp), if_pos rfl]
    congr 1
    omega
  · obtain ⟨n1, n2, n3⟩ := num_dec n (by omega)
    rw [bds_of rfl hB (dec_no n (by decide)), z4, z5, z6, n1, n2, n3]
    unfold prtM
    dsimp only
    rw [if_neg (by simp), if_neg (by simp <;> omega), if_neg (by simp), if_neg (by simp)]
    congr 1
    omega
  · obtain ⟨n1, n2, n3⟩ := num_dec (size - n) (by omega)
    rw [bds_of rfl hC (by simp), z4, z5, z6, n1, n2, n3]
    unfold prtM
    dsimp only
    rw [if_neg (by simp), if_neg (by simp <;> omega), if_pos rfl]
    congr 1
    · omega
    · omega
end Go.Proofs.YthhnmfjfgbgjeaaDoor
