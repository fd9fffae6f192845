/- The statement SliceCovers: its function answers true for every input. No conditions but on the library's tables. -/
import Derived.Test.YthhnmfjfgbgjeaaDoorSl6
namespace Go.Proofs.YthhnmfjfgbgjeaaDoor
open Go.RowKit Go.Shelf

set_option maxRecDepth 100000 in
set_option maxHeartbeats 2000000 in
theorem sliceCovers_walk (size at' : Int) (w : World) (hm : ML w) (hp : P10 w) : Calls Tryd.prog 3 #[.int .i64 size, .int .i64 at'] w fun e w' => e = .returned (.bool true) ∧ Below w.heap.size w w' := by
  obtain ⟨p, hpl, hpe⟩ := u64_mod size 1099511627776 (by omega)
  have hpe : (IntKind.u64.wrap size).tmod 1099511627776 = (p : Int) := hpe
  obtain ⟨q, hql, hqe⟩ := u64_mod at' (1 + p) (by omega)
  have hqe : (IntKind.u64.wrap at').tmod (1 + (p : Int)) = (q : Int) := by rw [← hqe]; congr 1
  have hw1 := IntWalk.i64_in (p : Int) (by omega)
  have hw2 := IntWalk.i64_in (2 + (p : Int)) (by omega)
  have hw3 := IntWalk.i64_in (2 + (p : Int) - 1) (by omega)
  have hw4 : IntKind.u64.wrap (2 + (p : Int) - 1) = 1 + (p : Int) := by simp [IntKind.wrap, IntKind.signed, IntKind.bits]; try omega
  have hw5 : ((1 + (p : Int)) == 0) = false := by simp; omega
  have hw6 := IntWalk.i64_in (q : Int) (by omega)
  have hw7 := IntWalk.i64_in (1 + (q : Int)) (by omega)
  have hw8 := IntWalk.i64_in (1 + (q : Int) - 1) (by omega)
  have hw9 := IntWalk.i64_in (2 + (p : Int) - (1 + (q : Int))) (by omega)
  obtain ⟨c1, c2, c3⟩ := covers_plain (2 + p) (1 + q) (by omega) (by omega) (by omega) (by omega)
  have D1 := Lib.hid (fun w' => law_dec (1 + q - 1) w' (by omega))
  have D2 := Lib.hid (fun w' => law_dec (1 + q) w' (by omega))
  have D3 := Lib.hid (fun w' => law_dec (2 + p - (1 + q)) w' (by omega))
  rw [show ((1 + q - 1 : Nat) : Int) = 1 + (q : Int) - 1 by omega] at D1
  rw [show ((1 + q : Nat) : Int) = 1 + (q : Int) by omega] at D2 c1 c2 c3
  rw [show ((2 + p - (1 + q) : Nat) : Int) = 2 + (p : Int) - (1 + (q : Int)) by omega] at D3
  rw [show ((2 + p : Nat) : Int) = 2 + (p : Int) by omega] at c1 c2 c3
  have l1 : (Lib.decDigits (1 + q - 1)).length ≤ 21 := by rw [← Lib.itoa_nonneg]; exact itoa_len _ ⟨by omega, by omega⟩
  have l2 : (Lib.decDigits (1 + q)).length ≤ 21 := by rw [← Lib.itoa_nonneg]; exact itoa_len _ ⟨by omega, by omega⟩
  have l3 : (Lib.decDigits (2 + p - (1 + q))).length ≤ 21 := by rw [← Lib.itoa_nonneg]; exact itoa_len _ ⟨by omega, by omega⟩
  generalize Lib.decDigits (1 + q - 1) = d1 at *
  generalize Lib.decDigits (1 + q) = d2 at *
  generalize Lib.decDigits (2 + p - (1 + q)) = d3 at *
  have a1 : (⟨#[98, 121, 116, 101, 115, 61, 48, 45]⟩ : ByteArray) ++ S d1 = S (unitB ++ ([48] ++ 45 :: d1)) := (show S (unitB ++ [48, 45]) ++ S d1 = _ from (S_append (unitB ++ [48, 45]) d1).trans (congrArg S (by simp)))
  have a2 : (⟨#[98, 121, 116, 101, 115, 61]⟩ : ByteArray) ++ S d2 = S (unitB ++ d2) := S_append unitB d2
  have a3 : S (unitB ++ d2) ++ (⟨#[45]⟩ : ByteArray) = S (unitB ++ (d2 ++ 45 :: [])) := by rw [← List.append_assoc]; exact S_append (unitB ++ d2) [45]
  have a4 : (⟨#[66, 121, 116, 101, 115, 61, 45]⟩ : ByteArray) ++ S d3 = S (unitC ++ ([] ++ 45 :: d3)) := (show S (unitC ++ [45]) ++ S d3 = _ from (S_append (unitC ++ [45]) d3).trans (congrArg S (by simp)))
  have m1 : (unitB ++ ([48] ++ 45 :: d1)).length = 8 + d1.length := by simp [unitB]; omega
  have m2 : (unitB ++ (d2 ++ 45 :: [])).length = 7 + d2.length := by simp [unitB]; omega
  have m3 : (unitC ++ ([] ++ 45 :: d3)).length = 7 + d3.length := by simp [unitC]; omega
  have m4 : (unitB ++ d2).length = 6 + d2.length := by simp [unitB]; omega
  generalize unitB ++ ([48] ++ 45 :: d1) = e1 at *
  generalize unitB ++ (d2 ++ 45 :: []) = e2 at *
  generalize unitC ++ ([] ++ 45 :: d3) = e3 at *
  generalize unitB ++ d2 = e4 at *
  have s1 := S_size d1
  have s2 := S_size d2
  have s3 := S_size d3
  have s4 := S_size e4
  have hsz : in64 (2 + (p : Int)) := ⟨by omega, by omega⟩
  have P1 := Lib.hid (fun v w' hv (k : Keep [] w w') => ask_Parse e1 (2 + (p : Int)) v w' hv (hm.keep k (by simp)) (by omega) hsz _ c1)
  have P2 := Lib.hid (fun v w' hv (k : Keep [] w w') => ask_Parse e2 (2 + (p : Int)) v w' hv (hm.keep k (by simp)) (by omega) hsz _ c2)
  have P3 := Lib.hid (fun v w' hv (k : Keep [] w w') => ask_Parse e3 (2 + (p : Int)) v w' hv (hm.keep k (by simp)) (by omega) hsz _ c3)
  have HA := Lib.hid (slice_awake w hm hp)
  clear c1 c2 c3 m1 m2 m3 hsz
  go_enter Tryd.func3, Tryd.ntmps3
  go_wp2_with fail
  refine HA.out.mono ?_
  rintro e w1 ⟨rfl, k1⟩
  go_wp2_with fail
  refine (D1.out w1).mono ?_
  rintro e w2 ⟨rfl, rfl⟩
  go_wp2_with fail
  refine (law_ask e1 w2).mono ?_
  rintro e w3 ⟨v3, rfl, t3, k3⟩
  have k3 := k1.trans k3
  clear k1
  go_wp2_with fail
  refine (P1.out v3 w3 t3 k3).mono ?_
  rintro e w4 ⟨rfl, k4⟩
  have k4 := k3.trans k4
  clear k3 t3
  go_wp2_with fail
  refine (D2.out w4).mono ?_
  rintro e w5 ⟨rfl, rfl⟩
  go_wp2_with fail
  refine (law_ask e2 w5).mono ?_
  rintro e w6 ⟨v6, rfl, t6, k6⟩
  have k6 := k4.trans k6
  clear k4
  go_wp2_with fail
  refine (P2.out v6 w6 t6 k6).mono ?_
  rintro e w7 ⟨rfl, k7⟩
  have k7 := k6.trans k7
  clear k6 t6
  go_wp2_with fail
  refine (D3.out w7).mono ?_
  rintro e w8 ⟨rfl, rfl⟩
  go_wp2_with fail
  refine (law_ask e3 w8).mono ?_
  rintro e w9 ⟨v9, rfl, t9, k9⟩
  have k9 := k7.trans k9
  clear k7
  go_wp2_with fail
  refine (P3.out v9 w9 t9 k9).mono ?_
  rintro e w10 ⟨rfl, k10⟩
  have k10 := k9.trans k10
  clear k9 t9
  go_wp2_with fail
  go_ret
  exact ⟨rfl, k10.below (by simp)⟩
end Go.Proofs.YthhnmfjfgbgjeaaDoor
