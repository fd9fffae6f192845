/- Layer 21: what the statements are awake to. No conditions. -/
import Derived.Test.YtbfnpoknamajnaaRkX
namespace Go.Proofs.Ytbfnpoknamajnaa
open Go.RowKit Go.Maps

def dA : Dig := digB 1
def dB : Dig := digB 2
def jA : Jar := ⟨dA, [], 6, 0⟩
def jB : Jar := ⟨dB, [], 6, 0⟩
theorem awake_plain : putL [] jA = [jA] ∧ putL [jA] jB = [jB, jA] ∧ vicL 10 [jB, jA] = some jA ∧ touchL [jB, jA] dA = [jA, jB] ∧ vicL 10 [jA, jB] = some jB ∧ pinE [jA, jB] dB = 0 ∧ pinL [jA, jB] dB = [jA, { jB with pins := 1 }] ∧ vicL 10 [jA, { jB with pins := 1 }] = some jA ∧
    sumL [jA, { jB with pins := 1 }] = 12 ∧ usedL [jA, { jB with pins := 1 }] = 6 ∧ dropE [jA, { jB with pins := 1 }] dB = 8 ∧ dropL [jA, { jB with pins := 1 }] dB = [jA, { jB with pins := 1 }] ∧ putE [jA, { jB with pins := 1 }] ⟨dA, [], 0, 0⟩ = 9 := by decide +kernel

set_option maxRecDepth 100000 in
set_option maxHeartbeats 2000000 in
theorem rack_awake (w : World) : Calls Try.prog 15 #[] w fun e w' => e = .returned (.bool true) ∧ Below w.heap.size w w' := by
  obtain ⟨p1, p2, p3, p4, p5, p6, p7, p8, p9, p10, p11, p12, p13⟩ := awake_plain
  have HA := Lib.hid (show Try.prog.built 44 [(0, .int .u8 1)] = some (digC dA).toArray from digB_built 1)
  have HB := Lib.hid (show Try.prog.built 44 [(0, .int .u8 2)] = some (digC dB).toArray from digB_built 2)
  have HJA := Lib.hid (show Try.prog.built 46 [(0, .agg (digC dA).toArray), (2, .int .i64 6)] = some jA.cells.toArray from jarB_built 1 6)
  have HJB := Lib.hid (show Try.prog.built 46 [(0, .agg (digC dB).toArray), (2, .int .i64 6)] = some jB.cells.toArray from jarB_built 2 6)
  have HJ0 := Lib.hid (show Try.prog.built 46 [(0, .agg (digC dA).toArray)] = some (Jar.cells ⟨dA, [], 0, 0⟩).toArray from jarB0_built 1)
  have HDL := Lib.hid (fun d : Dig => (show (Try.prog.info? 44).map (·.size) = some (digC d).length by rw [digC_length]; exact dig_size))
  go_enter Try.func15, Try.ntmps15
  go_wp2_with fail
  refine (rkx_New w [] 10 w (Below.refl _ _) (by simp) (by omega) (by omega)).mono ?_
  rintro e w1 ⟨b, rfl, hr1, hk1⟩
  have R := Lib.hid hr1
  clear hr1 hk1
  go_upto_region 5 with (first
    | (refine wpList_b1 rfl HA _ rfl (by rfl) ?_)
    | (refine wpList_store_new rfl 44 (.tmp 3) (.tmp 24) rfl _ (digC dA) (by rfl) (by rfl) (HDL.out _) (by rw [digC_length]; rfl) (digC_one _) ?_)
    | fail)
  try simp only [Act.put, List.setIfInBounds_toArray, List.set_cons_succ, List.set_cons_zero]
  have hl := R.out.local (.cells (digC dA).toArray 44)
  have hb := Blk.newA w1 (digC dA).toArray 44
  rw [List.toList_toArray] at hb
  have hk := (Keep.refl [] w1).alloc (.cells (digC dA).toArray 44)
  generalize w1.alloc (.cells (digC dA).toArray 44) = w2 at hl hb hk
  generalize w1.heap.size = na at hl hb
  have R := Lib.hid hl
  have BA := Lib.hid hb
  clear hl hb hk
  go_upto_region 6 with (first
    | (refine wpList_b1 rfl HB _ rfl (by rfl) ?_)
    | (refine wpList_store_new rfl 44 (.tmp 4) (.tmp 25) rfl _ (digC dB) (by rfl) (by rfl) (HDL.out _) (by rw [digC_length]; rfl) (digC_one _) ?_)
    | fail)
  try simp only [Act.put, List.setIfInBounds_toArray, List.set_cons_succ, List.set_cons_zero]
  have hl := R.out.local (.cells (digC dB).toArray 44)
  have hb := Blk.newA w2 (digC dB).toArray 44
  rw [List.toList_toArray] at hb
  have hk := (Keep.refl [] w2).alloc (.cells (digC dB).toArray 44)
  generalize w2.alloc (.cells (digC dB).toArray 44) = w3 at hl hb hk
  have BA := Lib.hid (hk.blk BA.out (by simp))
  generalize w2.heap.size = nb at hl hb
  have R := Lib.hid hl
  have BB := Lib.hid hb
  clear hl hb hk
  go_wp2_with (first
    | (refine wpList_load_mid rfl 44 (.tmp 3) rfl na 0 (by rfl) (digC dA) _ (BA.out.rangeAt) Try.underlying44 rfl (HDL.out _) ?_)
    | (refine wpList_b2 rfl HJA _ _ rfl (by rfl) (by rfl) ?_)
    | fail)
  try simp only [Act.put, List.setIfInBounds_toArray, List.set_cons_succ, List.set_cons_zero]
  try go_wp2_with fail
  have hc := rkx_Put R.out jA
  rw [p1] at hc
  refine (hc).mono ?_
  rintro e w4 ⟨rfl, hr, hs⟩
  have BA := Lib.hid (hs.blk BA.out (by simp))
  have BB := Lib.hid (hs.blk BB.out (by simp))
  have R := Lib.hid hr
  clear hr hs
  go_wp2_with (first
    | (refine wpList_load_mid rfl 44 (.tmp 4) rfl nb 0 (by rfl) (digC dB) _ (BB.out.rangeAt) Try.underlying44 rfl (HDL.out _) ?_)
    | (refine wpList_b2 rfl HJB _ _ rfl (by rfl) (by rfl) ?_)
    | fail)
  try simp only [Act.put, List.setIfInBounds_toArray, List.set_cons_succ, List.set_cons_zero]
  try go_wp2_with fail
  have hc := rkx_Put R.out jB
  rw [p2] at hc
  refine (hc).mono ?_
  rintro e w5 ⟨rfl, hr, hs⟩
  have BA := Lib.hid (hs.blk BA.out (by simp))
  have BB := Lib.hid (hs.blk BB.out (by simp))
  have R := Lib.hid hr
  clear hr hs
  go_wp2_with fail
  have hc := rkx_Victim_some R.out p3 (d := dA) rfl
  refine (hc).mono ?_
  rintro e w6 ⟨rfl, hr, hs⟩
  have BA := Lib.hid (hs.blk BA.out (by simp))
  have BB := Lib.hid (hs.blk BB.out (by simp))
  have R := Lib.hid hr
  clear hr hs
  go_upto_region 9 with (first
    | (refine wpList_store_new rfl 44 (.tmp 5) (.tmp 37) rfl _ (digC dA) (by rfl) (by rfl) (HDL.out _) (by rw [digC_length]; rfl) (digC_one _) ?_)
    | fail)
  try simp only [Act.put, List.setIfInBounds_toArray, List.set_cons_succ, List.set_cons_zero]
  have hl := R.out.local (.cells (digC dA).toArray 44)
  have hb := Blk.newA w6 (digC dA).toArray 44
  rw [List.toList_toArray] at hb
  have hk := (Keep.refl [] w6).alloc (.cells (digC dA).toArray 44)
  generalize w6.alloc (.cells (digC dA).toArray 44) = w7 at hl hb hk
  have BA := Lib.hid (hk.blk BA.out (by simp))
  have BB := Lib.hid (hk.blk BB.out (by simp))
  generalize w6.heap.size = nx at hl hb
  have R := Lib.hid hl
  have BX := Lib.hid hb
  clear hl hb hk
  go_wp2_with (first
    | (refine wpList_load_mid rfl 44 (.tmp 3) rfl na 0 (by rfl) (digC dA) _ (BA.out.rangeAt) Try.underlying44 rfl (HDL.out _) ?_)
    | fail)
  try simp only [Act.put, List.setIfInBounds_toArray, List.set_cons_succ, List.set_cons_zero]
  try go_wp2_with fail
  have hc := rkx_Touch R.out dA
  rw [p4] at hc
  refine (hc).mono ?_
  rintro e w8 ⟨rfl, hr, hs⟩
  have BA := Lib.hid (hs.blk BA.out (by simp))
  have BB := Lib.hid (hs.blk BB.out (by simp))
  have BX := Lib.hid (hs.blk BX.out (by simp))
  have R := Lib.hid hr
  clear hr hs
  go_wp2_with fail
  have hc := rkx_Victim_some R.out p5 (d := dB) rfl
  refine (hc).mono ?_
  rintro e w9 ⟨rfl, hr, hs⟩
  have BA := Lib.hid (hs.blk BA.out (by simp))
  have BB := Lib.hid (hs.blk BB.out (by simp))
  have BX := Lib.hid (hs.blk BX.out (by simp))
  have R := Lib.hid hr
  clear hr hs
  go_upto_region 11 with (first
    | (refine wpList_store_new rfl 44 (.tmp 7) (.tmp 45) rfl _ (digC dB) (by rfl) (by rfl) (HDL.out _) (by rw [digC_length]; rfl) (digC_one _) ?_)
    | fail)
  try simp only [Act.put, List.setIfInBounds_toArray, List.set_cons_succ, List.set_cons_zero]
  have hl := R.out.local (.cells (digC dB).toArray 44)
  have hb := Blk.newA w9 (digC dB).toArray 44
  rw [List.toList_toArray] at hb
  have hk := (Keep.refl [] w9).alloc (.cells (digC dB).toArray 44)
  generalize w9.alloc (.cells (digC dB).toArray 44) = w10 at hl hb hk
  have BA := Lib.hid (hk.blk BA.out (by simp))
  have BB := Lib.hid (hk.blk BB.out (by simp))
  have BX := Lib.hid (hk.blk BX.out (by simp))
  generalize w9.heap.size = ny at hl hb
  have R := Lib.hid hl
  have BY := Lib.hid hb
  clear hl hb hk
  go_wp2_with (first
    | (refine wpList_load_mid rfl 44 (.tmp 4) rfl nb 0 (by rfl) (digC dB) _ (BB.out.rangeAt) Try.underlying44 rfl (HDL.out _) ?_)
    | fail)
  try simp only [Act.put, List.setIfInBounds_toArray, List.set_cons_succ, List.set_cons_zero]
  try go_wp2_with fail
  have hc := rkx_Pin R.out dB
  rw [p6, p7] at hc
  refine (hc).mono ?_
  rintro e w11 ⟨rfl, hr, hs⟩
  have BA := Lib.hid (hs.blk BA.out (by simp))
  have BB := Lib.hid (hs.blk BB.out (by simp))
  have BX := Lib.hid (hs.blk BX.out (by simp))
  have BY := Lib.hid (hs.blk BY.out (by simp))
  have R := Lib.hid hr
  clear hr hs
  go_wp2_with fail
  have hc := rkx_Victim_some R.out p8 (d := dA) rfl
  refine (hc).mono ?_
  rintro e w12 ⟨rfl, hr, hs⟩
  have BA := Lib.hid (hs.blk BA.out (by simp))
  have BB := Lib.hid (hs.blk BB.out (by simp))
  have BX := Lib.hid (hs.blk BX.out (by simp))
  have BY := Lib.hid (hs.blk BY.out (by simp))
  have R := Lib.hid hr
  clear hr hs
  go_upto_region 13 with (first
    | (refine wpList_store_new rfl 44 (.tmp 10) (.tmp 53) rfl _ (digC dA) (by rfl) (by rfl) (HDL.out _) (by rw [digC_length]; rfl) (digC_one _) ?_)
    | fail)
  try simp only [Act.put, List.setIfInBounds_toArray, List.set_cons_succ, List.set_cons_zero]
  have hl := R.out.local (.cells (digC dA).toArray 44)
  have hb := Blk.newA w12 (digC dA).toArray 44
  rw [List.toList_toArray] at hb
  have hk := (Keep.refl [] w12).alloc (.cells (digC dA).toArray 44)
  generalize w12.alloc (.cells (digC dA).toArray 44) = w13 at hl hb hk
  have BA := Lib.hid (hk.blk BA.out (by simp))
  have BB := Lib.hid (hk.blk BB.out (by simp))
  have BX := Lib.hid (hk.blk BX.out (by simp))
  have BY := Lib.hid (hk.blk BY.out (by simp))
  generalize w12.heap.size = nz at hl hb
  have R := Lib.hid hl
  have BZ := Lib.hid hb
  clear hl hb hk
  go_wp2_with fail
  refine (rack_New_bad (-1) _ (by omega)).mono ?_
  rintro e w14 ⟨rfl, hk⟩
  have BA := Lib.hid (hk.blk BA.out (by simp))
  have BB := Lib.hid (hk.blk BB.out (by simp))
  have BX := Lib.hid (hk.blk BX.out (by simp))
  have BY := Lib.hid (hk.blk BY.out (by simp))
  have BZ := Lib.hid (hk.blk BZ.out (by simp))
  have R := Lib.hid (R.out.keep0 hk)
  clear hk
  have hq := eqDig
  go_wp2_with (first
    | (refine wpList_load_midG (by rfl) 44 (.tmp 5) rfl nx 0 (by rfl) (digC dA) _ (BX.out.rangeAt) Try.underlying44 rfl (HDL.out _) ?_)
    | (refine wpList_load_midG (by rfl) 44 (.tmp 3) rfl na 0 (by rfl) (digC dA) _ (BA.out.rangeAt) Try.underlying44 rfl (HDL.out _) ?_)
    | (refine wpList_load_midG (by rfl) 44 (.tmp 7) rfl ny 0 (by rfl) (digC dB) _ (BY.out.rangeAt) Try.underlying44 rfl (HDL.out _) ?_)
    | (refine wpList_load_midG (by rfl) 44 (.tmp 4) rfl nb 0 (by rfl) (digC dB) _ (BB.out.rangeAt) Try.underlying44 rfl (HDL.out _) ?_)
    | (refine wpList_load_midG (by rfl) 44 (.tmp 10) rfl nz 0 (by rfl) (digC dA) _ (BZ.out.rangeAt) Try.underlying44 rfl (HDL.out _) ?_)
    | (refine wpList_b1G (by rfl) HJ0 _ rfl (by rfl) ?_)
    | fail)
  try simp only [Act.put, List.setIfInBounds_toArray, List.set_cons_succ, List.set_cons_zero]
  try go_wp2_with fail
  have hc := rkx_Total R.out
  rw [p9] at hc
  refine (hc).mono ?_
  rintro e w15 ⟨rfl, hr, hs⟩
  have BA := Lib.hid (hs.blk BA.out (by simp))
  have BB := Lib.hid (hs.blk BB.out (by simp))
  have BX := Lib.hid (hs.blk BX.out (by simp))
  have BY := Lib.hid (hs.blk BY.out (by simp))
  have BZ := Lib.hid (hs.blk BZ.out (by simp))
  have R := Lib.hid hr
  clear hr hs
  go_wp2_with (first
    | (refine wpList_load_midG (by rfl) 44 (.tmp 5) rfl nx 0 (by rfl) (digC dA) _ (BX.out.rangeAt) Try.underlying44 rfl (HDL.out _) ?_)
    | (refine wpList_load_midG (by rfl) 44 (.tmp 3) rfl na 0 (by rfl) (digC dA) _ (BA.out.rangeAt) Try.underlying44 rfl (HDL.out _) ?_)
    | (refine wpList_load_midG (by rfl) 44 (.tmp 7) rfl ny 0 (by rfl) (digC dB) _ (BY.out.rangeAt) Try.underlying44 rfl (HDL.out _) ?_)
    | (refine wpList_load_midG (by rfl) 44 (.tmp 4) rfl nb 0 (by rfl) (digC dB) _ (BB.out.rangeAt) Try.underlying44 rfl (HDL.out _) ?_)
    | (refine wpList_load_midG (by rfl) 44 (.tmp 10) rfl nz 0 (by rfl) (digC dA) _ (BZ.out.rangeAt) Try.underlying44 rfl (HDL.out _) ?_)
    | (refine wpList_b1G (by rfl) HJ0 _ rfl (by rfl) ?_)
    | fail)
  try simp only [Act.put, List.setIfInBounds_toArray, List.set_cons_succ, List.set_cons_zero]
  try go_wp2_with fail
  have hc := rkx_Pinned R.out
  rw [p10] at hc
  refine (hc).mono ?_
  rintro e w16 ⟨rfl, hr, hs⟩
  have BA := Lib.hid (hs.blk BA.out (by simp))
  have BB := Lib.hid (hs.blk BB.out (by simp))
  have BX := Lib.hid (hs.blk BX.out (by simp))
  have BY := Lib.hid (hs.blk BY.out (by simp))
  have BZ := Lib.hid (hs.blk BZ.out (by simp))
  have R := Lib.hid hr
  clear hr hs
  go_wp2_with (first
    | (refine wpList_load_midG (by rfl) 44 (.tmp 5) rfl nx 0 (by rfl) (digC dA) _ (BX.out.rangeAt) Try.underlying44 rfl (HDL.out _) ?_)
    | (refine wpList_load_midG (by rfl) 44 (.tmp 3) rfl na 0 (by rfl) (digC dA) _ (BA.out.rangeAt) Try.underlying44 rfl (HDL.out _) ?_)
    | (refine wpList_load_midG (by rfl) 44 (.tmp 7) rfl ny 0 (by rfl) (digC dB) _ (BY.out.rangeAt) Try.underlying44 rfl (HDL.out _) ?_)
    | (refine wpList_load_midG (by rfl) 44 (.tmp 4) rfl nb 0 (by rfl) (digC dB) _ (BB.out.rangeAt) Try.underlying44 rfl (HDL.out _) ?_)
    | (refine wpList_load_midG (by rfl) 44 (.tmp 10) rfl nz 0 (by rfl) (digC dA) _ (BZ.out.rangeAt) Try.underlying44 rfl (HDL.out _) ?_)
    | (refine wpList_b1G (by rfl) HJ0 _ rfl (by rfl) ?_)
    | fail)
  try simp only [Act.put, List.setIfInBounds_toArray, List.set_cons_succ, List.set_cons_zero]
  try go_wp2_with fail
  have hc := rkx_Drop R.out dB
  rw [p11, p12] at hc
  refine (hc).mono ?_
  rintro e w17 ⟨rfl, hr, hs⟩
  have BA := Lib.hid (hs.blk BA.out (by simp))
  have BB := Lib.hid (hs.blk BB.out (by simp))
  have BX := Lib.hid (hs.blk BX.out (by simp))
  have BY := Lib.hid (hs.blk BY.out (by simp))
  have BZ := Lib.hid (hs.blk BZ.out (by simp))
  have R := Lib.hid hr
  clear hr hs
  go_wp2_with (first
    | (refine wpList_load_midG (by rfl) 44 (.tmp 5) rfl nx 0 (by rfl) (digC dA) _ (BX.out.rangeAt) Try.underlying44 rfl (HDL.out _) ?_)
    | (refine wpList_load_midG (by rfl) 44 (.tmp 3) rfl na 0 (by rfl) (digC dA) _ (BA.out.rangeAt) Try.underlying44 rfl (HDL.out _) ?_)
    | (refine wpList_load_midG (by rfl) 44 (.tmp 7) rfl ny 0 (by rfl) (digC dB) _ (BY.out.rangeAt) Try.underlying44 rfl (HDL.out _) ?_)
    | (refine wpList_load_midG (by rfl) 44 (.tmp 4) rfl nb 0 (by rfl) (digC dB) _ (BB.out.rangeAt) Try.underlying44 rfl (HDL.out _) ?_)
    | (refine wpList_load_midG (by rfl) 44 (.tmp 10) rfl nz 0 (by rfl) (digC dA) _ (BZ.out.rangeAt) Try.underlying44 rfl (HDL.out _) ?_)
    | (refine wpList_b1G (by rfl) HJ0 _ rfl (by rfl) ?_)
    | fail)
  try simp only [Act.put, List.setIfInBounds_toArray, List.set_cons_succ, List.set_cons_zero]
  try go_wp2_with fail
  have hc := rkx_Put R.out ⟨dA, [], 0, 0⟩
  rw [p13] at hc
  refine (hc).mono ?_
  rintro e w18 ⟨rfl, hr, hs⟩
  have BA := Lib.hid (hs.blk BA.out (by simp))
  have BB := Lib.hid (hs.blk BB.out (by simp))
  have BX := Lib.hid (hs.blk BX.out (by simp))
  have BY := Lib.hid (hs.blk BY.out (by simp))
  have BZ := Lib.hid (hs.blk BZ.out (by simp))
  have R := Lib.hid hr
  clear hr hs
  go_wp2_with fail
  go_ret
  exact ⟨rfl, R.out.below⟩
end Go.Proofs.Ytbfnpoknamajnaa
