/- Parts of the proof of ChunkWrites, in order. No conditions but those that each theorem states. -/
import Derived.Test.YtmfnciocnlmceaaDoorZChunkWrites3
/- Layer 11: Write; the document's Write. No conditions but on lengths and the library's table. -/
namespace Go.Proofs.YtmfnciocnlmceaaDoor
open Go.RowKit Go.Shelf

theorem wr_step (k : Nat) {t : List UInt8} (h0 : t ≠ []) {n : Nat} (hn : min (k + 1) t.length = n) : wrL k t = (hexL n ++ [13, 10] ++ t.take n ++ [13, 10]) ++ wrL k (t.drop n) := by
  rw [wrL_cons k h0, hn]
  have e1 : t.take (k + 1) = t.take n := by
    rcases Nat.le_total (k + 1) t.length with h | h
    · rw [← hn, Nat.min_eq_left h]
    · rw [← hn, Nat.min_eq_right h, List.take_of_length_le h, List.take_length]
  have e2 : t.drop (k + 1) = t.drop n := by
    rcases Nat.le_total (k + 1) t.length with h | h
    · rw [← hn, Nat.min_eq_left h]
    · rw [← hn, Nat.min_eq_right h, List.drop_eq_nil_of_le h, List.drop_length]
  rw [e1, e2]
  simp [crlfC]
set_option maxRecDepth 100000 in
set_option maxHeartbeats 4000000 in
theorem chunk_Write (s : List UInt8) (by' : Int) (k : Nat) (w : World) (h64 : P64 w) (hs : s.length ≤ 65536) (hk : max by' 1 = ((k + 1 : Nat) : Int)) :
    Calls Tryd.prog 32 #[.string (S s), .int .i64 by'] w fun e w' => e = .returned (.string (S (wrL k s ++ endC))) ∧ Keep [] w w' := by
  have HN := Lib.hid (bld_new (Keep.refl [] w))
  have H64 := Lib.hid h64
  obtain ⟨K, hK⟩ : ∃ K, k + 1 = K := ⟨_, rfl⟩
  rw [hK] at hk
  have HWL := Lib.hid (wrL_len k s.length s (Nat.le_refl _) (by omega))
  go_enter Tryd.func32, Tryd.ntmps32
  go_wp2_with fail
  generalize hwA : w.alloc (.cells #[.pointer none, .slice none 0 0] 85) = wA at *
  clear hwA
  generalize hnb : w.heap.size = nb at *
  clear hnb
  go_loopg [0] s.length (fun g v wr => ∃ t out : List UInt8, v = .string (S t) ∧ g = t.length ∧ t.length ≤ s.length ∧ Hid (Bld w wr nb out) ∧ Hid (out ++ wrL k t = wrL k s))
  case atStart => exact ⟨s, [], rfl, rfl, Nat.le_refl _, HN, Lib.hid rfl⟩
  case round =>
    obtain ⟨t, out, rfl, hg, hts, HB, HE⟩ := hrel
    have s1 := S_size t
    have s2 := S_toList t
    have hol : out.length ≤ 1376256 := by
      have e := congrArg List.length HE.out
      rw [List.length_append] at e
      have := HWL.out
      omega
    by_cases h0 : t = []
    · have HF := Lib.hid (show out = wrL k s by have e := HE.out; rw [h0, wrL_nil, List.append_nil] at e; exact e)
      have hem : t.isEmpty = true := by rw [h0]; rfl
      have c1 : S out ++ (⟨#[48]⟩ : ByteArray) = S (out ++ [48]) := S_append out [48]
      have c2 : S (out ++ [48]) ++ (⟨#[13, 10]⟩ : ByteArray) = S (out ++ [48] ++ [13, 10]) := S_append _ [13, 10]
      have c3 : S (out ++ [48] ++ [13, 10]) ++ (⟨#[13, 10]⟩ : ByteArray) = S (out ++ endC) := by rw [show (⟨#[13, 10]⟩ : ByteArray) = S [13, 10] from rfl, S_append]; simp [endC]
      have z1 := S_size out
      have l1 : (out ++ [48]).length = out.length + 1 := by simp
      have l2 : (out ++ [48] ++ [13, 10]).length = out.length + 3 := by simp
      generalize out ++ [48] ++ [13, 10] = o2 at *
      generalize out ++ [48] = o1 at *
      have z2 := S_size o1
      have z3 := S_size o2
      have HS := Lib.hid (bld_string HB.out)
      clear h0 hk HE
      go_wp2_with fail
      refine HS.out.mono ?_
      rintro e w1 ⟨rfl, k1⟩
      have K1 := Lib.hid k1
      clear k1
      go_wp2_with fail
      go_ret
      rw [← HF.out]
      exact ⟨rfl, K1.out⟩
    · have hem : t.isEmpty = false := by cases t with | nil => exact absurd rfl h0 | cons => rfl
      have hlp := len_pos h0
      obtain ⟨n, hn⟩ : ∃ n : Nat, min K t.length = n := ⟨_, rfl⟩
      have hst := wr_step k h0 (n := n) (by rw [hK]; exact hn)
      have hn1 : 0 < n := by omega
      have hn2 : n ≤ t.length := by omega
      have hmin : min ((K : Nat) : Int) ((t.length : Nat) : Int) = ((n : Nat) : Int) := by omega
      have HH := Lib.hid (fun w1 (k1 : Keep [] wr w1) => hexa_Hexnum n (by omega) w1 (H64.out.keep0 (HB.out.kept.trans k1)))
      have x1 : (S t).extract 0 n = S (t.take n) := by rw [S_extract, List.drop_zero]
      have x2 : (S t).extract n t.length = S (t.drop n) := by rw [S_extract, List.take_length]
      have i1 : (n : Int) ≤ (t.length : Int) := by omega
      have i0 : (0 : Int) ≤ (n : Int) := by omega
      have c1 : S (hexL n) ++ (⟨#[13, 10]⟩ : ByteArray) = S (hexL n ++ [13, 10]) := S_append _ [13, 10]
      have c2 : S (hexL n ++ [13, 10]) ++ S (t.take n) = S (hexL n ++ [13, 10] ++ t.take n) := S_append _ _
      have c3 : S (hexL n ++ [13, 10] ++ t.take n) ++ (⟨#[13, 10]⟩ : ByteArray) = S (hexL n ++ [13, 10] ++ t.take n ++ [13, 10]) := S_append _ [13, 10]
      have hxl := hexL_len (n := n) (by omega)
      have htl : (t.take n).length = n := by rw [List.length_take]; omega
      have l1 : (hexL n ++ [13, 10]).length = (hexL n).length + 2 := by simp
      have l2 : (hexL n ++ [13, 10] ++ t.take n).length = (hexL n).length + 2 + n := by simp [htl]; omega
      have l3 : (hexL n ++ [13, 10] ++ t.take n ++ [13, 10]).length = (hexL n).length + 4 + n := by simp [htl]; omega
      have HE2 := Lib.hid (show (out ++ (hexL n ++ [13, 10] ++ t.take n ++ [13, 10])) ++ wrL k (t.drop n) = wrL k s by rw [List.append_assoc, ← hst]; exact HE.out)
      have htd : (t.drop n).length = t.length - n := List.length_drop
      have hdl : (t.drop n).length < t.length := by omega
      clear hst h0 HE
      generalize hexL n ++ [13, 10] ++ t.take n ++ [13, 10] = p3 at *
      generalize hexL n ++ [13, 10] ++ t.take n = p2 at *
      generalize hexL n ++ [13, 10] = p1 at *
      generalize hexL n = p0 at *
      have z0 := S_size p0
      have z1 := S_size p1
      have z2 := S_size p2
      have z4 := S_size (t.take n)
      have HW := Lib.hid (fun w1 (k1 : Keep [] wr w1) => bld_write (HB.out.keep0 k1) p3 (by omega))
      go_upto_region 4 with fail
      go_cut [] (fun wx => Hid (Bld w wx nb (out ++ p3)))
      case first =>
        clear hk hmin HB H64
        go_region_with (first
          | (go_at_call 63; refine (HH.out _ (by repeat (first | exact Keep.refl _ _ | apply Keep.drew))).mono ?_; rintro e w2 ⟨rfl, k2⟩; have K2 := Lib.hid (show Keep [] wr w2 from Keep.trans (by repeat (first | exact Keep.refl _ _ | apply Keep.drew)) k2); clear k2)
          | (go_at_call 62; refine (HW.out _ (by repeat (first | exact K2.out | apply Keep.drew))).mono ?_; rintro e w3 ⟨rfl, hb'⟩; have HX := Lib.hid hb'; clear hb')
          | fail)
        all_goals
          go_wp2_with fail
          go_meet
          first | exact HX | exact Lib.hid (HX.out.keep0 (by repeat (first | exact Keep.refl _ _ | apply Keep.drew)))
      case rest =>
        have HC := hcut
        clear hcut HW HH HB
        go_wp2_with fail
        go_roundg (t.drop n).length
        case measure => omega
        case rel => exact ⟨t.drop n, out ++ p3, rfl, rfl, by omega, HC, HE2⟩
set_option maxRecDepth 100000 in
set_option maxHeartbeats 4000000 in
theorem ref11_Write (s : List UInt8) (by' : Int) (k : Nat) (w : World) (hs : s.length ≤ 65536) (hk : max by' 1 = ((k + 1 : Nat) : Int)) :
    Calls Tryd.prog 33 #[.string (S s), .int .i64 by'] w fun e w' => e = .returned (.string (S (wrL k s ++ endC))) ∧ w = w' := by
  obtain ⟨J, hJ, hj⟩ : ∃ J : Nat, min (max by' 1) (max ((s.length : Nat) : Int) 1) = (J : Int) ∧ ∃ j, j + 1 = J ∧ wrL j s = wrL k s ∧ J ≤ 65536 := by
    by_cases h : (k + 1) ≤ max s.length 1
    · exact ⟨k + 1, by omega, k, rfl, rfl, by omega⟩
    · refine ⟨max s.length 1, by omega, max s.length 1 - 1, by omega, wrL_clamp _ _ _ (by omega) (by omega), by omega⟩
  obtain ⟨j, hj1, hj2, hj3⟩ := hj
  rw [← hj2]
  have hj4 : 0 < J := by omega
  have HWL := Lib.hid (wrL_len j s.length s (Nat.le_refl _) (by omega))
  have s0 := S_size s
  clear hj2 hk
  go_enter Tryd.func33, Tryd.ntmps33
  go_wp2_with fail
  go_loopg [5, 6] (s.length + 1) (fun g v i wr => ∃ (a : Nat) (out : List UInt8), v = .string (S out) ∧ i = .int .i64 (a : Nat) ∧ a ≤ s.length + J ∧ g = s.length + 1 - a ∧ w = wr ∧ Hid (out ++ wrL j (s.drop a) = wrL j s))
  case atStart => exact ⟨0, [], rfl, rfl, by omega, by omega, rfl, Lib.hid (by simp)⟩
  case round =>
    obtain ⟨a, out, rfl, rfl, haJ, hga, rfl, HE⟩ := hrel
    have hol : out.length ≤ 1376256 := by
      have e := congrArg List.length HE.out
      rw [List.length_append] at e
      have := HWL.out
      omega
    by_cases hlt : a < s.length
    · have h0 : s.drop a ≠ [] := fun hh => by have := congrArg List.length hh; simp at this; omega
      have hdl : (s.drop a).length = s.length - a := List.length_drop
      obtain ⟨n, hn⟩ : ∃ n : Nat, min J (s.length - a) = n := ⟨_, rfl⟩
      have hst := wr_step j h0 (n := n) (by rw [hj1, hdl]; exact hn)
      have hn1 : 0 < n := by omega
      obtain ⟨z, hz⟩ : ∃ z : Nat, a + n = z := ⟨_, rfl⟩
      have hzl : z ≤ s.length := by omega
      have hmin : min ((a : Int) + (J : Int)) ((s.length : Nat) : Int) = ((z : Nat) : Int) := by omega
      have hw1 := IntWalk.i64_in ((a : Int) + (J : Int)) (by omega)
      have x1 : (S s).extract a z = S ((s.drop a).take n) := by rw [S_extract, List.drop_take, show z - a = n by omega]
      have i1 : (a : Int) ≤ (z : Int) := by omega
      have i0 : (0 : Int) ≤ (a : Int) := by omega
      have i2 : (z : Int) ≤ (s.length : Int) := by omega
      have htl : ((s.drop a).take n).length = n := by rw [List.length_take]; omega
      have HH := Lib.hid (fun w1 => ref_Hexnum n w1 (by omega))
      have c0 : S out ++ S (hexL n) = S (out ++ hexL n) := S_append _ _
      have c1 : S (out ++ hexL n) ++ (⟨#[13, 10]⟩ : ByteArray) = S (out ++ hexL n ++ [13, 10]) := S_append _ [13, 10]
      have c2 : S (out ++ hexL n ++ [13, 10]) ++ S ((s.drop a).take n) = S (out ++ hexL n ++ [13, 10] ++ (s.drop a).take n) := S_append _ _
      have c3 : S (out ++ hexL n ++ [13, 10] ++ (s.drop a).take n) ++ (⟨#[13, 10]⟩ : ByteArray) = S (out ++ hexL n ++ [13, 10] ++ (s.drop a).take n ++ [13, 10]) := S_append _ [13, 10]
      have hxl := hexL_len (n := n) (by omega)
      have l0 : (out ++ hexL n).length = out.length + (hexL n).length := by simp
      have l1 : (out ++ hexL n ++ [13, 10]).length = out.length + (hexL n).length + 2 := by simp; omega
      have l2 : (out ++ hexL n ++ [13, 10] ++ (s.drop a).take n).length = out.length + (hexL n).length + 2 + n := by rw [List.length_append, l1, htl]
      have HE2 := Lib.hid (show (out ++ hexL n ++ [13, 10] ++ (s.drop a).take n ++ [13, 10]) ++ wrL j (s.drop (a + J)) = wrL j s by
        have e := HE.out
        rw [hst, List.drop_drop] at e
        have e2 : s.drop (a + J) = s.drop (a + n) := by
          rcases Nat.le_total J (s.length - a) with h | h
          · rw [show n = J by omega]
          · rw [List.drop_eq_nil_of_le (by omega), List.drop_eq_nil_of_le (by omega)]
        rw [e2, ← e]
        simp only [List.append_assoc])
      clear hst h0 HE
      have z0 := S_size out
      have z9 := S_size ((s.drop a).take n)
      generalize out ++ hexL n ++ [13, 10] ++ (s.drop a).take n ++ [13, 10] = p3 at *
      generalize out ++ hexL n ++ [13, 10] ++ (s.drop a).take n = p2 at *
      generalize out ++ hexL n ++ [13, 10] = p1 at *
      generalize out ++ hexL n = p0 at *
      generalize hexL n = px at *
      generalize (s.drop a).take n = py at *
      have z1 := S_size p0
      have z2 := S_size p1
      have z3 := S_size p2
      have z4 := S_size px
      clear hJ
      go_wp2_with fail
      refine (HH.out _).mono ?_
      rintro e w1 ⟨rfl, rfl⟩
      go_wp2_with fail
      go_roundg (s.length + 1 - (a + J))
      case measure => omega
      case rel => exact ⟨a + J, p3, rfl, by go_num, by omega, rfl, rfl, HE2⟩
    · have HF := Lib.hid (show out = wrL j s by have e := HE.out; rw [List.drop_eq_nil_of_le (by omega), wrL_nil, List.append_nil] at e; exact e)
      have c3 : S out ++ (⟨#[48, 13, 10, 13, 10]⟩ : ByteArray) = S (out ++ endC) := S_append _ endC
      have z1 := S_size out
      clear hJ HE
      go_wp2_with fail
      go_ret
      rw [← HF.out]
      exact ⟨rfl, rfl⟩
end Go.Proofs.YtmfnciocnlmceaaDoor

/- Layer 11: what the statements are awake to; the statement ChunkWrites. No conditions but the library's table. -/
namespace Go.Proofs.YtmfnciocnlmceaaDoor
open Go.RowKit Go.Shelf

def awP1 : List UInt8 := [51, 13, 10, 97, 98]
def awP2 : List UInt8 := [99, 13, 10, 48, 13, 10, 13, 10, 114, 101, 115, 116]
def awP3 : List UInt8 := [53, 59, 120, 61, 121, 13, 10]
def awC1 : Ck := ⟨1, 1, 100, 0, [], [97, 98], 0⟩
def awC2 : Ck := ⟨4, 0, 100, 0, [114, 101, 115, 116], [97, 98, 99], 0⟩
theorem aw1 : addC (ck0 100) awP1 = awC1 := by kernel_rfl
theorem aw2 : addC awC1 awP2 = awC2 := by kernel_rfl
theorem aw3 : (addC (ck0 4) awP3).err = 4 := by decide +kernel
theorem aw4 : wrL 2 [97, 98, 99, 100, 101] ++ endC = [51, 13, 10, 97, 98, 99, 13, 10, 50, 13, 10, 100, 101, 13, 10, 48, 13, 10, 13, 10] := by
  have e1 : wrL 2 [97, 98, 99, 100, 101] = hexL 3 ++ crlfC ++ ([97, 98, 99] ++ crlfC) ++ wrL 2 [100, 101] := wrL_cons 2 (by simp)
  have e2 : wrL 2 [100, 101] = hexL 2 ++ crlfC ++ ([100, 101] ++ crlfC) ++ wrL 2 [] := wrL_cons 2 (by simp)
  rw [e1, e2, wrL_nil, hexL_small (by omega), hexL_small (by omega)]
  decide

set_option maxRecDepth 100000 in
set_option maxHeartbeats 4000000 in
theorem chunk_awake (w : World) (hm : ML w) (h64 : P64 w) : Calls Tryd.prog 24 #[] w fun e w' => e = .returned (.bool true) ∧ Keep [] w w' := by
  have hbig := hm.lt
  have HM := Lib.hid hm
  have H64 := Lib.hid h64
  have hN := cx_new w.heap.size 100 w (Nat.le_refl _)
  have HN := Lib.hid hN
  clear hN
  go_enter Tryd.func24, Tryd.ntmps24
  go_wp2_with fail
  refine HN.out.mono ?_
  rintro e w1 ⟨b, rfl, hb, hx, k1⟩
  have K1 := Lib.hid k1
  have HA := Lib.hid (cx_add (s := awP1) hx (HM.out.keep k1 (by simp)) hbig (by decide +kernel) (by decide +kernel) (fun _ => ck0_ok _))
  rw [aw1] at HA
  clear k1 hx
  go_wp2_with fail
  refine HA.out.mono ?_
  rintro e w2 ⟨rfl, X2, hx, k2, n2⟩
  have lo := hx.lo
  have K2 := Lib.hid (K1.out.above k2 (by intro x hh; simp at hh; omega))
  have HT := Lib.hid (cx_take hx)
  have q1 : (awC1.err != 0) = false := by decide
  have t0 := S_toList [97, 98]
  clear k2 hx n2 lo
  go_wp2_with fail
  refine HT.out.mono ?_
  rintro e w3 ⟨o, rfl, ho, hx, k3⟩
  obtain rfl : o = [97, 98] := ho.symm
  have lo := hx.lo
  have K3 := Lib.hid (K2.out.above k3 (fun x hh => (lo x hh).1))
  have HD := Lib.hid (cx_done hx (by decide))
  have HA := Lib.hid (cx_add (s := awP2) hx (HM.out.keep K3.out (by simp)) hbig (by decide) (by decide) (fun _ => by refine ⟨?_, ?_, ?_⟩ <;> decide))
  rw [aw2] at HA
  have HL := Lib.hid lo
  clear k3 hx lo ho
  go_wp2_with fail
  refine HD.out.mono ?_
  rintro e w3' ⟨rfl, rfl⟩
  have q2 : decide (awC1.st = 4) = false := by decide
  go_wp2_with fail
  refine HA.out.mono ?_
  rintro e w4 ⟨rfl, X4, hx, k4, n4⟩
  have q3 : (awC2.err != 0) = false := by decide
  have K4 := Lib.hid (K3.out.above k4 (fun x hh => (HL.out x hh).1))
  have HX := Lib.hid hx
  have HN := Lib.hid (cx_new w.heap.size 4 w4 K4.out.size)
  clear hx k4 n4
  go_wp2_with fail
  refine HN.out.mono ?_
  rintro e w5 ⟨d, rfl, hd, hy, k5⟩
  have K5 := Lib.hid (K4.out.trans k5)
  have HX5 := Lib.hid (HX.out.keep0 k5)
  have HY := Lib.hid hy
  have HT := Lib.hid (cx_take HX5.out)
  have sepX := Lib.hid (show ∀ x ∈ X4, x ∉ [d] from fun x hh hh2 => by have := HX.out.lo x hh; simp at hh2; omega)
  clear hy k5
  go_wp2_with fail
  refine HT.out.mono ?_
  rintro e w6 ⟨o, rfl, ho, hx, k6⟩
  obtain rfl : o = [99] := (List.append_cancel_left (show ([97, 98] : List UInt8) ++ [99] = [97, 98] ++ o from ho)).symm
  have K6 := Lib.hid (K5.out.above k6 (fun x hh => (HX5.out.lo x hh).1))
  have HY6 := Lib.hid (HY.out.keep k6 (apart_symm sepX.out))
  have HD := Lib.hid (cx_done hx (by decide))
  have HR := Lib.hid (cx_rest hx (by decide))
  have HS := Lib.hid (cx_size hx)
  have HA := Lib.hid (cx_add (s := awP3) HY6.out (HM.out.keep K6.out (by simp)) hbig (by decide +kernel) (by decide +kernel) (fun _ => ck0_ok _))
  have HW := Lib.hid (fun w' (k : Keep [] w w') => chunk_Write [97, 98, 99, 100, 101] 3 2 w' (H64.out.keep0 k) (by simp) (by decide))
  rw [aw3] at HA
  rw [aw4] at HW
  have t1 := S_toList [99]
  have t2 := S_toList [114, 101, 115, 116]

  have q7 := S_toList [51, 13, 10, 97, 98, 99, 13, 10, 50, 13, 10, 100, 101, 13, 10, 48, 13, 10, 13, 10]
  clear hx k6 ho
  go_wp2_with fail
  refine HD.out.mono ?_
  rintro e w6' ⟨rfl, rfl⟩
  have q4 : decide (awC2.st = 4) = true := by decide
  go_wp2_with fail
  refine HR.out.mono ?_
  rintro e w6' ⟨rfl, rfl⟩
  have q5 : S (if awC2.st = 4 then awC2.inp else []) = ⟨#[114, 101, 115, 116]⟩ := rfl
  go_wp2_with fail
  refine HS.out.mono ?_
  rintro e w6' ⟨rfl, rfl⟩
  have q6 : (awC2.dat.length : Int) = 3 := rfl
  go_wp2_with fail
  refine HA.out.mono ?_
  rintro e w7 ⟨rfl, X7, hx, k7, n7⟩
  have K7 := Lib.hid (K6.out.above k7 (fun x hh => (HY6.out.lo x hh).1))
  clear hx k7 n7
  go_wp2_with fail
  refine (HW.out _ K7.out).mono ?_
  rintro e w8 ⟨rfl, k8⟩
  have K8 := Lib.hid (K7.out.trans k8)
  clear k8
  go_wp2_with fail
  go_ret
  exact ⟨rfl, K8.out⟩

set_option maxRecDepth 100000 in
set_option maxHeartbeats 4000000 in
theorem chunkWrites_walk (s : List UInt8) (by' : Int) (w : World) (hm : ML w) (h64 : P64 w) (hs : s.length ≤ maxLen) (hb : in64 by') :
    Calls Tryd.prog 6 #[.string (S s), .int .i64 by'] w fun e w' => e = .returned (.bool true) ∧ Keep [] w w' := by
  have hs' : s.length ≤ 9223372036854775807 := hs
  have s0 := S_size s
  have HA := Lib.hid (chunk_awake w hm h64)
  have H64 := Lib.hid h64
  by_cases hl : 4096 < s.length
  · have q : decide ((s.length : Int) > 4096) = true := by simp; omega
    clear hl hb
    go_enter Tryd.func6, Tryd.ntmps6
    go_wp2_with fail
    refine HA.out.mono ?_
    rintro e w1 ⟨rfl, k1⟩
    have K1 := Lib.hid k1
    clear k1
    go_wp2_with fail
    go_ret
    exact ⟨rfl, K1.out⟩
  · have q : decide ((s.length : Int) > 4096) = false := by simp; omega
    obtain ⟨k, hk⟩ : ∃ k : Nat, max by' 1 = ((k + 1 : Nat) : Int) := ⟨(max by' 1).toNat - 1, by omega⟩
    have HW := Lib.hid (fun w' (kk : Keep [] w w') => chunk_Write s by' k w' (H64.out.keep0 kk) (by omega) hk)
    have HR := Lib.hid (fun w' => ref11_Write s by' k w' (by omega) hk)
    generalize wrL k s ++ endC = out at *
    have q2 := S_toList out
    clear hl hb hk
    go_enter Tryd.func6, Tryd.ntmps6
    go_wp2_with fail
    refine HA.out.mono ?_
    rintro e w1 ⟨rfl, k1⟩
    have K1 := Lib.hid k1
    clear k1
    go_wp2_with fail
    refine (HW.out _ K1.out).mono ?_
    rintro e w2 ⟨rfl, k2⟩
    have K2 := Lib.hid (K1.out.trans k2)
    clear k2
    go_wp2_with fail
    refine (HR.out _).mono ?_
    rintro e w3 ⟨rfl, rfl⟩
    go_wp2_with fail
    go_ret
    exact ⟨ret_bool (by simp), K2.out⟩
end Go.Proofs.YtmfnciocnlmceaaDoor
