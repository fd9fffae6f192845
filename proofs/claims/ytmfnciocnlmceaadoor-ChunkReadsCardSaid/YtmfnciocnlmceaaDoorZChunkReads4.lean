/- Parts of the proof of ChunkReads, in order. No conditions but those that each theorem states. -/
import Derived.Test.YtmfnciocnlmceaaDoorZChunkReads3
import Derived.Deep.MidRow
/- Layer 11: Write; the document's Write. No conditions but on lengths and the library's table. -/
namespace Go.Proofs.YtmfnciocnlmceaaDoor
open Go.RowKit Go.Shelf

theorem wr_step (k : Nat) {t : List UInt8} (h0 : t ≠ []) {n : Nat} (hn : min (k + 1) t.length = n) : wrL k t = (hexL n ++ [13, 10] ++ t.take n ++ [13, 10]) ++ wrL k (t.drop n) := by
  rw [wrL_cons k h0, hn]
  have e1 : t.take (k + 1) = t.take n := by
    rcases Nat.le_total (k + 1) t.length with h | h
    · rw [← hn, Nat.min_eq_left h]
    · rw [← hn, Nat.min_eq_right h, List.take_of_length_le h, List.take_length]
  have e2 : t.drop (k + 1) = t.drop n := by
    rcases Nat.le_total (k + 1) t.length with h | h
    · rw [← hn, Nat.min_eq_left h]
    · rw [← hn, Nat.min_eq_right h, List.drop_eq_nil_of_le h, List.drop_length]
  rw [e1, e2]
  simp [crlfC]
set_option maxRecDepth 100000 in
set_option maxHeartbeats 4000000 in
theorem chunk_Write (s : List UInt8) (by' : Int) (k : Nat) (w : World) (h64 : P64 w) (hs : s.length ≤ 65536) (hk : max by' 1 = ((k + 1 : Nat) : Int)) :
    Calls Tryd.prog 32 #[.string (S s), .int .i64 by'] w fun e w' => e = .returned (.string (S (wrL k s ++ endC))) ∧ Keep [] w w' := by
  have HN := Lib.hid (bld_new (Keep.refl [] w))
  have H64 := Lib.hid h64
  obtain ⟨K, hK⟩ : ∃ K, k + 1 = K := ⟨_, rfl⟩
  rw [hK] at hk
  have HWL := Lib.hid (wrL_len k s.length s (Nat.le_refl _) (by omega))
  go_enter Tryd.func32, Tryd.ntmps32
  go_wp2_with fail
  generalize hwA : w.alloc (.cells #[.pointer none, .slice none 0 0] 85) = wA at *
  clear hwA
  generalize hnb : w.heap.size = nb at *
  clear hnb
  go_loopg [0] s.length (fun g v wr => ∃ t out : List UInt8, v = .string (S t) ∧ g = t.length ∧ t.length ≤ s.length ∧ Hid (Bld w wr nb out) ∧ Hid (out ++ wrL k t = wrL k s))
  case atStart => exact ⟨s, [], rfl, rfl, Nat.le_refl _, HN, Lib.hid rfl⟩
  case round =>
    obtain ⟨t, out, rfl, hg, hts, HB, HE⟩ := hrel
    have s1 := S_size t
    have s2 := S_toList t
    have hol : out.length ≤ 1376256 := by
      have e := congrArg List.length HE.out
      rw [List.length_append] at e
      have := HWL.out
      omega
    by_cases h0 : t = []
    · have HF := Lib.hid (show out = wrL k s by have e := HE.out; rw [h0, wrL_nil, List.append_nil] at e; exact e)
      have hem : t.isEmpty = true := by rw [h0]; rfl
      have c1 : S out ++ (⟨#[48]⟩ : ByteArray) = S (out ++ [48]) := S_append out [48]
      have c2 : S (out ++ [48]) ++ (⟨#[13, 10]⟩ : ByteArray) = S (out ++ [48] ++ [13, 10]) := S_append _ [13, 10]
      have c3 : S (out ++ [48] ++ [13, 10]) ++ (⟨#[13, 10]⟩ : ByteArray) = S (out ++ endC) := by rw [show (⟨#[13, 10]⟩ : ByteArray) = S [13, 10] from rfl, S_append]; simp [endC]
      have z1 := S_size out
      have l1 : (out ++ [48]).length = out.length + 1 := by simp
      have l2 : (out ++ [48] ++ [13, 10]).length = out.length + 3 := by simp
      generalize out ++ [48] ++ [13, 10] = o2 at *
      generalize out ++ [48] = o1 at *
      have z2 := S_size o1
      have z3 := S_size o2
      have HS := Lib.hid (bld_string HB.out)
      clear h0 hk HE
      go_wp2_with fail
      refine HS.out.mono ?_
      rintro e w1 ⟨rfl, k1⟩
      have K1 := Lib.hid k1
      clear k1
      go_wp2_with fail
      go_ret
      rw [← HF.out]
      exact ⟨rfl, K1.out⟩
    · have hem : t.isEmpty = false := by cases t with | nil => exact absurd rfl h0 | cons => rfl
      have hlp := len_pos h0
      obtain ⟨n, hn⟩ : ∃ n : Nat, min K t.length = n := ⟨_, rfl⟩
      have hst := wr_step k h0 (n := n) (by rw [hK]; exact hn)
      have hn1 : 0 < n := by omega
      have hn2 : n ≤ t.length := by omega
      have hmin : min ((K : Nat) : Int) ((t.length : Nat) : Int) = ((n : Nat) : Int) := by omega
      have HH := Lib.hid (fun w1 (k1 : Keep [] wr w1) => hexa_Hexnum n (by omega) w1 (H64.out.keep0 (HB.out.kept.trans k1)))
      have x1 : (S t).extract 0 n = S (t.take n) := by rw [S_extract, List.drop_zero]
      have x2 : (S t).extract n t.length = S (t.drop n) := by rw [S_extract, List.take_length]
      have i1 : (n : Int) ≤ (t.length : Int) := by omega
      have i0 : (0 : Int) ≤ (n : Int) := by omega
      have c1 : S (hexL n) ++ (⟨#[13, 10]⟩ : ByteArray) = S (hexL n ++ [13, 10]) := S_append _ [13, 10]
      have c2 : S (hexL n ++ [13, 10]) ++ S (t.take n) = S (hexL n ++ [13, 10] ++ t.take n) := S_append _ _
      have c3 : S (hexL n ++ [13, 10] ++ t.take n) ++ (⟨#[13, 10]⟩ : ByteArray) = S (hexL n ++ [13, 10] ++ t.take n ++ [13, 10]) := S_append _ [13, 10]
      have hxl := hexL_len (n := n) (by omega)
      have htl : (t.take n).length = n := by rw [List.length_take]; omega
      have l1 : (hexL n ++ [13, 10]).length = (hexL n).length + 2 := by simp
      have l2 : (hexL n ++ [13, 10] ++ t.take n).length = (hexL n).length + 2 + n := by simp [htl]; omega
      have l3 : (hexL n ++ [13, 10] ++ t.take n ++ [13, 10]).length = (hexL n).length + 4 + n := by simp [htl]; omega
      have HE2 := Lib.hid (show (out ++ (hexL n ++ [13, 10] ++ t.take n ++ [13, 10])) ++ wrL k (t.drop n) = wrL k s by rw [List.append_assoc, ← hst]; exact HE.out)
      have htd : (t.drop n).length = t.length - n := List.length_drop
      have hdl : (t.drop n).length < t.length := by omega
      clear hst h0 HE
      generalize hexL n ++ [13, 10] ++ t.take n ++ [13, 10] = p3 at *
      generalize hexL n ++ [13, 10] ++ t.take n = p2 at *
      generalize hexL n ++ [13, 10] = p1 at *
      generalize hexL n = p0 at *
      have z0 := S_size p0
      have z1 := S_size p1
      have z2 := S_size p2
      have z4 := S_size (t.take n)
      have HW := Lib.hid (fun w1 (k1 : Keep [] wr w1) => bld_write (HB.out.keep0 k1) p3 (by omega))
      go_upto_region 4 with fail
      go_cut [] (fun wx => Hid (Bld w wx nb (out ++ p3)))
      case first =>
        clear hk hmin HB H64
        go_region_with (first
          | (go_at_call 63; refine (HH.out _ (by repeat (first | exact Keep.refl _ _ | apply Keep.drew))).mono ?_; rintro e w2 ⟨rfl, k2⟩; have K2 := Lib.hid (show Keep [] wr w2 from Keep.trans (by repeat (first | exact Keep.refl _ _ | apply Keep.drew)) k2); clear k2)
          | (go_at_call 62; refine (HW.out _ (by repeat (first | exact K2.out | apply Keep.drew))).mono ?_; rintro e w3 ⟨rfl, hb'⟩; have HX := Lib.hid hb'; clear hb')
          | fail)
        all_goals
          go_wp2_with fail
          go_meet
          first | exact HX | exact Lib.hid (HX.out.keep0 (by repeat (first | exact Keep.refl _ _ | apply Keep.drew)))
      case rest =>
        have HC := hcut
        clear hcut HW HH HB
        go_wp2_with fail
        go_roundg (t.drop n).length
        case measure => omega
        case rel => exact ⟨t.drop n, out ++ p3, rfl, rfl, by omega, HC, HE2⟩
set_option maxRecDepth 100000 in
set_option maxHeartbeats 4000000 in
theorem ref11_Write (s : List UInt8) (by' : Int) (k : Nat) (w : World) (hs : s.length ≤ 65536) (hk : max by' 1 = ((k + 1 : Nat) : Int)) :
    Calls Tryd.prog 33 #[.string (S s), .int .i64 by'] w fun e w' => e = .returned (.string (S (wrL k s ++ endC))) ∧ w = w' := by
  obtain ⟨J, hJ, hj⟩ : ∃ J : Nat, min (max by' 1) (max ((s.length : Nat) : Int) 1) = (J : Int) ∧ ∃ j, j + 1 = J ∧ wrL j s = wrL k s ∧ J ≤ 65536 := by
    by_cases h : (k + 1) ≤ max s.length 1
    · exact ⟨k + 1, by omega, k, rfl, rfl, by omega⟩
    · refine ⟨max s.length 1, by omega, max s.length 1 - 1, by omega, wrL_clamp _ _ _ (by omega) (by omega), by omega⟩
  obtain ⟨j, hj1, hj2, hj3⟩ := hj
  rw [← hj2]
  have hj4 : 0 < J := by omega
  have HWL := Lib.hid (wrL_len j s.length s (Nat.le_refl _) (by omega))
  have s0 := S_size s
  clear hj2 hk
  go_enter Tryd.func33, Tryd.ntmps33
  go_wp2_with fail
  go_loopg [5, 6] (s.length + 1) (fun g v i wr => ∃ (a : Nat) (out : List UInt8), v = .string (S out) ∧ i = .int .i64 (a : Nat) ∧ a ≤ s.length + J ∧ g = s.length + 1 - a ∧ w = wr ∧ Hid (out ++ wrL j (s.drop a) = wrL j s))
  case atStart => exact ⟨0, [], rfl, rfl, by omega, by omega, rfl, Lib.hid (by simp)⟩
  case round =>
    obtain ⟨a, out, rfl, rfl, haJ, hga, rfl, HE⟩ := hrel
    have hol : out.length ≤ 1376256 := by
      have e := congrArg List.length HE.out
      rw [List.length_append] at e
      have := HWL.out
      omega
    by_cases hlt : a < s.length
    · have h0 : s.drop a ≠ [] := fun hh => by have := congrArg List.length hh; simp at this; omega
      have hdl : (s.drop a).length = s.length - a := List.length_drop
      obtain ⟨n, hn⟩ : ∃ n : Nat, min J (s.length - a) = n := ⟨_, rfl⟩
      have hst := wr_step j h0 (n := n) (by rw [hj1, hdl]; exact hn)
      have hn1 : 0 < n := by omega
      obtain ⟨z, hz⟩ : ∃ z : Nat, a + n = z := ⟨_, rfl⟩
      have hzl : z ≤ s.length := by omega
      have hmin : min ((a : Int) + (J : Int)) ((s.length : Nat) : Int) = ((z : Nat) : Int) := by omega
      have hw1 := IntWalk.i64_in ((a : Int) + (J : Int)) (by omega)
      have x1 : (S s).extract a z = S ((s.drop a).take n) := by rw [S_extract, List.drop_take, show z - a = n by omega]
      have i1 : (a : Int) ≤ (z : Int) := by omega
      have i0 : (0 : Int) ≤ (a : Int) := by omega
      have i2 : (z : Int) ≤ (s.length : Int) := by omega
      have htl : ((s.drop a).take n).length = n := by rw [List.length_take]; omega
      have HH := Lib.hid (fun w1 => ref_Hexnum n w1 (by omega))
      have c0 : S out ++ S (hexL n) = S (out ++ hexL n) := S_append _ _
      have c1 : S (out ++ hexL n) ++ (⟨#[13, 10]⟩ : ByteArray) = S (out ++ hexL n ++ [13, 10]) := S_append _ [13, 10]
      have c2 : S (out ++ hexL n ++ [13, 10]) ++ S ((s.drop a).take n) = S (out ++ hexL n ++ [13, 10] ++ (s.drop a).take n) := S_append _ _
      have c3 : S (out ++ hexL n ++ [13, 10] ++ (s.drop a).take n) ++ (⟨#[13, 10]⟩ : ByteArray) = S (out ++ hexL n ++ [13, 10] ++ (s.drop a).take n ++ [13, 10]) := S_append _ [13, 10]
      have hxl := hexL_len (n := n) (by omega)
      have l0 : (out ++ hexL n).length = out.length + (hexL n).length := by simp
      have l1 : (out ++ hexL n ++ [13, 10]).length = out.length + (hexL n).length + 2 := by simp; omega
      have l2 : (out ++ hexL n ++ [13, 10] ++ (s.drop a).take n).length = out.length + (hexL n).length + 2 + n := by rw [List.length_append, l1, htl]
      have HE2 := Lib.hid (show (out ++ hexL n ++ [13, 10] ++ (s.drop a).take n ++ [13, 10]) ++ wrL j (s.drop (a + J)) = wrL j s by
        have e := HE.out
        rw [hst, List.drop_drop] at e
        have e2 : s.drop (a + J) = s.drop (a + n) := by
          rcases Nat.le_total J (s.length - a) with h | h
          · rw [show n = J by omega]
          · rw [List.drop_eq_nil_of_le (by omega), List.drop_eq_nil_of_le (by omega)]
        rw [e2, ← e]
        simp only [List.append_assoc])
      clear hst h0 HE
      have z0 := S_size out
      have z9 := S_size ((s.drop a).take n)
      generalize out ++ hexL n ++ [13, 10] ++ (s.drop a).take n ++ [13, 10] = p3 at *
      generalize out ++ hexL n ++ [13, 10] ++ (s.drop a).take n = p2 at *
      generalize out ++ hexL n ++ [13, 10] = p1 at *
      generalize out ++ hexL n = p0 at *
      generalize hexL n = px at *
      generalize (s.drop a).take n = py at *
      have z1 := S_size p0
      have z2 := S_size p1
      have z3 := S_size p2
      have z4 := S_size px
      clear hJ
      go_wp2_with fail
      refine (HH.out _).mono ?_
      rintro e w1 ⟨rfl, rfl⟩
      go_wp2_with fail
      go_roundg (s.length + 1 - (a + J))
      case measure => omega
      case rel => exact ⟨a + J, p3, rfl, by go_num, by omega, rfl, rfl, HE2⟩
    · have HF := Lib.hid (show out = wrL j s by have e := HE.out; rw [List.drop_eq_nil_of_le (by omega), wrL_nil, List.append_nil] at e; exact e)
      have c3 : S out ++ (⟨#[48, 13, 10, 13, 10]⟩ : ByteArray) = S (out ++ endC) := S_append _ endC
      have z1 := S_size out
      clear hJ HE
      go_wp2_with fail
      go_ret
      rw [← HF.out]
      exact ⟨rfl, rfl⟩
end Go.Proofs.YtmfnciocnlmceaaDoor

/- Layer 11: what the statements are awake to; the statement ChunkWrites. No conditions but the library's table. -/
namespace Go.Proofs.YtmfnciocnlmceaaDoor
open Go.RowKit Go.Shelf

def awP1 : List UInt8 := [51, 13, 10, 97, 98]
def awP2 : List UInt8 := [99, 13, 10, 48, 13, 10, 13, 10, 114, 101, 115, 116]
def awP3 : List UInt8 := [53, 59, 120, 61, 121, 13, 10]
def awC1 : Ck := ⟨1, 1, 100, 0, [], [97, 98], 0⟩
def awC2 : Ck := ⟨4, 0, 100, 0, [114, 101, 115, 116], [97, 98, 99], 0⟩
theorem aw1 : addC (ck0 100) awP1 = awC1 := by kernel_rfl
theorem aw2 : addC awC1 awP2 = awC2 := by kernel_rfl
theorem aw3 : (addC (ck0 4) awP3).err = 4 := by decide +kernel
theorem aw4 : wrL 2 [97, 98, 99, 100, 101] ++ endC = [51, 13, 10, 97, 98, 99, 13, 10, 50, 13, 10, 100, 101, 13, 10, 48, 13, 10, 13, 10] := by
  have e1 : wrL 2 [97, 98, 99, 100, 101] = hexL 3 ++ crlfC ++ ([97, 98, 99] ++ crlfC) ++ wrL 2 [100, 101] := wrL_cons 2 (by simp)
  have e2 : wrL 2 [100, 101] = hexL 2 ++ crlfC ++ ([100, 101] ++ crlfC) ++ wrL 2 [] := wrL_cons 2 (by simp)
  rw [e1, e2, wrL_nil, hexL_small (by omega), hexL_small (by omega)]
  decide

set_option maxRecDepth 100000 in
set_option maxHeartbeats 4000000 in
theorem chunk_awake (w : World) (hm : ML w) (h64 : P64 w) : Calls Tryd.prog 24 #[] w fun e w' => e = .returned (.bool true) ∧ Keep [] w w' := by
  have hbig := hm.lt
  have HM := Lib.hid hm
  have H64 := Lib.hid h64
  have hN := cx_new w.heap.size 100 w (Nat.le_refl _)
  have HN := Lib.hid hN
  clear hN
  go_enter Tryd.func24, Tryd.ntmps24
  go_wp2_with fail
  refine HN.out.mono ?_
  rintro e w1 ⟨b, rfl, hb, hx, k1⟩
  have K1 := Lib.hid k1
  have HA := Lib.hid (cx_add (s := awP1) hx (HM.out.keep k1 (by simp)) hbig (by decide +kernel) (by decide +kernel) (fun _ => ck0_ok _))
  rw [aw1] at HA
  clear k1 hx
  go_wp2_with fail
  refine HA.out.mono ?_
  rintro e w2 ⟨rfl, X2, hx, k2, n2⟩
  have lo := hx.lo
  have K2 := Lib.hid (K1.out.above k2 (by intro x hh; simp at hh; omega))
  have HT := Lib.hid (cx_take hx)
  have q1 : (awC1.err != 0) = false := by decide
  have t0 := S_toList [97, 98]
  clear k2 hx n2 lo
  go_wp2_with fail
  refine HT.out.mono ?_
  rintro e w3 ⟨o, rfl, ho, hx, k3⟩
  obtain rfl : o = [97, 98] := ho.symm
  have lo := hx.lo
  have K3 := Lib.hid (K2.out.above k3 (fun x hh => (lo x hh).1))
  have HD := Lib.hid (cx_done hx (by decide))
  have HA := Lib.hid (cx_add (s := awP2) hx (HM.out.keep K3.out (by simp)) hbig (by decide) (by decide) (fun _ => by refine ⟨?_, ?_, ?_⟩ <;> decide))
  rw [aw2] at HA
  have HL := Lib.hid lo
  clear k3 hx lo ho
  go_wp2_with fail
  refine HD.out.mono ?_
  rintro e w3' ⟨rfl, rfl⟩
  have q2 : decide (awC1.st = 4) = false := by decide
  go_wp2_with fail
  refine HA.out.mono ?_
  rintro e w4 ⟨rfl, X4, hx, k4, n4⟩
  have q3 : (awC2.err != 0) = false := by decide
  have K4 := Lib.hid (K3.out.above k4 (fun x hh => (HL.out x hh).1))
  have HX := Lib.hid hx
  have HN := Lib.hid (cx_new w.heap.size 4 w4 K4.out.size)
  clear hx k4 n4
  go_wp2_with fail
  refine HN.out.mono ?_
  rintro e w5 ⟨d, rfl, hd, hy, k5⟩
  have K5 := Lib.hid (K4.out.trans k5)
  have HX5 := Lib.hid (HX.out.keep0 k5)
  have HY := Lib.hid hy
  have HT := Lib.hid (cx_take HX5.out)
  have sepX := Lib.hid (show ∀ x ∈ X4, x ∉ [d] from fun x hh hh2 => by have := HX.out.lo x hh; simp at hh2; omega)
  clear hy k5
  go_wp2_with fail
  refine HT.out.mono ?_
  rintro e w6 ⟨o, rfl, ho, hx, k6⟩
  obtain rfl : o = [99] := (List.append_cancel_left (show ([97, 98] : List UInt8) ++ [99] = [97, 98] ++ o from ho)).symm
  have K6 := Lib.hid (K5.out.above k6 (fun x hh => (HX5.out.lo x hh).1))
  have HY6 := Lib.hid (HY.out.keep k6 (apart_symm sepX.out))
  have HD := Lib.hid (cx_done hx (by decide))
  have HR := Lib.hid (cx_rest hx (by decide))
  have HS := Lib.hid (cx_size hx)
  have HA := Lib.hid (cx_add (s := awP3) HY6.out (HM.out.keep K6.out (by simp)) hbig (by decide +kernel) (by decide +kernel) (fun _ => ck0_ok _))
  have HW := Lib.hid (fun w' (k : Keep [] w w') => chunk_Write [97, 98, 99, 100, 101] 3 2 w' (H64.out.keep0 k) (by simp) (by decide))
  rw [aw3] at HA
  rw [aw4] at HW
  have t1 := S_toList [99]
  have t2 := S_toList [114, 101, 115, 116]

  have q7 := S_toList [51, 13, 10, 97, 98, 99, 13, 10, 50, 13, 10, 100, 101, 13, 10, 48, 13, 10, 13, 10]
  clear hx k6 ho
  go_wp2_with fail
  refine HD.out.mono ?_
  rintro e w6' ⟨rfl, rfl⟩
  have q4 : decide (awC2.st = 4) = true := by decide
  go_wp2_with fail
  refine HR.out.mono ?_
  rintro e w6' ⟨rfl, rfl⟩
  have q5 : S (if awC2.st = 4 then awC2.inp else []) = ⟨#[114, 101, 115, 116]⟩ := rfl
  go_wp2_with fail
  refine HS.out.mono ?_
  rintro e w6' ⟨rfl, rfl⟩
  have q6 : (awC2.dat.length : Int) = 3 := rfl
  go_wp2_with fail
  refine HA.out.mono ?_
  rintro e w7 ⟨rfl, X7, hx, k7, n7⟩
  have K7 := Lib.hid (K6.out.above k7 (fun x hh => (HY6.out.lo x hh).1))
  clear hx k7 n7
  go_wp2_with fail
  refine (HW.out _ K7.out).mono ?_
  rintro e w8 ⟨rfl, k8⟩
  have K8 := Lib.hid (K7.out.trans k8)
  clear k8
  go_wp2_with fail
  go_ret
  exact ⟨rfl, K8.out⟩

set_option maxRecDepth 100000 in
set_option maxHeartbeats 4000000 in
theorem chunkWrites_walk (s : List UInt8) (by' : Int) (w : World) (hm : ML w) (h64 : P64 w) (hs : s.length ≤ maxLen) (hb : in64 by') :
    Calls Tryd.prog 6 #[.string (S s), .int .i64 by'] w fun e w' => e = .returned (.bool true) ∧ Keep [] w w' := by
  have hs' : s.length ≤ 9223372036854775807 := hs
  have s0 := S_size s
  have HA := Lib.hid (chunk_awake w hm h64)
  have H64 := Lib.hid h64
  by_cases hl : 4096 < s.length
  · have q : decide ((s.length : Int) > 4096) = true := by simp; omega
    clear hl hb
    go_enter Tryd.func6, Tryd.ntmps6
    go_wp2_with fail
    refine HA.out.mono ?_
    rintro e w1 ⟨rfl, k1⟩
    have K1 := Lib.hid k1
    clear k1
    go_wp2_with fail
    go_ret
    exact ⟨rfl, K1.out⟩
  · have q : decide ((s.length : Int) > 4096) = false := by simp; omega
    obtain ⟨k, hk⟩ : ∃ k : Nat, max by' 1 = ((k + 1 : Nat) : Int) := ⟨(max by' 1).toNat - 1, by omega⟩
    have HW := Lib.hid (fun w' (kk : Keep [] w w') => chunk_Write s by' k w' (H64.out.keep0 kk) (by omega) hk)
    have HR := Lib.hid (fun w' => ref11_Write s by' k w' (by omega) hk)
    generalize wrL k s ++ endC = out at *
    have q2 := S_toList out
    clear hl hb hk
    go_enter Tryd.func6, Tryd.ntmps6
    go_wp2_with fail
    refine HA.out.mono ?_
    rintro e w1 ⟨rfl, k1⟩
    have K1 := Lib.hid k1
    clear k1
    go_wp2_with fail
    refine (HW.out _ K1.out).mono ?_
    rintro e w2 ⟨rfl, k2⟩
    have K2 := Lib.hid (K1.out.trans k2)
    clear k2
    go_wp2_with fail
    refine (HR.out _).mono ?_
    rintro e w3 ⟨rfl, rfl⟩
    go_wp2_with fail
    go_ret
    exact ⟨ret_bool (by simp), K2.out⟩
end Go.Proofs.YtmfnciocnlmceaaDoor

/- Layer 11, plain laws: what was written is read as it was, cut off it isn't whole, with a byte less allowed it is too long. No program. -/
namespace Go.Proofs.YtmfnciocnlmceaaDoor
open Go.RowKit

theorem addC_of_runs {c d : Ck} {s : List UInt8} {e : Int} (h0 : c.err = 0) (hok : c.ok) (hr : Runs (c.add s) d e) : addC c s = { d with err := if e = 17 then 0 else e } := by
  have h := addC_R (c := c) (s := s) (fun _ => hok)
  unfold AddR at h
  rw [if_neg (by simp [h0])] at h
  obtain ⟨d', e', hr', hc⟩ := h
  obtain ⟨rfl, rfl⟩ := runs_det hr hr'
  exact hc
theorem addC_rd {m : Int} (s : List UInt8) : Rdc m s (addC (ck0 m) s) := by
  have h := (rd_nil m).add (addC_R (c := ck0 m) (s := s) (fun _ => ck0_ok m))
  exact h.1 rfl
theorem addC_rq {m : Int} {all : List UInt8} {c : Ck} (h : Rq m all c) (s : List UInt8) : Rq m (all ++ s) (addC c s) := h.add (addC_R h.sound.1)
/-- all bytes of a body in chunks -/
def wrT (k : Nat) (s : List UInt8) : List UInt8 := wrL k s ++ endC
theorem back_full (k : Nat) (s more : List UInt8) (hs : s.length ≤ 1048576) : addC (ck0 (s.length : Nat)) (wrT k s ++ more) = ⟨4, 0, s.length, 0, more, s, 0⟩ := by
  have hr := runs_write k s.length more 0 s.length s [] 0 (Nat.le_refl _) hs (by simp)
  have e1 : (ck0 (s.length : Nat)).add (wrT k s ++ more) = ⟨0, 0, s.length, 0, wrL k s ++ (endC ++ more), [], 0⟩ := by
    unfold ck0 Ck.add wrT
    have : (max (s.length : Int) 0).toNat = s.length := by omega
    rw [this]
    simp
  rw [← e1] at hr
  rw [addC_of_runs rfl (ck0_ok _) hr]
  simp
theorem back_cut (k : Nat) (s : List UInt8) (hs : s.length ≤ 1048576) (j : Nat) (hj : j < (wrT k s).length) :
    (addC (ck0 (s.length : Nat)) ((wrT k s).take j)).err = 0 ∧ (addC (ck0 (s.length : Nat)) ((wrT k s).take j)).st ≠ 4 ∧ (addC (ck0 (s.length : Nat)) ((wrT k s).take j)).dat <+: s ∧ (addC (ck0 (s.length : Nat)) ((wrT k s).take j)).st ≤ 4 := by
  have hp := addC_rd (m := (s.length : Nat)) ((wrT k s).take j)
  have hf := addC_rd (m := (s.length : Nat)) (wrT k s)
  have hb := back_full k s [] hs
  rw [List.append_nil] at hb
  rw [hb] at hf
  generalize addC (ck0 (s.length : Nat)) ((wrT k s).take j) = d at *
  have hall : (wrT k s).take j ++ (wrT k s).drop j = wrT k s := List.take_append_drop _ _
  have hsd := hp.sound
  have h0 : d.err = 0 := by
    by_cases h : d.err = 0
    · exact h
    · rw [← hall] at hf
      have := (rd_prefix hp h hf).1
      exact this.symm
  have hadd := (hp.add (addC_R (c := d) (s := (wrT k s).drop j) (fun h => (hsd.1 h).1))).1 h0
  rw [hall] at hadd
  have heq := rd_det hf hadd
  have hok := (hsd.1 h0).1
  have hR := addC_R (c := d) (s := (wrT k s).drop j) (fun h => (hsd.1 h).1)
  unfold AddR at hR
  rw [if_neg (by simp [h0])] at hR
  obtain ⟨x, e, hr, hc⟩ := hR
  rw [← heq] at hc
  refine ⟨h0, fun h4 => ?_, ?_, hsd.2.2.2.1⟩
  · have h4' : (d.add ((wrT k s).drop j)).st = 4 := h4
    rcases runs_eq hr (step4 h4') with hh | hh
    · have := hh.1; simp at this
    · rw [hh.2.1] at hc
      have hi := congrArg Ck.inp hc
      have hl := congrArg List.length hi
      simp [Ck.add] at hl
      omega
  · have := (runs_ok hr (add_ok hok _)).2.2.2.2
    have hd := congrArg Ck.dat hc
    dsimp only at hd
    rw [hd]
    exact this
theorem back_long (k : Nat) (s : List UInt8) (hs : s.length ≤ 1048576) (h0 : s ≠ []) : (addC (ck0 ((s.length - 1 : Nat) : Int)) (wrT k s)).err = 4 ∧ (addC (ck0 ((s.length - 1 : Nat) : Int)) (wrT k s)).st = 0 ∧
    (addC (ck0 ((s.length - 1 : Nat) : Int)) (wrT k s)).inp.length + (addC (ck0 ((s.length - 1 : Nat) : Int)) (wrT k s)).dat.length ≤ (wrT k s).length ∧ ((addC (ck0 ((s.length - 1 : Nat) : Int)) (wrT k s)).most : Int) ≤ 1048576 := by
  have hp := len_pos h0
  obtain ⟨d, hr, h1, h2, h3⟩ := runs_long k (s.length - 1) endC 0 s.length s [] 0 (Nat.le_refl _) hs (by simp) (by simp; omega)
  have e1 : (ck0 ((s.length - 1 : Nat) : Int)).add (wrT k s) = ⟨0, 0, s.length - 1, 0, wrL k s ++ endC, [], 0⟩ := by
    unfold ck0 Ck.add wrT
    have : (max ((s.length - 1 : Nat) : Int) 0).toNat = s.length - 1 := by omega
    rw [this]
    simp
  have hsd := (addC_rd (m := ((s.length - 1 : Nat) : Int)) (wrT k s)).sound
  rw [← e1] at hr
  have hx := addC_of_runs (c := ck0 ((s.length - 1 : Nat) : Int)) rfl (ck0_ok _) hr
  refine ⟨by rw [hx]; simp, by rw [hx]; exact h1, hsd.2.2.1, by rw [hsd.2.1]; omega⟩
theorem addC_bad {c : Ck} (h : c.err ≠ 0) (s : List UInt8) : addC c s = c := by unfold addC; rw [if_pos h]
theorem wrT_len (k : Nat) (s : List UInt8) (h : s.length ≤ 1048576) : (wrT k s).length ≤ 21 * s.length + 5 := by
  have := wrL_len k s.length s (Nat.le_refl _) h
  unfold wrT
  simp [endC]
  omega
theorem wrT_pos (k : Nat) (s : List UInt8) : 5 ≤ (wrT k s).length := by unfold wrT; simp [endC]
end Go.Proofs.YtmfnciocnlmceaaDoor

/- Layer 11: the document's line, number, ended, last. No conditions but on lengths. -/
namespace Go.Proofs.YtmfnciocnlmceaaDoor
open Go.RowKit Go.Shelf

theorem int3_ret {s : List UInt8} {a b c d : Int} {t : List UInt8} (h1 : s = t) (h : a = c) (h2 : b = d) : Ending.returned (.tuple #[.string (S s), .int .i64 a, .int .i64 b]) = .returned (.tuple #[.string (S t), .int .i64 c, .int .i64 d]) := by rw [h1, h, h2]
set_option maxRecDepth 100000 in
set_option maxHeartbeats 2000000 in
theorem ref11_line (s : List UInt8) (a : Nat) (w : World) (ha : a ≤ s.length) (hl : s.length ≤ 1048576) :
    Calls Tryd.prog 55 #[.string (S s), .int .i64 (a : Nat)] w fun e w' => e = .returned (.tuple #[.string (S (lnC (s.drop a)).t), .int .i64 ((nxt s a : Nat) : Int), .int .i64 (lnC (s.drop a)).e]) ∧ w = w' := by
  have sz := S_size s
  have hld : (s.drop a).length = s.length - a := List.length_drop
  obtain ⟨m, hm⟩ : ∃ m, min s.length (a + 256) = m := ⟨_, rfl⟩
  have hmin : min ((s.length : Nat) : Int) ((a : Int) + 256) = ((m : Nat) : Int) := by omega
  have hx : (S s).extract a m = S ((s.drop a).take 256) := by
    rw [S_extract]
    congr 1
    rw [List.drop_take]
    rcases Nat.le_total s.length (a + 256) with hh | hh
    · rw [List.take_of_length_le (by rw [hld]; omega), List.take_of_length_le (by rw [hld]; omega)]
    · rw [show m - a = 256 by omega]
  have hF := Lib.hid (fun w1 => ref_Find ((s.drop a).take 256) 10 w1 (show ((s.drop a).take 256).length ≤ 9223372036854775807 by rw [List.length_take]; omega))
  have hw1 := IntWalk.i64_in ((a : Int) + 256) (by omega)
  have i0 : (0 : Int) ≤ (a : Int) := by omega
  have i1 : (a : Int) ≤ (m : Int) := by omega
  have i2 : (m : Int) ≤ (s.length : Int) := by omega
  have hcases := line_cases (s.drop a)
  have hshort := line_short (l := s.drop a)
  have hat := fun k => line_at (l := s.drop a) (k := k)
  have hN : nxt s a = if (lnC (s.drop a)).e = 0 then s.length - (lnC (s.drop a)).r.length else 0 := rfl
  have hsx : ∀ k : Nat, Lib.indexByte ((s.drop a).take 256) 10 = (k : Nat) → (s.drop a)[k]? = some 10 := by
    intro k hk
    have h := (Lib.indexByte_some hk).1
    rw [List.getElem?_take] at h
    split at h
    · exact h
    · cases h
  generalize nxt s a = nx at *
  rcases hcases with hn | ⟨k, hk, hkl, h256⟩
  · have hL := hshort hn
    generalize Lib.indexByte ((s.drop a).take 256) 10 = ix at *
    by_cases h2 : 256 ≤ (s.drop a).length
    · rw [if_pos h2] at hL
      rw [hL, if_neg (by simp)] at hN
      have HX := Lib.hid (And.intro hL hN)
      have h2' : decide (((s.length : Nat) : Int) - (a : Int) ≥ 256) = true := by simp; omega
      have hw2 := IntWalk.i64_in ((s.length : Int) - (a : Int)) (by omega)
      have hixn : decide (ix < 0) = true := by simp; omega
      clear hshort hat hsx hL hN hm
      go_enter Tryd.func55, Tryd.ntmps55
      go_wp2_with fail
      refine (hF.out _).mono ?_
      rintro e w1 ⟨rfl, rfl⟩
      go_wp2_with fail
      refine bodyPost_ret (results_tmp3 rfl _ _ _) rfl ⟨?_, rfl⟩
      rw [HX.out.1, HX.out.2]
      rfl
    · rw [if_neg h2] at hL
      rw [hL, if_neg (by simp)] at hN
      have HX := Lib.hid (And.intro hL hN)
      have h2' : decide (((s.length : Nat) : Int) - (a : Int) ≥ 256) = false := by simp; omega
      have hw2 := IntWalk.i64_in ((s.length : Int) - (a : Int)) (by omega)
      have hixn : decide (ix < 0) = true := by simp; omega
      clear hshort hat hsx hL hN hm
      go_enter Tryd.func55, Tryd.ntmps55
      go_wp2_with fail
      refine (hF.out _).mono ?_
      rintro e w1 ⟨rfl, rfl⟩
      go_wp2_with fail
      refine bodyPost_ret (results_tmp3 rfl _ _ _) rfl ⟨?_, rfl⟩
      rw [HX.out.1, HX.out.2]
      rfl
  · have hL := hat k hk
    have h10 := hsx k hk
    have hsu := suffix_crlf h10
    rw [hk] at hF
    rw [hsu] at hL
    have hak : a + k < s.length := by omega
    have ht : (S s).extract a (a + k) = S ((s.drop a).take k) := by rw [S_extract, List.drop_take, show a + k - a = k by omega]
    have hw2 := IntWalk.i64_in ((a : Int) + (k : Int)) (by omega)
    have hw3 := IntWalk.i64_in ((a : Int) + (k : Int) + 1) (by omega)
    have n2 : ((a : Int) + (k : Int)).toNat = a + k := by omega
    have i3 : (a : Int) ≤ (a : Int) + (k : Int) := by omega
    have i4 : (a : Int) + (k : Int) ≤ (s.length : Int) := by omega
    have i5 : (0 : Int) ≤ (a : Int) + (k : Int) := by omega
    have lk : ((s.drop a).take k).length = k := by rw [List.length_take]; omega
    have szt := S_size ((s.drop a).take k)
    have szl := S_toList ((s.drop a).take k)
    have hixn : decide ((k : Int) < 0) = false := by simp
    by_cases hk0 : k = 0
    · have hbad : (decide (0 < k) && decide ((s.drop a)[k - 1]? = some 13)) = false := by simp [hk0]
      rw [hbad, if_neg (by simp)] at hL
      rw [hL, if_neg (by simp)] at hN
      have HX := Lib.hid (And.intro hL hN)
      have hem : ((s.drop a).take k).isEmpty = true := by rw [hk0]; rfl
      clear hshort hat hsx hL hN hm h10 hsu hbad
      generalize (s.drop a).take k = tk at *
      go_enter Tryd.func55, Tryd.ntmps55
      go_wp2_with fail
      refine (hF.out _).mono ?_
      rintro e w1 ⟨rfl, rfl⟩
      go_wp2_with fail
      refine bodyPost_ret (results_tmp3 rfl _ _ _) rfl ⟨?_, rfl⟩
      rw [HX.out.1, HX.out.2]
      rfl
    · have hem : ((s.drop a).take k).isEmpty = false := by
        cases hh : (s.drop a).take k with
        | nil => rw [hh] at lk; simp at lk; omega
        | cons => rfl
      obtain ⟨j, rfl⟩ : ∃ j, k = j + 1 := ⟨k - 1, by omega⟩
      obtain ⟨c, hc⟩ : ∃ c, (s.drop a)[j]? = some c := ⟨_, List.getElem?_eq_getElem (by omega)⟩
      rw [show j + 1 - 1 = j by omega, hc, decide_eq_true (show 0 < j + 1 by omega), Bool.true_and] at hL
      have hcg := fun hk2 => S_get (l := (s.drop a).take (j + 1)) (k := j) (c := c) (by rw [List.getElem?_take, if_pos (by omega)]; exact hc) hk2
      have ht2 : (S ((s.drop a).take (j + 1))).extract 0 j = S ((s.drop a).take j) := by rw [S_extract, List.drop_zero, List.take_take]; congr 2; omega
      have hsub : (((j + 1 : Nat) : Int)) - 1 = (j : Int) := by omega
      have hws := IntWalk.i64_in (j : Int) (by omega)
      have j0 : (0 : Int) ≤ (j : Int) := by omega
      have j1 : (j : Int) < ((j + 1 : Nat) : Int) := by omega
      have j2 : (j : Int) ≤ ((j + 1 : Nat) : Int) := by omega
      have hts : Lib.trimSuffix ((s.drop a).take (j + 1 + 1)) crlfC = if Lib.hasSuffix ((s.drop a).take (j + 1 + 1)) crlfC then ((s.drop a).take (j + 1 + 1)).take (((s.drop a).take (j + 1 + 1)).length - crlfC.length) else (s.drop a).take (j + 1 + 1) := rfl
      by_cases h13 : c = 13
      · subst h13
        rw [if_pos (by simp)] at hL
        have hsut : Lib.hasSuffix ((s.drop a).take (j + 1 + 1)) crlfC = true := by rw [hsu, show j + 1 - 1 = j by omega, hc]; simp
        rw [hsut, if_pos rfl] at hts
        have htl : Lib.trimSuffix ((s.drop a).take (j + 1 + 1)) crlfC = (s.drop a).take j := by
          rw [hts, List.take_take]
          congr 1
          rw [List.length_take]
          show min (min (j + 1 + 1) (s.drop a).length - 2) (j + 1 + 1) = j
          omega
        rw [htl] at hL
        rw [hL, if_pos rfl] at hN
        have hnx : nx = a + (j + 1) + 1 := by rw [hN]; show s.length - ((s.drop a).drop (j + 1 + 1)).length = _; rw [List.length_drop, hld]; omega
        have HX := Lib.hid (And.intro hL hnx)
        have q1 : (((13 : UInt8).toNat : Int) != 13) = false := by decide
        clear hshort hat hsx hL hN hm h10 hsu hts htl hsut hnx hc
        generalize (s.drop a).take (j + 1) = tk at *
        generalize (s.drop a).take j = tj at *
        generalize hjj : j + 1 = j1' at *
        go_enter Tryd.func55, Tryd.ntmps55
        go_wp2_with fail
        refine (hF.out _).mono ?_
        rintro e w1 ⟨rfl, rfl⟩
        go_wp2_with fail
        refine bodyPost_ret (results_tmp3 rfl _ _ _) rfl ⟨?_, rfl⟩
        rw [HX.out.1, HX.out.2]
        exact int3_ret rfl (by omega) rfl
      · rw [if_neg (by simp [h13])] at hL
        rw [hL, if_neg (by simp)] at hN
        have HX := Lib.hid (And.intro hL hN)
        have hc13 : ((c.toNat : Nat) : Int) ≠ 13 := fun h => h13 (UInt8.toNat_inj.1 (show c.toNat = (13 : UInt8).toNat by show c.toNat = 13; omega))
        have q1 := (int_ne hc13).1
        have q2 := (int_ne hc13).2
        clear hshort hat hsx hL hN hm h10 hsu hts hc
        generalize (s.drop a).take (j + 1) = tk at *
        generalize (s.drop a).take j = tj at *
        generalize hjj : j + 1 = j1' at *
        go_enter Tryd.func55, Tryd.ntmps55
        go_wp2_with fail
        refine (hF.out _).mono ?_
        rintro e w1 ⟨rfl, rfl⟩
        go_wp2_with fail
        refine bodyPost_ret (results_tmp3 rfl _ _ _) rfl ⟨?_, rfl⟩
        rw [HX.out.1, HX.out.2]
        rfl
end Go.Proofs.YtmfnciocnlmceaaDoor

/- Layer 11: the document's number, ended, last. No conditions but on lengths. -/
namespace Go.Proofs.YtmfnciocnlmceaaDoor
open Go.RowKit Go.Shelf

theorem numE_bad {t : List UInt8} (m : Int) (h : restOk (numRest t) = false) : numE t m = 3 ∧ numV2 t m = 0 := by unfold numE numV2; rw [h]; exact ⟨rfl, rfl⟩
theorem numE_ok {t : List UInt8} (m : Int) (h : restOk (numRest t) = true) : numE t m = (if unhexE (numT t) m = 14 then 4 else unhexE (numT t) m) ∧ numV2 t m = unhexV (numT t) m := by unfold numE numV2; rw [h]; exact ⟨rfl, rfl⟩
theorem rest_cons (c : UInt8) (r : List UInt8) : restOk (c :: r) = (isTxt (c :: r) && (decide (c = 32) || decide (c = 9) || decide (c = 59))) := by
  unfold restOk
  rw [show (c :: r).getD 0 0 = c from rfl, sep_mem]
  rfl

set_option maxRecDepth 100000 in
set_option maxHeartbeats 6000000 in
theorem ref11_number (t : List UInt8) (m : Int) (w : World) (hl : t.length ≤ 1048576) :
    Calls Tryd.prog 57 #[.string (S t), .int .i64 m] w fun e w' => e = .returned (.tuple #[.int .i64 (numV2 t m), .int .i64 (numE t m)]) ∧ w = w' := by
  have hl' : t.length ≤ 9223372036854775807 := by omega
  have sz := S_size t
  have HV := Lib.hid (fun (b : UInt8) (w1 : World) => ref_Value b w1)
  go_enter Tryd.func57, Tryd.ntmps57
  go_wp2_with fail
  go_loopg [6] t.length (fun g i wr => ∃ k : Nat, i = .int .i64 k ∧ k ≤ t.length ∧ g = t.length - k ∧ w = wr ∧ Hid ((t.take k).all digOk = true))
  case atStart => exact ⟨0, rfl, Nat.zero_le _, by omega, rfl, by simp [Hid]⟩
  case round =>
    obtain ⟨k, rfl, hk, hgk, rfl, HA⟩ := hrel
    by_cases hlt : k < t.length
    · obtain ⟨c, hg⟩ : ∃ c, t[k]? = some c := ⟨_, List.getElem?_eq_getElem hlt⟩
      have hgc := fun hk2 => S_get (l := t) (k := k) (c := c) hg hk2
      have hdc := HV.out c
      have HG := Lib.hid hg
      have hh0 : (0 : Int) ≤ (k : Int) := by omega
      have hh1 : (k : Int) < (t.length : Int) := by omega
      have hkw := IntWalk.i64_in ((k : Int) + 1) (by omega)
      clear hg
      cases hd : digOk c with
      | true =>
        rw [hd, if_pos rfl] at hdc
        have HA2 := Lib.hid (show (t.take (k + 1)).all digOk = true by rw [take_snoc HG.out, List.all_append, HA.out]; simp [hd])
        obtain ⟨v0, _⟩ := digV_range c
        have v0' : decide (digV c ≥ 0) = true := by simp; omega
        generalize digV c = x at hdc v0 v0'
        have HDC := Lib.hid hdc
        clear hd hdc
        go_wp2_with fail
        refine (HDC.out _).mono ?_
        rintro e w1 ⟨rfl, rfl⟩
        go_wp2_with fail
        go_roundg (t.length - (k + 1))
        case measure => omega
        case rel => exact ⟨k + 1, by go_num, by omega, rfl, rfl, HA2⟩
      | false =>
        rw [hd, if_neg (by simp)] at hdc
        have hnr := numRest_at hk HA.out (fun b hb => by rw [HG.out] at hb; cases hb; exact hd)
        have hnt := numT_at hk hnr
        have hdr : t.drop k = c :: t.drop (k + 1) := drop_at HG.out
        have hrc := rest_cons c (t.drop (k + 1))
        rw [← hdr, ← hnr] at hrc
        have hx1 : (S t).extract k t.length = S (numRest t) := by rw [S_extract, List.take_length, hnr]
        have hx2 : (S t).extract 0 k = S (numT t) := by rw [S_extract, List.drop_zero, hnt]
        have lnr : (numRest t).length ≤ 1048576 := by have := num_len' t; omega
        have HT := Lib.hid (fun w1 => ref_Text (numRest t) w1 (show (numRest t).length ≤ 9223372036854775807 by omega))
        have HU := Lib.hid (fun w1 => ref_Unhexnum (numT t) m w1 (show (numT t).length ≤ 9223372036854775807 by rw [hnt, List.length_take]; omega))
        have hbad := numE_bad (t := t) m
        have hok := numE_ok (t := t) m
        have hur := (unhex_range (numT t) m).2
        have hcN := u8_nat c
        generalize hne : numE t m = ne at *
        generalize hnv : numV2 t m = nv at *
        have HN := Lib.hid (And.intro hnv hne)
        clear hne hnv
        generalize hro : restOk (numRest t) = ro at *
        generalize unhexE (numT t) m = ue at *
        generalize unhexV (numT t) m = uv at *
        generalize numT t = nt at *
        generalize numRest t = nr at *
        have HDC := Lib.hid hdc
        have kk2 : (k : Int) ≤ (t.length : Int) := by omega
        clear hd hdc hnr hnt hdr hro HV hl' HA
        by_cases hsep : c = 32 ∨ c = 9 ∨ c = 59
        · have hsb : (decide (c = 32) || decide (c = 9) || decide (c = 59)) = true := by rcases hsep with rfl | rfl | rfl <;> decide
          rw [hsb, Bool.and_true] at hrc
          have hsn : c.toNat = 32 ∨ c.toNat = 9 ∨ c.toNat = 59 := by rcases hsep with rfl | rfl | rfl <;> decide
          clear hsb hsep
          go_wp2_with fail
          refine (HDC.out _).mono ?_
          rintro e w1 ⟨rfl, rfl⟩
          go_upto_region 4 with fail
          go_cut [50] (fun y wx => y = .bool (!isTxt nr) ∧ w = wx)
          case first =>
            clear hbad hok hur hrc HU
            rcases hsn with hcn | hcn | hcn
            all_goals
              go_wp2_with fail
              refine (HT.out _).mono ?_
              rintro e w1 ⟨rfl, rfl⟩
              go_wp2_with fail
              go_meet
              exact ⟨rfl, rfl⟩
          case rest =>
          obtain ⟨rfl, rfl⟩ := hcut
          clear hsn hgc HDC HT
          cases htx : isTxt nr with
          | false =>
            rw [htx] at hrc
            obtain ⟨h1, h2⟩ := hbad hrc
            have HF := Lib.hid (And.intro h2 h1)
            clear hbad hok hur hrc htx h1 h2
            go_wp2_with fail
            go_ret2
            exact ⟨two_ret (HF.out.1.symm.trans HN.out.1.symm) (HF.out.2.symm.trans HN.out.2.symm), rfl⟩
          | true =>
            rw [htx] at hrc
            obtain ⟨h1, h2⟩ := hok hrc
            by_cases h14 : ue = 14
            · rw [if_pos h14] at h1
              have huv := (hur (by omega)).1
              have HF := Lib.hid (And.intro (h2.trans huv) h1)
              have q1 := (int_eq h14).1
              clear hbad hok hur hrc htx h1 h2 h14 huv
              go_wp2_with fail
              refine (HU.out _).mono ?_
              rintro e w1 ⟨rfl, rfl⟩
              go_wp2_with fail
              go_ret2
              exact ⟨two_ret (HF.out.1.symm.trans HN.out.1.symm) (HF.out.2.symm.trans HN.out.2.symm), rfl⟩
            · rw [if_neg h14] at h1
              have HF := Lib.hid (And.intro h2 h1)
              have q1 := (int_ne h14).1
              clear hbad hok hur hrc htx h1 h2 h14
              go_wp2_with fail
              refine (HU.out _).mono ?_
              rintro e w1 ⟨rfl, rfl⟩
              go_wp2_with fail
              go_ret2
              exact ⟨two_ret (HF.out.1.symm.trans HN.out.1.symm) (HF.out.2.symm.trans HN.out.2.symm), rfl⟩
        · have hsb : (decide (c = 32) || decide (c = 9) || decide (c = 59)) = false := by
            simp only [not_or] at hsep
            simp [hsep]
          rw [hsb, Bool.and_false] at hrc
          obtain ⟨h1, h2⟩ := hbad hrc
          have HF := Lib.hid (And.intro h2 h1)
          have n1 : ((c.toNat : Nat) : Int) ≠ 32 := fun h => hsep (.inl (UInt8.toNat_inj.1 (show c.toNat = 32 by omega)))
          have n2 : ((c.toNat : Nat) : Int) ≠ 9 := fun h => hsep (.inr (.inl (UInt8.toNat_inj.1 (show c.toNat = 9 by omega))))
          have n3 : ((c.toNat : Nat) : Int) ≠ 59 := fun h => hsep (.inr (.inr (UInt8.toNat_inj.1 (show c.toNat = 59 by omega))))
          have q1 := (int_ne n1).2
          have q2 := (int_ne n2).2
          have q3 := (int_ne n3).2
          clear hbad hok hur hrc h1 h2 hsb hsep n1 n2 n3
          go_wp2_with fail
          refine (HDC.out _).mono ?_
          rintro e w1 ⟨rfl, rfl⟩
          go_wp2_with fail
          go_ret2
          exact ⟨two_ret (HF.out.1.symm.trans HN.out.1.symm) (HF.out.2.symm.trans HN.out.2.symm), rfl⟩
    · have hkl : k = t.length := by omega
      have hnr := numRest_at hk HA.out (fun b hb => by have := (List.getElem?_eq_some_iff.1 hb).1; omega)
      have hnt := numT_at hk hnr
      have hdr : t.drop k = [] := List.drop_eq_nil_of_le (by omega)
      have hx1 : (S t).extract k t.length = S (numRest t) := by rw [S_extract, List.take_length, hnr]
      have hx2 : (S t).extract 0 k = S (numT t) := by rw [S_extract, List.drop_zero, hnt]
      rw [hdr] at hnr
      have HT := Lib.hid (fun w1 => ref_Text (numRest t) w1 (show (numRest t).length ≤ 9223372036854775807 by rw [hnr]; decide))
      have HU := Lib.hid (fun w1 => ref_Unhexnum (numT t) m w1 (show (numT t).length ≤ 9223372036854775807 by rw [hnt, List.length_take]; omega))
      have hok := numE_ok (t := t) m (by rw [hnr]; rfl)
      have hur := (unhex_range (numT t) m).2
      have htx : isTxt (numRest t) = true := by rw [hnr]; rfl
      rw [htx] at HT
      generalize hne : numE t m = ne at *
      generalize hnv : numV2 t m = nv at *
      have HN := Lib.hid (And.intro hnv hne)
      clear hne hnv
      generalize unhexE (numT t) m = ue at *
      generalize unhexV (numT t) m = uv at *
      generalize numT t = nt at *
      generalize numRest t = nr at *
      have kk0 : (0 : Int) ≤ (k : Int) := by omega
      have kk2 : (k : Int) ≤ (t.length : Int) := by omega
      have hge : ¬ (k : Int) < (t.length : Int) := by omega
      obtain ⟨h1, h2⟩ := hok
      clear hnr hnt hdr HV hl' HA htx hkl hlt
      by_cases h14 : ue = 14
      · rw [if_pos h14] at h1
        have huv := (hur (by omega)).1
        have HF := Lib.hid (And.intro (h2.trans huv) h1)
        have q1 := (int_eq h14).1
        clear hur h1 h2 h14 huv
        go_wp2_with fail
        refine (HT.out _).mono ?_
        rintro e w1 ⟨rfl, rfl⟩
        go_wp2_with fail
        refine (HU.out _).mono ?_
        rintro e w1 ⟨rfl, rfl⟩
        go_wp2_with fail
        go_ret2
        exact ⟨two_ret (HF.out.1.symm.trans HN.out.1.symm) (HF.out.2.symm.trans HN.out.2.symm), rfl⟩
      · rw [if_neg h14] at h1
        have HF := Lib.hid (And.intro h2 h1)
        have q1 := (int_ne h14).1
        clear hur h1 h2 h14
        go_wp2_with fail
        refine (HT.out _).mono ?_
        rintro e w1 ⟨rfl, rfl⟩
        go_wp2_with fail
        refine (HU.out _).mono ?_
        rintro e w1 ⟨rfl, rfl⟩
        go_wp2_with fail
        go_ret2
        exact ⟨two_ret (HF.out.1.symm.trans HN.out.1.symm) (HF.out.2.symm.trans HN.out.2.symm), rfl⟩

theorem Blk.there' {w : World} {b : Nat} {T : TypeId} {xs : List Value} (h : Blk w b T xs) (o n : Nat) (hl : o + n ≤ xs.length) : w.there b o n := fun j hj =>
  ⟨by rw [h.cell, List.getElem?_eq_getElem (by omega)]; rfl, h.frozen _⟩
theorem Blk.range' {w : World} {b : Nat} {T : TypeId} {xs : List Value} (h : Blk w b T xs) : w.rangeAt b 0 xs := fun j v hv => by rw [Nat.zero_add]; exact h.get hv
theorem Keep.setCells' {S : List Nat} {a : World} (b : Nat) (hb : b < a.heap.size → b ∈ S) : ∀ (vs : List Value) (o : Nat) (w : World), Keep S a w → Keep S a (w.setCells b o vs)
  | [], _, _, h => h
  | v :: r, o, w, h => by
    rw [World.setCells]
    exact Keep.setCells' b hb r (o + 1) _ (h.setCell _ _ hb)
theorem Bdy.len (b : Bdy) : b.cells.length = 4 := rfl
theorem bdy_size (b : Bdy) : (Tryd.prog.info? 46).map (·.size) = some b.cells.length := by kernel_rfl
theorem bdy_load {w : World} {b : Nat} {x : Bdy} (h : w.rangeAt b 0 x.cells) : (loadVar 46 ⟨b, 0, none⟩).run Tryd.prog w = .ok (.agg x.cells.toArray) w :=
  run_loadVar_mid (P := Tryd.prog) w b 0 46 x.cells _ h Tryd.underlying46 rfl (bdy_size x)
set_option maxRecDepth 100000 in
set_option maxHeartbeats 1000000 in
theorem ref11_ended (b : Bdy) (k : Int) (w : World) :
    Calls Tryd.prog 56 #[.agg b.cells.toArray, .int .i64 k] w fun e w' => e = .returned (.agg (endB b k).cells.toArray) ∧ Keep [] w w' := by
  obtain ⟨bd, bo, bs, be⟩ := b
  by_cases h : k = 17
  · have hE : endB ⟨bd, bo, bs, be⟩ k = ⟨bd, bo, bs, be⟩ := by unfold endB; rw [if_pos h]
    rw [hE]
    have q1 := (int_eq h).1
    have q2 := (int_eq h).2
    have hb := Blk.newA (w.alloc (.cells #[.string (S bd), .bool bo, .int .i64 (bs : Nat), .int .i64 be] 46)) (Bdy.cells ⟨bd, bo, bs, be⟩).toArray 46
    have hload := bdy_load (x := ⟨bd, bo, bs, be⟩) hb.range'
    have hsz : (w.alloc (.cells #[.string (S bd), .bool bo, .int .i64 (bs : Nat), .int .i64 be] 46)).heap.size = w.heap.size + 1 := by simp
    rw [hsz] at hload
    have HLo := Lib.hid hload
    clear h hload hb hsz
    dsimp only [Bdy.cells]
    go_enter Tryd.func56, Tryd.ntmps56
    go_wp2_with fail
    refine bodyPost_ret (v := .agg #[.string (S bd), .bool bo, .int .i64 (bs : Nat), .int .i64 be]) (by simp [results, Tryd.results56, asAddr, Result.andThen]; exact HLo.out) rfl ⟨rfl, ((Keep.refl [] w).alloc _).alloc _⟩
  · have hE : endB ⟨bd, bo, bs, be⟩ k = ⟨bd, bo, bs, k⟩ := by unfold endB; rw [if_neg h]
    rw [hE]
    have q1 := (int_ne h).1
    have q2 := (int_ne h).2
    have hb := Blk.newA (w.alloc (.cells #[.string (S bd), .bool bo, .int .i64 (bs : Nat), .int .i64 k] 46)) (Bdy.cells ⟨bd, bo, bs, k⟩).toArray 46
    have hload := bdy_load (x := ⟨bd, bo, bs, k⟩) hb.range'
    have hsz : (w.alloc (.cells #[.string (S bd), .bool bo, .int .i64 (bs : Nat), .int .i64 k] 46)).heap.size = w.heap.size + 1 := by simp
    rw [hsz] at hload
    have HLo := Lib.hid hload
    clear h hload hb hsz
    dsimp only [Bdy.cells]
    go_enter Tryd.func56, Tryd.ntmps56
    go_wp2_with fail
    refine bodyPost_ret (v := .agg #[.string (S bd), .bool bo, .int .i64 (bs : Nat), .int .i64 k]) (by simp [results, Tryd.results56, asAddr, Result.andThen]; exact HLo.out) rfl ⟨rfl, ((Keep.refl [] w).alloc _).alloc _⟩
end Go.Proofs.YtmfnciocnlmceaaDoor

/- Layer 11: the document's last. No conditions but on lengths. -/
namespace Go.Proofs.YtmfnciocnlmceaaDoor
open Go.RowKit Go.Shelf

theorem Bdy.one (b : Bdy) : ∀ v ∈ b.cells, v.oneCell' = true := by
  intro v hv
  simp [Bdy.cells] at hv
  rcases hv with rfl | rfl | rfl | rfl <;> rfl
def zB : List Value := [.string ⟨#[]⟩, .bool false, .int .i64 0, .int .i64 0]
def bdy0 (D : List UInt8) : Bdy := ⟨D, false, 0, 0⟩
theorem bdy_st (x : Bdy) : (Tryd.prog.info? 46).map (·.size) = some x.cells.toArray.size ∧ x.cells.toArray.all (·.oneCell') = true := ⟨by rw [List.size_toArray]; exact bdy_size x, all_oneCell_toArray x.one⟩
theorem ref_parse2 (l : List UInt8) (w : World) (hl : l.length ≤ 4611686018427387904) : Calls Tryd.prog 87 #[.string (S l)] w fun e w' => e = .returned (.tuple #[.agg #[.string (S (parseV l).name), .string (S (parseV l).value)], .int .i64 (parseE l)]) ∧ Keep [] w w' := ref_parse_is w hl rfl rfl

set_option maxRecDepth 100000 in
set_option maxHeartbeats 8000000 in
theorem ref11_last (D s : List UInt8) (a lf most : Nat) (d : Ck) (e0 : Int) (w : World) (hs : s.length ≤ 1048576) (ha : a ≤ s.length) (hr : Runs ⟨3, lf, most, 0, s.drop a, D, 0⟩ d e0) :
    Calls Tryd.prog 58 #[.agg (bdy0 D).cells.toArray, .string (S s), .int .i64 (a : Nat)] w fun e w' => e = .returned (.agg (bodyOf s d e0).cells.toArray) ∧ Keep [] w w' := by
  have hkA := ((Keep.refl [] w).alloc (.cells (bdy0 D).cells.toArray 46)).alloc (.cells zB.toArray 46)
  have hbA := (Blk.newA w (bdy0 D).cells.toArray 46).alloc (.cells zB.toArray 46)
  have hbR := Blk.newA (w.alloc (.cells (bdy0 D).cells.toArray 46)) zB.toArray 46
  have hsz : (w.alloc (.cells (bdy0 D).cells.toArray 46)).heap.size = w.heap.size + 1 := by simp
  rw [hsz] at hbR
  have HR := Lib.hid hr
  clear hr hsz
  generalize hwA : (w.alloc (.cells (bdy0 D).cells.toArray 46)).alloc (.cells #[.string ⟨#[]⟩, .bool false, .int .i64 0, .int .i64 0] 46) = wA
  have hwA' : (w.alloc (.cells (bdy0 D).cells.toArray 46)).alloc (.cells zB.toArray 46) = wA := hwA
  rw [hwA'] at hkA hbA hbR
  clear hwA'
  have HKA := Lib.hid hkA
  have HBA := Lib.hid (show Blk wA w.heap.size 46 (bdy0 D).cells from hbA)
  have HBR0 := Lib.hid (show Blk wA (w.heap.size + 1) 46 zB from hbR)
  clear hkA hbA hbR
  go_enter Tryd.func58, Tryd.ntmps58
  go_wp2_with fail
  try rw [hwA]
  clear hwA
  generalize hnb : w.heap.size = nb at *
  have hnb1 : w.heap.size ≤ nb := by omega
  clear hnb
  have hs2 := S_size s
  go_loopg [2, 7] (s.length - a) (fun g av kv wr => ∃ (a k : Nat), av = .int .i64 (a : Nat) ∧ kv = .int .i64 (k : Nat) ∧ a ≤ s.length ∧ k ≤ 16 ∧ g = s.length - a ∧ Hid (Blk wr nb 46 (bdy0 D).cells) ∧ Hid (Blk wr (nb + 1) 46 zB) ∧ Hid (Runs ⟨3, lf, most, k, s.drop a, D, 0⟩ d e0) ∧ Hid (Keep [] w wr))
  case atStart => exact ⟨a, 0, rfl, rfl, ha, by omega, by omega, HBA, HBR0, HR, HKA⟩
  case round =>
    obtain ⟨a, k, rfl, rfl, ha, hk, hg, HB, HBR1, HR, HK⟩ := hrel
    have HL := Lib.hid (fun w1 => ref11_line s a w1 ha hs)
    have hrt := runs_trail HR.out rfl
    dsimp only at hrt
    have hnx := nxt_drop (s := s) (a := a)
    have hne : nxt s a = if (lnC (s.drop a)).e = 0 then s.length - (lnC (s.drop a)).r.length else 0 := rfl
    have hle := line_le (s.drop a)
    have HP := Lib.hid (fun w1 => ref_parse2 (lnC (s.drop a)).t w1 (by omega))
    have hld : (s.drop a).length = s.length - a := List.length_drop
    have st := S_size (lnC (s.drop a)).t
    have sl := S_toList (lnC (s.drop a)).t
    clear HR
    generalize nxt s a = nx at *
    generalize hLe : (lnC (s.drop a)).e = le at *
    generalize hLr : (lnC (s.drop a)).r = lr at *
    generalize hLt : (lnC (s.drop a)).t = lt at *
    generalize (parseV lt).name = pn at *
    generalize (parseV lt).value = pw at *
    generalize hpe : parseE lt = pe at *
    clear hLe hLr hLt hpe
    rcases hrt with ⟨h0, hd, he⟩ | ⟨h0, ht, hd, he⟩ | ⟨h0, ht, hp, hd, he⟩ | ⟨h0, ht, hp, hk16, hd, he⟩ | ⟨h0, ht, hp, hk16, hr2⟩
    · have q1 := (int_ne h0).2
      have HBR := HBR1
      have HE := Lib.hid (And.intro hd he)
      clear hd he
      clear hne hnx hle h0
      go_wp2_with fail
      refine (HL.out _).mono ?_
      rintro e w1 ⟨rfl, rfl⟩
      go_wp2_with (first
        | (refine wpList_load_mid rfl 46 (.tmp 3) rfl nb 0 (by rfl) (bdy0 D).cells _ HB.out.range' Tryd.underlying46 rfl (bdy_size _) ?_)
        | fail)
      try simp only [Act.put, List.setIfInBounds_toArray, List.set_cons_succ, List.set_cons_zero]
      try go_wp2_with fail
      refine (ref11_ended (bdy0 D) le _).mono ?_
      rintro e wq ⟨rfl, kq⟩
      have HBq := Lib.hid (kq.blk HBR.out (by simp))
      have HKq := Lib.hid (HK.out.trans kq)
      clear kq
      have HSq := Lib.hid (bdy_st (endB (bdy0 D) le))
      go_wp2_with (first
        | (refine wpList_store_mid rfl 46 (.tmp 6) (.tmp 26) rfl (nb + 1) 0 (endB (bdy0 D) le).cells.toArray (by rfl) (by first | rfl | kernel_rfl) (HBq.out.there' 0 4 (by simp [zB])) HSq.out.1 HSq.out.2 ?_)
        | fail)
      have hload := bdy_load (World.rangeAt_setCells_same wq (nb + 1) 0 (endB (bdy0 D) le).cells (HBq.out.there' 0 4 (by simp [zB])))
      have hfin : endB (bdy0 D) le = bodyOf s d e0 := by rw [HE.out.1, HE.out.2]; rfl
      rw [← hfin]
      refine bodyPost_ret (v := .agg (endB (bdy0 D) le).cells.toArray) (by simp [Act.put, results, Tryd.results58, asAddr, Result.andThen, hload]) rfl ⟨rfl, ?_⟩
      exact Keep.setCells' _ (fun hh => absurd hh (by omega)) _ _ _ HKq.out
    · subst h0
      have HE := Lib.hid (And.intro hd he)
      clear hd he
      have ht' : lt.isEmpty = true := by rw [ht]; rfl
      rw [if_pos rfl] at hne
      have HNE := Lib.hid hne
      have f1 := HB.out.frozen 1
      have f2 := HB.out.frozen 2
      have c1 := HB.out.get (k := 1) rfl
      have c2 := HB.out.get (k := 2) rfl
      have hB2 := Lib.hid (show Blk ((wr.setCell ⟨nb, 1, none⟩ (.bool true)).setCell ⟨nb, 2, none⟩ (.int .i64 (nx : Nat))) nb 46 (Bdy.cells ⟨D, true, nx, 0⟩) from (HB.out.set 1 (.bool true)).set 2 (.int .i64 (nx : Nat)))
      have hR2 := Lib.hid (show Blk ((wr.setCell ⟨nb, 1, none⟩ (.bool true)).setCell ⟨nb, 2, none⟩ (.int .i64 (nx : Nat))) (nb + 1) 46 zB from (HBR1.out.setOther (by simp) _).setOther (by simp) _)
      have hK2 := Lib.hid ((HK.out.setCell ⟨nb, 1, none⟩ (.bool true) (fun hh => absurd hh (Nat.not_lt.2 hnb1))).setCell ⟨nb, 2, none⟩ (.int .i64 (nx : Nat)) (fun hh => absurd hh (Nat.not_lt.2 hnb1)))
      clear hne hnx hle ht
      go_wp2_with fail
      refine (HL.out _).mono ?_
      rintro e w1 ⟨rfl, rfl⟩
      have HSq := Lib.hid (bdy_st ((⟨D, true, nx, 0⟩ : Bdy)))
      go_wp2_with (first
        | (refine wpList_load_mid rfl 46 (.tmp 3) rfl nb 0 (by rfl) ((⟨D, true, nx, 0⟩ : Bdy)).cells _ hB2.out.range' Tryd.underlying46 rfl (bdy_size _) ?_
           try simp only [Act.put, List.setIfInBounds_toArray, List.set_cons_succ, List.set_cons_zero])
        | (refine wpList_store_mid rfl 46 (.tmp 6) (.tmp 33) rfl (nb + 1) 0 ((⟨D, true, nx, 0⟩ : Bdy)).cells.toArray (by rfl) (by first | rfl | kernel_rfl) (hR2.out.there' 0 4 (by simp [zB])) HSq.out.1 HSq.out.2 ?_)
        | fail)
      have hload := bdy_load (World.rangeAt_setCells_same (_) (nb + 1) 0 ((⟨D, true, nx, 0⟩ : Bdy)).cells (hR2.out.there' 0 4 (by simp [zB])))
      have hfin : (⟨D, true, nx, 0⟩ : Bdy) = bodyOf s d e0 := by rw [HE.out.1, HE.out.2, HNE.out]; rfl
      rw [← hfin]
      refine bodyPost_ret (v := .agg ((⟨D, true, nx, 0⟩ : Bdy)).cells.toArray) (by simp [Act.put, results, Tryd.results58, asAddr, Result.andThen, hload]) rfl ⟨rfl, ?_⟩
      exact Keep.setCells' _ (fun hh => absurd hh (by omega)) _ _ _ hK2.out
    · subst h0
      have HE := Lib.hid (And.intro hd he)
      clear hd he
      have ht' : lt.isEmpty = false := by cases lt with | nil => exact absurd rfl ht | cons => rfl
      have q1 := (int_ne hp).2
      have hk3 := fun (w1 : World) (k1 : Keep [] wr w1) => k1.alloc (.cells #[.string (S pn), .string (S pw)] 26)
      clear hne hnx hle ht hp
      go_wp2_with fail
      refine (HL.out _).mono ?_
      rintro e w1 ⟨rfl, rfl⟩
      go_wp2_with fail
      refine (HP.out _).mono ?_
      rintro e w1 ⟨rfl, k1⟩
      have k2 := hk3 _ k1
      have HB2 := Lib.hid (k2.blk HB.out (by simp))
      have HBR := Lib.hid (k2.blk HBR1.out (by simp))
      have HK2 := Lib.hid (HK.out.trans k2)
      clear k1 k2 hk3
      go_wp2_with (first
        | (refine wpList_load_mid rfl 46 (.tmp 3) rfl nb 0 (by rfl) (bdy0 D).cells _ HB2.out.range' Tryd.underlying46 rfl (bdy_size _) ?_)
        | fail)
      try simp only [Act.put, List.setIfInBounds_toArray, List.set_cons_succ, List.set_cons_zero]
      try go_wp2_with fail
      refine (ref11_ended (bdy0 D) 3 _).mono ?_
      rintro e wq ⟨rfl, kq⟩
      have HBq := Lib.hid (kq.blk HBR.out (by simp))
      have HKq := Lib.hid (HK2.out.trans kq)
      clear kq
      have HSq := Lib.hid (bdy_st (endB (bdy0 D) 3))
      go_wp2_with (first
        | (refine wpList_store_mid rfl 46 (.tmp 6) (.tmp 42) rfl (nb + 1) 0 (endB (bdy0 D) 3).cells.toArray (by rfl) (by first | rfl | kernel_rfl) (HBq.out.there' 0 4 (by simp [zB])) HSq.out.1 HSq.out.2 ?_)
        | fail)
      have hload := bdy_load (World.rangeAt_setCells_same wq (nb + 1) 0 (endB (bdy0 D) 3).cells (HBq.out.there' 0 4 (by simp [zB])))
      have hfin : endB (bdy0 D) 3 = bodyOf s d e0 := by rw [HE.out.1, HE.out.2]; rfl
      rw [← hfin]
      refine bodyPost_ret (v := .agg (endB (bdy0 D) 3).cells.toArray) (by simp [Act.put, results, Tryd.results58, asAddr, Result.andThen, hload]) rfl ⟨rfl, ?_⟩
      exact Keep.setCells' _ (fun hh => absurd hh (by omega)) _ _ _ HKq.out
    · subst h0 hp
      have HE := Lib.hid (And.intro hd he)
      clear hd he
      have ht' : lt.isEmpty = false := by cases lt with | nil => exact absurd rfl ht | cons => rfl
      have q1 : decide ((k : Int) ≥ 16) = true := by simp; omega
      have hk3 := fun (w1 : World) (k1 : Keep [] wr w1) => k1.alloc (.cells #[.string (S pn), .string (S pw)] 26)
      clear hne hnx hle ht
      go_wp2_with fail
      refine (HL.out _).mono ?_
      rintro e w1 ⟨rfl, rfl⟩
      go_wp2_with fail
      refine (HP.out _).mono ?_
      rintro e w1 ⟨rfl, k1⟩
      have k2 := hk3 _ k1
      have HB2 := Lib.hid (k2.blk HB.out (by simp))
      have HBR := Lib.hid (k2.blk HBR1.out (by simp))
      have HK2 := Lib.hid (HK.out.trans k2)
      clear k1 k2 hk3
      go_wp2_with (first
        | (refine wpList_load_mid rfl 46 (.tmp 3) rfl nb 0 (by rfl) (bdy0 D).cells _ HB2.out.range' Tryd.underlying46 rfl (bdy_size _) ?_)
        | fail)
      try simp only [Act.put, List.setIfInBounds_toArray, List.set_cons_succ, List.set_cons_zero]
      try go_wp2_with fail
      refine (ref11_ended (bdy0 D) 4 _).mono ?_
      rintro e wq ⟨rfl, kq⟩
      have HBq := Lib.hid (kq.blk HBR.out (by simp))
      have HKq := Lib.hid (HK2.out.trans kq)
      clear kq
      have HSq := Lib.hid (bdy_st (endB (bdy0 D) 4))
      go_wp2_with (first
        | (refine wpList_store_mid rfl 46 (.tmp 6) (.tmp 46) rfl (nb + 1) 0 (endB (bdy0 D) 4).cells.toArray (by rfl) (by first | rfl | kernel_rfl) (HBq.out.there' 0 4 (by simp [zB])) HSq.out.1 HSq.out.2 ?_)
        | fail)
      have hload := bdy_load (World.rangeAt_setCells_same wq (nb + 1) 0 (endB (bdy0 D) 4).cells (HBq.out.there' 0 4 (by simp [zB])))
      have hfin : endB (bdy0 D) 4 = bodyOf s d e0 := by rw [HE.out.1, HE.out.2]; rfl
      rw [← hfin]
      refine bodyPost_ret (v := .agg (endB (bdy0 D) 4).cells.toArray) (by simp [Act.put, results, Tryd.results58, asAddr, Result.andThen, hload]) rfl ⟨rfl, ?_⟩
      exact Keep.setCells' _ (fun hh => absurd hh (by omega)) _ _ _ HKq.out
    · subst h0 hp
      have ht' : lt.isEmpty = false := by cases lt with | nil => exact absurd rfl ht | cons => rfl
      have q1 : decide ((k : Int) ≥ 16) = false := by simp; omega
      have q2 := IntWalk.i64_in ((k : Int) + 1) (by omega)
      have hk3 := fun (w1 : World) (k1 : Keep [] wr w1) => k1.alloc (.cells #[.string (S pn), .string (S pw)] 26)
      obtain ⟨x1, x2, x3⟩ := hnx rfl
      have x3 := x3 ha
      have HR2 := Lib.hid (show Runs ⟨3, lf, most, k + 1, s.drop nx, D, 0⟩ d e0 by rw [x1]; exact hr2)
      clear hne hle ht hr2 x1
      go_wp2_with fail
      refine (HL.out _).mono ?_
      rintro e w1 ⟨rfl, rfl⟩
      go_wp2_with fail
      refine (HP.out _).mono ?_
      rintro e w1 ⟨rfl, k1⟩
      have k2 := hk3 _ k1
      have HB2 := Lib.hid (k2.blk HB.out (by simp))
      have HBR := Lib.hid (k2.blk HBR1.out (by simp))
      have HK2 := Lib.hid (HK.out.trans k2)
      clear k1 k2 hk3
      go_wp2_with fail
      go_roundg (s.length - nx)
      case measure => omega
      case rel => exact ⟨nx, k + 1, rfl, by go_num, x2, by omega, rfl, HB2, HBR, HR2, HK2⟩
end Go.Proofs.YtmfnciocnlmceaaDoor

/- Layer 11: the document's Read. No conditions but on lengths. -/
namespace Go.Proofs.YtmfnciocnlmceaaDoor
open Go.RowKit Go.Shelf

theorem numV2_ok {t : List UInt8} {m : Int} (h : numE t m = 0) : numV2 t m = numV t m := by
  unfold numE at h
  unfold numV2 numV
  cases hr : restOk (numRest t) with
  | true => rfl
  | false => rw [hr] at h; simp at h
theorem bdy_set (b : Bdy) (t : List UInt8) : b.cells.set 0 (.string (S t)) = (⟨t, b.done, b.size, b.err⟩ : Bdy).cells := rfl

set_option maxRecDepth 100000 in
set_option maxHeartbeats 8000000 in
theorem ref11_Read (s : List UInt8) (m : Int) (d : Ck) (e0 : Int) (w : World) (hs : s.length ≤ 1048576) (hm : m ≤ 9223372036854775807) (hr : Runs ((ck0 m).add s) d e0) :
    Calls Tryd.prog 26 #[.string (S s), .int .i64 m] w fun e w' => e = .returned (.agg (bodyOf s d e0).cells.toArray) ∧ Keep [] w w' := by
  have mixed : Tryd.prog.follows .mixedOrders = true := by kernel_rfl
  obtain ⟨most, hmo⟩ : ∃ most : Nat, (max m 0) = (most : Nat) := ⟨(max m 0).toNat, by omega⟩
  have hmo2 : (most : Int) ≤ 9223372036854775807 := by omega
  have HR := Lib.hid (show Runs ⟨0, 0, most, 0, s.drop 0, [], 0⟩ d e0 by
    have : (ck0 m).add s = ⟨0, 0, most, 0, s.drop 0, [], 0⟩ := by unfold ck0 Ck.add; rw [hmo]; simp
    rw [← this]; exact hr)
  have hkA := ((Keep.refl [] w).alloc (.cells zB.toArray 46)).alloc (.cells zB.toArray 46)
  have hbA := (Blk.newA w zB.toArray 46).alloc (.cells zB.toArray 46)
  have hbR := Blk.newA (w.alloc (.cells zB.toArray 46)) zB.toArray 46
  have hsz : (w.alloc (.cells zB.toArray 46)).heap.size = w.heap.size + 1 := by simp
  rw [hsz] at hbR
  clear hr hsz
  generalize hwA : (w.alloc (.cells #[.string ⟨#[]⟩, .bool false, .int .i64 0, .int .i64 0] 46)).alloc (.cells #[.string ⟨#[]⟩, .bool false, .int .i64 0, .int .i64 0] 46) = wA
  have hwA' : (w.alloc (.cells zB.toArray 46)).alloc (.cells zB.toArray 46) = wA := hwA
  rw [hwA'] at hkA hbA hbR
  clear hwA'
  have HKA := Lib.hid hkA
  have HBR0 := Lib.hid (show Blk wA w.heap.size 46 zB from hbA)
  have HBA := Lib.hid (show Blk wA (w.heap.size + 1) 46 (bdy0 []).cells from hbR)
  have HS0 := Lib.hid (bdy_st (bdy0 []))
  have HBA0 := HBA
  have HBA := Lib.hid (show Blk (wA.setCells (w.heap.size + 1) 0 zB) (w.heap.size + 1) 46 (bdy0 []).cells from (((HBA.out.set 0 (.string (S []))).set 1 (.bool false)).set 2 (.int .i64 0)).set 3 (.int .i64 0))
  have HBR0 := Lib.hid (show Blk (wA.setCells (w.heap.size + 1) 0 zB) w.heap.size 46 zB from (((HBR0.out.setOther (by simp) _).setOther (by simp) _).setOther (by simp) _).setOther (by simp) _)
  have HKA := Lib.hid (show Keep [] w (wA.setCells (w.heap.size + 1) 0 zB) from Keep.setCells' _ (fun hh => absurd hh (by omega)) _ _ _ HKA.out)
  clear hkA hbA hbR
  have hs2 := S_size s
  go_enter Tryd.func26, Tryd.ntmps26
  go_wp2_with (first
    | (refine wpList_store_mid rfl 46 (.tmp 5) (.tmp 13) rfl (w.heap.size + 1) 0 zB.toArray (by rfl) (by first | rfl | kernel_rfl) (HBA0.out.there' 0 4 (by simp [bdy0, Bdy.cells])) HS0.out.1 HS0.out.2 ?_
       try simp only [Act.put])
    | fail)
  generalize hwB : wA.setCells (w.heap.size + 1) 0 zB = wB at *
  try rw [hwB]
  clear hwA hwB
  generalize hnb : w.heap.size = nb at *
  have hnb1 : w.heap.size ≤ nb := by omega
  clear hnb
  go_loopg [6] s.length (fun g av wr => ∃ (a lf : Nat) (Dc : List UInt8), av = .int .i64 (a : Nat) ∧ a ≤ s.length ∧ g = s.length - a ∧ Dc.length ≤ a ∧ Dc.length ≤ most ∧ Hid (Blk wr (nb + 1) 46 (bdy0 Dc).cells) ∧ Hid (Blk wr nb 46 zB) ∧ Hid (Runs ⟨0, lf, most, 0, s.drop a, Dc, 0⟩ d e0) ∧ Hid (Keep [] w wr))
  case atStart => exact ⟨0, 0, [], rfl, Nat.zero_le _, by omega, by simp, by simp, HBA, HBR0, HR, HKA⟩
  case round =>
    obtain ⟨a, lf, Dc, rfl, ha, hg, hDa, hDm, HB, HBR1, HR, HK⟩ := hrel
    have HL := Lib.hid (fun w1 => ref11_line s a w1 ha hs)
    have hrt := runs_begin HR.out rfl
    dsimp only at hrt
    have hnx := nxt_drop (s := s) (a := a)
    have hle := line_le (s.drop a)
    have HN := Lib.hid (fun w1 => ref11_number (lnC (s.drop a)).t ((most : Int) - Dc.length) w1 (by omega))
    have hnv := numV2_ok (t := (lnC (s.drop a)).t) (m := (most : Int) - Dc.length)
    have hnr := numV_range (t := (lnC (s.drop a)).t) (m := (most : Int) - Dc.length)
    have c0 : wr.cell? ⟨nb + 1, 0, none⟩ = some (.string (S Dc)) := HB.out.get (k := 0) rfl
    have f0 := HB.out.frozen 0
    have szD := S_size Dc
    have wm := IntWalk.i64_in ((most : Int) - Dc.length) (by omega)
    have hc0 : w.heap.size ≤ nb + 1 := by omega
    clear HR
    generalize hnx0 : nxt s a = nx at *
    generalize hLe : (lnC (s.drop a)).e = le at *
    generalize hLr : (lnC (s.drop a)).r = lr at *
    generalize hLt : (lnC (s.drop a)).t = lt at *
    generalize numV2 lt ((most : Int) - Dc.length) = nv2 at *
    generalize numV lt ((most : Int) - Dc.length) = nv at *
    generalize numE lt ((most : Int) - Dc.length) = ne at *
    clear hLe hLr hLt hle hnx0
    rcases hrt with ⟨h0, hd, he⟩ | ⟨h0, h1, hd, he⟩ | ⟨h0, h1, hr2⟩
    · have q1 := (int_ne h0).2
      have HE := Lib.hid (And.intro hd he)
      clear hd he
      clear hnx hnv hnr h0
      go_wp2_with fail
      refine (HL.out _).mono ?_
      rintro e w1 ⟨rfl, rfl⟩
      go_wp2_with (first
        | (refine wpList_load_mid rfl 46 (.tmp 5) rfl (nb + 1) 0 (by rfl) (bdy0 Dc).cells _ HB.out.range' Tryd.underlying46 rfl (bdy_size _) ?_)
        | fail)
      try simp only [Act.put, List.setIfInBounds_toArray, List.set_cons_succ, List.set_cons_zero]
      try go_wp2_with fail
      refine (ref11_ended (bdy0 Dc) le _).mono ?_
      rintro e wq ⟨rfl, kq⟩
      have HBq := Lib.hid (kq.blk HBR1.out (by simp))
      have HKq := Lib.hid (HK.out.trans kq)
      clear kq
      have HSq := Lib.hid (bdy_st (endB (bdy0 Dc) le))
      go_wp2_with (first
        | (refine wpList_store_mid rfl 46 (.tmp 4) (.tmp 27) rfl nb 0 (endB (bdy0 Dc) le).cells.toArray (by rfl) (by first | rfl | kernel_rfl) (HBq.out.there' 0 4 (by simp [zB])) HSq.out.1 HSq.out.2 ?_)
        | fail)
      have hload := bdy_load (World.rangeAt_setCells_same wq nb 0 (endB (bdy0 Dc) le).cells (HBq.out.there' 0 4 (by simp [zB])))
      have hfin : endB (bdy0 Dc) le = bodyOf s d e0 := by rw [HE.out.1, HE.out.2]; rfl
      rw [← hfin]
      refine bodyPost_ret (v := .agg (endB (bdy0 Dc) le).cells.toArray) (by simp [Act.put, results, Tryd.results26, asAddr, Result.andThen, hload]) rfl ⟨rfl, ?_⟩
      exact Keep.setCells' _ (fun hh => absurd hh (by omega)) _ _ _ HKq.out
    · subst h0
      have HE := Lib.hid (And.intro hd he)
      clear hd he
      have q1 := (int_ne h1).2
      clear hnx hnv hnr h1
      go_wp2_with fail
      refine (HL.out _).mono ?_
      rintro e w1 ⟨rfl, rfl⟩
      go_wp2_with fail
      refine (HN.out _).mono ?_
      rintro e w1 ⟨rfl, rfl⟩
      go_wp2_with (first
        | (refine wpList_load_mid rfl 46 (.tmp 5) rfl (nb + 1) 0 (by rfl) (bdy0 Dc).cells _ HB.out.range' Tryd.underlying46 rfl (bdy_size _) ?_)
        | fail)
      try simp only [Act.put, List.setIfInBounds_toArray, List.set_cons_succ, List.set_cons_zero]
      try go_wp2_with fail
      refine (ref11_ended (bdy0 Dc) ne _).mono ?_
      rintro e wq ⟨rfl, kq⟩
      have HBq := Lib.hid (kq.blk HBR1.out (by simp))
      have HKq := Lib.hid (HK.out.trans kq)
      clear kq
      have HSq := Lib.hid (bdy_st (endB (bdy0 Dc) ne))
      go_wp2_with (first
        | (refine wpList_store_mid rfl 46 (.tmp 4) (.tmp 42) rfl nb 0 (endB (bdy0 Dc) ne).cells.toArray (by rfl) (by first | rfl | kernel_rfl) (HBq.out.there' 0 4 (by simp [zB])) HSq.out.1 HSq.out.2 ?_)
        | fail)
      have hload := bdy_load (World.rangeAt_setCells_same wq nb 0 (endB (bdy0 Dc) ne).cells (HBq.out.there' 0 4 (by simp [zB])))
      have hfin : endB (bdy0 Dc) ne = bodyOf s d e0 := by rw [HE.out.1, HE.out.2]; rfl
      rw [← hfin]
      refine bodyPost_ret (v := .agg (endB (bdy0 Dc) ne).cells.toArray) (by simp [Act.put, results, Tryd.results26, asAddr, Result.andThen, hload]) rfl ⟨rfl, ?_⟩
      exact Keep.setCells' _ (fun hh => absurd hh (by omega)) _ _ _ HKq.out
    · subst h0 h1
      obtain ⟨x1, x2, x3⟩ := hnx rfl
      have x3 := x3 ha
      have hnv := hnv rfl
      have hnr := hnr rfl
      subst hnv
      obtain ⟨n, rfl⟩ : ∃ n : Nat, nv2 = (n : Nat) := ⟨nv2.toNat, by omega⟩
      have htn : ((n : Nat) : Int).toNat = n := by omega
      rw [htn, ← x1] at hr2
      clear hnx x1 htn
      by_cases hn0 : n = 0
      · rw [if_pos (by omega), hn0] at hr2
        have HLs := Lib.hid (fun w1 => ref11_last Dc s nx 0 most d e0 w1 hs x2 hr2)
        have q1 : (((n : Nat) : Int) == 0) = true := by simp; omega
        clear hr2 hn0
        go_wp2_with fail
        refine (HL.out _).mono ?_
        rintro e w1 ⟨rfl, rfl⟩
        go_wp2_with fail
        refine (HN.out _).mono ?_
        rintro e w1 ⟨rfl, rfl⟩
        go_wp2_with (first
          | (refine wpList_load_mid rfl 46 (.tmp 5) rfl (nb + 1) 0 (by rfl) (bdy0 Dc).cells _ HB.out.range' Tryd.underlying46 rfl (bdy_size _) ?_)
          | fail)
        try simp only [Act.put, List.setIfInBounds_toArray, List.set_cons_succ, List.set_cons_zero]
        try go_wp2_with fail
        refine (HLs.out _).mono ?_
        rintro e wq ⟨rfl, kq⟩
        have HBq := Lib.hid (kq.blk HBR1.out (by simp))
        have HKq := Lib.hid (HK.out.trans kq)
        clear kq
        have HSq := Lib.hid (bdy_st (bodyOf s d e0))
        go_wp2_with (first
          | (refine wpList_store_mid rfl 46 (.tmp 4) (.tmp 49) rfl nb 0 (bodyOf s d e0).cells.toArray (by rfl) (by first | rfl | kernel_rfl) (HBq.out.there' 0 4 (by simp [zB])) HSq.out.1 HSq.out.2 ?_)
          | fail)
        have hload := bdy_load (World.rangeAt_setCells_same wq nb 0 (bodyOf s d e0).cells (HBq.out.there' 0 4 (by simp [zB])))
        have hfin : bodyOf s d e0 = bodyOf s d e0 := rfl
        rw [← hfin]
        refine bodyPost_ret (v := .agg (bodyOf s d e0).cells.toArray) (by simp [Act.put, results, Tryd.results26, asAddr, Result.andThen, hload]) rfl ⟨rfl, ?_⟩
        exact Keep.setCells' _ (fun hh => absurd hh (by omega)) _ _ _ HKq.out
      · rw [if_neg (by omega)] at hr2
        have q1 : (((n : Nat) : Int) == 0) = false := by simp; omega
        have hsn : (s.drop nx).length = s.length - nx := List.length_drop
        have hrd := runs_data hr2 rfl
        dsimp only at hrd
        have wl := IntWalk.i64_in ((s.length : Int) - (nx : Int)) (by omega)
        clear hr2
        rcases hrd with ⟨hlt, hd, he⟩ | ⟨hge, hr3⟩
        · have HE := Lib.hid (And.intro hd he)
          clear hd he
          obtain ⟨hv, hhv⟩ : ∃ hv : Nat, s.length - nx = hv := ⟨_, rfl⟩
          have hlt3 : hv < n := by omega
          have hmn : min ((n : Nat) : Int) ((s.length : Int) - (nx : Int)) = ((hv : Nat) : Int) := by omega
          have wa : IntKind.i64.wrap ((nx : Int) + ((hv : Nat) : Int)) = (s.length : Int) := by rw [IntWalk.i64_in _ (by omega)]; omega
          have hx : (S s).extract nx s.length = S (s.drop nx) := by rw [S_extract, List.take_length]
          have hcat := S_append Dc (s.drop nx)
          have i0 : (0 : Int) ≤ (nx : Int) := by omega
          have i1 : (nx : Int) ≤ (s.length : Int) := by omega
          have hlt2 : decide (((hv : Nat) : Int) < ((n : Nat) : Int)) = true := by simp; omega
          have szp := S_size (s.drop nx)
          have hov : ¬ 9223372036854775807 < Dc.length + (s.drop nx).length := by omega
          have hB2 := Lib.hid (show Blk (wr.setCell ⟨nb + 1, 0, none⟩ (.string (S (Dc ++ s.drop nx)))).drew (nb + 1) 46 (bdy0 (Dc ++ s.drop nx)).cells from (HB.out.set 0 (.string (S (Dc ++ s.drop nx)))).drew)
          have hR2 := Lib.hid (show Blk (wr.setCell ⟨nb + 1, 0, none⟩ (.string (S (Dc ++ s.drop nx)))).drew nb 46 zB from (HBR1.out.setOther (by simp) _).drew)
          have hK2 := Lib.hid ((HK.out.setCell ⟨nb + 1, 0, none⟩ (.string (S (Dc ++ s.drop nx))) (fun hh => absurd hh (Nat.not_lt.2 hc0))).drew)
          clear hlt hn0 hnr hhv
          go_wp2_with fail
          refine (HL.out _).mono ?_
          rintro e w1 ⟨rfl, rfl⟩
          go_wp2_with fail
          refine (HN.out _).mono ?_
          rintro e w1 ⟨rfl, rfl⟩
          go_wp2_with fail
          go_region
          generalize (wr.setCell ⟨nb + 1, 0, none⟩ (.string (S (Dc ++ s.drop nx)))).drew = wp at *
          have HSq := Lib.hid (bdy_st (bdy0 (Dc ++ s.drop nx)))
          go_wp2_with (first
            | (refine wpList_load_mid rfl 46 (.tmp 5) rfl (nb + 1) 0 (by rfl) (bdy0 (Dc ++ s.drop nx)).cells _ hB2.out.range' Tryd.underlying46 rfl (bdy_size _) ?_
               try simp only [Act.put, List.setIfInBounds_toArray, List.set_cons_succ, List.set_cons_zero])
            | (refine wpList_store_mid rfl 46 (.tmp 4) (.tmp 72) rfl nb 0 (bdy0 (Dc ++ s.drop nx)).cells.toArray (by rfl) (by first | rfl | kernel_rfl) (hR2.out.there' 0 4 (by simp [zB])) HSq.out.1 HSq.out.2 ?_)
            | fail)
          have hload := bdy_load (World.rangeAt_setCells_same (_) nb 0 (bdy0 (Dc ++ s.drop nx)).cells (hR2.out.there' 0 4 (by simp [zB])))
          have hfin : bdy0 (Dc ++ s.drop nx) = bodyOf s d e0 := by rw [HE.out.1, HE.out.2]; rfl
          rw [← hfin]
          refine bodyPost_ret (v := .agg (bdy0 (Dc ++ s.drop nx)).cells.toArray) (by simp [Act.put, results, Tryd.results26, asAddr, Result.andThen, hload]) rfl ⟨rfl, ?_⟩
          exact Keep.setCells' _ (fun hh => absurd hh (by omega)) _ _ _ hK2.out
        · have hmn : min ((n : Nat) : Int) ((s.length : Int) - (nx : Int)) = ((n : Nat) : Int) := by omega
          have wa : IntKind.i64.wrap ((nx : Int) + ((n : Nat) : Int)) = ((nx + n : Nat) : Int) := by rw [IntWalk.i64_in _ (by omega)]; omega
          have hx : (S s).extract nx (nx + n) = S ((s.drop nx).take n) := by rw [S_extract, List.drop_take, show nx + n - nx = n by omega]
          have hcat := S_append Dc ((s.drop nx).take n)
          have i0 : (0 : Int) ≤ (nx : Int) := by omega
          have i1 : (nx : Int) ≤ ((nx + n : Nat) : Int) := by omega
          have i2 : ((nx + n : Nat) : Int) ≤ (s.length : Int) := by omega
          have hlt2 : decide (((n : Nat) : Int) < ((n : Nat) : Int)) = false := by simp
          have ltk : ((s.drop nx).take n).length = n := by rw [List.length_take]; omega
          have szp := S_size ((s.drop nx).take n)
          have hov : ¬ 9223372036854775807 < Dc.length + ((s.drop nx).take n).length := by omega
          have hB2 := Lib.hid (show Blk (wr.setCell ⟨nb + 1, 0, none⟩ (.string (S (Dc ++ (s.drop nx).take n)))).drew (nb + 1) 46 (bdy0 (Dc ++ (s.drop nx).take n)).cells from (HB.out.set 0 (.string (S (Dc ++ (s.drop nx).take n)))).drew)
          have hR2 := Lib.hid (show Blk (wr.setCell ⟨nb + 1, 0, none⟩ (.string (S (Dc ++ (s.drop nx).take n)))).drew nb 46 zB from (HBR1.out.setOther (by simp) _).drew)
          have hK2 := Lib.hid ((HK.out.setCell ⟨nb + 1, 0, none⟩ (.string (S (Dc ++ (s.drop nx).take n))) (fun hh => absurd hh (Nat.not_lt.2 hc0))).drew)
          have hrc := runs_close hr3 rfl
          dsimp only at hrc
          rw [List.drop_drop] at hrc
          have lcat : (Dc ++ (s.drop nx).take n).length = Dc.length + n := by rw [List.length_append, ltk]
          generalize hDn : Dc ++ (s.drop nx).take n = Dn at *
          generalize (s.drop nx).take n = pc at *
          obtain ⟨b, hb⟩ : ∃ b : Nat, nx + n = b := ⟨_, rfl⟩
          have hbl : b ≤ s.length := by omega
          have hld : (s.drop b).length = s.length - b := List.length_drop
          rw [hb] at hrc
          obtain ⟨z, hz⟩ : ∃ z : Nat, min s.length (b + 2) = z := ⟨_, rfl⟩
          have wz := IntWalk.i64_in ((b : Int) + 2) (by omega)
          have hmz : min ((s.length : Nat) : Int) ((b : Int) + 2) = ((z : Nat) : Int) := by omega
          have hxz : (S s).extract b z = S ((s.drop b).take 2) := by
            rw [S_extract, List.drop_take]
            congr 1
            rcases Nat.le_total s.length (b + 2) with hh | hh
            · rw [List.take_of_length_le (by omega), List.take_of_length_le (by omega)]
            · rw [show z - b = 2 by omega]
          have k0 : (0 : Int) ≤ (b : Int) := by omega
          have k1 : (b : Int) ≤ (z : Int) := by omega
          have k2 : (z : Int) ≤ (s.length : Int) := by omega
          have wb : IntKind.i64.wrap ((nx : Int) + ((n : Nat) : Int)) = (b : Int) := by rw [wa, hb]
          have hx' : (S s).extract nx b = S pc := by rw [← hb]; exact hx
          have j1 : (nx : Int) ≤ (b : Int) := by omega
          have j2 : (b : Int) ≤ (s.length : Int) := by omega
          have hten : ((s.drop b).take 2).length = min 2 (s.drop b).length := List.length_take
          have hcrx : (⟨#[13, 10]⟩ : ByteArray).extract 0 ((s.drop b).take 2).length = S (crlfC.take ((s.drop b).take 2).length) := by
            rw [show (⟨#[13, 10]⟩ : ByteArray) = S crlfC from rfl, S_extract, List.drop_zero]
          have hcrt : crlfC.take ((s.drop b).take 2).length = crlfC.take (s.drop b).length := by
            rw [hten]
            rcases Nat.le_total (s.drop b).length 2 with hh | hh
            · rw [Nat.min_eq_right hh]
            · rw [Nat.min_eq_left hh, List.take_of_length_le (by simp [crlfC]), List.take_of_length_le (by simp [crlfC]; omega)]
          have sze := S_size ((s.drop b).take 2)
          rw [hcrt] at hcrx
          have e2 : ((s.drop b).take 2).length ≤ 2 := by omega
          have e2' : (((s.drop b).take 2).length : Int) ≤ 2 := by omega
          have tlA := S_toList ((s.drop b).take 2)
          have tlB := S_toList (crlfC.take (s.drop b).length)
          obtain ⟨ℓ, hℓ⟩ : ∃ ℓ, ((s.drop b).take 2).length = ℓ := ⟨_, rfl⟩
          have hl2 : (s.drop b).length < 2 ↔ ℓ < 2 := by omega
          have hl3 : ¬ (s.drop b).length < 2 → b + 2 ≤ s.length := by omega
          rw [hℓ] at hcrx sze e2 e2'
          generalize hen : (s.drop b).take 2 = en at *
          generalize hct : crlfC.take (s.drop b).length = ct at *
          clear hr3 wa i1 i2 hx hDn hz hcrt hen hct hten hld hℓ
          rcases hrc with ⟨g1, hd, he⟩ | ⟨g1, g2, hd, he⟩ | ⟨g1, g2, hr4⟩
          · have HE := Lib.hid (And.intro hd he)
            clear hd he
            have p1 : (!(en == ct)) = true := by simp; exact g1
            clear g1 hl2 hl3
            go_wp2_with fail
            refine (HL.out _).mono ?_
            rintro e w1 ⟨rfl, rfl⟩
            go_wp2_with fail
            refine (HN.out _).mono ?_
            rintro e w1 ⟨rfl, rfl⟩
            go_wp2_with fail
            go_region
            generalize (wr.setCell ⟨nb + 1, 0, none⟩ (.string (S Dn))).drew = wp at *
            go_wp2_with (first
              | (refine wpList_load_mid rfl 46 (.tmp 5) rfl (nb + 1) 0 (by rfl) (bdy0 Dn).cells _ hB2.out.range' Tryd.underlying46 rfl (bdy_size _) ?_)
              | fail)
            try simp only [Act.put, List.setIfInBounds_toArray, List.set_cons_succ, List.set_cons_zero]
            try go_wp2_with fail
            refine (ref11_ended (bdy0 Dn) 3 _).mono ?_
            rintro e wq ⟨rfl, kq⟩
            have HBq := Lib.hid (kq.blk hR2.out (by simp))
            have HKq := Lib.hid (hK2.out.trans kq)
            clear kq
            have HSq := Lib.hid (bdy_st (endB (bdy0 Dn) 3))
            go_wp2_with (first
              | (refine wpList_store_mid rfl 46 (.tmp 4) (.tmp 87) rfl nb 0 (endB (bdy0 Dn) 3).cells.toArray (by rfl) (by first | rfl | kernel_rfl) (HBq.out.there' 0 4 (by simp [zB])) HSq.out.1 HSq.out.2 ?_)
              | fail)
            have hload := bdy_load (World.rangeAt_setCells_same wq nb 0 (endB (bdy0 Dn) 3).cells (HBq.out.there' 0 4 (by simp [zB])))
            have hfin : endB (bdy0 Dn) 3 = bodyOf s d e0 := by rw [HE.out.1, HE.out.2]; rfl
            rw [← hfin]
            refine bodyPost_ret (v := .agg (endB (bdy0 Dn) 3).cells.toArray) (by simp [Act.put, results, Tryd.results26, asAddr, Result.andThen, hload]) rfl ⟨rfl, ?_⟩
            exact Keep.setCells' _ (fun hh => absurd hh (by omega)) _ _ _ HKq.out
          · have HE := Lib.hid (And.intro hd he)
            clear hd he
            have p1 : (!(en == ct)) = false := by simp; exact g1
            have g3 := hl2.1 g2
            have p2 : decide (((ℓ : Nat) : Int) < 2) = true := by simp; omega
            clear g1 g2 hl2 hl3
            go_wp2_with fail
            refine (HL.out _).mono ?_
            rintro e w1 ⟨rfl, rfl⟩
            go_wp2_with fail
            refine (HN.out _).mono ?_
            rintro e w1 ⟨rfl, rfl⟩
            go_wp2_with fail
            go_region
            generalize (wr.setCell ⟨nb + 1, 0, none⟩ (.string (S Dn))).drew = wp at *
            have HSq := Lib.hid (bdy_st (bdy0 Dn))
            go_wp2_with (first
              | (refine wpList_load_mid rfl 46 (.tmp 5) rfl (nb + 1) 0 (by rfl) (bdy0 Dn).cells _ hB2.out.range' Tryd.underlying46 rfl (bdy_size _) ?_
                 try simp only [Act.put, List.setIfInBounds_toArray, List.set_cons_succ, List.set_cons_zero])
              | (refine wpList_store_mid rfl 46 (.tmp 4) (.tmp 91) rfl nb 0 (bdy0 Dn).cells.toArray (by rfl) (by first | rfl | kernel_rfl) (hR2.out.there' 0 4 (by simp [zB])) HSq.out.1 HSq.out.2 ?_)
              | fail)
            have hload := bdy_load (World.rangeAt_setCells_same (_) nb 0 (bdy0 Dn).cells (hR2.out.there' 0 4 (by simp [zB])))
            have hfin : bdy0 Dn = bodyOf s d e0 := by rw [HE.out.1, HE.out.2]; rfl
            rw [← hfin]
            refine bodyPost_ret (v := .agg (bdy0 Dn).cells.toArray) (by simp [Act.put, results, Tryd.results26, asAddr, Result.andThen, hload]) rfl ⟨rfl, ?_⟩
            exact Keep.setCells' _ (fun hh => absurd hh (by omega)) _ _ _ hK2.out
          · have p1 : (!(en == ct)) = false := by simp; exact g1
            have g3 : ¬ ℓ < 2 := fun hh => absurd (hl2.2 hh) (by omega)
            have hb2 := hl3 (by omega)
            have p2 : decide (((ℓ : Nat) : Int) < 2) = false := by simp; omega
            have HR4 := Lib.hid (show Runs ⟨0, 0, most, 0, s.drop (b + 2), Dn, 0⟩ d e0 by rw [List.drop_drop] at hr4; exact hr4)
            clear g1 g2 hr4 hl2 hl3
            go_wp2_with fail
            refine (HL.out _).mono ?_
            rintro e w1 ⟨rfl, rfl⟩
            go_wp2_with fail
            refine (HN.out _).mono ?_
            rintro e w1 ⟨rfl, rfl⟩
            go_wp2_with fail
            go_region
            generalize (wr.setCell ⟨nb + 1, 0, none⟩ (.string (S Dn))).drew = wp at *
            go_wp2_with fail
            go_roundg (s.length - (b + 2))
            case measure => omega
            case rel => exact ⟨b + 2, 0, Dn, by go_num, by omega, rfl, by omega, by omega, hB2, hR2, HR4, hK2⟩
end Go.Proofs.YtmfnciocnlmceaaDoor

/- Layer 11: the statement ChunkReads. No conditions but the library's table. -/
namespace Go.Proofs.YtmfnciocnlmceaaDoor
open Go.RowKit Go.Shelf

theorem rd_Read {m : Int} {all : List UInt8} {c : Ck} (h : Rdc m all c) (w : World) (hs : all.length ≤ 1048576) (hm : m ≤ 9223372036854775807) :
    Calls Tryd.prog 26 #[.string (S all), .int .i64 m] w fun e w' => e = .returned (.agg #[.string (S c.dat), .bool (decide (c.st = 4)), .int .i64 ((if c.st = 4 then all.length - c.inp.length else 0 : Nat) : Int), .int .i64 c.err]) ∧ Keep [] w w' := by
  obtain ⟨d, e, hr, h1, h2, h3, h4, _⟩ := h.body
  refine (ref11_Read all m d e w hs hm hr).mono ?_
  rintro e1 w1 ⟨rfl, k⟩
  refine ⟨?_, k⟩
  rw [← h1, ← h2, ← h3, ← h4]
  rfl
def bodC (d : List UInt8) (dn : Bool) (sz : Nat) (er : Int) : List Value := [.string (S d), .bool dn, .int .i64 (sz : Nat), .int .i64 er]
set_option maxRecDepth 100000 in
set_option maxHeartbeats 8000000 in
theorem chunkReads_walk (va : Value) (P : List (List UInt8)) (m : Int) (w : World) (hm : ML w) (h64 : P64 w) (ha : Sl strC 1 w va P) (hp : ∀ x ∈ P, x.length ≤ maxLen) (him : in64 m) :
    Calls Tryd.prog 5 #[va, .int .i64 m] w fun e w' => e = .returned (.bool true) ∧ Keep [] w w' := by
  obtain ⟨aa, ca, rfl, hal⟩ := ha.shape
  have hal' : P.length ≤ 9223372036854775807 := hal
  have HP := Lib.hid ha
  have HAw := Lib.hid (chunk_awake w hm h64)
  have hbig := hm.lt
  have HM := Lib.hid hm
  have hmm : ((ck0 m).most : Int) ≤ 9223372036854775807 := by have := him.2; simp [ck0]; omega
  have HMM := Lib.hid hmm
  have HN := Lib.hid (fun w' (k : Keep [] w w') => cx_new w.heap.size m w' k.size)
  have him2 := him.2
  clear ha hm h64 hal hmm
  go_enter Tryd.func5, Tryd.ntmps5
  go_wp2_with fail
  refine HAw.out.mono ?_
  rintro e w1 ⟨rfl, k1⟩
  have K1 := Lib.hid k1
  clear k1
  go_wp2_with fail
  refine (HN.out _ K1.out).mono ?_
  rintro e w2 ⟨b, rfl, hb, hx, k2⟩
  have K2 := Lib.hid (K1.out.trans k2)
  have HX := Lib.hid hx
  have HR0 := Lib.hid (rd_nil m)
  clear k2 hx hb K1 HN HAw
  go_wp2_with fail
  go_loopg [6, 7, 8] 30 (fun g av dv iv wr => ∃ (k : Nat) (c : Ck) (all : List UInt8) (X : List Nat), av = .string (S all) ∧ dv = .string (S c.dat) ∧ iv = .int .i64 (k : Nat) ∧ k ≤ 30 ∧ g = 30 - k ∧ all.length ≤ 8192 ∧ Hid (Rdc m all c) ∧ Hid (Cx w.heap.size wr b X c.dat c) ∧ Hid (Keep [] w wr))
  case atStart => exact ⟨0, ck0 m, [], [b], rfl, rfl, rfl, by omega, rfl, by simp, HR0, HX, K2⟩
  case round =>
    obtain ⟨k, c, all, X, rfl, rfl, rfl, hk, hg, hall, HR, HX, K⟩ := hrel
    have sA := S_size all
    by_cases hlt : k < P.length
    · by_cases hk30 : k < 30
      · obtain ⟨x, hx⟩ : ∃ x, P[k]? = some x := ⟨_, List.getElem?_eq_getElem hlt⟩
        have hxm := hp x (List.mem_of_getElem? hx)
        have hxm' : x.length ≤ 9223372036854775807 := hxm
        have sX := S_size x
        obtain ⟨b1, o1, c1, e1, l1, m1, x1⟩ := HP.out.cell hx
        simp only [Value.slice.injEq] at e1
        obtain ⟨rfl, _, rfl⟩ := e1
        have a0 := x1 0 (by omega)
        simp only [strC, List.getElem?_cons_zero, Nat.add_zero, Nat.mul_one] at a0
        have HC := Lib.hid (fun w' (k : Keep [] w w') => k.load a0)
        have HPG := Lib.hid hp
        clear hxm hx x1 l1 m1 a0 hp
        have wk := IntWalk.i64_in ((k : Int) + 1) (by omega)
        have ar := HC.out _ K.out
        by_cases hb2 : 4096 < x.length ∨ 4096 < all.length
        · by_cases hl1 : 4096 < x.length
          all_goals
            have q1 : decide ((x.length : Int) > 4096) = decide (4096 < x.length) := by rw [decide_eq_decide]; omega
            first
              | rw [decide_eq_true hl1] at q1
              | (rw [decide_eq_false hl1] at q1
                 have q2 : decide ((all.length : Int) > 4096) = true := by simp; omega)
            clear hb2 hl1
            go_wp2_with fail
            go_ret
            exact ⟨rfl, K.out⟩
        · have q1 : decide ((x.length : Int) > 4096) = false := by simp; omega
          have q2 : decide ((all.length : Int) > 4096) = false := by simp; omega
          have xl : x.length ≤ 4096 := by omega
          have al : all.length ≤ 4096 := by omega
          have HSd := Lib.hid HR.out.sound
          have HRd := Lib.hid (fun w' => rd_Read HR.out w' (by omega) him2)
          have HAd := Lib.hid (fun w' (h : Cx w.heap.size w' b X c.dat c) (kk : Keep [] w w') => cx_add (s := x) h (HM.out.keep kk (by simp)) hbig (by have := HSd.out.2.2.1; omega) (by rw [HSd.out.2.1]; omega) (fun h0 => (HSd.out.1 h0).1))
          have hadd := HR.out.add (addC_R (c := c) (s := x) (fun h0 => (HSd.out.1 h0).1))
          generalize addC c x = c2 at HAd hadd
          have hall2 : ∃ all2 : List UInt8, Rdc m all2 c2 ∧ all2.length ≤ 8192 ∧ ((c.err = 0 ∧ all2 = all ++ x) ∨ (c.err ≠ 0 ∧ all2 = all)) := by
            by_cases he : c.err = 0
            · exact ⟨all ++ x, hadd.1 he, by simp; omega, .inl ⟨he, rfl⟩⟩
            · have := hadd.2 he
              subst this
              exact ⟨all, HR.out, by omega, .inr ⟨he, rfl⟩⟩
          obtain ⟨all2, hr2, hl2, hwhich⟩ := hall2
          have HR2 := Lib.hid hr2
          have HS2 := Lib.hid hr2.sound
          have HRd2 := Lib.hid (fun w' => rd_Read hr2 w' (by omega) him2)
          have HDR := Lib.hid (show c2.st = 4 → all2.drop (all2.length - c2.inp.length) = c2.inp from by
            obtain ⟨d, e, h1, h2, h3, h4, h5, h6⟩ := hr2.body
            exact h6)
          have sA2 := S_size all2
          have hd2 : c2.dat.length ≤ all2.length := by have := HS2.out.2.2.1; omega
          have hst2 : c2.st ≤ 4 := HS2.out.2.2.2.1
          clear hadd hr2 hb2
          generalize (if c.st = 4 then all.length - c.inp.length else 0 : Nat) = sz1 at HRd
          generalize decide (c.st = 4) = dn1 at HRd
          go_wp2_with fail
          refine (HRd.out _).mono ?_
          rintro e w3 ⟨rfl, k3⟩
          have hkA := k3.alloc (.cells (bodC c.dat dn1 sz1 c.err).toArray 46)
          have hbA := Blk.newA w3 (bodC c.dat dn1 sz1 c.err).toArray 46
          generalize hwA : w3.alloc (.cells #[.string (S c.dat), .bool dn1, .int .i64 (sz1 : Nat), .int .i64 c.err] 46) = wA
          have hwA' : w3.alloc (.cells (bodC c.dat dn1 sz1 c.err).toArray 46) = wA := hwA
          rw [hwA'] at hkA hbA
          have HBA := Lib.hid (show Blk wA w3.heap.size 46 (bodC c.dat dn1 sz1 c.err) from hbA)
          have HXA := Lib.hid (HX.out.keep0 hkA)
          have KA := Lib.hid (K.out.trans hkA)
          have hnX := Lib.hid (show w3.heap.size ∉ X from fun hh => by have h1 := (HX.out.lo _ hh).2; have h2 := k3.size; omega)
          have aA := HC.out _ KA.out
          clear hwA' hkA hbA ar
          clear k3
          go_wp2_with fail
          refine (HAd.out _ HXA.out KA.out).mono ?_
          rintro e w4 ⟨rfl, X4, hx4, k4, n4⟩
          have K4 := Lib.hid (KA.out.above k4 (fun y hh => (HXA.out.lo y hh).1))
          have B4 := k4.blk HBA.out hnX.out
          have b3 := B4.get (k := 3) rfl
          have a4 := HC.out _ K4.out
          have HX4 := Lib.hid hx4
          clear hwA aA B4 k4 n4 hx4 HAd HXA HBA hnX HRd K HX
          rcases hwhich with ⟨he, hA⟩ | ⟨he, rfl⟩
          all_goals
            first
              | (have hq := (int_eq he).1
                 have hcat : S all ++ S x = S all2 := by rw [S_append, hA]
                 have hov : ¬ 9223372036854775807 < all.length + x.length := by omega
                 clear hA)
              | have hq := (int_ne he).1
            clear he
            have HT := Lib.hid (fun w' (h : Cx w.heap.size w' b X4 c.dat c2) => cx_take h)
            have HZ := Lib.hid (show (c2.st = 4 ∧ decide (c2.st = 4) = true ∧ (if c2.st = 4 then c2.inp else []) = c2.inp ∧ (if c2.st = 4 then all2.length - c2.inp.length else 0 : Nat) = all2.length - c2.inp.length) ∨ (decide (c2.st = 4) = false ∧ (if c2.st = 4 then c2.inp else []) = []) by
              by_cases h4 : c2.st = 4
              · exact .inl ⟨h4, decide_eq_true h4, if_pos h4, if_pos h4⟩
              · exact .inr ⟨decide_eq_false h4, if_neg h4⟩)
            have HQ := Lib.hid (fun w6 (h : Cx w.heap.size w6 b X4 c2.dat c2) => (fun n : Nat => (cx_done (w := w6.drewN n) (h.keep0 ((Keep.refl [] w6).drewN n)) hst2).mono (fun _ _ h => And.intro h.1 h.2.symm)))
            have HQ2 := Lib.hid (fun w6 (h : Cx w.heap.size w6 b X4 c2.dat c2) => (fun n : Nat => (cx_rest (w := w6.drewN n) (h.keep0 ((Keep.refl [] w6).drewN n)) hst2).mono (fun _ _ h => And.intro h.1 h.2.symm)))
            have HQ3 := Lib.hid (fun w6 (h : Cx w.heap.size w6 b X4 c2.dat c2) => (fun n : Nat => (cx_size (w := w6.drewN n) (h.keep0 ((Keep.refl [] w6).drewN n))).mono (fun _ _ h => And.intro h.1 h.2.symm)))
            generalize (if c2.st = 4 then all2.length - c2.inp.length else 0 : Nat) = sz2 at HRd2 HZ
            generalize decide (c2.st = 4) = dn2 at HRd2 HZ HQ
            generalize (if c2.st = 4 then c2.inp else []) = rt2 at HZ HQ2
            go_wp2_with fail
            refine (HRd2.out _).mono ?_
            rintro e w5 ⟨rfl, k5⟩
            have hkB := k5.alloc (.cells (bodC c2.dat dn2 sz2 c2.err).toArray 46)
            have hbB := Blk.newA w5 (bodC c2.dat dn2 sz2 c2.err).toArray 46
            generalize hwB : w5.alloc (.cells #[.string (S c2.dat), .bool dn2, .int .i64 (sz2 : Nat), .int .i64 c2.err] 46) = wB
            have hwB' : w5.alloc (.cells (bodC c2.dat dn2 sz2 c2.err).toArray 46) = wB := hwB
            rw [hwB'] at hkB hbB
            have HBB := Lib.hid (show Blk wB w5.heap.size 46 (bodC c2.dat dn2 sz2 c2.err) from hbB)
            have HXB := Lib.hid (HX4.out.keep0 hkB)
            have KB := Lib.hid (K4.out.trans hkB)
            have hnX := Lib.hid (show w5.heap.size ∉ X4 from fun hh => by have h1 := (HX4.out.lo _ hh).2; have h2 := k5.size; omega)
            clear hwB' hkB hbB k5 b3 a4 HX4 K4
            go_wp2_with fail
            refine (HT.out _ HXB.out).mono ?_
            rintro e w6 ⟨o, rfl, ho, hx6, k6⟩
            have hc2 : S c.dat ++ S o = S c2.dat := by rw [S_append, ← ho]
            have so := S_size o
            have so1 := S_size c.dat
            have so2 := S_size c2.dat
            have hol : c2.dat.length = c.dat.length + o.length := by rw [ho, List.length_append]
            have hov2 : ¬ 9223372036854775807 < c.dat.length + o.length := by omega
            have B6 := k6.blk HBB.out hnX.out
            have b0 := B6.get (k := 0) rfl
            have b1' := B6.get (k := 1) rfl
            have b2' := B6.get (k := 2) rfl
            have b3 := B6.get (k := 3) rfl
            have K6 := Lib.hid (KB.out.above k6 (fun y hh => (HXB.out.lo y hh).1))
            have HX6 := Lib.hid hx6
            have p1 := S_toList c2.dat
            have p2 := S_toList rt2
            have HOL := Lib.hid hol
            clear hwB B6 k6 hx6 ho hol HT HXB HBB hnX KB HRd2
            rcases HZ.out with ⟨h4, hd, hr, hz⟩ | ⟨hd, hr⟩
            · have hdr := HDR.out h4
              rw [← hz, ← hr] at hdr
              have x3 : (S all2).extract sz2 all2.length = S rt2 := by rw [S_extract, List.take_length, hdr]
              have i3 : (sz2 : Int) ≤ (all2.length : Int) := by omega
              have i4 : (0 : Int) ≤ (sz2 : Int) := by omega
              subst hd
              clear h4 hr hz hdr HZ HDR
              go_upto_region 20 with fail
              go_quiet (first
                | (go_at_call 29; exact Calls.quiet_of_same (HQ.out _ HX6.out _))
                | (go_at_call 30; exact Calls.quiet_of_same (HQ2.out _ HX6.out _))
                | (go_at_call 31; exact Calls.quiet_of_same (HQ3.out _ HX6.out _)))
              go_wp2_with fail
              go_roundg (30 - (k + 1))
              case measure => omega
              case rel => exact ⟨k + 1, c2, all2, X4, rfl, rfl, by go_num, by omega, rfl, hl2, HR2, Lib.hid (HX6.out.keep0 ((Keep.refl [] w6).drewN _)), Lib.hid (K6.out.drewN _)⟩
            · subst hd hr
              clear HZ HDR
              go_upto_region 20 with fail
              go_quiet (first
                | (go_at_call 29; exact Calls.quiet_of_same (HQ.out _ HX6.out _))
                | (go_at_call 30; exact Calls.quiet_of_same (HQ2.out _ HX6.out _))
                | (go_at_call 31; exact Calls.quiet_of_same (HQ3.out _ HX6.out _)))
              go_wp2_with fail
              go_roundg (30 - (k + 1))
              case measure => omega
              case rel => exact ⟨k + 1, c2, all2, X4, rfl, rfl, by go_num, by omega, rfl, hl2, HR2, Lib.hid (HX6.out.keep0 ((Keep.refl [] w6).drewN _)), Lib.hid (K6.out.drewN _)⟩
      · have q : decide ((k : Int) < 30) = false := by simp; omega
        go_wp2_with fail
        go_ret
        exact ⟨rfl, K.out⟩
    · have q : ¬ (k : Int) < (P.length : Int) := by omega
      go_wp2_with fail
      go_ret
      exact ⟨rfl, K.out⟩
end Go.Proofs.YtmfnciocnlmceaaDoor

/- An argument that is a slice of strings, read. No conditions. -/
namespace Go.Proofs.YtmfnciocnlmceaaDoor
open Go.ChangeShapes Go.WideShapes Go.ChangeAt Go.RowKit

theorem read_strC {H : Type} {enc : TypeId × Value → H} {w : World} {base : Nat} {spare : Nat → Bool} {held : Bool} (m : Nat) (cs : List Value) (x : DataW H × List MemPlace)
    (h : DataW.trod enc Tryd.prog w base spare held m 9 cs = some x) : ∃ a : List UInt8, cs = strC a ∧ a.length ≤ maxLen := by
  obtain ⟨a, c0, _, la⟩ := DataW.trod_string Tryd.underlying9 h
  exact ⟨a.data.toList, by rw [strC, S_of]; exact c0, by rw [Array.length_toList]; exact la⟩
end Go.Proofs.YtmfnciocnlmceaaDoor
