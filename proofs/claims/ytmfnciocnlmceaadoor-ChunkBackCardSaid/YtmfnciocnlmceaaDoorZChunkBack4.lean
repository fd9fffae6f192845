/- Parts of the proof of ChunkBack, in order. No conditions but those that each theorem states. -/
import Derived.Test.YtmfnciocnlmceaaDoorZChunkBack3
/- Layer 11: Write; the document's Write. No conditions but on lengths and the library's table. -/
namespace Go.Proofs.YtmfnciocnlmceaaDoor
open Go.RowKit Go.Shelf

theorem wr_step (k : Nat) {t : List UInt8} (h0 : t ≠ []) {n : Nat} (hn : min (k + 1) t.length = n) : wrL k t = (hexL n ++ [13, 10] ++ t.take n ++ [13, 10]) ++ wrL k (t.drop n) := by
  rw [wrL_cons k h0, hn]
  have e1 : t.take (k + 1) = t.take n := by
    rcases Nat.le_total (k + 1) t.length with h | h
    · rw [← hn, Nat.min_eq_left h]
    · rw [← hn, Nat.min_eq_right h, List.take_of_length_le h, List.take_length]
  have e2 : t.drop (k + 1) = t.drop n := by
    rcases Nat.le_total (k + 1) t.length with h | h
    · rw [← hn, Nat.min_eq_left h]
    · rw [← hn, Nat.min_eq_right h, List.drop_eq_nil_of_le h, List.drop_length]
  rw [e1, e2]
  simp [crlfC]
set_option maxRecDepth 100000 in
set_option maxHeartbeats 4000000 in
theorem chunk_Write (s : List UInt8) (by' : Int) (k : Nat) (w : World) (h64 : P64 w) (hs : s.length ≤ 65536) (hk : max by' 1 = ((k + 1 : Nat) : Int)) :
    Calls Tryd.prog 32 #[.string (S s), .int .i64 by'] w fun e w' => e = .returned (.string (S (wrL k s ++ endC))) ∧ Keep [] w w' := by
  have HN := Lib.hid (bld_new (Keep.refl [] w))
  have H64 := Lib.hid h64
  obtain ⟨K, hK⟩ : ∃ K, k + 1 = K := ⟨_, rfl⟩
  rw [hK] at hk
  have HWL := Lib.hid (wrL_len k s.length s (Nat.le_refl _) (by omega))
  go_enter Tryd.func32, Tryd.ntmps32
  go_wp2_with fail
  generalize hwA : w.alloc (.cells #[.pointer none, .slice none 0 0] 85) = wA at *
  clear hwA
  generalize hnb : w.heap.size = nb at *
  clear hnb
  go_loopg [0] s.length (fun g v wr => ∃ t out : List UInt8, v = .string (S t) ∧ g = t.length ∧ t.length ≤ s.length ∧ Hid (Bld w wr nb out) ∧ Hid (out ++ wrL k t = wrL k s))
  case atStart => exact ⟨s, [], rfl, rfl, Nat.le_refl _, HN, Lib.hid rfl⟩
  case round =>
    obtain ⟨t, out, rfl, hg, hts, HB, HE⟩ := hrel
    have s1 := S_size t
    have s2 := S_toList t
    have hol : out.length ≤ 1376256 := by
      have e := congrArg List.length HE.out
      rw [List.length_append] at e
      have := HWL.out
      omega
    by_cases h0 : t = []
    · have HF := Lib.hid (show out = wrL k s by have e := HE.out; rw [h0, wrL_nil, List.append_nil] at e; exact e)
      have hem : t.isEmpty = true := by rw [h0]; rfl
      have c1 : S out ++ (⟨#[48]⟩ : ByteArray) = S (out ++ [48]) := S_append out [48]
      have c2 : S (out ++ [48]) ++ (⟨#[13, 10]⟩ : ByteArray) = S (out ++ [48] ++ [13, 10]) := S_append _ [13, 10]
      have c3 : S (out ++ [48] ++ [13, 10]) ++ (⟨#[13, 10]⟩ : ByteArray) = S (out ++ endC) := by rw [show (⟨#[13, 10]⟩ : ByteArray) = S [13, 10] from rfl, S_append]; simp [endC]
      have z1 := S_size out
      have l1 : (out ++ [48]).length = out.length + 1 := by simp
      have l2 : (out ++ [48] ++ [13, 10]).length = out.length + 3 := by simp
      generalize out ++ [48] ++ [13, 10] = o2 at *
      generalize out ++ [48] = o1 at *
      have z2 := S_size o1
      have z3 := S_size o2
      have HS := Lib.hid (bld_string HB.out)
      clear h0 hk HE
      go_wp2_with fail
      refine HS.out.mono ?_
      rintro e w1 ⟨rfl, k1⟩
      have K1 := Lib.hid k1
      clear k1
      go_wp2_with fail
      go_ret
      rw [← HF.out]
      exact ⟨rfl, K1.out⟩
    · have hem : t.isEmpty = false := by cases t with | nil => exact absurd rfl h0 | cons => rfl
      have hlp := len_pos h0
      obtain ⟨n, hn⟩ : ∃ n : Nat, min K t.length = n := ⟨_, rfl⟩
      have hst := wr_step k h0 (n := n) (by rw [hK]; exact hn)
      have hn1 : 0 < n := by omega
      have hn2 : n ≤ t.length := by omega
      have hmin : min ((K : Nat) : Int) ((t.length : Nat) : Int) = ((n : Nat) : Int) := by omega
      have HH := Lib.hid (fun w1 (k1 : Keep [] wr w1) => hexa_Hexnum n (by omega) w1 (H64.out.keep0 (HB.out.kept.trans k1)))
      have x1 : (S t).extract 0 n = S (t.take n) := by rw [S_extract, List.drop_zero]
      have x2 : (S t).extract n t.length = S (t.drop n) := by rw [S_extract, List.take_length]
      have i1 : (n : Int) ≤ (t.length : Int) := by omega
      have i0 : (0 : Int) ≤ (n : Int) := by omega
      have c1 : S (hexL n) ++ (⟨#[13, 10]⟩ : ByteArray) = S (hexL n ++ [13, 10]) := S_append _ [13, 10]
      have c2 : S (hexL n ++ [13, 10]) ++ S (t.take n) = S (hexL n ++ [13, 10] ++ t.take n) := S_append _ _
      have c3 : S (hexL n ++ [13, 10] ++ t.take n) ++ (⟨#[13, 10]⟩ : ByteArray) = S (hexL n ++ [13, 10] ++ t.take n ++ [13, 10]) := S_append _ [13, 10]
      have hxl := hexL_len (n := n) (by omega)
      have htl : (t.take n).length = n := by rw [List.length_take]; omega
      have l1 : (hexL n ++ [13, 10]).length = (hexL n).length + 2 := by simp
      have l2 : (hexL n ++ [13, 10] ++ t.take n).length = (hexL n).length + 2 + n := by simp [htl]; omega
      have l3 : (hexL n ++ [13, 10] ++ t.take n ++ [13, 10]).length = (hexL n).length + 4 + n := by simp [htl]; omega
      have HE2 := Lib.hid (show (out ++ (hexL n ++ [13, 10] ++ t.take n ++ [13, 10])) ++ wrL k (t.drop n) = wrL k s by rw [List.append_assoc, ← hst]; exact HE.out)
      have htd : (t.drop n).length = t.length - n := List.length_drop
      have hdl : (t.drop n).length < t.length := by omega
      clear hst h0 HE
      generalize hexL n ++ [13, 10] ++ t.take n ++ [13, 10] = p3 at *
      generalize hexL n ++ [13, 10] ++ t.take n = p2 at *
      generalize hexL n ++ [13, 10] = p1 at *
      generalize hexL n = p0 at *
      have z0 := S_size p0
      have z1 := S_size p1
      have z2 := S_size p2
      have z4 := S_size (t.take n)
      have HW := Lib.hid (fun w1 (k1 : Keep [] wr w1) => bld_write (HB.out.keep0 k1) p3 (by omega))
      go_upto_region 4 with fail
      go_cut [] (fun wx => Hid (Bld w wx nb (out ++ p3)))
      case first =>
        clear hk hmin HB H64
        go_region_with (first
          | (go_at_call 63; refine (HH.out _ (by repeat (first | exact Keep.refl _ _ | apply Keep.drew))).mono ?_; rintro e w2 ⟨rfl, k2⟩; have K2 := Lib.hid (show Keep [] wr w2 from Keep.trans (by repeat (first | exact Keep.refl _ _ | apply Keep.drew)) k2); clear k2)
          | (go_at_call 62; refine (HW.out _ (by repeat (first | exact K2.out | apply Keep.drew))).mono ?_; rintro e w3 ⟨rfl, hb'⟩; have HX := Lib.hid hb'; clear hb')
          | fail)
        all_goals
          go_wp2_with fail
          go_meet
          first | exact HX | exact Lib.hid (HX.out.keep0 (by repeat (first | exact Keep.refl _ _ | apply Keep.drew)))
      case rest =>
        have HC := hcut
        clear hcut HW HH HB
        go_wp2_with fail
        go_roundg (t.drop n).length
        case measure => omega
        case rel => exact ⟨t.drop n, out ++ p3, rfl, rfl, by omega, HC, HE2⟩
set_option maxRecDepth 100000 in
set_option maxHeartbeats 4000000 in
theorem ref11_Write (s : List UInt8) (by' : Int) (k : Nat) (w : World) (hs : s.length ≤ 65536) (hk : max by' 1 = ((k + 1 : Nat) : Int)) :
    Calls Tryd.prog 33 #[.string (S s), .int .i64 by'] w fun e w' => e = .returned (.string (S (wrL k s ++ endC))) ∧ w = w' := by
  obtain ⟨J, hJ, hj⟩ : ∃ J : Nat, min (max by' 1) (max ((s.length : Nat) : Int) 1) = (J : Int) ∧ ∃ j, j + 1 = J ∧ wrL j s = wrL k s ∧ J ≤ 65536 := by
    by_cases h : (k + 1) ≤ max s.length 1
    · exact ⟨k + 1, by omega, k, rfl, rfl, by omega⟩
    · refine ⟨max s.length 1, by omega, max s.length 1 - 1, by omega, wrL_clamp _ _ _ (by omega) (by omega), by omega⟩
  obtain ⟨j, hj1, hj2, hj3⟩ := hj
  rw [← hj2]
  have hj4 : 0 < J := by omega
  have HWL := Lib.hid (wrL_len j s.length s (Nat.le_refl _) (by omega))
  have s0 := S_size s
  clear hj2 hk
  go_enter Tryd.func33, Tryd.ntmps33
  go_wp2_with fail
  go_loopg [5, 6] (s.length + 1) (fun g v i wr => ∃ (a : Nat) (out : List UInt8), v = .string (S out) ∧ i = .int .i64 (a : Nat) ∧ a ≤ s.length + J ∧ g = s.length + 1 - a ∧ w = wr ∧ Hid (out ++ wrL j (s.drop a) = wrL j s))
  case atStart => exact ⟨0, [], rfl, rfl, by omega, by omega, rfl, Lib.hid (by simp)⟩
  case round =>
    obtain ⟨a, out, rfl, rfl, haJ, hga, rfl, HE⟩ := hrel
    have hol : out.length ≤ 1376256 := by
      have e := congrArg List.length HE.out
      rw [List.length_append] at e
      have := HWL.out
      omega
    by_cases hlt : a < s.length
    · have h0 : s.drop a ≠ [] := fun hh => by have := congrArg List.length hh; simp at this; omega
      have hdl : (s.drop a).length = s.length - a := List.length_drop
      obtain ⟨n, hn⟩ : ∃ n : Nat, min J (s.length - a) = n := ⟨_, rfl⟩
      have hst := wr_step j h0 (n := n) (by rw [hj1, hdl]; exact hn)
      have hn1 : 0 < n := by omega
      obtain ⟨z, hz⟩ : ∃ z : Nat, a + n = z := ⟨_, rfl⟩
      have hzl : z ≤ s.length := by omega
      have hmin : min ((a : Int) + (J : Int)) ((s.length : Nat) : Int) = ((z : Nat) : Int) := by omega
      have hw1 := IntWalk.i64_in ((a : Int) + (J : Int)) (by omega)
      have x1 : (S s).extract a z = S ((s.drop a).take n) := by rw [S_extract, List.drop_take, show z - a = n by omega]
      have i1 : (a : Int) ≤ (z : Int) := by omega
      have i0 : (0 : Int) ≤ (a : Int) := by omega
      have i2 : (z : Int) ≤ (s.length : Int) := by omega
      have htl : ((s.drop a).take n).length = n := by rw [List.length_take]; omega
      have HH := Lib.hid (fun w1 => ref_Hexnum n w1 (by omega))
      have c0 : S out ++ S (hexL n) = S (out ++ hexL n) := S_append _ _
      have c1 : S (out ++ hexL n) ++ (⟨#[13, 10]⟩ : ByteArray) = S (out ++ hexL n ++ [13, 10]) := S_append _ [13, 10]
      have c2 : S (out ++ hexL n ++ [13, 10]) ++ S ((s.drop a).take n) = S (out ++ hexL n ++ [13, 10] ++ (s.drop a).take n) := S_append _ _
      have c3 : S (out ++ hexL n ++ [13, 10] ++ (s.drop a).take n) ++ (⟨#[13, 10]⟩ : ByteArray) = S (out ++ hexL n ++ [13, 10] ++ (s.drop a).take n ++ [13, 10]) := S_append _ [13, 10]
      have hxl := hexL_len (n := n) (by omega)
      have l0 : (out ++ hexL n).length = out.length + (hexL n).length := by simp
      have l1 : (out ++ hexL n ++ [13, 10]).length = out.length + (hexL n).length + 2 := by simp; omega
      have l2 : (out ++ hexL n ++ [13, 10] ++ (s.drop a).take n).length = out.length + (hexL n).length + 2 + n := by rw [List.length_append, l1, htl]
      have HE2 := Lib.hid (show (out ++ hexL n ++ [13, 10] ++ (s.drop a).take n ++ [13, 10]) ++ wrL j (s.drop (a + J)) = wrL j s by
        have e := HE.out
        rw [hst, List.drop_drop] at e
        have e2 : s.drop (a + J) = s.drop (a + n) := by
          rcases Nat.le_total J (s.length - a) with h | h
          · rw [show n = J by omega]
          · rw [List.drop_eq_nil_of_le (by omega), List.drop_eq_nil_of_le (by omega)]
        rw [e2, ← e]
        simp only [List.append_assoc])
      clear hst h0 HE
      have z0 := S_size out
      have z9 := S_size ((s.drop a).take n)
      generalize out ++ hexL n ++ [13, 10] ++ (s.drop a).take n ++ [13, 10] = p3 at *
      generalize out ++ hexL n ++ [13, 10] ++ (s.drop a).take n = p2 at *
      generalize out ++ hexL n ++ [13, 10] = p1 at *
      generalize out ++ hexL n = p0 at *
      generalize hexL n = px at *
      generalize (s.drop a).take n = py at *
      have z1 := S_size p0
      have z2 := S_size p1
      have z3 := S_size p2
      have z4 := S_size px
      clear hJ
      go_wp2_with fail
      refine (HH.out _).mono ?_
      rintro e w1 ⟨rfl, rfl⟩
      go_wp2_with fail
      go_roundg (s.length + 1 - (a + J))
      case measure => omega
      case rel => exact ⟨a + J, p3, rfl, by go_num, by omega, rfl, rfl, HE2⟩
    · have HF := Lib.hid (show out = wrL j s by have e := HE.out; rw [List.drop_eq_nil_of_le (by omega), wrL_nil, List.append_nil] at e; exact e)
      have c3 : S out ++ (⟨#[48, 13, 10, 13, 10]⟩ : ByteArray) = S (out ++ endC) := S_append _ endC
      have z1 := S_size out
      clear hJ HE
      go_wp2_with fail
      go_ret
      rw [← HF.out]
      exact ⟨rfl, rfl⟩
end Go.Proofs.YtmfnciocnlmceaaDoor

/- Layer 11: what the statements are awake to; the statement ChunkWrites. No conditions but the library's table. -/
namespace Go.Proofs.YtmfnciocnlmceaaDoor
open Go.RowKit Go.Shelf

def awP1 : List UInt8 := [51, 13, 10, 97, 98]
def awP2 : List UInt8 := [99, 13, 10, 48, 13, 10, 13, 10, 114, 101, 115, 116]
def awP3 : List UInt8 := [53, 59, 120, 61, 121, 13, 10]
def awC1 : Ck := ⟨1, 1, 100, 0, [], [97, 98], 0⟩
def awC2 : Ck := ⟨4, 0, 100, 0, [114, 101, 115, 116], [97, 98, 99], 0⟩
theorem aw1 : addC (ck0 100) awP1 = awC1 := by kernel_rfl
theorem aw2 : addC awC1 awP2 = awC2 := by kernel_rfl
theorem aw3 : (addC (ck0 4) awP3).err = 4 := by decide +kernel
theorem aw4 : wrL 2 [97, 98, 99, 100, 101] ++ endC = [51, 13, 10, 97, 98, 99, 13, 10, 50, 13, 10, 100, 101, 13, 10, 48, 13, 10, 13, 10] := by
  have e1 : wrL 2 [97, 98, 99, 100, 101] = hexL 3 ++ crlfC ++ ([97, 98, 99] ++ crlfC) ++ wrL 2 [100, 101] := wrL_cons 2 (by simp)
  have e2 : wrL 2 [100, 101] = hexL 2 ++ crlfC ++ ([100, 101] ++ crlfC) ++ wrL 2 [] := wrL_cons 2 (by simp)
  rw [e1, e2, wrL_nil, hexL_small (by omega), hexL_small (by omega)]
  decide

set_option maxRecDepth 100000 in
set_option maxHeartbeats 4000000 in
theorem chunk_awake (w : World) (hm : ML w) (h64 : P64 w) : Calls Tryd.prog 24 #[] w fun e w' => e = .returned (.bool true) ∧ Keep [] w w' := by
  have hbig := hm.lt
  have HM := Lib.hid hm
  have H64 := Lib.hid h64
  have hN := cx_new w.heap.size 100 w (Nat.le_refl _)
  have HN := Lib.hid hN
  clear hN
  go_enter Tryd.func24, Tryd.ntmps24
  go_wp2_with fail
  refine HN.out.mono ?_
  rintro e w1 ⟨b, rfl, hb, hx, k1⟩
  have K1 := Lib.hid k1
  have HA := Lib.hid (cx_add (s := awP1) hx (HM.out.keep k1 (by simp)) hbig (by decide +kernel) (by decide +kernel) (fun _ => ck0_ok _))
  rw [aw1] at HA
  clear k1 hx
  go_wp2_with fail
  refine HA.out.mono ?_
  rintro e w2 ⟨rfl, X2, hx, k2, n2⟩
  have lo := hx.lo
  have K2 := Lib.hid (K1.out.above k2 (by intro x hh; simp at hh; omega))
  have HT := Lib.hid (cx_take hx)
  have q1 : (awC1.err != 0) = false := by decide
  have t0 := S_toList [97, 98]
  clear k2 hx n2 lo
  go_wp2_with fail
  refine HT.out.mono ?_
  rintro e w3 ⟨o, rfl, ho, hx, k3⟩
  obtain rfl : o = [97, 98] := ho.symm
  have lo := hx.lo
  have K3 := Lib.hid (K2.out.above k3 (fun x hh => (lo x hh).1))
  have HD := Lib.hid (cx_done hx (by decide))
  have HA := Lib.hid (cx_add (s := awP2) hx (HM.out.keep K3.out (by simp)) hbig (by decide) (by decide) (fun _ => by refine ⟨?_, ?_, ?_⟩ <;> decide))
  rw [aw2] at HA
  have HL := Lib.hid lo
  clear k3 hx lo ho
  go_wp2_with fail
  refine HD.out.mono ?_
  rintro e w3' ⟨rfl, rfl⟩
  have q2 : decide (awC1.st = 4) = false := by decide
  go_wp2_with fail
  refine HA.out.mono ?_
  rintro e w4 ⟨rfl, X4, hx, k4, n4⟩
  have q3 : (awC2.err != 0) = false := by decide
  have K4 := Lib.hid (K3.out.above k4 (fun x hh => (HL.out x hh).1))
  have HX := Lib.hid hx
  have HN := Lib.hid (cx_new w.heap.size 4 w4 K4.out.size)
  clear hx k4 n4
  go_wp2_with fail
  refine HN.out.mono ?_
  rintro e w5 ⟨d, rfl, hd, hy, k5⟩
  have K5 := Lib.hid (K4.out.trans k5)
  have HX5 := Lib.hid (HX.out.keep0 k5)
  have HY := Lib.hid hy
  have HT := Lib.hid (cx_take HX5.out)
  have sepX := Lib.hid (show ∀ x ∈ X4, x ∉ [d] from fun x hh hh2 => by have := HX.out.lo x hh; simp at hh2; omega)
  clear hy k5
  go_wp2_with fail
  refine HT.out.mono ?_
  rintro e w6 ⟨o, rfl, ho, hx, k6⟩
  obtain rfl : o = [99] := (List.append_cancel_left (show ([97, 98] : List UInt8) ++ [99] = [97, 98] ++ o from ho)).symm
  have K6 := Lib.hid (K5.out.above k6 (fun x hh => (HX5.out.lo x hh).1))
  have HY6 := Lib.hid (HY.out.keep k6 (apart_symm sepX.out))
  have HD := Lib.hid (cx_done hx (by decide))
  have HR := Lib.hid (cx_rest hx (by decide))
  have HS := Lib.hid (cx_size hx)
  have HA := Lib.hid (cx_add (s := awP3) HY6.out (HM.out.keep K6.out (by simp)) hbig (by decide +kernel) (by decide +kernel) (fun _ => ck0_ok _))
  have HW := Lib.hid (fun w' (k : Keep [] w w') => chunk_Write [97, 98, 99, 100, 101] 3 2 w' (H64.out.keep0 k) (by simp) (by decide))
  rw [aw3] at HA
  rw [aw4] at HW
  have t1 := S_toList [99]
  have t2 := S_toList [114, 101, 115, 116]

  have q7 := S_toList [51, 13, 10, 97, 98, 99, 13, 10, 50, 13, 10, 100, 101, 13, 10, 48, 13, 10, 13, 10]
  clear hx k6 ho
  go_wp2_with fail
  refine HD.out.mono ?_
  rintro e w6' ⟨rfl, rfl⟩
  have q4 : decide (awC2.st = 4) = true := by decide
  go_wp2_with fail
  refine HR.out.mono ?_
  rintro e w6' ⟨rfl, rfl⟩
  have q5 : S (if awC2.st = 4 then awC2.inp else []) = ⟨#[114, 101, 115, 116]⟩ := rfl
  go_wp2_with fail
  refine HS.out.mono ?_
  rintro e w6' ⟨rfl, rfl⟩
  have q6 : (awC2.dat.length : Int) = 3 := rfl
  go_wp2_with fail
  refine HA.out.mono ?_
  rintro e w7 ⟨rfl, X7, hx, k7, n7⟩
  have K7 := Lib.hid (K6.out.above k7 (fun x hh => (HY6.out.lo x hh).1))
  clear hx k7 n7
  go_wp2_with fail
  refine (HW.out _ K7.out).mono ?_
  rintro e w8 ⟨rfl, k8⟩
  have K8 := Lib.hid (K7.out.trans k8)
  clear k8
  go_wp2_with fail
  go_ret
  exact ⟨rfl, K8.out⟩

set_option maxRecDepth 100000 in
set_option maxHeartbeats 4000000 in
theorem chunkWrites_walk (s : List UInt8) (by' : Int) (w : World) (hm : ML w) (h64 : P64 w) (hs : s.length ≤ maxLen) (hb : in64 by') :
    Calls Tryd.prog 6 #[.string (S s), .int .i64 by'] w fun e w' => e = .returned (.bool true) ∧ Keep [] w w' := by
  have hs' : s.length ≤ 9223372036854775807 := hs
  have s0 := S_size s
  have HA := Lib.hid (chunk_awake w hm h64)
  have H64 := Lib.hid h64
  by_cases hl : 4096 < s.length
  · have q : decide ((s.length : Int) > 4096) = true := by simp; omega
    clear hl hb
    go_enter Tryd.func6, Tryd.ntmps6
    go_wp2_with fail
    refine HA.out.mono ?_
    rintro e w1 ⟨rfl, k1⟩
    have K1 := Lib.hid k1
    clear k1
    go_wp2_with fail
    go_ret
    exact ⟨rfl, K1.out⟩
  · have q : decide ((s.length : Int) > 4096) = false := by simp; omega
    obtain ⟨k, hk⟩ : ∃ k : Nat, max by' 1 = ((k + 1 : Nat) : Int) := ⟨(max by' 1).toNat - 1, by omega⟩
    have HW := Lib.hid (fun w' (kk : Keep [] w w') => chunk_Write s by' k w' (H64.out.keep0 kk) (by omega) hk)
    have HR := Lib.hid (fun w' => ref11_Write s by' k w' (by omega) hk)
    generalize wrL k s ++ endC = out at *
    have q2 := S_toList out
    clear hl hb hk
    go_enter Tryd.func6, Tryd.ntmps6
    go_wp2_with fail
    refine HA.out.mono ?_
    rintro e w1 ⟨rfl, k1⟩
    have K1 := Lib.hid k1
    clear k1
    go_wp2_with fail
    refine (HW.out _ K1.out).mono ?_
    rintro e w2 ⟨rfl, k2⟩
    have K2 := Lib.hid (K1.out.trans k2)
    clear k2
    go_wp2_with fail
    refine (HR.out _).mono ?_
    rintro e w3 ⟨rfl, rfl⟩
    go_wp2_with fail
    go_ret
    exact ⟨ret_bool (by simp), K2.out⟩
end Go.Proofs.YtmfnciocnlmceaaDoor

/- Layer 11, plain laws: what was written is read as it was, cut off it isn't whole, with a byte less allowed it is too long. No program. -/
namespace Go.Proofs.YtmfnciocnlmceaaDoor
open Go.RowKit

theorem addC_of_runs {c d : Ck} {s : List UInt8} {e : Int} (h0 : c.err = 0) (hok : c.ok) (hr : Runs (c.add s) d e) : addC c s = { d with err := if e = 17 then 0 else e } := by
  have h := addC_R (c := c) (s := s) (fun _ => hok)
  unfold AddR at h
  rw [if_neg (by simp [h0])] at h
  obtain ⟨d', e', hr', hc⟩ := h
  obtain ⟨rfl, rfl⟩ := runs_det hr hr'
  exact hc
theorem addC_rd {m : Int} (s : List UInt8) : Rdc m s (addC (ck0 m) s) := by
  have h := (rd_nil m).add (addC_R (c := ck0 m) (s := s) (fun _ => ck0_ok m))
  exact h.1 rfl
theorem addC_rq {m : Int} {all : List UInt8} {c : Ck} (h : Rq m all c) (s : List UInt8) : Rq m (all ++ s) (addC c s) := h.add (addC_R h.sound.1)
/-- all bytes of a body in chunks -/
def wrT (k : Nat) (s : List UInt8) : List UInt8 := wrL k s ++ endC
theorem back_full (k : Nat) (s more : List UInt8) (hs : s.length ≤ 1048576) : addC (ck0 (s.length : Nat)) (wrT k s ++ more) = ⟨4, 0, s.length, 0, more, s, 0⟩ := by
  have hr := runs_write k s.length more 0 s.length s [] 0 (Nat.le_refl _) hs (by simp)
  have e1 : (ck0 (s.length : Nat)).add (wrT k s ++ more) = ⟨0, 0, s.length, 0, wrL k s ++ (endC ++ more), [], 0⟩ := by
    unfold ck0 Ck.add wrT
    have : (max (s.length : Int) 0).toNat = s.length := by omega
    rw [this]
    simp
  rw [← e1] at hr
  rw [addC_of_runs rfl (ck0_ok _) hr]
  simp
theorem back_cut (k : Nat) (s : List UInt8) (hs : s.length ≤ 1048576) (j : Nat) (hj : j < (wrT k s).length) :
    (addC (ck0 (s.length : Nat)) ((wrT k s).take j)).err = 0 ∧ (addC (ck0 (s.length : Nat)) ((wrT k s).take j)).st ≠ 4 ∧ (addC (ck0 (s.length : Nat)) ((wrT k s).take j)).dat <+: s ∧ (addC (ck0 (s.length : Nat)) ((wrT k s).take j)).st ≤ 4 := by
  have hp := addC_rd (m := (s.length : Nat)) ((wrT k s).take j)
  have hf := addC_rd (m := (s.length : Nat)) (wrT k s)
  have hb := back_full k s [] hs
  rw [List.append_nil] at hb
  rw [hb] at hf
  generalize addC (ck0 (s.length : Nat)) ((wrT k s).take j) = d at *
  have hall : (wrT k s).take j ++ (wrT k s).drop j = wrT k s := List.take_append_drop _ _
  have hsd := hp.sound
  have h0 : d.err = 0 := by
    by_cases h : d.err = 0
    · exact h
    · rw [← hall] at hf
      have := (rd_prefix hp h hf).1
      exact this.symm
  have hadd := (hp.add (addC_R (c := d) (s := (wrT k s).drop j) (fun h => (hsd.1 h).1))).1 h0
  rw [hall] at hadd
  have heq := rd_det hf hadd
  have hok := (hsd.1 h0).1
  have hR := addC_R (c := d) (s := (wrT k s).drop j) (fun h => (hsd.1 h).1)
  unfold AddR at hR
  rw [if_neg (by simp [h0])] at hR
  obtain ⟨x, e, hr, hc⟩ := hR
  rw [← heq] at hc
  refine ⟨h0, fun h4 => ?_, ?_, hsd.2.2.2.1⟩
  · have h4' : (d.add ((wrT k s).drop j)).st = 4 := h4
    rcases runs_eq hr (step4 h4') with hh | hh
    · have := hh.1; simp at this
    · rw [hh.2.1] at hc
      have hi := congrArg Ck.inp hc
      have hl := congrArg List.length hi
      simp [Ck.add] at hl
      omega
  · have := (runs_ok hr (add_ok hok _)).2.2.2.2
    have hd := congrArg Ck.dat hc
    dsimp only at hd
    rw [hd]
    exact this
theorem back_long (k : Nat) (s : List UInt8) (hs : s.length ≤ 1048576) (h0 : s ≠ []) : (addC (ck0 ((s.length - 1 : Nat) : Int)) (wrT k s)).err = 4 ∧ (addC (ck0 ((s.length - 1 : Nat) : Int)) (wrT k s)).st = 0 ∧
    (addC (ck0 ((s.length - 1 : Nat) : Int)) (wrT k s)).inp.length + (addC (ck0 ((s.length - 1 : Nat) : Int)) (wrT k s)).dat.length ≤ (wrT k s).length ∧ ((addC (ck0 ((s.length - 1 : Nat) : Int)) (wrT k s)).most : Int) ≤ 1048576 := by
  have hp := len_pos h0
  obtain ⟨d, hr, h1, h2, h3⟩ := runs_long k (s.length - 1) endC 0 s.length s [] 0 (Nat.le_refl _) hs (by simp) (by simp; omega)
  have e1 : (ck0 ((s.length - 1 : Nat) : Int)).add (wrT k s) = ⟨0, 0, s.length - 1, 0, wrL k s ++ endC, [], 0⟩ := by
    unfold ck0 Ck.add wrT
    have : (max ((s.length - 1 : Nat) : Int) 0).toNat = s.length - 1 := by omega
    rw [this]
    simp
  have hsd := (addC_rd (m := ((s.length - 1 : Nat) : Int)) (wrT k s)).sound
  rw [← e1] at hr
  have hx := addC_of_runs (c := ck0 ((s.length - 1 : Nat) : Int)) rfl (ck0_ok _) hr
  refine ⟨by rw [hx]; simp, by rw [hx]; exact h1, hsd.2.2.1, by rw [hsd.2.1]; omega⟩
theorem addC_bad {c : Ck} (h : c.err ≠ 0) (s : List UInt8) : addC c s = c := by unfold addC; rw [if_pos h]
theorem wrT_len (k : Nat) (s : List UInt8) (h : s.length ≤ 1048576) : (wrT k s).length ≤ 21 * s.length + 5 := by
  have := wrL_len k s.length s (Nat.le_refl _) h
  unfold wrT
  simp [endC]
  omega
theorem wrT_pos (k : Nat) (s : List UInt8) : 5 ≤ (wrT k s).length := by unfold wrT; simp [endC]
end Go.Proofs.YtmfnciocnlmceaaDoor

/- Layer 11: the statement ChunkBack. No conditions but the library's table. -/
namespace Go.Proofs.YtmfnciocnlmceaaDoor
open Go.RowKit Go.Shelf

set_option maxRecDepth 100000 in
theorem nil_Add (s : List UInt8) (w : World) : Calls Tryd.prog 27 #[.pointer none, .string (S s)] w fun e w' => e = .returned (.int .i64 2) ∧ w = w' := by
  go_enter Tryd.func27, Tryd.ntmps27
  go_wp2_with fail
  go_step3
  go_wp2_with fail
  rw [Exit.noGoto_ret]
  go_ret
  exact ⟨rfl, rfl⟩
set_option maxRecDepth 100000 in
theorem nil_Take (w : World) : Calls Tryd.prog 28 #[.pointer none] w fun e w' => e = .returned (.string (S [])) ∧ w = w' := by
  go_enter Tryd.func28, Tryd.ntmps28
  go_wp2_with fail
  go_ret
  exact ⟨rfl, rfl⟩
set_option maxRecDepth 100000 in
theorem nil_Done (w : World) : Calls Tryd.prog 29 #[.pointer none] w fun e w' => e = .returned (.bool false) ∧ w = w' := by
  go_enter Tryd.func29, Tryd.ntmps29
  go_wp2_with fail
  go_ret
  exact ⟨rfl, rfl⟩
set_option maxRecDepth 100000 in
theorem nil_Rest (w : World) : Calls Tryd.prog 30 #[.pointer none] w fun e w' => e = .returned (.string (S [])) ∧ w = w' := by
  go_enter Tryd.func30, Tryd.ntmps30
  go_wp2_with fail
  refine (nil_Done _).mono ?_
  rintro e w1 ⟨rfl, rfl⟩
  go_wp2_with fail
  go_ret
  exact ⟨rfl, rfl⟩
set_option maxRecDepth 100000 in
theorem nil_Size (w : World) : Calls Tryd.prog 31 #[.pointer none] w fun e w' => e = .returned (.int .i64 0) ∧ w = w' := by
  go_enter Tryd.func31, Tryd.ntmps31
  go_wp2_with fail
  go_ret
  exact ⟨rfl, rfl⟩
theorem str_beq {a b : List UInt8} (h : a = b) : (a == b) = true ∧ (a != b) = false := by subst h; simp
set_option maxRecDepth 100000 in
set_option maxHeartbeats 8000000 in
theorem chunkBack_walk (s : List UInt8) (by' : Int) (more : List UInt8) (cut : Int) (w : World) (hm : ML w) (h64 : P64 w) (hs : s.length ≤ maxLen) (_ : in64 by') (hmo : more.length ≤ maxLen) (_ : in64 cut) :
    Calls Tryd.prog 8 #[.string (S s), .int .i64 by', .string (S more), .int .i64 cut] w fun e w' => e = .returned (.bool true) ∧ Keep [] w w' := by
  have hs' : s.length ≤ 9223372036854775807 := hs
  have hm' : more.length ≤ 9223372036854775807 := hmo
  have s0 := S_size s
  have s1 := S_size more
  have HA := Lib.hid (chunk_awake w hm h64)
  have hbig := hm.lt
  have HM := Lib.hid hm
  have H64 := Lib.hid h64
  by_cases hl : 4096 < s.length ∨ 4096 < more.length
  · by_cases hl1 : 4096 < s.length
    all_goals
      have q1 : decide ((s.length : Int) > 4096) = decide (4096 < s.length) := by rw [decide_eq_decide]; omega
      first
        | rw [decide_eq_true hl1] at q1
        | (rw [decide_eq_false hl1] at q1
           have q2 : decide ((more.length : Int) > 4096) = true := by simp; omega)
      clear hl hl1 hm h64
      go_enter Tryd.func8, Tryd.ntmps8
      go_wp2_with fail
      refine HA.out.mono ?_
      rintro e w1 ⟨rfl, k1⟩
      have K1 := Lib.hid k1
      clear k1
      go_wp2_with fail
      go_ret
      exact ⟨rfl, K1.out⟩
  · have q1 : decide ((s.length : Int) > 4096) = false := by simp; omega
    have q2 : decide ((more.length : Int) > 4096) = false := by simp; omega
    have hl1 : s.length ≤ 4096 := by omega
    have hl2 : more.length ≤ 4096 := by omega
    obtain ⟨k, hk⟩ : ∃ k : Nat, max by' 1 = ((k + 1 : Nat) : Int) := ⟨(max by' 1).toNat - 1, by omega⟩
    have HW := Lib.hid (fun w' (kk : Keep [] w w') => chunk_Write s by' k w' (H64.out.keep0 kk) (by omega) hk)
    have hW1 := wrT_len k s (by omega)
    have hW2 := wrT_pos k s
    have HF := Lib.hid (back_full k s more (by omega))
    have HC := Lib.hid (back_cut k s (by omega))
    have HL := Lib.hid (back_long k s (by omega))
    change Hid (∀ w', Keep [] w w' → Calls Tryd.prog 32 #[.string (S s), .int .i64 by'] w' fun e w'' => e = .returned (.string (S (wrT k s))) ∧ Keep [] w' w'') at HW
    generalize wrT k s = W at *
    have sW := S_size W
    obtain ⟨j, hj, ej⟩ := u64_mod cut W.length (by omega)
    have hxj : (S W).extract 0 j = S (W.take j) := by rw [S_extract, List.drop_zero]
    have hji : ((j : Nat) : Int) ≤ (W.length : Int) := by omega
    have hcat := S_append W more
    have hcl : (W ++ more).length = W.length + more.length := List.length_append
    have HN := Lib.hid (fun (n : Nat) w' (k : Keep [] w w') => cx_new w.heap.size (n : Nat) w' k.size)
    clear hl hm h64 hk
    go_enter Tryd.func8, Tryd.ntmps8
    go_wp2_with fail
    refine HA.out.mono ?_
    rintro e w1 ⟨rfl, k1⟩
    have K1 := Lib.hid k1
    clear k1
    go_wp2_with fail
    refine (HW.out _ K1.out).mono ?_
    rintro e w2 ⟨rfl, k2⟩
    have K2 := Lib.hid (K1.out.trans k2)
    clear k2
    go_wp2_with fail
    refine (HN.out s.length _ K2.out).mono ?_
    rintro e w3 ⟨b, rfl, hb, hx, k3⟩
    have K3 := Lib.hid (K2.out.trans k3)
    have HAd := Lib.hid (cx_add (s := W ++ more) hx (HM.out.keep K3.out (by simp)) hbig (by simp [ck0]; omega) (by simp [ck0]; omega) (fun _ => ck0_ok _))
    have HX := Lib.hid hx
    rw [HF.out] at HAd
    clear k3 hx hb HF
    go_wp2_with fail
    refine HAd.out.mono ?_
    rintro e w4 ⟨rfl, X4, hx, k4, n4⟩
    have K4 := Lib.hid (K3.out.above k4 (fun x hh => (HX.out.lo x hh).1))
    have HD := Lib.hid (cx_done hx (by show 4 ≤ 4; omega))
    have HT := Lib.hid (cx_take hx)
    have HX4 := Lib.hid hx
    clear k4 n4 hx HAd HX
    go_wp2_with fail
    refine HD.out.mono ?_
    rintro e w4' ⟨rfl, rfl⟩
    go_wp2_with fail
    refine HT.out.mono ?_
    rintro e w5 ⟨o, rfl, ho, hx, k5⟩
    obtain rfl : o = s := ho.symm
    have K5 := Lib.hid (K4.out.above k5 (fun x hh => (HX4.out.lo x hh).1))
    have HR := Lib.hid (cx_rest hx (by show 4 ≤ 4; omega))
    change Hid (Calls Tryd.prog 30 #[.pointer (some ⟨b, 0, none⟩)] w5 fun e w' => e = .returned (.string (S more)) ∧ w5 = w') at HR
    clear ho hx k5 HX4 HD HT
    have p1 := S_toList o
    have p2 := S_toList more
    go_wp2_with fail
    refine HR.out.mono ?_
    rintro e w5' ⟨rfl, rfl⟩
    clear HR
    go_wp2_with fail
    refine (HN.out o.length _ K5.out).mono ?_
    rintro e w6 ⟨b2, rfl, hb, hx, k6⟩
    have K6 := Lib.hid (K5.out.trans k6)
    obtain ⟨e0, e4, epr, ele⟩ := HC.out j hj
    have htl : (W.take j).length ≤ W.length := by simp; omega
    have HAd := Lib.hid (cx_add (s := W.take j) hx (HM.out.keep K6.out (by simp)) hbig (by simp [ck0]; omega) (by simp [ck0]; omega) (fun _ => ck0_ok _))
    have HX := Lib.hid hx
    rw [e0] at HAd
    generalize addC (ck0 (o.length : Nat)) (W.take j) = dc at *
    have E4 := Lib.hid (show decide (dc.st = 4) = false by simp [e4])
    have E5 := Lib.hid (show (if dc.st = 4 then dc.inp else []) = [] by rw [if_neg e4])
    have EPR := Lib.hid epr
    clear k6 hx hb HC e0 e4 epr
    go_wp2_with fail
    refine HAd.out.mono ?_
    rintro e w7 ⟨rfl, X7, hx, k7, n7⟩
    have K7 := Lib.hid (K6.out.above k7 (fun x hh => (HX.out.lo x hh).1))
    have HD := Lib.hid (cx_done hx ele)
    have HR := Lib.hid (cx_rest hx ele)
    have HT := Lib.hid (cx_take hx)
    have HX7 := Lib.hid hx
    rw [E4.out] at HD
    rw [E5.out] at HR
    clear k7 n7 hx HAd HX
    go_wp2_with fail
    refine HD.out.mono ?_
    rintro e w7' ⟨rfl, rfl⟩
    go_wp2_with fail
    refine HR.out.mono ?_
    rintro e w7' ⟨rfl, rfl⟩
    have p3 := S_toList []
    go_wp2_with fail
    refine HT.out.mono ?_
    rintro e w8 ⟨t, rfl, ht, hx, k8⟩
    have K8 := Lib.hid (K7.out.above k8 (fun x hh => (HX7.out.lo x hh).1))
    have ht' : dc.dat = t := ht
    rw [ht'] at EPR
    have tle := EPR.out.length_le
    have sT := S_size t
    have x3 : (S o).extract 0 t.length = S t := by
      rw [S_extract, List.drop_zero]
      obtain ⟨r, hr⟩ := EPR.out
      rw [← hr, List.take_left]
    have p4 := S_toList t
    have d1 : decide ((t.length : Int) > (o.length : Int)) = false := by simp; omega
    have i1 : (t.length : Int) ≤ (o.length : Int) := by omega
    clear ht ht' hx k8 HX7 HD HR HT EPR E4 E5
    have HN0 := Lib.hid (fun w' => nil_Add [] w')
    have HN1 := Lib.hid (fun w' => nil_Take w')
    have HN2 := Lib.hid (fun w' => nil_Rest w')
    have HN3 := Lib.hid (fun w' => nil_Done w')
    have HN4 := Lib.hid (fun w' => nil_Size w')
    have n0 : S [] ++ S [] = S [] := S_append [] []
    have n1 : (⟨#[]⟩ : ByteArray) = S [] := rfl
    by_cases h0 : o = []
    · have he : o.isEmpty = true := by rw [h0]; rfl
      clear h0 HL
      go_wp2_with (first
        | (go_at_call 27; (refine (HN0.out _).mono ?_); rintro e w9 ⟨rfl, rfl⟩)
        | (go_at_call 28; (refine (HN1.out _).mono ?_); rintro e w9 ⟨rfl, rfl⟩)
        | (go_at_call 30; (refine (HN2.out _).mono ?_); rintro e w9 ⟨rfl, rfl⟩)
        | (go_at_call 29; (refine (HN3.out _).mono ?_); rintro e w9 ⟨rfl, rfl⟩)
        | (go_at_call 31; (refine (HN4.out _).mono ?_); rintro e w9 ⟨rfl, rfl⟩)
        | fail)
      go_ret
      exact ⟨rfl, K8.out⟩
    · have he : o.isEmpty = false := by cases o with | nil => exact absurd rfl h0 | cons => rfl
      have hlp := len_pos h0
      obtain ⟨f1, f2, f3, f4⟩ := HL.out h0
      have hsub : (o.length : Int) - 1 = ((o.length - 1 : Nat) : Int) := by omega
      obtain ⟨ol, hol⟩ : ∃ ol, o.length - 1 = ol := ⟨_, rfl⟩
      rw [hol] at hsub f1 f2 f3 f4
      have wol := IntWalk.i64_in ((ol : Nat) : Int) (by omega)
      clear h0 HL
      go_wp2_with fail
      refine (HN.out ol _ K8.out).mono ?_
      rintro e w9 ⟨b3, rfl, hb, hx, k9⟩
      have K9 := Lib.hid (K8.out.trans k9)
      have HAd := Lib.hid (cx_add (s := W) hx (HM.out.keep K9.out (by simp)) hbig (by simp [ck0]; omega) (by simp [ck0]; omega) (fun _ => ck0_ok _))
      have HX := Lib.hid hx
      have hbad := addC_bad (c := addC (ck0 (ol : Nat)) W) (by rw [f1]; decide) [109, 111, 114, 101]
      rw [f1] at HAd
      generalize addC (ck0 (ol : Nat)) W = fc at *
      clear k9 hx hb
      go_wp2_with fail
      refine HAd.out.mono ?_
      rintro e w10 ⟨rfl, X10, hx, k10, n10⟩
      have K10 := Lib.hid (K9.out.above k10 (fun x hh => (HX.out.lo x hh).1))
      have HAd2 := Lib.hid (cx_add (s := [109, 111, 114, 101]) hx (HM.out.keep K10.out (by simp)) hbig (by simp; omega) (by omega) (fun hh => absurd (f1.symm.trans hh) (by decide)))
      have HX10 := Lib.hid hx
      rw [hbad, f1] at HAd2
      have F2 := Lib.hid f2
      clear k10 n10 hx HAd HX f1 f2 f3 f4 hbad
      go_wp2_with fail
      refine HAd2.out.mono ?_
      rintro e w11 ⟨rfl, X11, hx, k11, n11⟩
      have K11 := Lib.hid (K10.out.above k11 (fun x hh => (HX10.out.lo x hh).1))
      have HD := Lib.hid (cx_done hx (by have := F2.out; omega))
      rw [show decide (fc.st = 4) = false by rw [F2.out]; decide] at HD
      clear k11 n11 hx HAd2 HX10
      go_wp2_with fail
      refine HD.out.mono ?_
      rintro e w11' ⟨rfl, rfl⟩
      clear HD
      go_wp2_with (first
        | (go_at_call 27; (refine (HN0.out _).mono ?_); rintro e w9 ⟨rfl, rfl⟩)
        | (go_at_call 28; (refine (HN1.out _).mono ?_); rintro e w9 ⟨rfl, rfl⟩)
        | (go_at_call 30; (refine (HN2.out _).mono ?_); rintro e w9 ⟨rfl, rfl⟩)
        | (go_at_call 29; (refine (HN3.out _).mono ?_); rintro e w9 ⟨rfl, rfl⟩)
        | (go_at_call 31; (refine (HN4.out _).mono ?_); rintro e w9 ⟨rfl, rfl⟩)
        | fail)
      go_ret
      exact ⟨rfl, K11.out⟩
end Go.Proofs.YtmfnciocnlmceaaDoor
