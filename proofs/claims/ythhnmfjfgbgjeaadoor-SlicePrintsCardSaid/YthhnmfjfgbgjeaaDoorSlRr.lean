/- Layer 16: the document's Read; it reads what Read reads. No conditions but on lengths. -/
import Derived.Test.YthhnmfjfgbgjeaaDoorSlRf
namespace Go.Proofs.YthhnmfjfgbgjeaaDoor
open Go.RowKit Go.Shelf

def rrK (l : List UInt8) : Int := Lib.indexByte l 45
def rrN (l : List UInt8) : Int := Lib.indexByte l 47
def rrA (l : List UInt8) : List UInt8 := (l.take (rrK l).toNat).drop 6
def rrB (l : List UInt8) : List UInt8 := (l.take (rrN l).toNat).drop ((rrK l).toNat + 1)
def rrC (l : List UInt8) : List UInt8 := l.drop ((rrN l).toNat + 1)
def rrM (l : List UInt8) : Rd3 :=
  if rrK l < 6 ∨ rrN l < rrK l then ⟨0, 0, 0, 3⟩
  else if undecE (rrA l) 4611686018427387904 + undecE (rrB l) 4611686018427387904 + undecE (rrC l) 4611686018427387904 + prnE (undecV (rrA l) 4611686018427387904) (undecV (rrB l) 4611686018427387904) (undecV (rrC l) 4611686018427387904) ≠ 0 ∨ prnS (undecV (rrA l) 4611686018427387904) (undecV (rrB l) 4611686018427387904) (undecV (rrC l) 4611686018427387904) ≠ l then ⟨0, 0, 0, 3⟩
  else ⟨undecV (rrA l) 4611686018427387904, undecV (rrB l) 4611686018427387904, undecV (rrC l) 4611686018427387904, 0⟩
theorem undecE_nn (l : List UInt8) (m : Int) : 0 ≤ undecE l m ∧ undecE l m ≤ 14 := by
  have := undec_range l m
  by_cases h : undecE l m = 0
  · omega
  · have := (this.2 h).2; omega
theorem undecV_rng (l : List UInt8) : 0 ≤ undecV l 4611686018427387904 ∧ undecV l 4611686018427387904 ≤ 4611686018427387904 := by
  have := undec_range l 4611686018427387904
  by_cases h : undecE l 4611686018427387904 = 0
  · exact this.1 h
  · have := (this.2 h).1; omega
theorem prnE_nn (a b c : Int) : 0 ≤ prnE a b c ∧ prnE a b c ≤ 1 := by unfold prnE; split <;> omega
theorem rr_parts {x y z : Nat} (h : prnOk x y z = true) : rrK (prnS x y z) = 6 + (Lib.decDigits x).length ∧ rrN (prnS x y z) = 6 + (Lib.decDigits x).length + 1 + (Lib.decDigits y).length ∧ rrA (prnS x y z) = Lib.decDigits x ∧ rrB (prnS x y z) = Lib.decDigits y ∧ rrC (prnS x y z) = Lib.decDigits z := by
  have e : prnS x y z = (saidB ++ Lib.decDigits x) ++ 45 :: (Lib.decDigits y ++ 47 :: Lib.decDigits z) := by
    unfold prnS
    rw [if_pos h, Lib.itoa_nonneg, Lib.itoa_nonneg, Lib.itoa_nonneg]
    simp
  have e' : prnS x y z = (saidB ++ Lib.decDigits x ++ 45 :: Lib.decDigits y) ++ 47 :: Lib.decDigits z := by rw [e]; simp
  have h45 : (45 : UInt8) ∉ saidB ++ Lib.decDigits x := by
    simp only [List.mem_append, not_or]
    exact ⟨by decide, dec_no x (by decide)⟩
  have h47 : (47 : UInt8) ∉ saidB ++ Lib.decDigits x ++ 45 :: Lib.decDigits y := by
    simp only [List.mem_append, List.mem_cons, not_or]
    exact ⟨⟨by decide, dec_no x (by decide)⟩, by decide, dec_no y (by decide)⟩
  have hl1 : (saidB ++ Lib.decDigits x).length = 6 + (Lib.decDigits x).length := by simp [saidB]; omega
  have hl2 : (saidB ++ Lib.decDigits x ++ 45 :: Lib.decDigits y).length = 6 + (Lib.decDigits x).length + 1 + (Lib.decDigits y).length := by simp [saidB]; omega
  have hk : rrK (prnS x y z) = ((saidB ++ Lib.decDigits x).length : Int) := by
    unfold rrK
    rw [e]
    refine indexByte_at (by simp) (fun j hj => ?_)
    rw [List.getElem?_append_left hj]
    intro e
    exact h45 (List.mem_of_getElem? e)
  have hn : rrN (prnS x y z) = ((saidB ++ Lib.decDigits x ++ 45 :: Lib.decDigits y).length : Int) := by
    unfold rrN
    rw [e']
    refine indexByte_at (by simp) (fun j hj => ?_)
    rw [List.getElem?_append_left hj]
    intro e
    exact h47 (List.mem_of_getElem? e)
  have hA : rrA (prnS x y z) = Lib.decDigits x := by
    unfold rrA
    rw [hk, Int.toNat_natCast, e, List.take_left]
    rfl
  have hB : rrB (prnS x y z) = Lib.decDigits y := by
    unfold rrB
    rw [hk, hn, Int.toNat_natCast, Int.toNat_natCast, e', List.take_left, List.drop_append]
    have : (saidB ++ Lib.decDigits x).length + 1 - (saidB ++ Lib.decDigits x).length = 1 := by omega
    rw [this, List.drop_of_length_le (by omega)]
    rfl
  have hC : rrC (prnS x y z) = Lib.decDigits z := by
    unfold rrC
    rw [hn, Int.toNat_natCast, e', List.drop_append]
    have : (saidB ++ Lib.decDigits x ++ 45 :: Lib.decDigits y).length + 1 - (saidB ++ Lib.decDigits x ++ 45 :: Lib.decDigits y).length = 1 := by omega
    rw [this, List.drop_of_length_le (by omega)]
    rfl
  refine ⟨by rw [hk, hl1]; omega, by rw [hn, hl2]; omega, hA, hB, hC⟩
theorem rr_ok {a b c : Int} (h : prnOk a b c = true) : rrM (prnS a b c) = ⟨a, b, c, 0⟩ := by
  obtain ⟨x, y, z, rfl, rfl, rfl, h1, h2, h3⟩ := prn_nat h
  obtain ⟨pk, pn, p1, p2, p3⟩ := rr_parts h
  obtain ⟨u1, u2⟩ := undec_dec x 4611686018427387904 h1 (by omega)
  obtain ⟨u3, u4⟩ := undec_dec y 4611686018427387904 h2 (by omega)
  obtain ⟨u5, u6⟩ := undec_dec z 4611686018427387904 h3 (by omega)
  unfold rrM
  rw [p1, p2, p3, u1, u2, u3, u4, u5, u6, if_neg (by omega), if_neg]
  have : prnE ↑x ↑y ↑z = 0 := by unfold prnE; rw [if_pos h]
  simp [this]
theorem ix_lt (l : List UInt8) (c : UInt8) : Lib.indexByte l c = -1 ∨ ∃ o : Nat, Lib.indexByte l c = o ∧ l[o]? = some c ∧ o < l.length := by
  have := Lib.indexByte_ge l c
  by_cases h : Lib.indexByte l c = -1
  · exact .inl h
  · obtain ⟨o, ho⟩ := Int.eq_ofNat_of_zero_le (show 0 ≤ Lib.indexByte l c by omega)
    have h2 := (Lib.indexByte_some ho).1
    exact .inr ⟨o, ho, h2, by
      rcases Nat.lt_or_ge o l.length with h3 | h3
      · exact h3
      · rw [List.getElem?_eq_none h3] at h2; cases h2⟩
theorem rr_or (l : List UInt8) : rrM l = ⟨0, 0, 0, 3⟩ ∨ ∃ a b c, rrM l = ⟨a, b, c, 0⟩ ∧ prnOk a b c = true ∧ prnS a b c = l := by
  unfold rrM
  split
  · exact .inl rfl
  · split
    · exact .inl rfl
    · rename_i h
      have e1 := undecE_nn (rrA l) 4611686018427387904
      have e2 := undecE_nn (rrB l) 4611686018427387904
      have e3 := undecE_nn (rrC l) 4611686018427387904
      have e4 := prnE_nn (undecV (rrA l) 4611686018427387904) (undecV (rrB l) 4611686018427387904) (undecV (rrC l) 4611686018427387904)
      have hz : undecE (rrA l) 4611686018427387904 + undecE (rrB l) 4611686018427387904 + undecE (rrC l) 4611686018427387904 + prnE (undecV (rrA l) 4611686018427387904) (undecV (rrB l) 4611686018427387904) (undecV (rrC l) 4611686018427387904) = 0 := Classical.byContradiction fun hn => h (.inl hn)
      have hs : prnS (undecV (rrA l) 4611686018427387904) (undecV (rrB l) 4611686018427387904) (undecV (rrC l) 4611686018427387904) = l := Classical.byContradiction fun hn => h (.inr hn)
      exact .inr ⟨_, _, _, rfl, (prnE_iff _ _ _).1 (by omega), hs⟩
theorem rr_same (l : List UInt8) : rrM l = rdcM l := by
  rcases rdc_or l with h | ⟨a, b, c, h, ho, hs⟩
  · rcases rr_or l with h' | ⟨a, b, c, h', ho, hs⟩
    · rw [h, h']
    · have := rdc_ok ho
      rw [hs, h] at this
      cases this
  · rw [h, ← hs]
    exact rr_ok ho

set_option maxRecDepth 100000 in
set_option maxHeartbeats 2000000 in
theorem ref16_Read (l : List UInt8) (w : World) (hl : l.length ≤ 1048576) :
    Calls Tryd.prog 23 #[.string (S l)] w fun e w' => e = .returned (rrM l).asV ∧ Keep [] w w' := by
  have hM : rrM l = if rrK l < 6 ∨ rrN l < rrK l then ⟨0, 0, 0, 3⟩
    else if undecE (rrA l) 4611686018427387904 + undecE (rrB l) 4611686018427387904 + undecE (rrC l) 4611686018427387904 + prnE (undecV (rrA l) 4611686018427387904) (undecV (rrB l) 4611686018427387904) (undecV (rrC l) 4611686018427387904) ≠ 0 ∨ prnS (undecV (rrA l) 4611686018427387904) (undecV (rrB l) 4611686018427387904) (undecV (rrC l) 4611686018427387904) ≠ l then ⟨0, 0, 0, 3⟩
    else ⟨undecV (rrA l) 4611686018427387904, undecV (rrB l) 4611686018427387904, undecV (rrC l) 4611686018427387904, 0⟩ := rfl
  have F1 : Calls Tryd.prog 38 #[.string (S l), .int .u8 45] w fun e w' => e = .returned (.int .i64 (rrK l)) ∧ w = w' := ref_Find l 45 w (show l.length ≤ 9223372036854775807 by omega)
  have F2 : Calls Tryd.prog 38 #[.string (S l), .int .u8 47] w fun e w' => e = .returned (.int .i64 (rrN l)) ∧ w = w' := ref_Find l 47 w (show l.length ≤ 9223372036854775807 by omega)
  have gk := Lib.indexByte_ge l 45
  have gn := Lib.indexByte_ge l 47
  have lk : rrK l < l.length ∨ rrK l = -1 := by
    rcases ix_lt l 45 with h | ⟨o, h, _, h2⟩
    · exact .inr h
    · left; unfold rrK; omega
  have ln : rrN l < l.length ∨ rrN l = -1 := by
    rcases ix_lt l 47 with h | ⟨o, h, _, h2⟩
    · exact .inr h
    · left; unfold rrN; omega
  have lkn : rrK l ≠ rrN l ∨ rrK l = -1 := by
    rcases ix_lt l 45 with h | ⟨o, h, ho, h2⟩
    · exact .inr h
    · rcases ix_lt l 47 with h' | ⟨o', h', ho', h2'⟩
      · left; unfold rrK rrN; omega
      · left
        unfold rrK rrN
        rw [h, h']
        intro e
        have e : o = o' := by omega
        subst e
        rw [ho] at ho'
        cases ho'
  change -1 ≤ rrK l at gk
  change -1 ≤ rrN l at gn
  have hA : rrA l = (l.take (rrK l).toNat).drop 6 := rfl
  have hB : rrB l = (l.take (rrN l).toNat).drop ((rrK l).toNat + 1) := rfl
  have hC : rrC l = l.drop ((rrN l).toNat + 1) := rfl
  generalize hres : rrM l = res at hM ⊢
  generalize rrK l = k at *
  generalize rrN l = n at *
  have HM := Lib.hid hM
  have HF1 := Lib.hid F1
  have HF2 := Lib.hid F2
  have hsz := S_size l
  have htl := S_toList l
  clear hM F1 F2 hres
  by_cases h6 : k < 6
  · have h6' : decide (k < 6) = true := decide_eq_true h6
    have HX := Lib.hid (HM.out.trans (if_pos (Or.inl h6)))
    clear h6
    go_enter Tryd.func23, Tryd.ntmps23
    go_wp2_with fail
    refine HF1.out.mono ?_
    rintro e w1 ⟨rfl, rfl⟩
    go_wp2_with fail
    refine HF2.out.mono ?_
    rintro e w1 ⟨rfl, rfl⟩
    go_wp2_with fail
    refine bodyPost_ret (v := .tuple #[.int .i64 0, .int .i64 0, .int .i64 0, .int .i64 3]) (by simp [results, Tryd.results23]) rfl ⟨by rw [HX.out]; rfl, Keep.refl _ _⟩
  · by_cases hnk : n < k
    · have h6' : decide (k < 6) = false := decide_eq_false h6
      have hnk' : decide (n < k) = true := decide_eq_true hnk
      have HX := Lib.hid (HM.out.trans (if_pos (Or.inr hnk)))
      clear h6 hnk
      go_enter Tryd.func23, Tryd.ntmps23
      go_wp2_with fail
      refine HF1.out.mono ?_
      rintro e w1 ⟨rfl, rfl⟩
      go_wp2_with fail
      refine HF2.out.mono ?_
      rintro e w1 ⟨rfl, rfl⟩
      go_wp2_with fail
      refine bodyPost_ret (v := .tuple #[.int .i64 0, .int .i64 0, .int .i64 0, .int .i64 3]) (by simp [results, Tryd.results23]) rfl ⟨by rw [HX.out]; rfl, Keep.refl _ _⟩
    · obtain ⟨ka, rfl⟩ := Int.eq_ofNat_of_zero_le (show 0 ≤ k by omega)
      obtain ⟨na, rfl⟩ := Int.eq_ofNat_of_zero_le (show 0 ≤ n by omega)
      simp only [Int.toNat_natCast] at hA hB hC
      have hR := HM.out.trans (if_neg (by omega))
      have ha : (S l).extract 6 ka = S (rrA l) := by rw [S_extract, hA]
      have hb : (S l).extract (ka + 1) na = S (rrB l) := by rw [S_extract, hB]
      have hc : (S l).extract (na + 1) l.length = S (rrC l) := by rw [S_extract, hC, List.take_length]
      have la : (rrA l).length ≤ l.length := by rw [hA]; simp; omega
      have lb : (rrB l).length ≤ l.length := by rw [hB]; simp; omega
      have lc : (rrC l).length ≤ l.length := by rw [hC]; simp
      have e1 := undecE_nn (rrA l) 4611686018427387904
      have e2 := undecE_nn (rrB l) 4611686018427387904
      have e3 := undecE_nn (rrC l) 4611686018427387904
      have r1 := undecV_rng (rrA l)
      have r2 := undecV_rng (rrB l)
      have r3 := undecV_rng (rrC l)
      have U1 := Lib.hid (fun w' => ref_Undec (rrA l) 4611686018427387904 w' (show _ ≤ 9223372036854775807 by omega))
      have U2 := Lib.hid (fun w' => ref_Undec (rrB l) 4611686018427387904 w' (show _ ≤ 9223372036854775807 by omega))
      have U3 := Lib.hid (fun w' => ref_Undec (rrC l) 4611686018427387904 w' (show _ ≤ 9223372036854775807 by omega))
      generalize rrA l = xa at *
      generalize rrB l = xb at *
      generalize rrC l = xc at *
      generalize undecE xa 4611686018427387904 = ea at *
      generalize undecE xb 4611686018427387904 = eb at *
      generalize undecE xc 4611686018427387904 = ec at *
      generalize undecV xa 4611686018427387904 = va at *
      generalize undecV xb 4611686018427387904 = vb at *
      generalize undecV xc 4611686018427387904 = vc at *
      have HPR := Lib.hid (fun w' => ref16_Print va vb vc w' ⟨by omega, by omega⟩ ⟨by omega, by omega⟩ ⟨by omega, by omega⟩)
      have e4 := prnE_nn va vb vc
      generalize prnE va vb vc = pe at *
      generalize prnS va vb vc = ps at *
      have tps := S_toList ps
      have h6' : decide ((ka : Int) < 6) = false := decide_eq_false h6
      have hnk' : decide ((na : Int) < (ka : Int)) = false := decide_eq_false hnk
      have hw1 := IntWalk.i64_in ((ka : Int) + 1) (by omega)
      have hw2 := IntWalk.i64_in ((na : Int) + 1) (by omega)
      have hk6 : (6 : Int) ≤ (ka : Int) := by omega
      have hkl : (ka : Int) ≤ (l.length : Int) := by omega
      have hnl : (na : Int) ≤ (l.length : Int) := by omega
      have hn1l : (na : Int) + 1 ≤ (l.length : Int) := by omega
      have hn10 : (0 : Int) ≤ (na : Int) + 1 := by omega
      have hk10 : (0 : Int) ≤ (ka : Int) + 1 := by omega
      have ht1 : ((ka : Int) + 1).toNat = ka + 1 := by omega
      have ht2 : ((na : Int) + 1).toNat = na + 1 := by omega
      have hs1 := IntWalk.i64_in (ea + eb) (by omega)
      have hs2 := IntWalk.i64_in (ea + eb + ec) (by omega)
      have hs3 := IntWalk.i64_in (ea + eb + ec + pe) (by omega)
      have HR := Lib.hid hR
      clear hR hA hB hC la lb lc r1 r2 r3
      have hkn : (ka : Int) + 1 ≤ (na : Int) := by omega
      clear gk gn lk ln lkn h6 hnk
      by_cases hs : ea + eb + ec + pe = 0
      · have hz : (ea + eb + ec + pe != 0) = false := by simp [hs]
        by_cases hps : ps = l
        · have HX := Lib.hid (show res = ⟨va, vb, vc, 0⟩ by rw [HR.out, if_neg (by simp [hs, hps])])
          rw [hps] at HPR
          have hll : (l != l) = false := by simp
          clear hps HR HM tps hs e1 e2 e3 e4
          go_enter Tryd.func23, Tryd.ntmps23
          go_wp2_with fail
          refine HF1.out.mono ?_
          rintro e w1 ⟨rfl, rfl⟩
          go_wp2_with fail
          refine HF2.out.mono ?_
          rintro e w1 ⟨rfl, rfl⟩
          go_wp2_with fail
          refine (U1.out _).mono ?_
          rintro e w1 ⟨rfl, rfl⟩
          go_wp2_with fail
          refine (U2.out _).mono ?_
          rintro e w1 ⟨rfl, rfl⟩
          go_wp2_with fail
          refine (U3.out _).mono ?_
          rintro e w1 ⟨rfl, rfl⟩
          go_wp2_with fail
          refine (HPR.out _).mono ?_
          rintro e w1 ⟨rfl, k1⟩
          go_wp2_with fail
          refine bodyPost_ret (v := .tuple #[.int .i64 va, .int .i64 vb, .int .i64 vc, .int .i64 0]) (by simp [results, Tryd.results23]) rfl ⟨by rw [HX.out]; rfl, k1⟩
        · have HX := Lib.hid (show res = ⟨0, 0, 0, 3⟩ by rw [HR.out, if_pos (Or.inr hps)])
          have hll : ((S ps).toList != (S l).toList) = true := by rw [tps, htl]; simp [hps]
          have hll2 : ((S ps).toList == (S l).toList) = false := by rw [tps, htl]; simp [hps]
          clear hps HR HM tps hs e1 e2 e3 e4 htl
          go_enter Tryd.func23, Tryd.ntmps23
          go_wp2_with fail
          refine HF1.out.mono ?_
          rintro e w1 ⟨rfl, rfl⟩
          go_wp2_with fail
          refine HF2.out.mono ?_
          rintro e w1 ⟨rfl, rfl⟩
          go_wp2_with fail
          refine (U1.out _).mono ?_
          rintro e w1 ⟨rfl, rfl⟩
          go_wp2_with fail
          refine (U2.out _).mono ?_
          rintro e w1 ⟨rfl, rfl⟩
          go_wp2_with fail
          refine (U3.out _).mono ?_
          rintro e w1 ⟨rfl, rfl⟩
          go_wp2_with fail
          refine (HPR.out _).mono ?_
          rintro e w1 ⟨rfl, k1⟩
          go_wp2_with fail
          refine bodyPost_ret (v := .tuple #[.int .i64 0, .int .i64 0, .int .i64 0, .int .i64 3]) (by simp [results, Tryd.results23]) rfl ⟨by rw [HX.out]; rfl, k1⟩
      · have HX := Lib.hid (show res = ⟨0, 0, 0, 3⟩ by rw [HR.out, if_pos (Or.inl hs)])
        have hz : (ea + eb + ec + pe != 0) = true := by simp [hs]
        have hz2 : (ea + eb + ec + pe == 0) = false := by simp [hs]
        clear HR HM tps hs e1 e2 e3 e4
        go_enter Tryd.func23, Tryd.ntmps23
        go_wp2_with fail
        refine HF1.out.mono ?_
        rintro e w1 ⟨rfl, rfl⟩
        go_wp2_with fail
        refine HF2.out.mono ?_
        rintro e w1 ⟨rfl, rfl⟩
        go_wp2_with fail
        refine (U1.out _).mono ?_
        rintro e w1 ⟨rfl, rfl⟩
        go_wp2_with fail
        refine (U2.out _).mono ?_
        rintro e w1 ⟨rfl, rfl⟩
        go_wp2_with fail
        refine (U3.out _).mono ?_
        rintro e w1 ⟨rfl, rfl⟩
        go_wp2_with fail
        refine (HPR.out _).mono ?_
        rintro e w1 ⟨rfl, k1⟩
        go_wp2_with fail
        refine bodyPost_ret (v := .tuple #[.int .i64 0, .int .i64 0, .int .i64 0, .int .i64 3]) (by simp [results, Tryd.results23]) rfl ⟨by rw [HX.out]; rfl, k1⟩
end Go.Proofs.YthhnmfjfgbgjeaaDoor
