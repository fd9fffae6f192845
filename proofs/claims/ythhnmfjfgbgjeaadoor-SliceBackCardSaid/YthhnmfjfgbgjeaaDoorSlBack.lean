/- The statement SliceBack: its function answers true for every input. No conditions but on the library's tables. -/
import Derived.Test.YthhnmfjfgbgjeaaDoorSl8
namespace Go.Proofs.YthhnmfjfgbgjeaaDoor
open Go.RowKit Go.Shelf

set_option maxRecDepth 100000 in
set_option maxHeartbeats 4000000 in
theorem sliceBack_walk (a0 a1 a2 b0 b1 b2 : Int) (l : List UInt8) (w : World) (hm : ML w) (hp : P10 w) (ha : in64 a0 ∧ in64 a1 ∧ in64 a2) (hb : in64 b0 ∧ in64 b1 ∧ in64 b2) :
    Calls Tryd.prog 6 #[.agg #[.int .i64 a0, .int .i64 a1, .int .i64 a2], .agg #[.int .i64 b0, .int .i64 b1, .int .i64 b2], .string (S l)] w fun e w' => e = .returned (.bool true) ∧ Below w.heap.size w w' := by
  have hA := (Blk.newA w #[.int .i64 a0, .int .i64 a1, .int .i64 a2] 42).alloc (.cells #[.int .i64 b0, .int .i64 b1, .int .i64 b2] 42)
  have hB := Blk.newA (w.alloc (.cells #[.int .i64 a0, .int .i64 a1, .int .i64 a2] 42)) #[.int .i64 b0, .int .i64 b1, .int .i64 b2] 42
  have hsz : (w.alloc (.cells #[.int .i64 a0, .int .i64 a1, .int .i64 a2] 42)).heap.size = w.heap.size + 1 := by simp
  rw [hsz] at hB
  have hk := ((Keep.refl [] w).alloc (.cells #[.int .i64 a0, .int .i64 a1, .int .i64 a2] 42)).alloc (.cells #[.int .i64 b0, .int .i64 b1, .int .i64 b2] 42)
  generalize hwA : (w.alloc (.cells #[.int .i64 a0, .int .i64 a1, .int .i64 a2] 42)).alloc (.cells #[.int .i64 b0, .int .i64 b1, .int .i64 b2] 42) = wA at hA hB hk
  have HA := Lib.hid (fun w' (k : Keep [] wA w') => k.blk hA (by simp))
  have HB := Lib.hid (fun w' (k : Keep [] wA w') => k.blk hB (by simp))
  have HK := Lib.hid hk
  have HM := Lib.hid (fun w' (k : Keep [] wA w') => And.intro (hm.keep (hk.trans k) (by simp)) (hp.keep0 (hk.trans k)))
  have hsl := S_size l
  have HAW := Lib.hid (slice_awake wA (hm.keep hk (by simp)) (hp.keep0 hk))
  have HIA := Lib.hid ha
  have HIB := Lib.hid hb
  clear hA hB hk hsz hm hp ha hb
  go_enter Tryd.func6, Tryd.ntmps6
  go_wp2_with fail
  refine HAW.out.mono ?_
  rintro e w1 ⟨rfl, k1⟩
  by_cases h200 : l.length ≤ 200
  · have h200' : decide (200 < ((l.length : Nat) : Int)) = false := by simp; omega
    have HL := Lib.hid h200
    clear h200
    have c0 := (HA.out w1 k1).get (k := 0) rfl
    have c1 := (HA.out w1 k1).get (k := 1) rfl
    have c2 := (HA.out w1 k1).get (k := 2) rfl
    go_wp2_with fail
    refine (slice_Print a0 a1 a2 w1 HIA.out.1 HIA.out.2.1 HIA.out.2.2 (HM.out w1 k1).2).mono ?_
    rintro e w2 ⟨rfl, k2⟩
    have k2 := k1.trans k2
    have d0 := (HB.out w2 k2).get (k := 0) rfl
    have d1 := (HB.out w2 k2).get (k := 1) rfl
    have d2 := (HB.out w2 k2).get (k := 2) rfl
    clear c0 c1 c2 k1
    go_wp2_with fail
    refine (slice_Print b0 b1 b2 w2 HIB.out.1 HIB.out.2.1 HIB.out.2.2 (HM.out w2 k2).2).mono ?_
    rintro e w3 ⟨rfl, k3⟩
    have k3 := k2.trans k3
    clear d0 d1 d2 k2
    have a0' := (HA.out w3 k3).get (k := 0) rfl
    have a1' := (HA.out w3 k3).get (k := 1) rfl
    have a2' := (HA.out w3 k3).get (k := 2) rfl
    have b0' := (HB.out w3 k3).get (k := 0) rfl
    have b1' := (HB.out w3 k3).get (k := 1) rfl
    have b2' := (HB.out w3 k3).get (k := 2) rfl
    have hea := prnE_iff a0 a1 a2
    have heb := prnE_iff b0 b1 b2
    have hij := fun h h' => prn_inj (a := a0) (b := a1) (c := a2) (a' := b0) (b' := b1) (c' := b2) h h'
    have hrd := fun h => rdc_ok (a := a0) (b := a1) (c := a2) h
    have hlx : (prnS a0 a1 a2).length ≤ 1048576 := by
      unfold prnS
      have h0 := itoa_len a0 HIA.out.1
      have h1 := itoa_len a1 HIA.out.2.1
      have h2 := itoa_len a2 HIA.out.2.2
      split
      · simp [saidB]; omega
      · simp
    generalize prnE a0 a1 a2 = ea at *
    generalize prnE b0 b1 b2 = eb at *
    generalize prnS a0 a1 a2 = xa at *
    generalize prnS b0 b1 b2 = xb at *
    rw [← hea, ← heb] at hij
    rw [← hea] at hrd
    clear hea heb
    have tx := S_toList xa
    have ty := S_toList xb
    have HQ := Lib.hid (fun w' => eqArr3 a0 a1 a2 b0 b1 b2 w')
    -- the third part, from whatever world
    have HT : Hid (∀ (w' : World), Keep [] wA w' → Calls Tryd.prog 22 #[.string (S l)] w' fun e w'' => e = .returned (rdcM l).asV ∧ Keep [] w' w'') := fun w' k => slice_Read l w' (HM.out w' k).1 (HM.out w' k).2 (by have := HL.out; omega)
    have HX : Hid (∀ (w' : World), Keep [] wA w' → Calls Tryd.prog 22 #[.string (S xa)] w' fun e w'' => e = .returned (rdcM xa).asV ∧ Keep [] w' w'') := fun w' k => slice_Read xa w' (HM.out w' k).1 (HM.out w' k).2 hlx
    have HOR := Lib.hid (rdc_or l)
    by_cases e1 : ea = 0
    · have hrd' := hrd e1
      have HIJ := Lib.hid (fun h => hij e1 h)
      subst e1
      rw [hrd'] at HX
      unfold Rd3.asV at HX
      dsimp only at HX
      clear hrd hrd' hij hlx
      by_cases e2 : eb = 0
      · have hij2 := HIJ.out e2
        subst e2
        have hbe : ((S xa).toList == (S xb).toList) = (a0 == b0 && (a1 == b1 && a2 == b2)) := by
          rw [tx, ty, Bool.eq_iff_iff]
          simp only [beq_iff_eq, Bool.and_eq_true]
          exact hij2
        generalize (a0 == b0 && (a1 == b1 && a2 == b2)) = X at HQ hbe
        have hq := HQ.out
        clear hij2 HIJ tx ty
        have tx := True.intro
        have ty := True.intro
        go_wp2_with fail
        refine (HX.out w3 k3).mono ?_
        rintro e w4 ⟨rfl, k4⟩
        have k4 := k3.trans k4
        have x0 := (HA.out w4 k4).get (k := 0) rfl
        have x1 := (HA.out w4 k4).get (k := 1) rfl
        have x2 := (HA.out w4 k4).get (k := 2) rfl
        have q2 : ∀ w', (Op.equalIn 10000 42 (.agg #[.int .i64 a0, .int .i64 a1, .int .i64 a2]) (.agg #[.int .i64 a0, .int .i64 a1, .int .i64 a2])).run Tryd.prog w' = .ok true w' := fun w' => by have := eqArr3 a0 a1 a2 a0 a1 a2 w'; simpa using this
        clear a0' a1' a2' b0' b1' b2' tx ty
        rcases HOR.out with hr | ⟨p, q, r, hr, ho, hs⟩
        · rw [hr] at HT
          unfold Rd3.asV at HT
          dsimp only at HT
          clear hr
          go_wp2_with fail
          refine (HT.out _ k4).mono ?_
          rintro e w8 ⟨rfl, k8⟩
          have k8 := (k4).trans k8
          have hpz : prnE 0 0 0 = 1 ∧ prnS 0 0 0 = [] := by decide
          have hc := slice_Print 0 0 0 w8 ⟨by omega, by omega⟩ ⟨by omega, by omega⟩ ⟨by omega, by omega⟩ (HM.out w8 k8).2
          rw [hpz.1, hpz.2] at hc
          clear hpz
          go_wp2_with fail
          refine hc.mono ?_
          rintro e w9 ⟨rfl, k9⟩
          go_wp2_with fail
          go_ret
          exact ⟨rfl, ((HK.out.trans k8).trans k9).below (by simp)⟩
        · rw [hr] at HT
          unfold Rd3.asV at HT
          dsimp only at HT
          clear hr
          have hpn := prn_nat ho
          have hi : in64 p ∧ in64 q ∧ in64 r := by obtain ⟨x, y, z, rfl, rfl, rfl, _, _, _⟩ := hpn; exact ⟨⟨by omega, by omega⟩, ⟨by omega, by omega⟩, ⟨by omega, by omega⟩⟩
          have HPI := Lib.hid (fun w' hp => slice_Print p q r w' hi.1 hi.2.1 hi.2.2 hp)
          rw [(prnE_iff p q r).2 ho, hs] at HPI
          clear hpn hi ho hs
          have tl := S_toList l
          go_wp2_with fail
          refine (HT.out _ k4).mono ?_
          rintro e w8 ⟨rfl, k8⟩
          have k8 := (k4).trans k8
          go_wp2_with fail
          refine (HPI.out w8 (HM.out w8 k8).2).mono ?_
          rintro e w9 ⟨rfl, k9⟩
          go_wp2_with fail
          go_ret
          exact ⟨rfl, ((HK.out.trans k8).trans k9).below (by simp)⟩
      · obtain ⟨z1, z2⟩ := int_ne e2
        clear e2 HIJ HQ
        go_wp2_with fail
        refine (HX.out w3 k3).mono ?_
        rintro e w4 ⟨rfl, k4⟩
        have k4 := k3.trans k4
        have x0 := (HA.out w4 k4).get (k := 0) rfl
        have x1 := (HA.out w4 k4).get (k := 1) rfl
        have x2 := (HA.out w4 k4).get (k := 2) rfl
        have q2 : ∀ w', (Op.equalIn 10000 42 (.agg #[.int .i64 a0, .int .i64 a1, .int .i64 a2]) (.agg #[.int .i64 a0, .int .i64 a1, .int .i64 a2])).run Tryd.prog w' = .ok true w' := fun w' => by have := eqArr3 a0 a1 a2 a0 a1 a2 w'; simpa using this
        clear a0' a1' a2' b0' b1' b2' tx ty
        rcases HOR.out with hr | ⟨p, q, r, hr, ho, hs⟩
        · rw [hr] at HT
          unfold Rd3.asV at HT
          dsimp only at HT
          clear hr
          go_wp2_with fail
          refine (HT.out _ k4).mono ?_
          rintro e w8 ⟨rfl, k8⟩
          have k8 := (k4).trans k8
          have hpz : prnE 0 0 0 = 1 ∧ prnS 0 0 0 = [] := by decide
          have hc := slice_Print 0 0 0 w8 ⟨by omega, by omega⟩ ⟨by omega, by omega⟩ ⟨by omega, by omega⟩ (HM.out w8 k8).2
          rw [hpz.1, hpz.2] at hc
          clear hpz
          go_wp2_with fail
          refine hc.mono ?_
          rintro e w9 ⟨rfl, k9⟩
          go_wp2_with fail
          go_ret
          exact ⟨rfl, ((HK.out.trans k8).trans k9).below (by simp)⟩
        · rw [hr] at HT
          unfold Rd3.asV at HT
          dsimp only at HT
          clear hr
          have hpn := prn_nat ho
          have hi : in64 p ∧ in64 q ∧ in64 r := by obtain ⟨x, y, z, rfl, rfl, rfl, _, _, _⟩ := hpn; exact ⟨⟨by omega, by omega⟩, ⟨by omega, by omega⟩, ⟨by omega, by omega⟩⟩
          have HPI := Lib.hid (fun w' hp => slice_Print p q r w' hi.1 hi.2.1 hi.2.2 hp)
          rw [(prnE_iff p q r).2 ho, hs] at HPI
          clear hpn hi ho hs
          have tl := S_toList l
          go_wp2_with fail
          refine (HT.out _ k4).mono ?_
          rintro e w8 ⟨rfl, k8⟩
          have k8 := (k4).trans k8
          go_wp2_with fail
          refine (HPI.out w8 (HM.out w8 k8).2).mono ?_
          rintro e w9 ⟨rfl, k9⟩
          go_wp2_with fail
          go_ret
          exact ⟨rfl, ((HK.out.trans k8).trans k9).below (by simp)⟩
    · obtain ⟨z1, z2⟩ := int_ne e1
      clear hrd hij hlx HX HQ
      clear a0' a1' a2' b0' b1' b2' tx ty
      rcases HOR.out with hr | ⟨p, q, r, hr, ho, hs⟩
      · rw [hr] at HT
        unfold Rd3.asV at HT
        dsimp only at HT
        clear hr
        go_wp2_with fail
        refine (HT.out _ k3).mono ?_
        rintro e w8 ⟨rfl, k8⟩
        have k8 := (k3).trans k8
        have hpz : prnE 0 0 0 = 1 ∧ prnS 0 0 0 = [] := by decide
        have hc := slice_Print 0 0 0 w8 ⟨by omega, by omega⟩ ⟨by omega, by omega⟩ ⟨by omega, by omega⟩ (HM.out w8 k8).2
        rw [hpz.1, hpz.2] at hc
        clear hpz
        go_wp2_with fail
        refine hc.mono ?_
        rintro e w9 ⟨rfl, k9⟩
        go_wp2_with fail
        go_ret
        exact ⟨rfl, ((HK.out.trans k8).trans k9).below (by simp)⟩
      · rw [hr] at HT
        unfold Rd3.asV at HT
        dsimp only at HT
        clear hr
        have hpn := prn_nat ho
        have hi : in64 p ∧ in64 q ∧ in64 r := by obtain ⟨x, y, z, rfl, rfl, rfl, _, _, _⟩ := hpn; exact ⟨⟨by omega, by omega⟩, ⟨by omega, by omega⟩, ⟨by omega, by omega⟩⟩
        have HPI := Lib.hid (fun w' hp => slice_Print p q r w' hi.1 hi.2.1 hi.2.2 hp)
        rw [(prnE_iff p q r).2 ho, hs] at HPI
        clear hpn hi ho hs
        have tl := S_toList l
        go_wp2_with fail
        refine (HT.out _ k3).mono ?_
        rintro e w8 ⟨rfl, k8⟩
        have k8 := (k3).trans k8
        go_wp2_with fail
        refine (HPI.out w8 (HM.out w8 k8).2).mono ?_
        rintro e w9 ⟨rfl, k9⟩
        go_wp2_with fail
        go_ret
        exact ⟨rfl, ((HK.out.trans k8).trans k9).below (by simp)⟩
  · have h200' : decide (200 < ((l.length : Nat) : Int)) = true := by simp; omega
    clear h200
    go_wp2_with fail
    go_ret
    exact ⟨rfl, (HK.out.trans k1).below (by simp)⟩
end Go.Proofs.YthhnmfjfgbgjeaaDoor
