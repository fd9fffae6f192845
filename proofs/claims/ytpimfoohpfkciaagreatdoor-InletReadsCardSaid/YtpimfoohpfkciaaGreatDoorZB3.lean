/- Parts of the proof, in order. No conditions but those that each theorem states. -/
import Derived.Test.YtpimfoohpfkciaaGreatDoorZB2
import Derived.WalkMore
import Derived.Lib.ItoaNum
import Derived.Lib.SlTrimSet
import Derived.Lib.SlBytesConst
import Derived.Lib.LaidTab
import Derived.Lib.ItoaLen
import Derived.Sort.Grow
/- Layer 11: begin, close, trailer, data, step. No conditions but on lengths. -/
namespace Go.Proofs.YtpimfoohpfkciaaGreatDoor
open Go.RowKit Go.Shelf

theorem num_len (t : List UInt8) : (numRest t).length ≤ t.length := by unfold numRest Lib.trimLeftS; exact List.Sublist.length_le (List.dropWhile_sublist _)

set_option maxRecDepth 100000 in
set_option maxHeartbeats 2000000 in
theorem chunk_begin (B b : Nat) (p : List UInt8) (c : Ck) (v : Value) (w : World) (hm : ML w) (hb : 0 ≠ b) (h : Ct B w b p c v) (hl : c.inp.length ≤ 1048576) (hmost : (c.most : Int) ≤ 9223372036854775807) (hok : c.dat.length ≤ c.most) :
    Calls Tryz.prog 87 #[.pointer (some ⟨b, 0, none⟩)] w fun e w' => e = .returned (.int .i64 (beginM c).2) ∧ Ct B w' b p (beginM c).1 v ∧ Keep [b] w w' := by
  have HL := Lib.hid (chunk_line B b p c v w h hl)
  have hle := line_le c.inp
  have HT := Lib.hid (fun w1 => show Calls Tryz.prog 103 #[.string (S (lnC c.inp).t), .string ⟨#[48, 49, 50, 51, 52, 53, 54, 55, 56, 57, 97, 98, 99, 100, 101, 102, 65, 66, 67, 68, 69, 70]⟩] w1 fun e w' => e = .returned (.string (S (numRest (lnC c.inp).t))) ∧ Below w1.heap.size w1 w' from
    Any.strings_TrimLeft_laid Tryz.lays161 (by kernel_rfl) (S (lnC c.inp).t) ⟨#[48, 49, 50, 51, 52, 53, 54, 55, 56, 57, 97, 98, 99, 100, 101, 102, 65, 66, 67, 68, 69, 70]⟩ w1 (by decide) (ascii_of_all (by decide)))
  have hnl := num_len (lnC c.inp).t
  have HR := Lib.hid (fun w1 (hm1 : ML w1) => chunk_isRest (numRest (lnC c.inp).t) w1 hm1 (by omega))
  have HU := Lib.hid (fun w1 => hexa_Unhexnum (numT (lnC c.inp).t) ((c.most : Int) - (c.dat.length : Nat)) w1 (show (numT (lnC c.inp).t).length ≤ 9223372036854775807 by unfold numT; rw [List.length_take]; omega))
  have hbe : beginM c = if (lnC c.inp).e ≠ 0 then (c, (lnC c.inp).e)
    else if numE (lnC c.inp).t ((c.most : Int) - (c.dat.length : Nat)) ≠ 0 then ({ c with inp := (lnC c.inp).r }, numE (lnC c.inp).t ((c.most : Int) - (c.dat.length : Nat)))
    else ({ c with inp := (lnC c.inp).r, left := (numV (lnC c.inp).t ((c.most : Int) - (c.dat.length : Nat))).toNat, st := if numV (lnC c.inp).t ((c.most : Int) - (c.dat.length : Nat)) = 0 then 3 else 1 }, 0) := rfl
  have hE : numE (lnC c.inp).t ((c.most : Int) - (c.dat.length : Nat)) = if restOk (numRest (lnC c.inp).t) then (if unhexE (numT (lnC c.inp).t) ((c.most : Int) - (c.dat.length : Nat)) = 14 then 4 else unhexE (numT (lnC c.inp).t) ((c.most : Int) - (c.dat.length : Nat))) else 3 := rfl
  have hV : numV (lnC c.inp).t ((c.most : Int) - (c.dat.length : Nat)) = unhexV (numT (lnC c.inp).t) ((c.most : Int) - (c.dat.length : Nat)) := rfl
  have hVr := fun hh => numV_range (t := (lnC c.inp).t) (m := (c.most : Int) - (c.dat.length : Nat)) hh
  have hEr := unhex_range (numT (lnC c.inp).t) ((c.most : Int) - (c.dat.length : Nat))
  have hle2 := line_err (l := c.inp)
  generalize (lnC c.inp).e = le at *
  generalize hrr : (lnC c.inp).r = lr at *
  have hx : (S (lnC c.inp).t).extract 0 ((lnC c.inp).t.length - (numRest (lnC c.inp).t).length) = S (numT (lnC c.inp).t) := by rw [S_extract, List.drop_zero]; rfl
  generalize numT (lnC c.inp).t = nt at *
  generalize restOk (numRest (lnC c.inp).t) = ro at *
  generalize numE (lnC c.inp).t ((c.most : Int) - (c.dat.length : Nat)) = ne at *
  generalize numV (lnC c.inp).t ((c.most : Int) - (c.dat.length : Nat)) = nv at *
  generalize unhexE nt ((c.most : Int) - (c.dat.length : Nat)) = ue at *
  generalize unhexV nt ((c.most : Int) - (c.dat.length : Nat)) = uv at *
  generalize numRest (lnC c.inp).t = nr at *
  generalize (lnC c.inp).t = lt at *
  have s1 := S_size lt
  have s2 := S_size nr
  subst hV
  clear h
  by_cases h0 : le = 0
  · subst h0
    rw [if_neg (by simp)] at hbe
    cases ro with
    | false =>
      rw [if_neg (by simp)] at hE
      subst hE
      rw [if_pos (by decide)] at hbe
      have HB := Lib.hid hbe
      clear hbe hVr hEr hx hle2
      go_enter Tryz.func87, Tryz.ntmps87
      go_wp2_with fail
      refine HL.out.mono ?_
      rintro e w1 ⟨rfl, t1, k1⟩
      have T1 := Lib.hid t1
      have K1 := Lib.hid k1
      clear t1 k1
      go_wp2_with fail
      refine (HT.out _).mono ?_
      rintro e w2 ⟨rfl, k2⟩
      have K2 := Lib.hid (Keep.of_below k2 [])
      clear k2
      go_wp2_with fail
      refine (HR.out _ ((hm.keep K1.out (by simpa using hb)).keep K2.out (by simp))).mono ?_
      rintro e w3 ⟨rfl, k3⟩
      have K3 := Lib.hid k3
      clear k3
      go_wp2_with fail
      go_ret
      rw [HB.out]
      exact ⟨rfl, (T1.out.keep0 K2.out).keep0 K3.out, (K1.out.trans' K2.out (by simp)).trans' K3.out (by simp)⟩
    | true =>
      rw [if_pos rfl] at hE
      have hsub : ((lt.length : Nat) : Int) - ((nr.length : Nat) : Int) = ((lt.length - nr.length : Nat) : Int) := by omega
      have hsw := IntWalk.i64_in (((lt.length - nr.length : Nat)) : Int) (by omega)
      have hs0 : (0 : Int) ≤ ((lt.length - nr.length : Nat) : Int) := by omega
      have hs1 : ((lt.length - nr.length : Nat) : Int) ≤ ((lt.length : Nat) : Int) := by omega
      have hmw := IntWalk.i64_in ((c.most : Int) - (c.dat.length : Nat)) (by omega)
      generalize lt.length - nr.length = sl at *
      by_cases hu0 : ue = 0
      · subst hu0
        rw [if_neg (by decide)] at hE
        subst hE
        rw [if_neg (by simp)] at hbe
        obtain ⟨v0, v1⟩ := hVr rfl
        obtain ⟨m, rfl⟩ : ∃ m : Nat, nv = m := ⟨nv.toNat, by omega⟩
        have htn : ((m : Nat) : Int).toNat = m := by omega
        rw [htn] at hbe
        by_cases hz : m = 0
        · rw [if_pos (by omega)] at hbe
          subst hz
          have HB := Lib.hid hbe
          clear hbe hVr hEr hle2
          go_enter Tryz.func87, Tryz.ntmps87
          go_wp2_with fail
          refine HL.out.mono ?_
          rintro e w1 ⟨rfl, t1, k1⟩
          have T1 := Lib.hid t1
          have K1 := Lib.hid k1
          clear t1 k1
          go_wp2_with fail
          refine (HT.out _).mono ?_
          rintro e w2 ⟨rfl, k2⟩
          have K2 := Lib.hid (Keep.of_below k2 [])
          clear k2
          go_wp2_with fail
          refine (HR.out _ ((hm.keep K1.out (by simpa using hb)).keep K2.out (by simp))).mono ?_
          rintro e w3 ⟨rfl, k3⟩
          have T3 := Lib.hid ((T1.out.keep0 K2.out).keep0 k3)
          have K3 := Lib.hid ((K1.out.trans' K2.out (by simp)).trans' k3 (by simp))
          clear k3
          obtain ⟨_, _, c2, _, _, c7, _⟩ := T3.out.at
          dsimp only at c2 c7
          go_upto_region 7 with fail
          go_cut [6, 4] (fun y z wx => y = .int .i64 0 ∧ z = .int .i64 0 ∧ Hid (Keep [] w3 wx))
          case first =>
            go_region_with (first
              | (go_at_call 105; refine (HU.out _).mono ?_; rintro e w4 ⟨rfl, k4⟩; have K4 := Lib.hid (Keep.trans (S := []) (a := w3) (by repeat (first | exact Keep.refl [] _ | apply Keep.drew)) k4); clear k4)
              | fail)
            all_goals
              go_wp2_with fail
              go_meet
              exact ⟨rfl, rfl, Lib.hid (by repeat (first | exact K4.out | apply Keep.drew))⟩
          case rest =>
          obtain ⟨rfl, rfl, KX⟩ := hcut
          have T4 := Lib.hid (T3.out.keep0 KX.out)
          have K4 := Lib.hid (K3.out.trans' KX.out (by simp))
          clear KX c2 c7
          obtain ⟨d0, d1, _, _, _, _, _⟩ := T4.out.at
          have f0 := T4.out.free 0
          have f1 := T4.out.free 1
          dsimp only at d0 d1
          go_wp2_with fail
          go_ret
          rw [HB.out]
          refine ⟨rfl, ?_, ((K4.out.setCell _ _ (by simp)).setCell _ _ (by simp)).setCell _ _ (by simp)⟩
          exact (((T4.out.set 1 _ (fun _ => rfl) rfl (c' := { c with inp := lr, left := 0 })).set 0 _ (fun _ => rfl) rfl (c' := { c with inp := lr, left := 0, st := 1 })).set 0 _ (fun _ => rfl) rfl)
        · rw [if_neg (by omega)] at hbe
          have HB := Lib.hid hbe
          have hz' := (int_ne (show ((m : Nat) : Int) ≠ 0 by omega)).1
          clear hbe hVr hEr hle2
          go_enter Tryz.func87, Tryz.ntmps87
          go_wp2_with fail
          refine HL.out.mono ?_
          rintro e w1 ⟨rfl, t1, k1⟩
          have T1 := Lib.hid t1
          have K1 := Lib.hid k1
          clear t1 k1
          go_wp2_with fail
          refine (HT.out _).mono ?_
          rintro e w2 ⟨rfl, k2⟩
          have K2 := Lib.hid (Keep.of_below k2 [])
          clear k2
          go_wp2_with fail
          refine (HR.out _ ((hm.keep K1.out (by simpa using hb)).keep K2.out (by simp))).mono ?_
          rintro e w3 ⟨rfl, k3⟩
          have T3 := Lib.hid ((T1.out.keep0 K2.out).keep0 k3)
          have K3 := Lib.hid ((K1.out.trans' K2.out (by simp)).trans' k3 (by simp))
          clear k3
          obtain ⟨_, _, c2, _, _, c7, _⟩ := T3.out.at
          dsimp only at c2 c7
          go_upto_region 7 with fail
          go_cut [6, 4] (fun y z wx => y = .int .i64 (m : Nat) ∧ z = .int .i64 0 ∧ Hid (Keep [] w3 wx))
          case first =>
            go_region_with (first
              | (go_at_call 105; refine (HU.out _).mono ?_; rintro e w4 ⟨rfl, k4⟩; have K4 := Lib.hid (Keep.trans (S := []) (a := w3) (by repeat (first | exact Keep.refl [] _ | apply Keep.drew)) k4); clear k4)
              | fail)
            all_goals
              go_wp2_with fail
              go_meet
              exact ⟨rfl, rfl, Lib.hid (by repeat (first | exact K4.out | apply Keep.drew))⟩
          case rest =>
          obtain ⟨rfl, rfl, KX⟩ := hcut
          have T4 := Lib.hid (T3.out.keep0 KX.out)
          have K4 := Lib.hid (K3.out.trans' KX.out (by simp))
          clear KX c2 c7
          obtain ⟨d0, d1, _, _, _, _, _⟩ := T4.out.at
          have f0 := T4.out.free 0
          have f1 := T4.out.free 1
          dsimp only at d0 d1
          go_wp2_with fail
          go_ret
          rw [HB.out]
          refine ⟨rfl, ?_, (K4.out.setCell _ _ (by simp)).setCell _ _ (by simp)⟩
          exact ((T4.out.set 1 _ (fun _ => rfl) rfl (c' := { c with inp := lr, left := m })).set 0 _ (fun _ => rfl) rfl)
      · have hne : ne ≠ 0 := by rw [hE]; split <;> omega
        rw [if_pos hne] at hbe
        have hcase : (ue = 14 ∧ ne = 4) ∨ (ue = 3 ∧ ne = 3) := by
          rcases (hEr.2 hu0).2 with h14 | h3
          · exact .inl ⟨h14, by rw [hE, if_pos h14]⟩
          · exact .inr ⟨h3, by rw [hE, if_neg (by omega), h3]⟩
        rcases hcase with ⟨h14, hne4⟩ | ⟨h3, hne4⟩
        · rw [hne4] at hbe
          have q1 := (int_eq h14).1
          clear h14 hne4
          have HB := Lib.hid hbe
          clear hbe hVr hEr hle2 hE hne hu0
          go_enter Tryz.func87, Tryz.ntmps87
          go_wp2_with fail
          refine HL.out.mono ?_
          rintro e w1 ⟨rfl, t1, k1⟩
          have T1 := Lib.hid t1
          have K1 := Lib.hid k1
          clear t1 k1
          go_wp2_with fail
          refine (HT.out _).mono ?_
          rintro e w2 ⟨rfl, k2⟩
          have K2 := Lib.hid (Keep.of_below k2 [])
          clear k2
          go_wp2_with fail
          refine (HR.out _ ((hm.keep K1.out (by simpa using hb)).keep K2.out (by simp))).mono ?_
          rintro e w3 ⟨rfl, k3⟩
          have T3 := Lib.hid ((T1.out.keep0 K2.out).keep0 k3)
          have K3 := Lib.hid ((K1.out.trans' K2.out (by simp)).trans' k3 (by simp))
          clear k3
          obtain ⟨_, _, c2, _, _, c7, _⟩ := T3.out.at
          dsimp only at c2 c7
          go_upto_region 7 with fail
          go_cut [6, 4] (fun y z wx => y = .int .i64 nv ∧ z = .int .i64 ue ∧ Hid (Keep [] w3 wx))
          case first =>
            go_region_with (first
              | (go_at_call 105; refine (HU.out _).mono ?_; rintro e w4 ⟨rfl, k4⟩; have K4 := Lib.hid (Keep.trans (S := []) (a := w3) (by repeat (first | exact Keep.refl [] _ | apply Keep.drew)) k4); clear k4)
              | fail)
            all_goals
              go_wp2_with fail
              go_meet
              exact ⟨rfl, rfl, Lib.hid (by repeat (first | exact K4.out | apply Keep.drew))⟩
          case rest =>
          obtain ⟨rfl, rfl, KX⟩ := hcut
          have T4 := Lib.hid (T3.out.keep0 KX.out)
          have K4 := Lib.hid (K3.out.trans' KX.out (by simp))
          clear KX c2 c7
          go_wp2_with fail
          go_ret
          rw [HB.out]
          exact ⟨rfl, T4.out, K4.out⟩
        · rw [hne4, ← h3] at hbe
          have q1 := (int_ne (show ue ≠ 14 by omega)).1
          have q2 := (int_ne hu0).2
          clear h3 hne4
          have HB := Lib.hid hbe
          clear hbe hVr hEr hle2 hE hne hu0
          go_enter Tryz.func87, Tryz.ntmps87
          go_wp2_with fail
          refine HL.out.mono ?_
          rintro e w1 ⟨rfl, t1, k1⟩
          have T1 := Lib.hid t1
          have K1 := Lib.hid k1
          clear t1 k1
          go_wp2_with fail
          refine (HT.out _).mono ?_
          rintro e w2 ⟨rfl, k2⟩
          have K2 := Lib.hid (Keep.of_below k2 [])
          clear k2
          go_wp2_with fail
          refine (HR.out _ ((hm.keep K1.out (by simpa using hb)).keep K2.out (by simp))).mono ?_
          rintro e w3 ⟨rfl, k3⟩
          have T3 := Lib.hid ((T1.out.keep0 K2.out).keep0 k3)
          have K3 := Lib.hid ((K1.out.trans' K2.out (by simp)).trans' k3 (by simp))
          clear k3
          obtain ⟨_, _, c2, _, _, c7, _⟩ := T3.out.at
          dsimp only at c2 c7
          go_upto_region 7 with fail
          go_cut [6, 4] (fun y z wx => y = .int .i64 nv ∧ z = .int .i64 ue ∧ Hid (Keep [] w3 wx))
          case first =>
            go_region_with (first
              | (go_at_call 105; refine (HU.out _).mono ?_; rintro e w4 ⟨rfl, k4⟩; have K4 := Lib.hid (Keep.trans (S := []) (a := w3) (by repeat (first | exact Keep.refl [] _ | apply Keep.drew)) k4); clear k4)
              | fail)
            all_goals
              go_wp2_with fail
              go_meet
              exact ⟨rfl, rfl, Lib.hid (by repeat (first | exact K4.out | apply Keep.drew))⟩
          case rest =>
          obtain ⟨rfl, rfl, KX⟩ := hcut
          have T4 := Lib.hid (T3.out.keep0 KX.out)
          have K4 := Lib.hid (K3.out.trans' KX.out (by simp))
          clear KX c2 c7
          go_wp2_with fail
          go_ret
          rw [HB.out]
          exact ⟨rfl, T4.out, K4.out⟩
  · rw [if_pos h0] at hbe
    obtain ⟨rfl, rfl⟩ := hle2 h0
    have h0' := (int_ne h0).2
    have HB := Lib.hid hbe
    clear hbe hVr hEr hle2 hE hx h0
    go_enter Tryz.func87, Tryz.ntmps87
    go_wp2_with fail
    refine HL.out.mono ?_
    rintro e w1 ⟨rfl, t1, k1⟩
    have T1 := Lib.hid t1
    have K1 := Lib.hid k1
    clear t1 k1
    go_wp2_with fail
    go_ret
    rw [HB.out]
    exact ⟨rfl, T1.out, K1.out⟩
end Go.Proofs.YtpimfoohpfkciaaGreatDoor

/- Layer 11: close, trailer, data, step. No conditions but on lengths. -/
namespace Go.Proofs.YtpimfoohpfkciaaGreatDoor
open Go.RowKit Go.Shelf

set_option maxRecDepth 100000 in
set_option maxHeartbeats 2000000 in
theorem chunk_trailer (B b : Nat) (p : List UInt8) (c : Ck) (v : Value) (w : World) (hm : ML w) (hb : 0 ≠ b) (h : Ct B w b p c v) (hl : c.inp.length ≤ 1048576) (hfl : c.flds ≤ 16) :
    Calls Tryz.prog 90 #[.pointer (some ⟨b, 0, none⟩)] w fun e w' => e = .returned (.int .i64 (trailM c).2) ∧ Ct B w' b p (trailM c).1 v ∧ Keep [b] w w' := by
  have HL := Lib.hid (chunk_line B b p c v w h hl)
  have hle := line_le c.inp
  have HP := Lib.hid (fun w1 (hm1 : ML w1) => parse_two (lnC c.inp).t w1 hm1 (by omega))
  have hbe : trailM c = if (lnC c.inp).e ≠ 0 then (c, (lnC c.inp).e)
    else if (lnC c.inp).t = [] then ({ c with inp := (lnC c.inp).r, st := 4 }, 0)
    else if parseE (lnC c.inp).t ≠ 0 then ({ c with inp := (lnC c.inp).r }, parseE (lnC c.inp).t)
    else ({ c with inp := (lnC c.inp).r, flds := c.flds + 1 }, if 16 < c.flds + 1 then 4 else 0) := rfl
  have hPe := parseE_cases (lnC c.inp).t
  have hle2 := line_err (l := c.inp)
  generalize (lnC c.inp).e = le at *
  generalize (lnC c.inp).r = lr at *
  generalize (parseV (lnC c.inp).t).name = pn at *
  generalize (parseV (lnC c.inp).t).value = pw at *
  generalize parseE (lnC c.inp).t = pe at *
  generalize (lnC c.inp).t = lt at *
  have s1 := S_size lt
  have s2 := S_toList lt
  clear h
  by_cases h0 : le = 0
  · subst h0
    rw [if_neg (by simp)] at hbe
    by_cases ht : lt = []
    · rw [if_pos ht] at hbe
      have ht' : lt.isEmpty = true := by rw [ht]; rfl
      have HB := Lib.hid hbe
      clear hbe hle2 ht
      go_enter Tryz.func90, Tryz.ntmps90
      go_wp2_with fail
      refine HL.out.mono ?_
      rintro e w1 ⟨rfl, t1, k1⟩
      have T1 := Lib.hid t1
      have K1 := Lib.hid k1
      clear t1 k1
      obtain ⟨d0, _, _, _, _, _, _⟩ := T1.out.at
      have f0 := T1.out.free 0
      dsimp only at d0
      go_wp2_with fail
      go_ret
      rw [HB.out]
      exact ⟨rfl, T1.out.set 0 _ (fun _ => rfl) rfl, K1.out.setCell _ _ (by simp)⟩
    · have ht' : lt.isEmpty = false := by cases lt with | nil => exact absurd rfl ht | cons => rfl
      rw [if_neg ht] at hbe
      by_cases hp0 : pe = 0
      · subst hp0
        rw [if_neg (by simp)] at hbe
        have HB := Lib.hid hbe
        have hfw := IntWalk.i64_in ((c.flds : Int) + 1) (by omega)
        by_cases h16 : 16 < c.flds + 1
        · have h16' : decide ((c.flds : Int) + 1 > 16) = true := by simp; omega
          have HB := Lib.hid (hbe.trans (by rw [if_pos h16]))
          clear hbe hle2 ht h16
          go_enter Tryz.func90, Tryz.ntmps90
          go_wp2_with fail
          refine HL.out.mono ?_
          rintro e w1 ⟨rfl, t1, k1⟩
          have T1 := Lib.hid t1
          have K1 := Lib.hid k1
          clear t1 k1
          go_wp2_with fail
          refine (HP.out _ (hm.keep K1.out (by simpa using hb))).mono ?_
          rintro e w2 ⟨rfl, k2⟩
          have k3 := k2.alloc (.cells #[.string (S pn), .string (S pw)] 40)
          have T2 := Lib.hid (T1.out.keep0 k3)
          have K2 := Lib.hid (K1.out.trans' k3 (by simp))
          clear k2 k3
          obtain ⟨_, _, _, d3, _, _, _⟩ := T2.out.at
          have f3 := T2.out.free 3
          dsimp only at d3
          go_wp2_with fail
          go_ret
          rw [HB.out]
          refine ⟨rfl, T2.out.set 3 _ (fun _ => rfl) rfl, K2.out.setCell _ _ (by simp)⟩
        · have h16' : decide ((c.flds : Int) + 1 > 16) = false := by simp; omega
          have HB := Lib.hid (hbe.trans (by rw [if_neg h16]))
          clear hbe hle2 ht h16
          go_enter Tryz.func90, Tryz.ntmps90
          go_wp2_with fail
          refine HL.out.mono ?_
          rintro e w1 ⟨rfl, t1, k1⟩
          have T1 := Lib.hid t1
          have K1 := Lib.hid k1
          clear t1 k1
          go_wp2_with fail
          refine (HP.out _ (hm.keep K1.out (by simpa using hb))).mono ?_
          rintro e w2 ⟨rfl, k2⟩
          have k3 := k2.alloc (.cells #[.string (S pn), .string (S pw)] 40)
          have T2 := Lib.hid (T1.out.keep0 k3)
          have K2 := Lib.hid (K1.out.trans' k3 (by simp))
          clear k2 k3
          obtain ⟨_, _, _, d3, _, _, _⟩ := T2.out.at
          have f3 := T2.out.free 3
          dsimp only at d3
          go_wp2_with fail
          go_ret
          rw [HB.out]
          refine ⟨rfl, T2.out.set 3 _ (fun _ => rfl) rfl, K2.out.setCell _ _ (by simp)⟩
      · rw [if_pos hp0] at hbe
        have hp0' := (int_ne hp0).2
        have HB := Lib.hid hbe
        clear hbe hle2 ht hp0
        go_enter Tryz.func90, Tryz.ntmps90
        go_wp2_with fail
        refine HL.out.mono ?_
        rintro e w1 ⟨rfl, t1, k1⟩
        have T1 := Lib.hid t1
        have K1 := Lib.hid k1
        clear t1 k1
        go_wp2_with fail
        refine (HP.out _ (hm.keep K1.out (by simpa using hb))).mono ?_
        rintro e w2 ⟨rfl, k2⟩
        have k3 := k2.alloc (.cells #[.string (S pn), .string (S pw)] 40)
        have T2 := Lib.hid (T1.out.keep0 k3)
        have K2 := Lib.hid (K1.out.trans' k3 (by simp))
        clear k2 k3
        go_wp2_with fail
        go_ret
        rw [HB.out]
        exact ⟨rfl, T2.out, K2.out⟩
  · rw [if_pos h0] at hbe
    obtain ⟨rfl, rfl⟩ := hle2 h0
    have h0' := (int_ne h0).2
    have HB := Lib.hid hbe
    clear hbe hle2 h0
    go_enter Tryz.func90, Tryz.ntmps90
    go_wp2_with fail
    refine HL.out.mono ?_
    rintro e w1 ⟨rfl, t1, k1⟩
    have T1 := Lib.hid t1
    have K1 := Lib.hid k1
    clear t1 k1
    go_wp2_with fail
    go_ret
    rw [HB.out]
    exact ⟨rfl, T1.out, K1.out⟩

set_option maxRecDepth 100000 in
set_option maxHeartbeats 2000000 in
theorem chunk_close (B b : Nat) (p : List UInt8) (c : Ck) (v : Value) (w : World) (h : Ct B w b p c v) (hl : c.inp.length ≤ 1048576) :
    Calls Tryz.prog 89 #[.pointer (some ⟨b, 0, none⟩)] w fun e w' => e = .returned (.int .i64 (closeM c).2) ∧ Ct B w' b p (closeM c).1 v ∧ Keep [b] w w' := by
  have sz := S_size c.inp
  obtain ⟨c0, _, _, _, c4, _, _⟩ := h.at
  have f0 := h.free 0
  have f4 := h.free 4
  have H := Lib.hid h
  have hbe : closeM c = if c.inp.take 2 ≠ crlfC.take c.inp.length then (c, 3) else if c.inp.length < 2 then (c, 17) else ({ c with inp := c.inp.drop 2, st := 0 }, 0) := rfl
  have hmin : min ((c.inp.length : Nat) : Int) 2 = ((min c.inp.length 2 : Nat) : Int) := by omega
  have e2 : c.inp.take (min c.inp.length 2) = c.inp.take 2 := by
    rcases Nat.le_total c.inp.length 2 with hh | hh
    · rw [Nat.min_eq_left hh, List.take_length, List.take_of_length_le hh]
    · rw [Nat.min_eq_right hh]
  have e3 : crlfC.take (min c.inp.length 2) = crlfC.take c.inp.length := by
    rcases Nat.le_total c.inp.length 2 with hh | hh
    · rw [Nat.min_eq_left hh]
    · rw [Nat.min_eq_right hh, List.take_of_length_le (show crlfC.length ≤ c.inp.length from hh)]; rfl
  have x1 : (S c.inp).extract 0 (min c.inp.length 2) = S (c.inp.take 2) := by rw [S_extract, List.drop_zero, e2]
  have x2 : (⟨#[13, 10]⟩ : ByteArray).extract 0 (min c.inp.length 2) = S (crlfC.take c.inp.length) := by
    have := S_extract crlfC 0 (min c.inp.length 2)
    rw [List.drop_zero, e3] at this
    exact this
  have l1 := S_toList (c.inp.take 2)
  have l2 := S_toList (crlfC.take c.inp.length)
  have m2 : min c.inp.length 2 ≤ 2 := Nat.min_le_right _ _
  have m1 : min c.inp.length 2 ≤ c.inp.length := Nat.min_le_left _ _
  have x3 : (S c.inp).extract 2 c.inp.length = S (c.inp.drop 2) := by rw [S_extract, List.take_length]
  have hd : c.inp.length < 2 ↔ min c.inp.length 2 < 2 := by omega
  have hm2 : ¬ c.inp.length < 2 → min c.inp.length 2 = 2 := by omega
  generalize hmm : min c.inp.length 2 = m at *
  have i0 : (0 : Int) ≤ (m : Int) := by omega
  have i1 : (m : Int) ≤ (c.inp.length : Int) := by omega
  have i2 : (m : Int) ≤ 2 := by omega
  clear e2 e3 h hmm
  by_cases h1 : c.inp.take 2 = crlfC.take c.inp.length
  · rw [if_neg (by simp [h1])] at hbe
    have q1 : (c.inp.take 2 != crlfC.take c.inp.length) = false := by rw [h1]; simp
    have q2 : (c.inp.take 2 == crlfC.take c.inp.length) = true := by rw [h1]; simp
    generalize c.inp.take 2 = A1 at *
    generalize crlfC.take c.inp.length = A2 at *
    by_cases h2 : c.inp.length < 2
    · rw [if_pos h2] at hbe
      have h2' : decide ((m : Int) < 2) = true := by simp; omega
      have HB := Lib.hid hbe
      clear hbe h1 h2 hd hm2
      go_enter Tryz.func89, Tryz.ntmps89
      go_upto_region 2 with fail
      go_cut [10] (fun y wx => y = .bool false ∧ Hid (Keep [] w wx))
      case first =>
        go_region_with fail
        all_goals
          go_wp2_with fail
          go_meet
          exact ⟨rfl, Lib.hid (by repeat (first | exact Keep.refl _ _ | apply Keep.drew))⟩
      case rest =>
      obtain ⟨rfl, KX⟩ := hcut
      have H1 := Lib.hid (H.out.keep0 KX.out)
      have K1 := Lib.hid (KX.out.mono (S' := [b]) (by simp))
      clear c0 c4 f0 f4 KX
      obtain ⟨c0, _, _, _, c4, _, _⟩ := H1.out.at
      have f0 := H1.out.free 0
      have f4 := H1.out.free 4
      go_wp2_with fail
      go_ret
      rw [HB.out]
      exact ⟨rfl, H1.out, K1.out⟩
    · rw [if_neg h2] at hbe
      have hm := hm2 h2
      subst hm
      have HB := Lib.hid hbe
      clear hbe h1 hd hm2
      go_enter Tryz.func89, Tryz.ntmps89
      go_upto_region 2 with fail
      go_cut [10] (fun y wx => y = .bool false ∧ Hid (Keep [] w wx))
      case first =>
        go_region_with fail
        all_goals
          go_wp2_with fail
          go_meet
          exact ⟨rfl, Lib.hid (by repeat (first | exact Keep.refl _ _ | apply Keep.drew))⟩
      case rest =>
      obtain ⟨rfl, KX⟩ := hcut
      have H1 := Lib.hid (H.out.keep0 KX.out)
      have K1 := Lib.hid (KX.out.mono (S' := [b]) (by simp))
      clear c0 c4 f0 f4 KX
      obtain ⟨c0, _, _, _, c4, _, _⟩ := H1.out.at
      have f0 := H1.out.free 0
      have f4 := H1.out.free 4
      go_wp2_with fail
      go_ret
      rw [HB.out]
      exact ⟨rfl, (H1.out.set 4 _ (fun _ => rfl) rfl (c' := { c with inp := c.inp.drop 2 })).set 0 _ (fun _ => rfl) rfl, (K1.out.setCell _ _ (by simp)).setCell _ _ (by simp)⟩
  · rw [if_pos h1] at hbe
    have q1 : (c.inp.take 2 != crlfC.take c.inp.length) = true := by simp [h1]
    have q2 : (c.inp.take 2 == crlfC.take c.inp.length) = false := by simp [h1]
    generalize c.inp.take 2 = A1 at *
    generalize crlfC.take c.inp.length = A2 at *
    have HB := Lib.hid hbe
    clear hbe h1 hd hm2
    go_enter Tryz.func89, Tryz.ntmps89
    go_upto_region 2 with fail
    go_cut [10] (fun y wx => y = .bool true ∧ Hid (Keep [] w wx))
    case first =>
      go_region_with fail
      all_goals
        go_wp2_with fail
        go_meet
        exact ⟨rfl, Lib.hid (by repeat (first | exact Keep.refl _ _ | apply Keep.drew))⟩
    case rest =>
    obtain ⟨rfl, KX⟩ := hcut
    have H1 := Lib.hid (H.out.keep0 KX.out)
    have K1 := Lib.hid (KX.out.mono (S' := [b]) (by simp))
    clear c0 c4 f0 f4 KX
    obtain ⟨c0, _, _, _, c4, _, _⟩ := H1.out.at
    have f0 := H1.out.free 0
    have f4 := H1.out.free 4
    go_wp2_with fail
    go_ret
    rw [HB.out]
    exact ⟨rfl, H1.out, K1.out⟩
end Go.Proofs.YtpimfoohpfkciaaGreatDoor

/- Layer 11: data, step. No conditions but on lengths. -/
namespace Go.Proofs.YtpimfoohpfkciaaGreatDoor
open Go.RowKit Go.Shelf

theorem Bd.set {B b o : Nat} {T : TypeId} {cs : List Value} {v : Value} {l : List UInt8} {w : World} (h : Bd B w b o T cs v l) (k : Nat) (x : Value) (h1 : k ≠ o) (h2 : k ≠ o + 1) : Bd B (w.setCell ⟨b, k, none⟩ x) b o T (cs.set k x) v l := by
  refine ⟨h.blk.set k x, ?_, ?_, ?_, h.ne⟩
  · rw [List.getElem?_set_ne h1]; exact h.ad
  · rw [List.getElem?_set_ne h2]; exact h.buf
  · exact h.own.keep (S := [b]) ((Keep.refl _ _).setCell _ _ (by simp)) (fun g hg => by
      simp only [List.mem_singleton]
      rintro rfl
      exact h.ne hg)
/-- what a call on a reader leaves -/
def Aft (B : Nat) (w : World) (b : Nat) (p : List UInt8) (v : Value) (c' : Ck) (w' : World) : Prop := ∃ v', Ct B w' b p c' v' ∧ Keep (b :: v.ownBlock.toList) w w' ∧ (v'.ownBlock = v.ownBlock ∨ ∃ g, v'.ownBlock = some g ∧ w.heap.size ≤ g)
theorem Aft.of {B b : Nat} {w w' : World} {p : List UInt8} {v : Value} {c' : Ck} (h : Ct B w' b p c' v) (k : Keep [b] w w') : Aft B w b p v c' w' := ⟨v, h, k.mono (fun x hx _ => by simp at hx; simp [hx]), .inl rfl⟩
theorem Aft.trans {B b : Nat} {w w1 w2 : World} {p : List UInt8} {v v1 v2 : Value} {c1 c2 : Ck} (h : Ct B w1 b p c1 v1) (k : Keep (b :: v.ownBlock.toList) w w1) (hv : v1.ownBlock = v.ownBlock ∨ ∃ g, v1.ownBlock = some g ∧ w.heap.size ≤ g)
    (h2 : Ct B w2 b p c2 v2) (k2 : Keep (b :: v1.ownBlock.toList) w1 w2) (hv2 : v2.ownBlock = v1.ownBlock ∨ ∃ g, v2.ownBlock = some g ∧ w1.heap.size ≤ g) : Aft B w b p v c2 w2 := by
  refine ⟨v2, h2, k.trans' k2 (fun x hx hl => ?_), ?_⟩
  · rcases List.mem_cons.1 hx with rfl | hx
    · simp
    · rcases hv with e | ⟨g, e, hg⟩
      · rw [e] at hx; exact List.mem_cons_of_mem _ hx
      · rw [e] at hx
        have : x = g := by simpa using hx
        omega
  · rcases hv2 with e | ⟨g, e, hg⟩
    · rcases hv with e' | ⟨g, e', hg⟩
      · exact .inl (e.trans e')
      · exact .inr ⟨g, e.trans e', hg⟩
    · exact .inr ⟨g, e, Nat.le_trans k.size hg⟩

set_option maxRecDepth 100000 in
set_option maxHeartbeats 2000000 in
theorem chunk_data (B b : Nat) (p : List UInt8) (c : Ck) (v : Value) (w : World) (h : Ct B w b p c v) (hB : B ≤ w.heap.size) (hl : c.inp.length + c.dat.length ≤ 1048576) (hleft : (c.left : Int) ≤ 9223372036854775807) :
    Calls Tryz.prog 88 #[.pointer (some ⟨b, 0, none⟩)] w fun e w' => e = .returned (.int .i64 (dataM c).2) ∧ Aft B w b p v (dataM c).1 w' := by
  have sz := S_size c.inp
  obtain ⟨_, c1, _, _, c4, _, _⟩ := h.at
  have hmin : min ((c.left : Nat) : Int) ((c.inp.length : Nat) : Int) = ((min c.left c.inp.length : Nat) : Int) := by omega
  have hd := data_eq c _ rfl
  have hn1 : min c.left c.inp.length ≤ c.left := Nat.min_le_left _ _
  have hn2 : min c.left c.inp.length ≤ c.inp.length := Nat.min_le_right _ _
  generalize min c.left c.inp.length = n at *
  obtain ⟨ad, o, hbd, hdo⟩ := h
  have ho : o.length ≤ c.dat.length := by rw [hdo]; simp
  have H := Lib.hid hbd
  have HB := Lib.hid hB
  have HD := Lib.hid hd
  have HDO := Lib.hid hdo
  clear hd hdo hbd hB
  have hx1 : (S c.inp).extract 0 n = S (c.inp.take n) := by rw [S_extract, List.drop_zero]
  have hx2 : (S c.inp).extract n c.inp.length = S (c.inp.drop n) := by rw [S_extract, List.take_length]
  have lt : (c.inp.take n).length = n := by rw [List.length_take]; omega
  have i0 : (0 : Int) ≤ (n : Int) := by omega
  have i1 : (n : Int) ≤ (c.inp.length : Int) := by omega
  go_enter Tryz.func88, Tryz.ntmps88
  go_upto_region 1 with fail
  go_cut [3] (fun y wx => y = .int .i64 (n : Nat) ∧ Hid (Keep [] w wx))
  case first =>
    go_region_with fail
    all_goals
      go_wp2_with fail
      go_meet
      exact ⟨rfl, Lib.hid (by repeat (first | exact Keep.refl _ _ | apply Keep.drew))⟩
  case rest =>
  obtain ⟨rfl, KX⟩ := hcut
  have H1 := Lib.hid (H.out.keep KX.out (by simp) (by simp))
  have K1 := Lib.hid KX.out
  clear c1 c4 hmin KX
  have c4 := H1.out.blk.get (k := 4) rfl
  have HW := Lib.hid (fun w2 (k2 : Keep [] wc w2) => bld_Write (c.inp.take n) (H1.out.keep k2 (by simp) (by simp)) ck_lies (Nat.le_trans (Nat.le_trans HB.out K1.out.size) k2.size) (by rw [lt]; omega))
  go_upto_region 2 with fail
  go_cut [] (fun wx => Hid (∃ v', Bd B wx b 5 109 (ckC c (.pointer (some ⟨b, 5, none⟩)) v') v' (o ++ c.inp.take n) ∧ Keep (b :: v.ownBlock.toList) w wx ∧ (v'.ownBlock = v.ownBlock ∨ ∃ g, v'.ownBlock = some g ∧ w.heap.size ≤ g)))
  case first =>
    go_region_with (first
      | (go_at_call 56; refine (HW.out _ (by repeat (first | exact Keep.refl _ _ | apply Keep.drew))).mono ?_; rintro e w2 ⟨rfl, v', hb', hk', hv'⟩; have HX := Lib.hid (And.intro hb' (And.intro hk' hv')); clear hb' hk' hv')
      | fail)
    all_goals
      go_wp2_with fail
      go_meet
      refine Lib.hid ?_
      obtain ⟨hb', hk', hv'⟩ := HX.out
      refine ⟨v', ?_, ?_, ?_⟩
      · exact hb'
      · refine Keep.trans' (Keep.mono (S' := b :: v.ownBlock.toList) (S := []) ?_ (by simp)) hk' (fun x hx _ => hx)
        repeat (first | exact K1.out | apply Keep.drew)
      · rcases hv' with e | ⟨g, e, hg⟩
        · exact .inl e
        · exact .inr ⟨g, e, Nat.le_trans K1.out.size hg⟩
  case rest =>
  have HC := hcut
  clear hcut H1 K1 c4 HW hx1
  obtain ⟨v', hb, hk, hv⟩ := HC.out
  have HN := Lib.hid (And.intro hb (And.intro hk hv))
  have c1 := hb.blk.get (k := 1) rfl
  have c4 := hb.blk.get (k := 4) rfl
  have c7 := hb.blk.get (k := 7) rfl
  have c0 := hb.blk.get (k := 0) rfl
  have f1 := hb.blk.frozen 1
  have f4 := hb.blk.frozen 4
  have f7 := hb.blk.frozen 7
  have f0 := hb.blk.frozen 0
  have w2 := IntWalk.i64_in ((c.dat.length : Int) + (n : Int)) (by omega)
  have ld : (c.dat ++ c.inp.take n).length = c.dat.length + n := by rw [List.length_append, lt]
  clear hb hk hv HC
  have e1 : ((c.left : Int) - (n : Int)) = ((c.left - n : Nat) : Int) := by omega
  have e7 : ((c.dat.length : Int) + (n : Int)) = ((c.dat.length + n : Nat) : Int) := by omega
  have hdat : c.dat ++ c.inp.take n = p ++ (o ++ c.inp.take n) := by rw [HDO.out, List.append_assoc]
  generalize hlf : c.left - n = lf at *
  have w1 := IntWalk.i64_in ((lf : Nat) : Int) (by omega)
  have HE := Lib.hid (And.intro e1 (And.intro e7 (And.intro ld hdat)))
  clear e7 ld hdat hlf
  by_cases h0 : 0 < lf
  · have hd := HD.out
    rw [if_pos h0] at hd
    have HF := Lib.hid hd
    have h0' : decide ((lf : Int) > 0) = true := by simp; omega
    clear hd HD
    go_wp2_with fail
    go_ret
    rw [HF.out]
    try rw [HE.out.2.1, ← HE.out.2.2.1]
    refine ⟨rfl, v', ⟨.pointer (some ⟨b, 5, none⟩), o ++ c.inp.take n, ?_, HE.out.2.2.2⟩, ((HN.out.2.1.setCell _ _ (by simp)).setCell _ _ (by simp)).setCell _ _ (by simp), HN.out.2.2⟩
    have := ((HN.out.1.set 4 (.string (S (c.inp.drop n))) (by omega) (by omega)).set 1 (.int .i64 ((lf : Nat) : Int)) (by omega) (by omega)).set 7 (.int .i64 ((c.dat.length : Int) + (n : Int))) (by omega) (by omega)
    rw [HE.out.2.1, ← HE.out.2.2.1] at this
    exact this
  · have hd := HD.out
    rw [if_neg h0] at hd
    have HF := Lib.hid hd
    have h0' : decide ((lf : Int) > 0) = false := by simp; omega
    clear hd HD
    go_wp2_with fail
    go_ret
    rw [HF.out]
    try rw [HE.out.2.1, ← HE.out.2.2.1]
    refine ⟨rfl, v', ⟨.pointer (some ⟨b, 5, none⟩), o ++ c.inp.take n, ?_, HE.out.2.2.2⟩, (((HN.out.2.1.setCell _ _ (by simp)).setCell _ _ (by simp)).setCell _ _ (by simp)).setCell _ _ (by simp), HN.out.2.2⟩
    have := (((HN.out.1.set 4 (.string (S (c.inp.drop n))) (by omega) (by omega)).set 1 (.int .i64 ((lf : Nat) : Int)) (by omega) (by omega)).set 7 (.int .i64 ((c.dat.length : Int) + (n : Int))) (by omega) (by omega)).set 0 (.int .i64 2) (by omega) (by omega)
    rw [HE.out.2.1, ← HE.out.2.2.1] at this
    exact this

set_option maxRecDepth 100000 in
set_option maxHeartbeats 2000000 in
theorem chunk_step (B b : Nat) (p : List UInt8) (c : Ck) (v : Value) (w : World) (hm : ML w) (hb : 0 ≠ b) (h : Ct B w b p c v) (hB : B ≤ w.heap.size) (hl : c.inp.length + c.dat.length ≤ 1048576) (hmost : (c.most : Int) ≤ 9223372036854775807) (hok : c.ok) :
    Calls Tryz.prog 68 #[.pointer (some ⟨b, 0, none⟩)] w fun e w' => e = .returned (.int .i64 (stepM c).2) ∧ Aft B w b p v (stepM c).1 w' := by
  obtain ⟨k1, k2, k3⟩ := hok
  obtain ⟨c0, _⟩ := h.at
  have hs : stepM c = if c.st = 0 then beginM c else if c.st = 1 then dataM c else if c.st = 2 then closeM c else if c.st = 3 then trailM c else (c, 17) := rfl
  by_cases h0 : c.st = 0
  · have HC := Lib.hid (chunk_begin B b p c v w hm hb h (by omega) hmost (by omega))
    rw [if_pos h0] at hs
    have HS := Lib.hid hs
    rw [h0] at c0
    clear hs h
    go_enter Tryz.func68, Tryz.ntmps68
    go_wp2_with fail
    refine HC.out.mono ?_
    rintro e w1 ⟨rfl, hx, hk⟩
    have HX := Lib.hid (Aft.of hx hk)
    clear hx hk
    go_wp2_with fail
    go_ret
    rw [HS.out]
    exact ⟨rfl, HX.out⟩
  by_cases h1 : c.st = 1
  · have HC := Lib.hid (chunk_data B b p c v w h hB hl (by omega))
    rw [if_neg h0, if_pos h1] at hs
    have HS := Lib.hid hs
    rw [h1] at c0
    clear hs h
    go_enter Tryz.func68, Tryz.ntmps68
    go_wp2_with fail
    refine HC.out.mono ?_
    rintro e w1 ⟨rfl, hx⟩
    have HX := Lib.hid hx
    clear hx
    go_wp2_with fail
    go_ret
    rw [HS.out]
    exact ⟨rfl, HX.out⟩
  by_cases h2 : c.st = 2
  · have HC := Lib.hid (chunk_close B b p c v w h (by omega))
    rw [if_neg h0, if_neg h1, if_pos h2] at hs
    have HS := Lib.hid hs
    rw [h2] at c0
    clear hs h
    go_enter Tryz.func68, Tryz.ntmps68
    go_wp2_with fail
    refine HC.out.mono ?_
    rintro e w1 ⟨rfl, hx, hk⟩
    have HX := Lib.hid (Aft.of hx hk)
    clear hx hk
    go_wp2_with fail
    go_ret
    rw [HS.out]
    exact ⟨rfl, HX.out⟩
  by_cases h3 : c.st = 3
  · have HC := Lib.hid (chunk_trailer B b p c v w hm hb h (by omega) k2)
    rw [if_neg h0, if_neg h1, if_neg h2, if_pos h3] at hs
    have HS := Lib.hid hs
    rw [h3] at c0
    clear hs h
    go_enter Tryz.func68, Tryz.ntmps68
    go_wp2_with fail
    refine HC.out.mono ?_
    rintro e w1 ⟨rfl, hx, hk⟩
    have HX := Lib.hid (Aft.of hx hk)
    clear hx hk
    go_wp2_with fail
    go_ret
    rw [HS.out]
    exact ⟨rfl, HX.out⟩
  · have h4 : c.st = 4 := by omega
    rw [if_neg h0, if_neg h1, if_neg h2, if_neg h3] at hs
    have HS := Lib.hid hs
    have HX := Lib.hid h
    rw [h4] at c0
    clear hs h
    go_enter Tryz.func68, Tryz.ntmps68
    go_wp2_with fail
    go_ret
    rw [HS.out]
    exact ⟨rfl, Aft.of HX.out (Keep.refl _ _)⟩
end Go.Proofs.YtpimfoohpfkciaaGreatDoor

/- Layer 11: a builder that lies in another struct: String, Reset; a reader's New, Add, Take, Done, Rest, Size. No conditions but on lengths. -/
namespace Go.Proofs.YtpimfoohpfkciaaGreatDoor
open Go.RowKit Go.Shelf

theorem keep_freeze {S : List Nat} {w w' : World} (h : Keep S w w') {p : Addr} (hp : p.block ∈ S) (n : Nat) : Keep S w (w'.freeze p n) := by
  refine h.trans ?_
  unfold World.freeze
  split
  · exact Keep.refl _ _
  · exact ⟨rfl, rfl, rfl, by simp, fun k hk hn => by
      simp only [Array.getElem?_modify]
      rw [if_neg (fun e => hn (by rw [← e]; exact hp))]⟩

set_option maxHeartbeats 8000000 in
set_option maxRecDepth 100000 in
theorem bld_String {B b o : Nat} {T : TypeId} {cs : List Value} {v : Value} {l : List UInt8} {w : World} (h : Bd B w b o T cs v l) :
    Calls Tryz.prog 60 #[.pointer (some ⟨b, o, none⟩)] w fun e w' => e = .returned (.string (S l)) ∧ Keep v.ownBlock.toList w w' := by
  have hown := h.own
  unfold Own at hown
  rw [rows_bytes] at hown
  have hu : Tryz.prog.underlying 113 = some (.pointer 5) := Tryz.underlying113
  have mixed : Tryz.prog.follows .mixedOrders = true := by kernel_rfl
  have c0 : w.cell? ⟨b, o + 1, none⟩ = some v := h.blk.get h.buf
  have c1 : w.drew.cell? ⟨b, o + 1, none⟩ = some v := c0
  rcases hown.2 with ⟨hv, hz⟩ | ⟨g, cap, cur, hv, hbg, hg, hnc, hcm, hcs, htake⟩
  · have hl0 : l = [] := List.eq_nil_of_length_eq_zero hz
    subst hv hl0
    have hUS := fun (W : World) (q : Option Addr) => Lib.run_unsafeString_none (P := Tryz.prog) W 113 3 9 q
    have hSD : (Builtin.unsafeSliceData_ #[90] 113 #[.slice none 0 0]).run Tryz.prog w.drew = .ok (.pointer none) w.drew := rfl
    clear hown h
    go_enter Tryz.func60, Tryz.ntmps60
    go_wp2_with fail
    go_region_o
    all_goals (go_wp2; go_ret; exact ⟨rfl, (Keep.refl _ _).drew⟩)
  · have hk := hown.cells (g := g)
    subst hv
    by_cases hl0 : l = []
    · subst hl0
      have hUS := fun (W : World) (q : Option Addr) => Lib.run_unsafeString_none (P := Tryz.prog) W 113 3 9 q
      by_cases hc0 : cap = 0
      · subst hc0
        have hbl := h.blk.lt
        have hSD : (Builtin.unsafeSliceData_ #[90] 113 #[.slice (some ⟨g, 0, none⟩) 0 0]).run Tryz.prog w.drew = .ok (.pointer (some ⟨w.drew.heap.size, 0, none⟩)) (w.drew.alloc (.view ⟨g, 0, none⟩ 5)) :=
          Lib.run_unsafeSliceData_zero w.drew _ _ 5 hu ⟨g, 0, none⟩ 0 (5, cur.size) (by have hg' : w.drew.heap[g]? = some (.cells cur 5 (0, 0)) := hg; simp [World.shape?, hg'])
        have c2 : (w.drew.alloc (.view ⟨g, 0, none⟩ 5)).cell? ⟨b, o + 1, none⟩ = some (.slice (some ⟨g, 0, none⟩) 0 0) := ((((Keep.refl [] w).drew).alloc _).blk h.blk (by simp)).get h.buf
        have c3 : (w.alloc (.view ⟨g, 0, none⟩ 5)).drew.cell? ⟨b, o + 1, none⟩ = some (.slice (some ⟨g, 0, none⟩) 0 0) := c2
        clear hown h hk
        go_enter Tryz.func60, Tryz.ntmps60
        go_wp2_with fail
        go_region_o
        all_goals (go_wp2; go_ret; exact ⟨rfl, ((Keep.refl _ _).drew).alloc _⟩)
      · have hSD : (Builtin.unsafeSliceData_ #[90] 113 #[.slice (some ⟨g, 0, none⟩) 0 cap]).run Tryz.prog w.drew = .ok (.pointer (some ⟨g, 0, none⟩)) w.drew :=
          Lib.run_unsafeSliceData_row _ _ _ _ _ _ hc0
        clear hown h hk hc0
        go_enter Tryz.func60, Tryz.ntmps60
        go_wp2_with fail
        go_region_o
        all_goals (go_wp2; go_ret; exact ⟨rfl, (Keep.refl _ _).drew⟩)
    · have hll : l.length ≠ 0 := by simpa using hl0
      have hSD : (Builtin.unsafeSliceData_ #[90] 113 #[.slice (some ⟨g, 0, none⟩) l.length cap]).run Tryz.prog w.drew = .ok (.pointer (some ⟨g, 0, none⟩)) w.drew :=
        Lib.run_unsafeSliceData_row _ _ _ _ _ _ (by omega)
      have hUS : (Builtin.unsafeString_ #[113, 3] 9 #[.pointer (some ⟨g, 0, none⟩), .int .i64 l.length]).run Tryz.prog w.drew = .ok (.string (S l)) (w.drew.freeze ⟨g, 0, none⟩ l.length) := by
        refine Lib.run_unsafeString_row w.drew 113 3 9 5 hu (by kernel_rfl) g cur.size (by have hg' : w.drew.heap[g]? = some (.cells cur 5 (0, 0)) := hg; simp [World.shape?, hg']) l hl0 (by omega) (by unfold maxLen at hcm; omega) ?_
        intro j x hx
        have := hk rfl j (.int .u8 x.toNat) (by simp [Lib.byteCells, hx])
        exact this
      clear hown h hk hll hl0
      go_enter Tryz.func60, Tryz.ntmps60
      go_wp2_with fail
      go_region_o
      all_goals (go_wp2; go_ret; exact ⟨rfl, keep_freeze ((Keep.refl _ _).drew) (by simp [Value.ownBlock]) _⟩)

def ck0 (most : Int) : Ck := ⟨0, 0, (max most 0).toNat, 0, [], [], 0⟩
theorem ck0_ok (m : Int) : (ck0 m).ok := ⟨by simp [ck0], by simp [ck0], by simp [ck0]⟩
set_option maxHeartbeats 2000000 in
set_option maxRecDepth 100000 in
theorem chunk_New (B : Nat) (m : Int) (w : World) (_hB : B ≤ w.heap.size) :
    Calls Tryz.prog 39 #[.int .i64 m] w fun e w' => ∃ b, e = .returned (.pointer (some ⟨b, 0, none⟩)) ∧ w.heap.size ≤ b ∧ b < w'.heap.size ∧ Ct B w' b [] (ck0 m) (.slice none 0 0) ∧ Keep [] w w' := by
  have hmx : max m 0 = (((max m 0).toNat : Nat) : Int) := by omega
  have hbk := Blk.newA w (ckC (ck0 m) (.pointer none) (.slice none 0 0)).toArray 109
  have H := Lib.hid hbk
  have HM := Lib.hid hmx
  have hmx2 : max m 0 = ((ck0 m).most : Int) := hmx
  generalize hmm : (ck0 m).most = k at *
  clear hbk hmx
  go_enter Tryz.func39, Tryz.ntmps39
  go_wp2_with fail
  go_ret
  refine ⟨w.heap.size, rfl, Nat.le_refl _, by simp, ⟨.pointer none, [], ⟨?_, .inl rfl, rfl, Own.nil _ _ _ _ _, by simp [Value.ownBlock]⟩, rfl⟩, (Keep.refl [] w).alloc _⟩
  have := H.out
  subst hmm
  exact this

set_option maxHeartbeats 1000000 in
set_option maxRecDepth 100000 in
theorem chunk_Done {B b : Nat} {p : List UInt8} {c : Ck} {v : Value} {w : World} (h : Ct B w b p c v) (_ : c.st ≤ 4) :
    Calls Tryz.prog 42 #[.pointer (some ⟨b, 0, none⟩)] w fun e w' => e = .returned (.bool (decide (c.st = 4))) ∧ w = w' := by
  obtain ⟨c0, _⟩ := h.at
  clear h
  by_cases h4 : c.st = 4
  · rw [h4] at c0
    go_enter Tryz.func42, Tryz.ntmps42
    go_wp2_with fail
    go_ret
    exact ⟨by simp [h4], rfl⟩
  · have h4' := (nat_ne (show c.st ≠ 4 from h4)).1
    have h5 := (int_ne (show ((c.st : Nat) : Int) ≠ 4 by omega)).1
    have h6 : decide (c.st = 4) = false := by simp [h4]
    have HF := Lib.hid h6
    generalize c.st = st at *
    go_enter Tryz.func42, Tryz.ntmps42
    go_wp2_with fail
    go_ret
    exact ⟨ret_bool (by simp [h4]), rfl⟩
set_option maxHeartbeats 1000000 in
set_option maxRecDepth 100000 in
theorem chunk_Rest {B b : Nat} {p : List UInt8} {c : Ck} {v : Value} {w : World} (h : Ct B w b p c v) (hs : c.st ≤ 4) :
    Calls Tryz.prog 43 #[.pointer (some ⟨b, 0, none⟩)] w fun e w' => e = .returned (.string (S (if c.st = 4 then c.inp else []))) ∧ w = w' := by
  have HD := Lib.hid (chunk_Done h hs)
  obtain ⟨_, _, _, _, c4, _, _⟩ := h.at
  clear h
  by_cases h4 : c.st = 4
  · rw [decide_eq_true h4] at HD
    rw [if_pos h4]
    go_enter Tryz.func43, Tryz.ntmps43
    go_wp2_with fail
    refine HD.out.mono ?_
    rintro e w1 ⟨rfl, rfl⟩
    go_wp2_with fail
    go_ret
    exact ⟨rfl, rfl⟩
  · rw [decide_eq_false h4] at HD
    rw [if_neg h4]
    go_enter Tryz.func43, Tryz.ntmps43
    go_wp2_with fail
    refine HD.out.mono ?_
    rintro e w1 ⟨rfl, rfl⟩
    go_wp2_with fail
    go_ret
    exact ⟨rfl, rfl⟩
/-- what Add comes to -/
def AddR (c : Ck) (s : List UInt8) (c' : Ck) : Prop := if c.err ≠ 0 then c' = c else ∃ d e, Runs (c.add s) d e ∧ c' = { d with err := if e = 17 then 0 else e }
theorem add_ok {c : Ck} (h : c.ok) (s : List UInt8) : (c.add s).ok := h

set_option maxHeartbeats 2000000 in
set_option maxRecDepth 100000 in
theorem chunk_Add (B b : Nat) (p s : List UInt8) (c c' : Ck) (v : Value) (w : World) (hm : ML w) (hb : 0 ≠ b) (h : Ct B w b p c v) (hB : B ≤ w.heap.size) (hbig : 0 < B) (hl : c.inp.length + c.dat.length + s.length ≤ 1048576) (hmost : (c.most : Int) ≤ 9223372036854775807) (hok : c.err = 0 → c.ok) (ha : AddR c s c') :
    Calls Tryz.prog 41 #[.pointer (some ⟨b, 0, none⟩), .string (S s)] w fun e w' => e = .returned (.int .i64 c'.err) ∧ Aft B w b p v c' w' := by
  obtain ⟨_, _, _, _, c4, _, c8⟩ := h.at
  unfold AddR at ha
  by_cases he : c.err = 0
  · rw [if_neg (by simp [he])] at ha
    obtain ⟨d, e0, hr, hc'⟩ := ha
    have s1 := S_size c.inp
    have s2 := S_size s
    have hcat := S_append c.inp s
    have lc : (c.inp ++ s).length = c.inp.length + s.length := by simp
    have f4 := h.free 4
    have hko := hok he
    have hro := runs_ok hr (add_ok hko s)
    have hderr : d.err = 0 := hro.2.2.1.trans he
    have H1 := Lib.hid (h.set 4 (.string (S (c.inp ++ s))) (c' := c.add s) (fun _ => rfl) rfl)
    have K1 := Lib.hid ((Keep.refl [b] w).setCell ⟨b, 4, none⟩ (.string (S (c.inp ++ s))) (by simp))
    have HR := Lib.hid hr
    have HM := Lib.hid hm
    rw [he] at c8
    clear h hr hok hm hro
    go_enter Tryz.func41, Tryz.ntmps41
    go_wp2_with fail
    go_step3
    go_wp2_with fail
    go_step3
    go_wp2_with fail
    generalize hw1 : w.setCell ⟨b, 4, none⟩ (.string (S (c.inp ++ s))) = w1 at *
    try rw [hw1]
    clear hw1 c4 c8 f4
    go_loopg [5] (c.add s).mu (fun g ev wr => ∃ cur : Ck, g = cur.mu ∧ Hid (Aft B w b p v cur wr) ∧ Hid (Runs cur d e0) ∧ Hid (cur.ok) ∧ Hid (cur.inp.length + cur.dat.length ≤ 1048576 ∧ cur.most = c.most ∧ cur.err = 0))
    case atStart => exact ⟨c.add s, rfl, Lib.hid (Aft.of H1.out K1.out), HR, Lib.hid hko, Lib.hid ⟨by show (c.inp ++ s).length + c.dat.length ≤ _; omega, rfl, he⟩⟩
    case round =>
      obtain ⟨cur, hg, HA, HRu, HK, HL⟩ := hrel
      obtain ⟨v1, hct, hk, hv⟩ := HA.out
      obtain ⟨hl1, hmo, hce⟩ := HL.out
      have hso := step_ok HK.out
      have hS := chunk_step B b p cur v1 wr (by
        obtain ⟨x, hx⟩ := HM.out
        exact (ML.keep ⟨x, hx⟩ hk (by
          simp only [List.mem_cons, not_or]
          refine ⟨hb, fun hh => ?_⟩
          have : v.ownBlock = some 0 := by simpa using hh
          have hlt : B ≤ 0 := by
            obtain ⟨ad, o, hbd, _⟩ := H1.out
            exact (hbd.own.lt _ this).1
          omega))) hb hct (Nat.le_trans hB hk.size) hl1 (by rw [hmo]; exact hmost) HK.out
      have HS := Lib.hid hS
      have HCt := Lib.hid (And.intro hct (And.intro hk hv))
      have HRc := Lib.hid (show (stepM cur).2 = 0 ∧ Runs (stepM cur).1 d e0 ∨ (stepM cur).2 ≠ 0 ∧ d = (stepM cur).1 ∧ e0 = (stepM cur).2 by
        cases HRu.out with
        | stop hh => exact .inr ⟨hh, rfl, rfl⟩
        | more hh hh2 => exact .inl ⟨hh, hh2⟩)
      have HSo := Lib.hid hso
      generalize hst : stepM cur = sr at HS HRc HSo
      obtain ⟨nx, er⟩ := sr
      dsimp only at HS HRc HSo
      clear hso hS hct hk hv HA HRu hst hl1 hmo hce
      by_cases h0 : er = 0
      · subst h0
        have hR2 : Runs nx d e0 := by
          rcases HRc.out with hh | hh
          · exact hh.2
          · exact absurd rfl hh.1
        have HR2 := Lib.hid hR2
        clear hR2
        go_wp2_with fail
        refine HS.out.mono ?_
        rintro e w2 ⟨rfl, v2, a1, a2, a3⟩
        have HA2 := Lib.hid (Aft.trans HCt.out.1 HCt.out.2.1 HCt.out.2.2 a1 a2 a3)
        clear a1 a2 a3
        go_wp2_with fail
        go_roundg nx.mu
        case measure => rw [hg]; exact HSo.out.1 (by first | rfl | trivial)
        case rel =>
          obtain ⟨q1, q2, q3, q4, q5, _⟩ := HSo.out
          exact ⟨nx, rfl, HA2, HR2, Lib.hid (q2 (.inl (by first | rfl | trivial))), Lib.hid ⟨Nat.le_trans q5 HL.out.1, q3.trans HL.out.2.1, q4.trans HL.out.2.2⟩⟩
      · have hde : d = nx ∧ e0 = er := by
          rcases HRc.out with hh | hh
          · exact absurd hh.1 h0
          · exact hh.2
        obtain ⟨rfl, rfl⟩ := hde
        by_cases h17 : e0 = 17
        · subst h17
          have HC := Lib.hid (show c' = d by rw [hc', if_pos rfl, ← hderr])
          clear hc'
          go_wp2_with fail
          refine HS.out.mono ?_
          rintro e w2 ⟨rfl, v2, a1, a2, a3⟩
          have HA2 := Lib.hid (Aft.trans HCt.out.1 HCt.out.2.1 HCt.out.2.2 a1 a2 a3)
          obtain ⟨_, _, _, _, _, _, e8⟩ := a1.at
          clear a1 a2 a3
          go_wp2_with fail
          rw [Exit.noGoto_ret]
          go_ret
          rw [HC.out]
          exact ⟨by rw [hderr]; rfl, HA2.out⟩
        · have q1 := (int_ne h0).1
          have q2 := (int_ne h17).1
          have HC := Lib.hid (show c' = { d with err := e0 } by rw [hc', if_neg h17])
          clear hc' h17 h0
          go_wp2_with fail
          refine HS.out.mono ?_
          rintro e w2 ⟨rfl, v2, a1, a2, a3⟩
          have HA2 := Lib.hid (Aft.trans HCt.out.1 HCt.out.2.1 HCt.out.2.2 a1 a2 a3)
          obtain ⟨_, _, _, _, _, _, e8⟩ := a1.at
          have g8 := a1.free 8
          clear a1 a2 a3
          go_wp2_with fail
          rw [Exit.noGoto_ret]
          go_ret
          obtain ⟨v3, a1, a2, a3⟩ := HA2.out
          rw [HC.out]
          exact ⟨rfl, v3, a1.set 8 _ (fun _ => rfl) rfl, a2.setCell _ _ (by simp), a3⟩
  · rw [if_pos he] at ha
    have q1 := (int_ne he).1
    have q2 := (int_ne he).2
    have H := Lib.hid h
    subst ha
    clear h
    go_enter Tryz.func41, Tryz.ntmps41
    go_wp2_with fail
    go_step3
    go_wp2_with fail
    rw [Exit.noGoto_ret]
    go_ret
    exact ⟨rfl, Aft.of H.out (Keep.refl _ _)⟩
end Go.Proofs.YtpimfoohpfkciaaGreatDoor

/- Layer 11, plain laws: the document's line, number; the machine's steps one by one. No program. No conditions but those that each theorem states. -/
namespace Go.Proofs.YtpimfoohpfkciaaGreatDoor
open Go.RowKit

theorem runs_step {c d : Ck} {e : Int} (h : Runs c d e) : (stepM c).2 = 0 ∧ Runs (stepM c).1 d e ∨ (stepM c).2 ≠ 0 ∧ d = (stepM c).1 ∧ e = (stepM c).2 := by
  cases h with
  | stop hh => exact .inr ⟨hh, rfl, rfl⟩
  | more hh hh2 => exact .inl ⟨hh, hh2⟩
theorem step0 {c : Ck} (h : c.st = 0) : stepM c = beginM c := by unfold stepM; rw [if_pos h]
theorem step1 {c : Ck} (h : c.st = 1) : stepM c = dataM c := by unfold stepM; rw [if_neg (by omega), if_pos h]
theorem step2 {c : Ck} (h : c.st = 2) : stepM c = closeM c := by unfold stepM; rw [if_neg (by omega), if_neg (by omega), if_pos h]
theorem step3 {c : Ck} (h : c.st = 3) : stepM c = trailM c := by unfold stepM; rw [if_neg (by omega), if_neg (by omega), if_neg (by omega), if_pos h]
theorem step4 {c : Ck} (h : c.st = 4) : stepM c = (c, 17) := by unfold stepM; rw [if_neg (by omega), if_neg (by omega), if_neg (by omega), if_neg (by omega)]
theorem runs_eq {c d : Ck} {e : Int} {r : Ck × Int} (h : Runs c d e) (hs : stepM c = r) : r.2 = 0 ∧ Runs r.1 d e ∨ r.2 ≠ 0 ∧ d = r.1 ∧ e = r.2 := by rw [← hs]; exact runs_step h
/-- a chunk's line -/
theorem runs_begin {c d : Ck} {e : Int} (h : Runs c d e) (h0 : c.st = 0) :
    ((lnC c.inp).e ≠ 0 ∧ d = c ∧ e = (lnC c.inp).e) ∨
    ((lnC c.inp).e = 0 ∧ numE (lnC c.inp).t ((c.most : Int) - c.dat.length) ≠ 0 ∧ d = { c with inp := (lnC c.inp).r } ∧ e = numE (lnC c.inp).t ((c.most : Int) - c.dat.length)) ∨
    ((lnC c.inp).e = 0 ∧ numE (lnC c.inp).t ((c.most : Int) - c.dat.length) = 0 ∧ Runs { c with inp := (lnC c.inp).r, left := (numV (lnC c.inp).t ((c.most : Int) - c.dat.length)).toNat, st := if numV (lnC c.inp).t ((c.most : Int) - c.dat.length) = 0 then 3 else 1 } d e) := by
  have hr := runs_eq h (step0 h0)
  unfold beginM at hr
  by_cases h1 : (lnC c.inp).e = 0
  · rw [if_neg (by simp [h1])] at hr
    by_cases h2 : numE (lnC c.inp).t ((c.most : Int) - c.dat.length) = 0
    · rw [if_neg (by simp [h2])] at hr
      rcases hr with hr | hr
      · exact .inr (.inr ⟨h1, h2, hr.2⟩)
      · exact absurd rfl hr.1
    · rw [if_pos h2] at hr
      rcases hr with hr | hr
      · exact absurd hr.1 h2
      · exact .inr (.inl ⟨h1, h2, hr.2⟩)
  · rw [if_pos h1] at hr
    rcases hr with hr | hr
    · exact absurd hr.1 h1
    · exact .inl ⟨h1, hr.2⟩
/-- a chunk's data -/
theorem runs_data {c d : Ck} {e : Int} (h : Runs c d e) (h0 : c.st = 1) :
    (c.inp.length < c.left ∧ d = { c with inp := [], dat := c.dat ++ c.inp, left := c.left - c.inp.length } ∧ e = 17) ∨
    (c.left ≤ c.inp.length ∧ Runs { c with inp := c.inp.drop c.left, dat := c.dat ++ c.inp.take c.left, left := 0, st := 2 } d e) := by
  have hr := runs_eq h (step1 h0)
  unfold dataM at hr
  by_cases h1 : c.inp.length < c.left
  · have hm : min c.left c.inp.length = c.inp.length := by omega
    rw [hm, if_pos (by omega), List.drop_length, List.take_length] at hr
    rcases hr with hr | hr
    · have := hr.1; simp at this
    · exact .inl ⟨h1, hr.2⟩
  · have hm : min c.left c.inp.length = c.left := by omega
    rw [hm, if_neg (by omega), Nat.sub_self] at hr
    rcases hr with hr | hr
    · exact .inr ⟨by omega, hr.2⟩
    · exact absurd rfl hr.1
/-- what follows a chunk's data -/
theorem runs_close {c d : Ck} {e : Int} (h : Runs c d e) (h0 : c.st = 2) :
    (c.inp.take 2 ≠ crlfC.take c.inp.length ∧ d = c ∧ e = 3) ∨
    (c.inp.take 2 = crlfC.take c.inp.length ∧ c.inp.length < 2 ∧ d = c ∧ e = 17) ∨
    (c.inp.take 2 = crlfC.take c.inp.length ∧ 2 ≤ c.inp.length ∧ Runs { c with inp := c.inp.drop 2, st := 0 } d e) := by
  have hr := runs_eq h (step2 h0)
  unfold closeM at hr
  by_cases h1 : c.inp.take 2 = crlfC.take c.inp.length
  · rw [if_neg (by simp [h1])] at hr
    by_cases h2 : c.inp.length < 2
    · rw [if_pos h2] at hr
      rcases hr with hr | hr
      · have := hr.1; simp at this
      · exact .inr (.inl ⟨h1, h2, hr.2⟩)
    · rw [if_neg h2] at hr
      rcases hr with hr | hr
      · exact .inr (.inr ⟨h1, by omega, hr.2⟩)
      · exact absurd rfl hr.1
  · rw [if_pos h1] at hr
    rcases hr with hr | hr
    · have := hr.1; simp at this
    · exact .inl ⟨h1, hr.2⟩
/-- a line behind the last chunk -/
theorem runs_trail {c d : Ck} {e : Int} (h : Runs c d e) (h0 : c.st = 3) :
    ((lnC c.inp).e ≠ 0 ∧ d = c ∧ e = (lnC c.inp).e) ∨
    ((lnC c.inp).e = 0 ∧ (lnC c.inp).t = [] ∧ d = { c with inp := (lnC c.inp).r, st := 4 } ∧ e = 17) ∨
    ((lnC c.inp).e = 0 ∧ (lnC c.inp).t ≠ [] ∧ parseE (lnC c.inp).t ≠ 0 ∧ d = { c with inp := (lnC c.inp).r } ∧ e = 3) ∨
    ((lnC c.inp).e = 0 ∧ (lnC c.inp).t ≠ [] ∧ parseE (lnC c.inp).t = 0 ∧ 16 ≤ c.flds ∧ d = { c with inp := (lnC c.inp).r, flds := c.flds + 1 } ∧ e = 4) ∨
    ((lnC c.inp).e = 0 ∧ (lnC c.inp).t ≠ [] ∧ parseE (lnC c.inp).t = 0 ∧ c.flds < 16 ∧ Runs { c with inp := (lnC c.inp).r, flds := c.flds + 1 } d e) := by
  have hr := runs_eq h (step3 h0)
  unfold trailM at hr
  by_cases h1 : (lnC c.inp).e = 0
  · rw [if_neg (by simp [h1])] at hr
    by_cases h2 : (lnC c.inp).t = []
    · rw [if_pos h2] at hr
      rcases hr with hr | hr
      · have hq := runs_eq hr.2 (step4 rfl)
        rcases hq with hq | hq
        · have := hq.1; simp at this
        · exact .inr (.inl ⟨h1, h2, hq.2⟩)
      · exact absurd rfl hr.1
    · rw [if_neg h2] at hr
      by_cases h3 : parseE (lnC c.inp).t = 0
      · rw [if_neg (by simp [h3])] at hr
        by_cases h4 : 16 < c.flds + 1
        · rw [if_pos h4] at hr
          rcases hr with hr | hr
          · have := hr.1; simp at this
          · exact .inr (.inr (.inr (.inl ⟨h1, h2, h3, by omega, hr.2⟩)))
        · rw [if_neg h4] at hr
          rcases hr with hr | hr
          · exact .inr (.inr (.inr (.inr ⟨h1, h2, h3, by omega, hr.2⟩)))
          · exact absurd rfl hr.1
      · rw [if_pos h3] at hr
        rcases hr with hr | hr
        · exact absurd hr.1 h3
        · have h5 : parseE (lnC c.inp).t = 3 := by rcases parseE_cases (lnC c.inp).t with h | h; exact absurd h h3; exact h
          exact .inr (.inr (.inl ⟨h1, h2, h3, hr.2.1, hr.2.2.trans h5⟩))
  · rw [if_pos h1] at hr
    rcases hr with hr | hr
    · exact absurd hr.1 h1
    · exact .inl ⟨h1, hr.2⟩

theorem suffix_crlf {l : List UInt8} {k : Nat} (h : l[k]? = some 10) : Lib.hasSuffix (l.take (k + 1)) crlfC = (decide (0 < k) && decide (l[k - 1]? = some 13)) := by
  unfold Lib.hasSuffix
  rw [Bool.eq_iff_iff, List.isSuffixOf_iff_suffix]
  have e1 : l.take (k + 1) = l.take k ++ [10] := take_snoc h
  rw [e1]
  cases k with
  | zero =>
    simp
    intro hs
    have := hs.length_le
    simp [crlfC] at this
  | succ j =>
    have hj : j < l.length := by have := (List.getElem?_eq_some_iff.1 h).1; omega
    obtain ⟨x, hx⟩ : ∃ x, l[j]? = some x := ⟨_, List.getElem?_eq_getElem hj⟩
    rw [take_snoc hx]
    have hs : (l.take j ++ [x] ++ [10] : List UInt8) = l.take j ++ [x, 10] := by simp
    rw [hs, show j + 1 - 1 = j by omega, hx]
    simp
    constructor
    · rintro ⟨p, hp⟩
      have := (List.append_inj' hp (by simp [crlfC])).2
      have h2 : (13 : UInt8) = x := by simpa [crlfC] using this
      exact h2.symm
    · rintro rfl
      exact ⟨l.take j, rfl⟩
/-- the place behind a line -/
def nxt (s : List UInt8) (a : Nat) : Nat := if (lnC (s.drop a)).e = 0 then s.length - (lnC (s.drop a)).r.length else 0
theorem ln_suffix (l : List UInt8) : (lnC l).r <:+ l := by
  rcases line_cases l with hn | ⟨k, hk, hkl, h256⟩
  · rw [line_short hn]; split <;> exact List.suffix_refl _
  · rw [line_at hk]
    split
    · exact List.drop_suffix _ _
    · exact List.suffix_refl _
theorem drop_of_suffix {s r : List UInt8} (h : r <:+ s) : s.drop (s.length - r.length) = r := by
  obtain ⟨p, rfl⟩ := h
  simp
theorem nxt_drop {s : List UInt8} {a : Nat} (h : (lnC (s.drop a)).e = 0) : s.drop (nxt s a) = (lnC (s.drop a)).r ∧ nxt s a ≤ s.length ∧ (a ≤ s.length → a + 2 ≤ nxt s a) := by
  have h1 := ln_suffix (s.drop a)
  have h2 := line_le (s.drop a)
  have h3 := h2.2.1 h
  rw [List.length_drop] at h3
  have hl := h1.length_le
  rw [List.length_drop] at hl
  unfold nxt
  rw [if_pos h]
  exact ⟨drop_of_suffix (h1.trans (List.drop_suffix _ _)), by omega, fun _ => by omega⟩
theorem dig_mem (b : UInt8) : digitsB.contains b = digOk b := by
  have : ∀ n : Fin 256, digitsB.contains (UInt8.ofNat n.1) = digOk (UInt8.ofNat n.1) := by decide +kernel
  have h := this ⟨b.toNat, b.toNat_lt⟩
  simpa using h
theorem numRest_at {t : List UInt8} {k : Nat} (hk : k ≤ t.length) (h1 : (t.take k).all digOk = true) (h2 : ∀ b, t[k]? = some b → digOk b = false) : numRest t = t.drop k := by
  unfold numRest
  refine Lib.trimLeftS_drop t digitsB k hk (fun j b hj hb => ?_) (fun b hb => ?_)
  · rw [dig_mem]
    exact List.all_eq_true.1 h1 b (List.mem_of_getElem? (i := j) (by rw [List.getElem?_take, if_pos hj]; exact hb))
  · rw [dig_mem]; exact h2 b hb
theorem num_len' (t : List UInt8) : (numRest t).length ≤ t.length := by unfold numRest Lib.trimLeftS; exact List.Sublist.length_le (List.dropWhile_sublist _)
theorem numT_at {t : List UInt8} {k : Nat} (hk : k ≤ t.length) (h : numRest t = t.drop k) : numT t = t.take k := by
  unfold numT
  rw [h, List.length_drop, show t.length - (t.length - k) = k by omega]
theorem sep_mem (b : UInt8) : decide (0 ≤ Lib.indexByte [32, 9, 59] b) = (decide (b = 32) || decide (b = 9) || decide (b = 59)) := by
  have : ∀ n : Fin 256, decide (0 ≤ Lib.indexByte [32, 9, 59] (UInt8.ofNat n.1)) = (decide (UInt8.ofNat n.1 = 32) || decide (UInt8.ofNat n.1 = 9) || decide (UInt8.ofNat n.1 = 59)) := by decide +kernel
  have h := this ⟨b.toNat, b.toNat_lt⟩
  simpa using h
/-- the document's number -/
def numV2 (t : List UInt8) (m : Int) : Int := if restOk (numRest t) then unhexV (numT t) m else 0

/-- what a body comes to: data, whether whole, how long the whole, error -/
structure Bdy where
  dat : List UInt8
  done : Bool
  size : Nat
  err : Int
def Bdy.cells (b : Bdy) : List Value := [.string (S b.dat), .bool b.done, .int .i64 (b.size : Nat), .int .i64 b.err]
def bodyOf (s : List UInt8) (d : Ck) (e : Int) : Bdy := ⟨d.dat, decide (d.st = 4), if d.st = 4 then s.length - d.inp.length else 0, if e = 17 then 0 else e⟩
def endB (b : Bdy) (e : Int) : Bdy := { b with err := if e = 17 then b.err else e }
end Go.Proofs.YtpimfoohpfkciaaGreatDoor

/- Layer 11, plain laws: bytes that come piece by piece. No program. No conditions but those that each theorem states. -/
namespace Go.Proofs.YtpimfoohpfkciaaGreatDoor
open Go.RowKit

theorem step_suffix (c : Ck) : (stepM c).1.inp <:+ c.inp := by
  have hl := ln_suffix c.inp
  unfold stepM
  split
  · unfold beginM; split
    · exact List.suffix_refl _
    · split <;> exact hl
  split
  · unfold dataM; split <;> exact List.drop_suffix _ _
  split
  · unfold closeM; split
    · exact List.suffix_refl _
    · split
      · exact List.suffix_refl _
      · exact List.drop_suffix _ _
  split
  · unfold trailM; split
    · exact List.suffix_refl _
    · split
      · exact hl
      · split <;> exact hl
  · exact List.suffix_refl _
theorem runs_suffix {c d : Ck} {e : Int} (h : Runs c d e) : d.inp <:+ c.inp := by
  induction h with
  | stop _ => exact step_suffix _
  | more _ _ ih => exact ih.trans (step_suffix _)
theorem step_st (c : Ck) (h : c.st ≤ 4) : (stepM c).1.st ≤ 4 ∧ ((stepM c).1.st = 4 → (stepM c).2 = 0 ∨ (stepM c).2 = 17) := by
  unfold stepM
  split
  · unfold beginM; split
    · exact ⟨h, fun hh => by simp only at hh; omega⟩
    · split
      · exact ⟨h, fun hh => by simp only at hh; omega⟩
      · exact ⟨by simp only; split <;> omega, fun _ => .inl rfl⟩
  split
  · unfold dataM; split
    · exact ⟨h, fun _ => .inr rfl⟩
    · exact ⟨by simp only; omega, fun _ => .inl rfl⟩
  split
  · unfold closeM; split
    · exact ⟨h, fun hh => by simp only at hh; omega⟩
    · split
      · exact ⟨h, fun _ => .inr rfl⟩
      · exact ⟨by simp only; omega, fun _ => .inl rfl⟩
  split
  · unfold trailM; split
    · exact ⟨h, fun hh => by simp only at hh; omega⟩
    · split
      · exact ⟨by simp only; omega, fun _ => .inl rfl⟩
      · split
        · exact ⟨h, fun hh => by simp only at hh; omega⟩
        · exact ⟨h, fun hh => by simp only at hh; omega⟩
  · exact ⟨h, fun _ => .inr rfl⟩
theorem runs_st {c d : Ck} {e : Int} (h : Runs c d e) (hc : c.st ≤ 4) : d.st ≤ 4 ∧ (d.st = 4 → e = 17) := by
  induction h with
  | stop hh => have := step_st _ hc; exact ⟨this.1, fun h4 => by rcases this.2 h4 with h | h; exact absurd h hh; exact h⟩
  | more _ _ ih => exact ih (step_st _ hc).1
/-- what a reader is behind all bytes -/
def Rdc (m : Int) (all : List UInt8) (c : Ck) : Prop := ∃ d e, Runs ((ck0 m).add all) d e ∧ c = { d with err := if e = 17 then 0 else e }
theorem rd_nil (m : Int) : Rdc m [] (ck0 m) := by
  refine ⟨ck0 m, 17, ?_, rfl⟩
  have h : stepM ((ck0 m).add []) = (ck0 m, 17) := by
    show beginM ⟨0, 0, (max m 0).toNat, 0, [], [], 0⟩ = _
    unfold beginM
    rw [if_pos (by show (lnC []).e ≠ 0; decide)]
    rfl
  have := Runs.stop (c := (ck0 m).add []) (by rw [h]; show (17 : Int) ≠ 0; decide)
  rw [h] at this
  exact this
theorem Rdc.mk' {m : Int} {all : List UInt8} {d : Ck} {e : Int} (h : Runs ((ck0 m).add all) d e) : Rdc m all { d with err := if e = 17 then 0 else e } := ⟨d, e, h, rfl⟩
theorem Rdc.sound {m : Int} {all : List UInt8} {c : Ck} (h : Rdc m all c) : (c.err = 0 → c.ok ∧ Runs ((ck0 m).add all) c 17) ∧ c.most = (max m 0).toNat ∧ c.inp.length + c.dat.length ≤ all.length ∧ c.st ≤ 4 ∧ (c.st = 4 → c.err = 0) ∧ c.inp <:+ all := by
  obtain ⟨d, e, hr, rfl⟩ := h
  have ho := runs_ok hr (add_ok (ck0_ok m) all)
  have hd : d.err = 0 := ho.2.2.1
  have hs := runs_st hr (show ((ck0 m).add all).st ≤ 4 by simp [Ck.add, ck0])
  have hx := runs_suffix hr
  refine ⟨fun h0 => ?_, ho.2.1, ?_, hs.1, fun h4 => ?_, ?_⟩
  · have he : e = 17 := by
      simp only at h0
      split at h0
      · assumption
      · exact absurd h0 (runs_ne hr)
    subst he
    have : ({ d with err := if (17 : Int) = 17 then 0 else 17 } : Ck) = d := by rw [if_pos rfl, ← hd]
    rw [this]
    exact ⟨ho.1 rfl, hr⟩
  · have := ho.2.2.2.1; simpa [Ck.add, ck0] using this
  · simp only; rw [if_pos (hs.2 h4)]
  · simpa [Ck.add, ck0] using hx
theorem Rdc.add {m : Int} {all s : List UInt8} {c c' : Ck} (h : Rdc m all c) (ha : AddR c s c') : (c.err = 0 → Rdc m (all ++ s) c') ∧ (c.err ≠ 0 → c' = c) := by
  unfold AddR at ha
  by_cases h0 : c.err = 0
  · rw [if_neg (by simp [h0])] at ha
    obtain ⟨d, e, hr, hc⟩ := ha
    have hq := (h.sound.1 h0).2
    have := (runs_app hq s).2 rfl d e hr
    refine ⟨fun _ => ⟨d, e, ?_, hc⟩, fun hh => absurd h0 hh⟩
    have ee : ((ck0 m).add all).add s = (ck0 m).add (all ++ s) := by simp [Ck.add]
    rw [← ee]; exact this
  · rw [if_pos h0] at ha
    exact ⟨fun hh => absurd hh h0, fun _ => ha⟩
theorem addR_ex (c : Ck) (s : List UInt8) (h : c.err = 0 → c.ok) : ∃ c', AddR c s c' := by
  unfold AddR
  by_cases h0 : c.err = 0
  · obtain ⟨d, e, hr⟩ := runs_ex (c.add s).mu (c.add s) (add_ok (h h0) s) (Nat.le_refl _)
    exact ⟨_, by rw [if_neg (by simp [h0])]; exact ⟨d, e, hr, rfl⟩⟩
  · exact ⟨c, by rw [if_pos h0]⟩
theorem Rdc.more {m : Int} {all : List UInt8} {c : Ck} (h : Rdc m all c) (s : List UInt8) : ∃ c', AddR c s c' := addR_ex c s (fun h0 => (h.sound.1 h0).1)
/-- the document's answer, of the reader -/
theorem Rdc.body {m : Int} {all : List UInt8} {c : Ck} (h : Rdc m all c) : ∃ d e, Runs ((ck0 m).add all) d e ∧ (bodyOf all d e).dat = c.dat ∧ (bodyOf all d e).done = decide (c.st = 4) ∧ (bodyOf all d e).size = (if c.st = 4 then all.length - c.inp.length else 0) ∧ (bodyOf all d e).err = c.err ∧ (c.st = 4 → all.drop (all.length - c.inp.length) = c.inp) := by
  have hs := h.sound
  obtain ⟨d, e, hr, rfl⟩ := h
  exact ⟨d, e, hr, rfl, rfl, rfl, rfl, fun _ => drop_of_suffix hs.2.2.2.2.2⟩
/-- with an error earlier, the error of all -/
theorem rd_prefix {m : Int} {all s : List UInt8} {c c' : Ck} (h : Rdc m all c) (he : c.err ≠ 0) (h' : Rdc m (all ++ s) c') : c'.err = c.err ∧ c'.dat = c.dat ∧ c'.st = c.st := by
  obtain ⟨d, e, hr, rfl⟩ := h
  obtain ⟨d', e', hr', rfl⟩ := h'
  have h17 : e ≠ 17 := by intro hh; subst hh; exact he rfl
  have := (runs_app hr s).1 h17
  have ee : ((ck0 m).add all).add s = (ck0 m).add (all ++ s) := by simp [Ck.add]
  rw [ee] at this
  obtain ⟨rfl, rfl⟩ := runs_det hr' this
  exact ⟨rfl, rfl, rfl⟩
theorem rd_det {m : Int} {all : List UInt8} {c c' : Ck} (h : Rdc m all c) (h' : Rdc m all c') : c = c' := by
  obtain ⟨d, e, hr, rfl⟩ := h
  obtain ⟨d', e', hr', rfl⟩ := h'
  obtain ⟨rfl, rfl⟩ := runs_det hr hr'
  rfl
/-- alike for who asks: the same error, data, end; without an error the same rest -/
def Like (a b : Ck) : Prop := b.err = a.err ∧ b.dat = a.dat ∧ b.st = a.st ∧ (a.err = 0 → b.inp = a.inp)
/-- pieces added one behind the other -/
def Rq (m : Int) (all : List UInt8) (c : Ck) : Prop := ∃ p s, all = p ++ s ∧ Rdc m p c ∧ (c.err = 0 → s = [])
theorem rq_nil (m : Int) : Rq m [] (ck0 m) := ⟨[], [], rfl, rd_nil m, fun _ => rfl⟩
theorem Rq.add {m : Int} {all s : List UInt8} {c c' : Ck} (h : Rq m all c) (ha : AddR c s c') : Rq m (all ++ s) c' := by
  obtain ⟨p, t, rfl, hr, hz⟩ := h
  have := hr.add ha
  by_cases h0 : c.err = 0
  · rw [hz h0]
    exact ⟨p ++ s, [], by simp, this.1 h0, fun _ => rfl⟩
  · have hc := this.2 h0
    subst hc
    exact ⟨p, t ++ s, by simp, hr, fun hh => absurd hh h0⟩
theorem Rq.sound {m : Int} {all : List UInt8} {c : Ck} (h : Rq m all c) : (c.err = 0 → c.ok) ∧ c.most = (max m 0).toNat ∧ c.inp.length + c.dat.length ≤ all.length ∧ c.st ≤ 4 := by
  obtain ⟨p, t, rfl, hr, hz⟩ := h
  have := hr.sound
  exact ⟨fun h0 => (this.1 h0).1, this.2.1, by rw [List.length_append]; omega, this.2.2.2.1⟩
theorem Rq.like {m : Int} {all : List UInt8} {a b : Ck} (ha : Rdc m all a) (hb : Rq m all b) : Like a b := by
  obtain ⟨p, t, rfl, hr, hz⟩ := hb
  by_cases h0 : b.err = 0
  · have := hz h0
    subst this
    rw [List.append_nil] at ha
    have := rd_det ha hr
    subst this
    exact ⟨rfl, rfl, rfl, fun _ => rfl⟩
  · obtain ⟨h1, h2, h3⟩ := rd_prefix hr h0 ha
    exact ⟨h1.symm, h2.symm, h3.symm, fun hh => absurd (h1.symm.trans hh) h0⟩
theorem Rdc.rq {m : Int} {all : List UInt8} {c : Ck} (h : Rdc m all c) : Rq m all c := ⟨all, [], by simp, h, fun _ => rfl⟩
theorem ckd_le {c : Ck} (h : c.ok) : c.dat.length ≤ c.most := by have := h.1; omega
theorem step_dat {c : Ck} (h : c.ok) : (stepM c).1.dat.length ≤ c.most := by
  have hm := (step_ok h).2.2.1
  have key : (stepM c).1.ok → (stepM c).1.dat.length ≤ c.most := fun hh => by have := ckd_le hh; omega
  unfold stepM at key hm ⊢
  split at key
  · rw [if_pos (by assumption)]; exact key (begin_ok h (by assumption)).2.1
  split at key
  · rw [if_neg (by assumption), if_pos (by assumption)]; exact key (data_ok h (by assumption)).2.1
  split at key
  · rw [if_neg (by assumption), if_neg (by assumption), if_pos (by assumption)]; exact key (close_ok h (by assumption)).2.1
  split at key
  · rw [if_neg (by assumption), if_neg (by assumption), if_neg (by assumption), if_pos (by assumption)]
    have : (trailM c).1.dat = c.dat := by
      unfold trailM
      split
      · rfl
      · split
        · rfl
        · split <;> rfl
    rw [this]; exact ckd_le h
  · rw [if_neg (by assumption), if_neg (by assumption), if_neg (by assumption), if_neg (by assumption)]; exact ckd_le h
theorem runs_dat {c d : Ck} {e : Int} (h : Runs c d e) (hc : c.ok) : d.dat.length ≤ c.most := by
  induction h with
  | stop hh => exact step_dat hc
  | more hh _ ih =>
    have hs := step_ok hc
    rw [← hs.2.2.1]
    exact ih (hs.2.1 (.inl hh))
theorem Rdc.dat {m : Int} {all : List UInt8} {c : Ck} (h : Rdc m all c) : c.dat.length ≤ (max m 0).toNat := by
  obtain ⟨d, e, hr, rfl⟩ := h
  exact runs_dat hr (add_ok (ck0_ok m) all)
end Go.Proofs.YtpimfoohpfkciaaGreatDoor

/- Layer 11: a reader among others in memory. No conditions but on lengths. -/
namespace Go.Proofs.YtpimfoohpfkciaaGreatDoor
open Go.RowKit Go.Shelf

/-- the reader's run, with so many steps at most -/
def runF : Nat → Ck → Ck × Int
  | 0, c => stepM c
  | n + 1, c => if (stepM c).2 = 0 then runF n (stepM c).1 else stepM c
theorem runF_runs : ∀ (n : Nat) (c : Ck), c.ok → c.mu ≤ n → Runs c (runF n c).1 (runF n c).2
  | n, c, h, hn => by
    by_cases h0 : (stepM c).2 = 0
    · have hs := step_ok h
      have hm := hs.1 h0
      match n, hn with
      | 0, hn => omega
      | n + 1, hn =>
        have hr := runF_runs n (stepM c).1 (hs.2.1 (.inl h0)) (by omega)
        rw [runF, if_pos h0]
        exact .more h0 hr
    · match n, hn with
      | 0, hn => rw [runF]; exact .stop h0
      | n + 1, hn => rw [runF, if_neg h0]; exact .stop h0
def addC (c : Ck) (s : List UInt8) : Ck := if c.err ≠ 0 then c else { (runF (c.add s).mu (c.add s)).1 with err := if (runF (c.add s).mu (c.add s)).2 = 17 then 0 else (runF (c.add s).mu (c.add s)).2 }
theorem addC_R {c : Ck} {s : List UInt8} (h : c.err = 0 → c.ok) : AddR c s (addC c s) := by
  unfold AddR addC
  by_cases h0 : c.err = 0
  · rw [if_neg (by simp [h0]), if_neg (by simp [h0])]
    exact ⟨_, _, runF_runs _ _ (add_ok (h h0) s) (Nat.le_refl _), rfl⟩
  · rw [if_pos h0, if_pos h0]


/-- a reader in memory: X: what its calls write -/
structure Cx (B : Nat) (w : World) (b : Nat) (X : List Nat) (p : List UInt8) (c : Ck) : Prop where
  at' : ∃ v, Ct B w b p c v ∧ ∀ g, v.ownBlock = some g → g ∈ X
  mem : b ∈ X
  lo : ∀ x ∈ X, B ≤ x ∧ x < w.heap.size
theorem Cx.keep {B b : Nat} {w w' : World} {X S : List Nat} {p : List UInt8} {c : Ck} (h : Cx B w b X p c) (k : Keep S w w') (hX : ∀ x ∈ X, x ∉ S) : Cx B w' b X p c := by
  obtain ⟨⟨v, h1, h2⟩, h3, h4⟩ := h
  exact ⟨⟨v, h1.keep k (hX b h3) (fun g hg => hX g (h2 g hg)), h2⟩, h3, fun x hx => ⟨(h4 x hx).1, Nat.lt_of_lt_of_le (h4 x hx).2 k.size⟩⟩
theorem Cx.keep0 {B b : Nat} {w w' : World} {X : List Nat} {p : List UInt8} {c : Ck} (h : Cx B w b X p c) (k : Keep [] w w') : Cx B w' b X p c := h.keep k (by simp)
theorem ML.keepB {B : Nat} {w w' : World} {X : List Nat} (hm : ML w) (hbig : 0 < B) (k : Keep X w w') (hX : ∀ x ∈ X, B ≤ x) : ML w' := hm.keep k (fun hh => absurd (hX _ hh) (by omega))
theorem ML.lt {w : World} (hm : ML w) : 0 < w.heap.size := let ⟨_, h⟩ := hm; World.block_lt_of_cell? w _ h
/-- what lies apart stays apart -/
theorem apart_new {w : World} {X X' Y : List Nat} (h : ∀ x ∈ X, x ∉ Y) (hn : ∀ x ∈ X', x ∈ X ∨ w.heap.size ≤ x) (hY : ∀ y ∈ Y, y < w.heap.size) : ∀ x ∈ X', x ∉ Y := fun x hx hy => by
  rcases hn x hx with h1 | h1
  · exact h x h1 hy
  · have := hY x hy; omega
theorem apart_symm {X Y : List Nat} (h : ∀ x ∈ X, x ∉ Y) : ∀ y ∈ Y, y ∉ X := fun y hy hx => h y hx hy
/-- seen from where the call began, nothing has changed -/
theorem Keep.above {w0 w w' : World} {X : List Nat} (h : Keep [] w0 w) (k : Keep X w w') (hX : ∀ x ∈ X, w0.heap.size ≤ x) : Keep [] w0 w' := h.trans' k (fun x hx hl => absurd (hX x hx) (by omega))
theorem cx_new (B : Nat) (m : Int) (w : World) (hB : B ≤ w.heap.size) :
    Calls Tryz.prog 39 #[.int .i64 m] w fun e w' => ∃ b, e = .returned (.pointer (some ⟨b, 0, none⟩)) ∧ w.heap.size ≤ b ∧ Cx B w' b [b] [] (ck0 m) ∧ Keep [] w w' := by
  refine (chunk_New B m w hB).mono ?_
  rintro e w' ⟨b, rfl, h1, h2, h3, h4⟩
  exact ⟨b, rfl, h1, ⟨⟨_, h3, by simp [Value.ownBlock]⟩, by simp, fun x hx => by simp at hx; subst hx; exact ⟨by omega, h2⟩⟩, h4⟩
theorem cx_add {B b : Nat} {X : List Nat} {p s : List UInt8} {c : Ck} {w : World} (h : Cx B w b X p c) (hm : ML w) (hbig : 0 < B) (hl : c.inp.length + c.dat.length + s.length ≤ 1048576) (hmost : (c.most : Int) ≤ 9223372036854775807) (hok : c.err = 0 → c.ok) :
    Calls Tryz.prog 41 #[.pointer (some ⟨b, 0, none⟩), .string (S s)] w fun e w' => e = .returned (.int .i64 (addC c s).err) ∧ ∃ X', Cx B w' b X' p (addC c s) ∧ Keep X w w' ∧ ∀ x ∈ X', x ∈ X ∨ w.heap.size ≤ x := by
  obtain ⟨⟨v, h1, h2⟩, h3, h4⟩ := h
  have hb := h4 b h3
  refine (chunk_Add B b p s c (addC c s) v w hm (by omega) h1 (by omega) hbig hl hmost hok (addC_R hok)).mono ?_
  rintro e w' ⟨rfl, v', g1, g2, g3⟩
  have g4 : Keep X w w' := g2.mono (fun x hx _ => by
    rcases List.mem_cons.1 hx with rfl | hx
    · exact h3
    · exact h2 x (by simpa using hx))
  refine ⟨rfl, b :: v'.ownBlock.toList, ⟨⟨v', g1, fun g hg => by rw [hg]; simp⟩, by simp, fun x hx => ?_⟩, g4, fun x hx => ?_⟩
  · rcases List.mem_cons.1 hx with rfl | hx
    · exact ⟨hb.1, Nat.lt_of_lt_of_le hb.2 g4.size⟩
    · obtain ⟨_, _, gb, _⟩ := g1
      exact gb.own.lt x (by simpa using hx)
  · rcases List.mem_cons.1 hx with rfl | hx
    · exact .inl h3
    · rcases g3 with e3 | ⟨g, e3, hg⟩
      · rw [e3] at hx; exact .inl (h2 x (by simpa using hx))
      · rw [e3] at hx
        have : x = g := by simpa using hx
        exact .inr (by omega)
theorem cx_done {B b : Nat} {X : List Nat} {p : List UInt8} {c : Ck} {w : World} (h : Cx B w b X p c) (hs : c.st ≤ 4) :
    Calls Tryz.prog 42 #[.pointer (some ⟨b, 0, none⟩)] w fun e w' => e = .returned (.bool (decide (c.st = 4))) ∧ w = w' := let ⟨⟨_, h1, _⟩, _, _⟩ := h; chunk_Done h1 hs
theorem cx_rest {B b : Nat} {X : List Nat} {p : List UInt8} {c : Ck} {w : World} (h : Cx B w b X p c) (hs : c.st ≤ 4) :
    Calls Tryz.prog 43 #[.pointer (some ⟨b, 0, none⟩)] w fun e w' => e = .returned (.string (S (if c.st = 4 then c.inp else []))) ∧ w = w' := let ⟨⟨_, h1, _⟩, _, _⟩ := h; chunk_Rest h1 hs
end Go.Proofs.YtpimfoohpfkciaaGreatDoor

/- Layer 16: numbers in decimal, as they are written and read. Plain laws; no program. No conditions but on sizes. -/
namespace Go.Proofs.YtpimfoohpfkciaaGreatDoor
open Go.RowKit

def digs : List UInt8 := [48, 49, 50, 51, 52, 53, 54, 55, 56, 57]
def GT : Int := 4611686018427387904
theorem digs_iff (b : UInt8) : digs.contains b = decB b := by
  unfold digs decB
  rw [Bool.eq_iff_iff]
  simp only [List.contains_iff_mem, List.mem_cons, List.not_mem_nil, or_false, Bool.and_eq_true, decide_eq_true_eq, ← UInt8.toNat_inj]
  simp
  omega
theorem dig_byte {u : Nat} (h : u < 10) : (UInt8.ofNat (48 + u)).toNat = 48 + u := by
  simp [UInt8.toNat_ofNat']; omega
theorem dig_dec {u : Nat} (h : u < 10) : decB (UInt8.ofNat (48 + u)) = true := by
  unfold decB; rw [dig_byte h]; simp; omega
theorem dec_small {u : Nat} (h : u < 10) : Lib.decDigits u = [UInt8.ofNat (48 + u)] := by rw [Lib.decDigits, dif_pos h]
theorem dec_big {u : Nat} (h : ¬ u < 10) : Lib.decDigits u = Lib.decDigits (u / 10) ++ [UInt8.ofNat (48 + u % 10)] := by rw [Lib.decDigits, dif_neg h]
theorem dec_all (u : Nat) : (Lib.decDigits u).all decB = true := by
  induction u using Nat.strongRecOn with
  | _ u ih =>
    by_cases h : u < 10
    · rw [dec_small h, List.all_cons, List.all_nil, dig_dec h]; rfl
    · rw [dec_big h, List.all_append, ih (u / 10) (by omega), List.all_cons, List.all_nil, dig_dec (show u % 10 < 10 by omega)]; rfl
theorem dec_ne (u : Nat) : Lib.decDigits u ≠ [] := by
  by_cases h : u < 10
  · rw [dec_small h]; simp
  · rw [dec_big h]; simp
theorem dec_head (u : Nat) (h1 : 1 ≤ u) : (Lib.decDigits u).head? ≠ some 48 := by
  induction u using Nat.strongRecOn with
  | _ u ih =>
    by_cases h : u < 10
    · rw [dec_small h]
      intro e
      have := congrArg UInt8.toNat (Option.some.inj e)
      rw [dig_byte h] at this
      have h48 : (48 : UInt8).toNat = 48 := rfl
      omega
    · rw [dec_big h, List.head?_append]
      have := ih (u / 10) (by omega) (by omega)
      cases hd : (Lib.decDigits (u / 10)).head? with
      | none => exact absurd (List.head?_eq_none_iff.1 hd) (dec_ne _)
      | some x => rw [hd] at this; simpa using this
theorem gather_append (m : Int) : ∀ (a b : List UInt8) (n : Int), gatherM m (a ++ b) n = (gatherM m a n).bind (gatherM m b)
  | [], b, n => rfl
  | x :: a, b, n => by
    simp only [List.cons_append, gatherM]
    split
    · exact gather_append m a b _
    · rfl
theorem digV_dig {u : Nat} (h : u < 10) : digV (UInt8.ofNat (48 + u)) = u := by
  unfold digV
  rw [dig_byte h, if_pos (by omega)]
  omega
theorem gather_dec (u : Nat) (h : (u : Int) ≤ 4611686018427387904) : gatherM 10 (Lib.decDigits u) 0 = some (u : Int) := by
  induction u using Nat.strongRecOn with
  | _ u ih =>
    by_cases h1 : u < 10
    · rw [dec_small h1]
      simp only [gatherM]
      rw [digV_dig h1, if_pos (by omega)]
      simp
    · rw [dec_big h1, gather_append, ih (u / 10) (by omega) (by omega)]
      simp only [Option.bind_some, gatherM]
      rw [digV_dig (show u % 10 < 10 by omega), if_pos (by omega)]
      congr 1
      omega
theorem dec_isDec (u : Nat) : isDecM (Lib.decDigits u) = true := by
  unfold isDecM
  rw [dec_all]
  have hn : (Lib.decDigits u).isEmpty = false := by simp [dec_ne]
  rw [hn]
  by_cases h : u < 10
  · rw [dec_small h]; simp
  · have := dec_head u (by omega)
    simp [this]
theorem undec_dec (u : Nat) (most : Int) (h : (u : Int) ≤ most) (hm : most ≤ 4611686018427387904) : undecV (Lib.decDigits u) most = u ∧ undecE (Lib.decDigits u) most = 0 := by
  unfold undecV undecE boundV boundE
  rw [dec_isDec, gather_dec u (by omega)]
  simp only [if_true]
  rw [if_neg (by omega), if_neg (by omega)]
  exact ⟨rfl, rfl⟩
theorem drop_nil {p : UInt8 → Bool} : ∀ {l : List UInt8}, l.dropWhile p = [] ↔ ∀ x ∈ l, p x = true
  | [] => by simp
  | x :: l => by
    cases h : p x with
    | true => rw [List.dropWhile_cons_of_pos h, drop_nil]; simp [h]
    | false => rw [List.dropWhile_cons_of_neg (by simp [h])]; simp [h]
theorem trim_dec {l : List UInt8} (h : l.all decB = true) : Lib.trimS l digs = [] := by
  have h1 : Lib.trimRightS l digs = [] := by
    unfold Lib.trimRightS
    rw [drop_nil.2]
    · rfl
    · intro x hx
      rw [digs_iff]
      exact List.all_eq_true.1 h x (List.mem_reverse.1 hx)
  unfold Lib.trimS
  rw [h1]; rfl
theorem trim_nodec {l : List UInt8} (h : l.all decB = false) : Lib.trimS l digs ≠ [] := by
  intro he
  obtain ⟨x, hx, hn⟩ := List.all_eq_false.1 h
  unfold Lib.trimS Lib.trimLeftS at he
  have h1 := drop_nil.1 he
  have h2 : ∀ y ∈ l, digs.contains y = true := by
    intro y hy
    unfold Lib.trimRightS at h1
    by_cases hm : y ∈ (l.reverse.dropWhile (digs.contains ·)).reverse
    · exact h1 y hm
    · have : l.reverse = l.reverse.takeWhile (digs.contains ·) ++ l.reverse.dropWhile (digs.contains ·) := (List.takeWhile_append_dropWhile).symm
      have hy' : y ∈ l.reverse := List.mem_reverse.2 hy
      rw [this] at hy'
      rcases List.mem_append.1 hy' with h3 | h3
      · exact List.all_eq_true.1 List.all_takeWhile y h3
      · exact absurd (List.mem_reverse.2 h3) hm
  have := h2 x hx
  rw [digs_iff] at this
  exact hn this

def numD (l : List UInt8) : List UInt8 := if Lib.trimLeftB l 48 = [] then [48] else Lib.trimLeftB l 48
def numN (l : List UInt8) : Int := if l = [] ∨ l.all decB = false then 0 else if undecE (numD l) GT = 14 then GT else undecV (numD l) GT
def numI (l : List UInt8) : Bool := !l.isEmpty && l.all decB
def numK (l : List UInt8) : Bool := l.all decB
theorem num_dec (u : Nat) (h : (u : Int) ≤ 4611686018427387904) : numN (Lib.decDigits u) = u ∧ numI (Lib.decDigits u) = true ∧ numK (Lib.decDigits u) = true := by
  have hd : numD (Lib.decDigits u) = Lib.decDigits u := by
    unfold numD
    by_cases h0 : u = 0
    · subst h0; rw [dec_small (by omega)]; rfl
    · have hh := dec_head u (by omega)
      have ht : Lib.trimLeftB (Lib.decDigits u) 48 = Lib.decDigits u := by
        unfold Lib.trimLeftB
        cases hc : Lib.decDigits u with
        | nil => rfl
        | cons x r =>
          rw [hc] at hh
          have : x ≠ 48 := by simpa using hh
          rw [List.dropWhile_cons_of_neg (by simpa using this)]
      rw [ht, if_neg (dec_ne u)]
  refine ⟨?_, ?_, dec_all u⟩
  · unfold numN
    rw [if_neg (by simp [dec_ne, dec_all]), hd, (undec_dec u GT h (by unfold GT; omega)).1, (undec_dec u GT h (by unfold GT; omega)).2]
    rfl
  · unfold numI; rw [dec_all]; simp [dec_ne]
end Go.Proofs.YtpimfoohpfkciaaGreatDoor

/- Layer 16: number, isUnit. No conditions but on lengths. -/
namespace Go.Proofs.YtpimfoohpfkciaaGreatDoor
open Go.RowKit Go.Shelf

def NumOut (w : World) (l : List UInt8) (e : Ending) (w' : World) : Prop := e = .returned (.tuple #[.agg #[.int .i64 (numN l), .bool (numI l)], .bool (numK l)]) ∧ Keep [] w w'
theorem num_ret {a c : Int} {b d x y : Bool} (h : a = c) (h2 : b = d) (h3 : x = y) : Ending.returned (.tuple #[.agg #[.int .i64 a, .bool b], .bool x]) = .returned (.tuple #[.agg #[.int .i64 c, .bool d], .bool y]) := by rw [h, h2, h3]

end Go.Proofs.YtpimfoohpfkciaaGreatDoor

/- Layer 16: isUnit. No conditions but on lengths. -/
namespace Go.Proofs.YtpimfoohpfkciaaGreatDoor
open Go.RowKit Go.Shelf

def unitB : List UInt8 := [98, 121, 116, 101, 115, 61]
/-- the byte of a text that stands for a byte of the unit -/
def unitOk (b c : UInt8) : Bool := c == b || decide (97 ≤ b.toNat) && decide (c.toNat = b.toNat - 32)
def isUnitM (l : List UInt8) : Bool := decide (6 ≤ l.length) && (l.zip unitB).all fun p => unitOk p.2 p.1

def unitCells : Array Value := #[.int .u8 98, .int .u8 121, .int .u8 116, .int .u8 101, .int .u8 115, .int .u8 61]
theorem unit_cell (w : World) (o : Obj) {T : TypeId} {fr : Nat × Nat} (ho : o = .cells unitCells T fr) {k : Nat} {b : UInt8} (h : unitB[k]? = some b) : (w.alloc o).cell? ⟨w.heap.size, k, none⟩ = some (.int .u8 (b.toNat : Nat)) := by
  subst ho
  have hh : (w.alloc (.cells unitCells T fr)).heap[w.heap.size]? = some (.cells unitCells T fr) := heap_alloc_new w _
  have hc : unitCells[k]? = some (.int .u8 (b.toNat : Nat)) := by
    match k, h with
    | 0, h => cases h; rfl
    | 1, h => cases h; rfl
    | 2, h => cases h; rfl
    | 3, h => cases h; rfl
    | 4, h => cases h; rfl
    | 5, h => cases h; rfl
    | k + 6, h => simp [unitB] at h
  unfold World.cell?
  simp only [hh]
  exact hc
theorem zip_take {l : List UInt8} {k : Nat} {b c : UInt8} (hb : unitB[k]? = some b) (hc : l[k]? = some c) : (l.zip unitB).take (k + 1) = (l.zip unitB).take k ++ [(c, b)] := by
  rw [List.take_add_one, (List.getElem?_zip_eq_some (z := (c, b))).2 ⟨hc, hb⟩]; rfl

end Go.Proofs.YtpimfoohpfkciaaGreatDoor

/- Layer 10: the text of a value, in quotes or not: both sides. No conditions but on lengths. -/
namespace Go.Proofs.YtpimfoohpfkciaaGreatDoor
open Go.RowKit Go.Shelf

/-- behind the first quote -/
def unqM : List UInt8 → List UInt8 → List UInt8 × Bool
  | [], _ => ([], false)
  | [c], out => if c.toNat = 34 then (out, true) else ([], false)
  | c :: d :: r, out => if c.toNat = 34 then (out, false) else if c.toNat = 92 then unqM r (out ++ [d]) else unqM (d :: r) (out ++ [c])
def unqQ : List UInt8 → List UInt8 × Bool
  | c :: d :: r => if c.toNat = 34 then unqM (d :: r) [] else ([], false)
  | _ => ([], false)
def unqW (s : List UInt8) : List UInt8 × Bool := if isTok s then (s, true) else unqQ s
theorem unqM_quote {c : UInt8} {r out : List UInt8} (h : c.toNat = 34) : unqM (c :: r) out = (out, r.isEmpty) := by
  cases r with
  | nil => unfold unqM; rw [if_pos h]; rfl
  | cons d r => unfold unqM; rw [if_pos h]; rfl
theorem unqM_slash {c d : UInt8} {r out : List UInt8} (h : c.toNat = 92) : unqM (c :: d :: r) out = unqM r (out ++ [d]) := by
  conv => lhs; unfold unqM
  rw [if_neg (by omega), if_pos h]
theorem unqM_slash_end {c : UInt8} {out : List UInt8} (h : c.toNat ≠ 34) : unqM [c] out = ([], false) := by
  unfold unqM; rw [if_neg h]
theorem unqM_plain {c : UInt8} {r out : List UInt8} (h : c.toNat ≠ 34) (h2 : c.toNat ≠ 92) : unqM (c :: r) out = unqM r (out ++ [c]) := by
  cases r with
  | nil => unfold unqM; rw [if_neg h]
  | cons d r =>
    conv => lhs; unfold unqM
    rw [if_neg h, if_neg h2]
theorem unqM_len : ∀ (n : Nat) (s out : List UInt8), s.length ≤ n → (unqM s out).1.length ≤ out.length + s.length
  | _, [], out, _ => by simp [unqM]
  | _, [c], out, _ => by unfold unqM; split <;> simp
  | 0, c :: d :: r, out, h => by simp at h
  | 1, c :: d :: r, out, h => by simp at h
  | n + 2, c :: d :: r, out, h => by
    unfold unqM
    split
    · simp
    · split
      · have := unqM_len n r (out ++ [d]) (by simp at h; omega)
        simp at this ⊢; omega
      · have := unqM_len (n + 1) (d :: r) (out ++ [c]) (by simp at h ⊢; omega)
        simp at this ⊢; omega
theorem unqW_len (s : List UInt8) : (unqW s).1.length ≤ s.length := by
  unfold unqW
  split
  · simp
  · unfold unqQ
    split
    · split
      · exact Nat.le_trans (unqM_len _ _ [] (Nat.le_refl _)) (by simp)
      · simp
    · simp
theorem str_ret {a c : List UInt8} {b d : Bool} (h : (a, b) = (c, d)) : Ending.returned (.tuple #[.string (S a), .bool b]) = .returned (.tuple #[.string (S c), .bool d]) := by cases h; rfl
theorem str_ret' {x : List UInt8 × Bool} {c : List UInt8} {d : Bool} (h : x = (c, d)) : Ending.returned (.tuple #[.string (S c), .bool d]) = .returned (.tuple #[.string (S x.1), .bool x.2]) := by rw [h]

end Go.Proofs.YtpimfoohpfkciaaGreatDoor

/- Layer 10: the document's Parse, its result written out. No conditions but on lengths. -/
namespace Go.Proofs.YtpimfoohpfkciaaGreatDoor
open Go.RowKit Go.Shelf

theorem ref_parse_is {l n v : List UInt8} {k : Int} (w : World) (hl : l.length ≤ 4611686018427387904) (hv : parseV l = ⟨n, v⟩) (he : parseE l = k) :
    Calls Tryz.prog 45 #[.string (S l)] w fun e w' => e = .returned (.tuple #[.agg #[.string (S n), .string (S v)], .int .i64 k]) ∧ Keep [] w w' := by
  have h := ref_Parse l w hl
  unfold RefParse at h
  rw [hv, he] at h
  exact h

end Go.Proofs.YtpimfoohpfkciaaGreatDoor

/- Layer 10: the document's Split. No conditions but on lengths. -/
namespace Go.Proofs.YtpimfoohpfkciaaGreatDoor
open Go.RowKit Go.Shelf

theorem hasSuffix_two {l : List UInt8} {a b : UInt8} : Lib.hasSuffix l [a, b] = true ↔ ∃ x, l = x ++ [a, b] := by
  unfold Lib.hasSuffix
  constructor
  · intro h
    obtain ⟨x, hx⟩ : [a, b] <:+ l := by simpa using h
    exact ⟨x, hx.symm⟩
  · rintro ⟨x, rfl⟩
    simp
theorem trimSuffix_two {x : List UInt8} {a b : UInt8} : Lib.trimSuffix (x ++ [a, b]) [a, b] = x := by
  have h : Lib.hasSuffix (x ++ [a, b]) [a, b] = true := hasSuffix_two.2 ⟨x, rfl⟩
  unfold Lib.trimSuffix
  rw [if_pos h]
  simp
/-- a line that ends in LF: as the document takes it -/
theorem line_no {l : List UInt8} (h : l.length < 2 ∨ Lib.indexByte l 13 ≠ (l.length : Int) - 2) : lineM l = none := by
  unfold lineM
  rw [if_neg]
  rintro ⟨h1, h2⟩
  obtain ⟨x, rfl⟩ := hasSuffix_two.1 h1
  rw [trimSuffix_two] at h2
  have e : Lib.indexByte (x ++ [13, 10]) 13 = x.length := by
    have hge := Lib.indexByte_ge x 13
    have hn := Lib.indexByte_none (l := x) (c := 13) (by omega)
    refine indexByte_at (by simp) fun j hj => ?_
    rw [List.getElem?_append_left hj]
    exact hn j
  rw [e] at h
  simp at h
  omega
theorem line_yes {l : List UInt8} (hn : l[l.length - 1]? = some 10) (h1 : 2 ≤ l.length) (h : Lib.indexByte l 13 = (l.length : Int) - 2) : lineM l = some (l.take (l.length - 2)) := by
  have h2 : Lib.indexByte l 13 = ((l.length - 2 : Nat) : Int) := by rw [h]; omega
  obtain ⟨h3, h4⟩ := Lib.indexByte_some h2
  have e : l = l.take (l.length - 2) ++ [13, 10] := by
    have e1 : l.drop (l.length - 2) = [13, 10] := by
      rw [drop_at h3, show l.length - 2 + 1 = l.length - 1 by omega, drop_at hn]
      simp; omega
    rw [← e1, List.take_append_drop]
  have hs : Lib.hasSuffix l [13, 10] = true := hasSuffix_two.2 ⟨_, e⟩
  have ht : Lib.trimSuffix l [13, 10] = l.take (l.length - 2) := by
    conv => lhs; rw [e]
    exact trimSuffix_two
  unfold lineM
  rw [ht, if_pos]
  refine ⟨hs, ?_⟩
  rw [indexByte_no]
  · omega
  · intro j hj
    rw [List.getElem?_take] at hj
    split at hj
    · exact h4 j (by assumption) hj
    · cases hj

theorem isEmpty_false {l : List UInt8} (h : l ≠ []) : l.isEmpty = false := by cases l <;> simp at *
theorem ret4 {a b c c' d : Value} (h : c = c') : Ending.returned (.tuple #[a, b, c, d]) = Ending.returned (.tuple #[a, b, c', d]) := by rw [h]
/-- where the document's loop stands -/
def Stage (s st : List UInt8) (F : List Fld) (n : Nat) (first : Bool) : Prop :=
  (first = true ∧ st = [] ∧ F = [] ∧ n = 0) ∨ (first = false ∧ ∃ k, readM s = loopM s st k F n ∧ 4097 - n ≤ k)

set_option maxRecDepth 100000 in
set_option maxHeartbeats 2000000 in
theorem ref_Split (s : List UInt8) (w : World) (hs : s.length ≤ 1048576) :
    Calls Tryz.prog 21 #[.string (S s)] w (SplitOut w (splitM s)) := by
  have hsz := S_size s
  have HM := Lib.hid (show maxLen = 9223372036854775807 from rfl)
  obtain ⟨is, Hs⟩ := fldinfo'
  have HF := Lib.hid (fun (x : List UInt8) (b : UInt8) (h : x.length ≤ 1048576) (w1 : World) => ref_Find x b w1 (show x.length ≤ 9223372036854775807 by omega))
  have hsp : splitM s = if (readM s).e ≠ 0 then ⟨[], [], 0, (readM s).e⟩ else readM s := rfl
  have HSP := Lib.hid hsp
  clear hsp
  have hO0 := Lib.hid (Own.none Fld.cells 2 40 (base := w.heap.size) w (Nat.le_refl _))
  have hK0 := Lib.hid ((Keep.refl [] w).alloc (.cells #[] 40))
  go_enter Tryz.func21, Tryz.ntmps21
  go_wp2_with fail
  go_loopg [6, 7, 8, 9] 4097 (fun g sv fv av bv wr => ∃ (st : List UInt8) (F : List Fld) (n : Nat) (first : Bool), sv = .string (S st) ∧ av = .int .i64 n ∧ bv = .bool first ∧ n ≤ s.length ∧ n ≤ 4096 ∧ F.length ≤ 32 ∧ g = 4097 - n ∧ Hid (Own Fld.cells 2 w.heap.size 40 wr fv F) ∧ Hid (Keep [] w wr) ∧ Hid (Stage s st F n first))
  case atStart => exact ⟨[], [], 0, true, rfl, rfl, rfl, by omega, by omega, by simp, rfl, hO0, hK0, Lib.hid (.inl ⟨rfl, rfl, rfl, rfl⟩)⟩
  case round =>
    obtain ⟨st, F, n, first, rfl, rfl, rfl, c1, c2, c3, rfl, HO, HK, HT⟩ := hrel
    obtain ⟨fa, fc, rfl, _⟩ := HO.out.shape
    clear hO0 hK0
    have hx : (S s).extract n (min ((s.length : Nat) : Int) 4096).toNat = S (seenM s n) := by
      have e : (min ((s.length : Nat) : Int) 4096).toNat = min s.length 4096 := by omega
      rw [e, S_extract]
      unfold seenM
      congr 2
      rw [Nat.min_comm, List.take_eq_take_iff]
      omega
    have hseen : (seenM s n).length + n ≤ 4096 ∧ (seenM s n).length + n ≤ s.length := by unfold seenM; simp; omega
    obtain ⟨hq1, hq2⟩ := hseen
    have hN : nextM s n = (if Lib.indexByte (seenM s n) 10 < 0 then ([], n, if 4096 ≤ s.length then 4 else 17)
      else match lineM ((seenM s n).take ((Lib.indexByte (seenM s n) 10).toNat + 1)) with
        | none => ([], n + ((Lib.indexByte (seenM s n) 10).toNat + 1), 3)
        | some l => (l, n + ((Lib.indexByte (seenM s n) 10).toNat + 1), 0) : List UInt8 × Nat × Int) := rfl
    have hpc : ∀ j, (S s).extract n (n + j) = S ((s.drop n).take j) := fun j => by
      rw [S_extract, List.drop_take]
      congr 2
      omega
    have hsl : ∀ j, n + j ≤ 4096 → (s.drop n).take j = (seenM s n).take j := fun j hj => by
      unfold seenM
      rw [List.drop_take, List.take_take]
      congr 1
      omega
    have hFq := HF.out (seenM s n) 10 (by omega)
    have hge := Lib.indexByte_ge (seenM s n) 10
    generalize hl : seenM s n = l at hx hq1 hq2 hN hFq hge hsl
    have hE : ∀ (z : Int) (n' : Nat), nextM s n = ([], n', z) → z ≠ 0 → splitM s = ⟨[], [], 0, z⟩ := fun z n' hz h0 => by
      have hr : (readM s).e = z := by
        rcases HT.out with ⟨_, _, _, rfl⟩ | ⟨_, k, hk, hk2⟩
        · unfold readM; rw [hz]; simp [h0]
        · rw [hk]
          obtain ⟨k', rfl⟩ : ∃ k', k = k' + 1 := ⟨k - 1, by omega⟩
          unfold loopM; rw [hz]; simp [h0]
      rw [HSP.out, hr, if_pos h0]
    by_cases hi : Lib.indexByte l 10 = -1
    · rw [hi] at hN hFq
      rw [if_pos (by omega)] at hN
      have HFq := Lib.hid hFq
      by_cases hbig : 4096 ≤ s.length
      · rw [if_pos hbig] at hN
        have HE := Lib.hid (hE 4 _ hN (by omega))
        clear hE hN hi hge hFq hpc hsl hl
        go_wp2_with fail
        refine (HFq.out _).mono ?_
        rintro e w1 ⟨rfl, rfl⟩
        go_wp2_with fail
        refine bodyPost_ret (results_tmp4 rfl _ _ _) rfl ?_
        rw [HE.out]
        exact ⟨_, rfl, Own.nil _ _ _ _ _, HK.out⟩
      · rw [if_neg hbig] at hN
        have HE := Lib.hid (hE 17 _ hN (by omega))
        clear hE hN hi hge hFq hpc hsl hl
        go_wp2_with fail
        refine (HFq.out _).mono ?_
        rintro e w1 ⟨rfl, rfl⟩
        go_wp2_with fail
        refine bodyPost_ret (results_tmp4 rfl _ _ _) rfl ?_
        rw [HE.out]
        exact ⟨_, rfl, Own.nil _ _ _ _ _, HK.out⟩
    · obtain ⟨o, ho⟩ : ∃ o : Nat, Lib.indexByte l 10 = o := ⟨(Lib.indexByte l 10).toNat, by omega⟩
      have ho10 := (Lib.indexByte_some ho).1
      have hol := (List.getElem?_eq_some_iff.1 ho10).1
      rw [ho] at hN hFq
      rw [if_neg (by omega), Int.toNat_natCast] at hN
      have hp1 := hpc (o + 1)
      rw [hsl (o + 1) (by omega)] at hp1
      have hll : (l.take (o + 1)).length = o + 1 := by simp; omega
      have hlast : (l.take (o + 1))[(l.take (o + 1)).length - 1]? = some 10 := by
        rw [hll, List.getElem?_take]
        simp [ho10]
      have hF2 := HF.out (l.take (o + 1)) 13 (by omega)
      have htn : ((n : Int) + (o : Int) + 1).toNat = n + (o + 1) := by omega
      have hb1 : (n : Int) + (o : Int) + 1 ≤ (s.length : Int) := by omega
      have hb2 : (n : Int) + (o : Int) + 1 ≤ 4096 := by omega
      generalize l.take (o + 1) = q at hp1 hll hlast hF2 hN
      have hqs := S_size q
      clear hpc hsl hge hi ho10
      by_cases ha : o = 0 ∨ Lib.indexByte q 13 ≠ (q.length : Int) - 2
      · rw [line_no (by omega)] at hN
        have HE := Lib.hid (hE 3 _ hN (by omega))
        have HFq := Lib.hid hFq
        have HF2 := Lib.hid hF2
        clear hE hN hFq hF2 hlast hl
        rcases Nat.eq_zero_or_pos o with rfl | hpos
        · go_wp2_with fail
          refine (HFq.out _).mono ?_
          rintro e w1 ⟨rfl, rfl⟩
          go_wp2_with fail
          refine bodyPost_ret (results_tmp4 rfl _ _ _) rfl ?_
          rw [HE.out]
          exact ⟨_, rfl, Own.nil _ _ _ _ _, HK.out⟩
        · obtain ⟨j, rfl⟩ : ∃ j, o = j + 1 := ⟨o - 1, by omega⟩
          have htn' : ((n : Int) + ((j : Int) + 1) + 1).toNat = n + (j + 1 + 1) := by omega
          have hb1' : (n : Int) + ((j : Int) + 1) + 1 ≤ (s.length : Int) := by omega
          have hb2' : (n : Int) + ((j : Int) + 1) + 1 ≤ 4096 := by omega
          clear htn hb1 hb2
          have hz : Lib.indexByte q 13 ≠ (j : Int) + 1 + 1 - 2 := by
            intro h
            rcases ha with h1 | h1
            · omega
            · exact h1 (by omega)
          obtain ⟨z1, z2⟩ := int_ne hz
          generalize Lib.indexByte q 13 = z at HF2 z1 z2
          clear hz ha
          go_wp2_with fail
          refine (HFq.out _).mono ?_
          rintro e w1 ⟨rfl, rfl⟩
          go_wp2_with fail
          refine (HF2.out _).mono ?_
          rintro e w1 ⟨rfl, rfl⟩
          go_wp2_with fail
          refine bodyPost_ret (results_tmp4 rfl _ _ _) rfl ?_
          rw [HE.out]
          exact ⟨_, rfl, Own.nil _ _ _ _ _, HK.out⟩
      · have ha1 : o ≠ 0 := fun h => ha (.inl h)
        have ha2 : Lib.indexByte q 13 = (q.length : Int) - 2 := Decidable.byContradiction fun h => ha (.inr h)
        obtain ⟨j, rfl⟩ : ∃ j, o = j + 1 := ⟨o - 1, by omega⟩
        rw [line_yes hlast (by omega) ha2] at hN
        rw [ha2] at hF2
        have eqj : (q.length : Int) - 2 = (j : Int) := by omega
        have eqn : q.length - 2 = j := by omega
        rw [eqj] at hF2
        rw [eqn] at hN
        have htn' : ((n : Int) + ((j : Int) + 1) + 1).toNat = n + (j + 1 + 1) := by omega
        have hb1' : (n : Int) + ((j : Int) + 1) + 1 ≤ (s.length : Int) := by omega
        have hb2' : (n : Int) + ((j : Int) + 1) + 1 ≤ 4096 := by omega
        obtain ⟨z1, z2⟩ := int_eq (show (j : Int) = (j : Int) + 1 + 1 - 2 by omega)
        have htz : ((j : Int) + 1 + 1 - 2).toNat = j := by omega
        have hb3 : (0 : Int) ≤ (j : Int) + 1 + 1 - 2 := by omega
        have hb4 : (j : Int) + 1 + 1 - 2 ≤ (j : Int) + 1 + 1 := by omega
        have hqx : (S q).extract 0 j = S (q.take j) := by rw [S_extract, List.drop_zero]
        have hlj : (q.take j).length = j := by simp; omega
        have hNs : nextM s n = (q.take j, n + (j + 1 + 1), 0) := hN
        generalize q.take j = l' at hqx hlj hNs
        have hls := S_size l'
        have hlt := S_toList l'
        have HFq := Lib.hid hFq
        have HF2 := Lib.hid hF2
        have HN := Lib.hid hNs
        clear hE hN hFq hF2 hlast hl ha ha1 ha2 eqj eqn htn hb1 hb2 hNs
        have hrel' : ∀ (i : Nat), (i : Int) = (n : Int) + ((j : Int) + 1) + 1 → (Value.int .i64 ((n : Int) + ((j : Int) + 1) + 1)) = .int .i64 (i : Int) := fun i h => by rw [h]
        have HREL := Lib.hid hrel'
        clear hrel'
        cases first with
        | true =>
          obtain ⟨hst, hFn, hn0⟩ : st = [] ∧ F = [] ∧ n = 0 := by
            rcases HT.out with ⟨_, h1, h2, h3⟩ | ⟨h, _⟩
            · exact ⟨h1, h2, h3⟩
            · cases h
          have hR : readM s = if beginE l' ≠ 0 then ⟨[], [], n + (j + 1 + 1), beginE l'⟩ else loopM s l' 4097 F (n + (j + 1 + 1)) := by
            have h1 := HN.out
            rw [hn0] at h1 ⊢
            unfold readM; rw [h1, hFn]; simp
          have HST := Lib.hid (And.intro hst (And.intro hFn hn0))
          clear hst hFn hn0
          have hS : beginE l' ≠ 0 → splitM s = ⟨[], [], 0, beginE l'⟩ := fun h0 => by
            rw [HSP.out, hR, if_pos h0, if_pos h0]
          by_cases hle : l' = []
          · have hb : beginE l' = 3 := if_pos hle
            rw [hb] at hS
            have HS := Lib.hid (hS (by omega))
            clear hR hS hb
            subst hle
            go_wp2_with fail
            refine (HFq.out _).mono ?_
            rintro e w1 ⟨rfl, rfl⟩
            go_wp2_with fail
            refine (HF2.out _).mono ?_
            rintro e w1 ⟨rfl, rfl⟩
            go_wp2_with fail
            refine bodyPost_ret (results_tmp4 rfl _ _ _) rfl ?_
            rw [HS.out]
            exact ⟨_, rfl, Own.nil _ _ _ _ _, HK.out⟩
          · have hie : l'.isEmpty = false := isEmpty_false hle
            by_cases hbig : 1024 < l'.length
            · have hb : beginE l' = 4 := by unfold beginE; rw [if_neg hle, if_pos hbig]
              rw [hb] at hS
              have HS := Lib.hid (hS (by omega))
              clear hR hS hb hle
              go_wp2_with fail
              refine (HFq.out _).mono ?_
              rintro e w1 ⟨rfl, rfl⟩
              go_wp2_with fail
              refine (HF2.out _).mono ?_
              rintro e w1 ⟨rfl, rfl⟩
              go_wp2_with fail
              refine bodyPost_ret (results_tmp4 rfl _ _ _) rfl ?_
              rw [HS.out]
              exact ⟨_, rfl, Own.nil _ _ _ _ _, HK.out⟩
            · have hb : beginE l' = 0 := by unfold beginE; rw [if_neg hle, if_neg hbig]
              rw [hb, if_neg (by simp)] at hR
              have HR := Lib.hid hR
              clear hR hS hb hle
              go_wp2_with fail
              refine (HFq.out _).mono ?_
              rintro e w1 ⟨rfl, rfl⟩
              go_wp2_with fail
              refine (HF2.out _).mono ?_
              rintro e w1 ⟨rfl, rfl⟩
              go_wp2_with fail
              go_roundg (4097 - (n + (j + 1 + 1)))
              case measure => omega
              case rel => exact ⟨l', F, n + (j + 1 + 1), false, rfl, HREL.out _ (by omega), rfl, by omega, by omega, c3, rfl, HO, HK, Lib.hid (.inr ⟨rfl, 4097, HR.out, by omega⟩)⟩
        | false =>
          obtain ⟨k, hk, hk2⟩ : ∃ k, readM s = loopM s st k F n ∧ 4097 - n ≤ k := by
            rcases HT.out with ⟨h, _⟩ | ⟨_, h⟩
            · cases h
            · exact h
          obtain ⟨k', rfl⟩ : ∃ k', k = k' + 1 := ⟨k - 1, by omega⟩
          have hR : readM s = if l' = [] then ⟨st, F, n + (j + 1 + 1), 0⟩ else if (addM F l').2 ≠ 0 then ⟨st, (addM F l').1, n + (j + 1 + 1), (addM F l').2⟩ else loopM s st k' (addM F l').1 (n + (j + 1 + 1)) := by
            rw [hk]; conv => lhs; unfold loopM
            rw [HN.out]; simp
          clear hk
          by_cases hle : l' = []
          · rw [if_pos hle] at hR
            have hS : splitM s = ⟨st, F, n + (j + 1 + 1), 0⟩ := by rw [HSP.out, hR]; simp
            have HS := Lib.hid hS
            clear hR hS
            subst hle
            go_wp2_with fail
            refine (HFq.out _).mono ?_
            rintro e w1 ⟨rfl, rfl⟩
            go_wp2_with fail
            refine (HF2.out _).mono ?_
            rintro e w1 ⟨rfl, rfl⟩
            go_wp2_with fail
            refine bodyPost_ret (results_tmp4 rfl _ _ _) rfl ?_
            rw [HS.out]
            exact ⟨_, ret4 (HREL.out (n + (j + 1 + 1)) (by omega)), HO.out, HK.out⟩
          · rw [if_neg hle] at hR
            have hie : l'.isEmpty = false := isEmpty_false hle
            have hA : addM F l' = (match parseF l' with | none => (F, 3) | some f => if 32 ≤ F.length then (F, 4) else (F ++ [f], 0)) := rfl
            have hPM : l'.length ≤ 4611686018427387904 := by omega
            cases hp : parseF l' with
            | none =>
              rw [hp] at hA
              dsimp only at hA
              have HP := Lib.hid (fun w1 => ref_parse_is w1 hPM (show parseV l' = ⟨[], []⟩ by unfold parseV; rw [hp]; rfl) (show parseE l' = 3 by unfold parseE; rw [hp]; rfl))
              rw [hA, if_pos (by simp)] at hR
              have hS : splitM s = ⟨[], [], 0, 3⟩ := by rw [HSP.out, hR]; simp
              have HS := Lib.hid hS
              clear hR hS hA hp hle hPM
              go_wp2_with fail
              refine (HFq.out _).mono ?_
              rintro e w1 ⟨rfl, rfl⟩
              go_wp2_with fail
              refine (HF2.out _).mono ?_
              rintro e w1 ⟨rfl, rfl⟩
              go_wp2_with fail
              refine (HP.out _).mono ?_
              rintro e w2 ⟨rfl, hk2⟩
              have K2 := Lib.hid ((HK.out.trans hk2).alloc (.cells #[.string (S []), .string (S [])] 40))
              clear hk2
              go_wp2_with fail
              refine bodyPost_ret (results_tmp4 rfl _ _ _) rfl ?_
              rw [HS.out]
              exact ⟨_, rfl, Own.nil _ _ _ _ _, K2.out⟩
            | some f =>
              rw [hp] at hA
              dsimp only at hA
              have HP := Lib.hid (fun w1 => ref_parse_is w1 hPM (show parseV l' = ⟨f.name, f.value⟩ by unfold parseV; rw [hp]; rfl) (show parseE l' = 0 by unfold parseE; rw [hp]; rfl))
              by_cases h32 : 32 ≤ F.length
              · rw [if_pos h32] at hA
                rw [hA, if_pos (by simp)] at hR
                have hS : splitM s = ⟨[], [], 0, 4⟩ := by rw [HSP.out, hR]; simp
                have HS := Lib.hid hS
                clear hR hS hA hp hle hPM
                go_wp2_with fail
                refine (HFq.out _).mono ?_
                rintro e w1 ⟨rfl, rfl⟩
                go_wp2_with fail
                refine (HF2.out _).mono ?_
                rintro e w1 ⟨rfl, rfl⟩
                go_wp2_with fail
                refine (HP.out _).mono ?_
                rintro e w2 ⟨rfl, hk2⟩
                have K2 := Lib.hid ((HK.out.trans hk2).alloc (.cells #[.string (S f.name), .string (S f.value)] 40))
                clear hk2
                go_wp2_with fail
                refine bodyPost_ret (results_tmp4 rfl _ _ _) rfl ?_
                rw [HS.out]
                exact ⟨_, rfl, Own.nil _ _ _ _ _, K2.out⟩
              · rw [if_neg h32] at hA
                rw [hA, if_neg (by simp)] at hR
                have HR := Lib.hid hR
                have c33 : F.length < 32 := by omega
                clear hR hA hp hle hPM h32
                go_wp2_with fail
                refine (HFq.out _).mono ?_
                rintro e w1 ⟨rfl, rfl⟩
                go_wp2_with fail
                refine (HF2.out _).mono ?_
                rintro e w1 ⟨rfl, rfl⟩
                go_wp2_with fail
                refine (HP.out _).mono ?_
                rintro e w2 ⟨rfl, hk2⟩
                have K2 := Lib.hid ((HK.out.trans hk2).alloc (.cells #[.string (S f.name), .string (S f.value)] 40))
                have O2 := Lib.hid ((HO.out.keep0 hk2).alloc (.cells #[.string (S f.name), .string (S f.value)] 40))
                have b2 := Blk.newA w2 #[.string (S f.name), .string (S f.value)] 40
                generalize hw4 : w2.alloc (.cells #[.string (S f.name), .string (S f.value)] 40) = w4 at K2 O2 b2
                have d0 := b2.get (k := 0) rfl
                have d1 := b2.get (k := 1) rfl
                clear hk2 b2
                go_wp2_with (first | (at_builtin; go_must (refine wpList_append1 rfl _ _ 28 rfl is (.agg #[.string ⟨#[]⟩, .string ⟨#[]⟩]) 32 Tryz.underlying28 Hs rfl (by decide) Fld.cells_length Fld.one w _ rfl K2.out (by rfl) O2.out f _ rfl _ rfl (by have := HM.out; omega) (by omega) ?_); intro v' w3 hown' hk' hgrow) | fail)
                have HO3 := Lib.hid hown'
                have HK3 := Lib.hid hk'
                clear hown' hk' hgrow d0 d1 hw4
                go_roundg (4097 - (n + (j + 1 + 1)))
                case measure => omega
                case rel => exact ⟨st, F ++ [f], n + (j + 1 + 1), false, rfl, HREL.out _ (by omega), rfl, by omega, by omega, by simp; omega, rfl, HO3, HK3, Lib.hid (.inr ⟨rfl, k', HR.out, by omega⟩)⟩
end Go.Proofs.YtpimfoohpfkciaaGreatDoor

/- Layer 10: param, Params: both sides. No conditions but on lengths. -/
namespace Go.Proofs.YtpimfoohpfkciaaGreatDoor
open Go.RowKit Go.Shelf

/-- a parameter; false: it is none -/
def parM (x : List UInt8) : Fld × Bool :=
  if (Lib.cut x [61]).2.2 && isTok (Lib.cut x [61]).1 then (⟨lowW (Lib.cut x [61]).1, (unqW (Lib.cut x [61]).2.1).1⟩, (unqW (Lib.cut x [61]).2.1).2) else (⟨[], []⟩, false)
def parsM : List (List UInt8) → List Fld → Option (List Fld)
  | [], out => some out
  | x :: r, out => if x = [] then parsM r out else if (parM x).2 then parsM r (out ++ [(parM x).1]) else none
structure Prm where
  hd : List UInt8
  F : List Fld
  e : Int
def paramsM (s : List UInt8) : Prm := match parsM (cutW s 59).tail [] with
  | none => ⟨[], [], 3⟩
  | some F => ⟨(cutW s 59).headD [], F, 0⟩
def ParOut (x : Fld × Bool) (w : World) (e : Ending) (w' : World) : Prop := e = .returned (.tuple #[.agg #[.string (S x.1.name), .string (S x.1.value)], .bool x.2]) ∧ Keep [] w w'

def PrmOut (w : World) (r : Prm) (e : Ending) (w' : World) : Prop := ∃ v, e = .returned (.tuple #[.string (S r.hd), v, .int .i64 r.e]) ∧ Own Fld.cells 2 w.heap.size 40 w' v r.F ∧ Keep [] w w'
theorem drop_atG {α : Type} {l : List α} {k : Nat} {c : α} (h : l[k]? = some c) : l.drop k = c :: l.drop (k + 1) := by
  obtain ⟨hl, hc⟩ := List.getElem?_eq_some_iff.1 h
  rw [List.drop_eq_getElem_cons hl, hc]
theorem trimW_len (l : List UInt8) : (trimW l).length ≤ l.length := by
  unfold trimW Lib.trimS Lib.trimLeftS Lib.trimRightS
  refine Nat.le_trans (List.dropWhile_sublist _).length_le ?_
  rw [List.length_reverse]
  refine Nat.le_trans (List.dropWhile_sublist _).length_le ?_
  simp
theorem cutM_elem (b : UInt8) (m : Nat) : ∀ (l : List UInt8) (q : Bool) (p : List UInt8), p.length + l.length ≤ m → ∀ x ∈ cutM b l q p, x.length ≤ m
  | [], q, p, h, x, hx => by
    simp [cutM] at hx
    subst hx
    have := trimW_len p
    simp at h; omega
  | [c], q, p, h, x, hx => by
    rw [cutM.eq_def] at hx; dsimp only at hx
    split at hx
    · exact cutM_elem b m [] _ _ (by simp at h ⊢; omega) x hx
    · split at hx
      · simp at hx
        subst hx
        have := trimW_len (p ++ [c])
        simp at h this; omega
      · split at hx
        · rcases List.mem_cons.1 hx with rfl | hx
          · have := trimW_len p
            simp at h; omega
          · exact cutM_elem b m [] _ _ (by simp at h ⊢) x hx
        · exact cutM_elem b m [] _ _ (by simp at h ⊢; omega) x hx
  | c :: d :: r, q, p, h, x, hx => by
    rw [cutM.eq_def] at hx; dsimp only at hx
    split at hx
    · exact cutM_elem b m (d :: r) _ _ (by simp at h ⊢; omega) x hx
    · split at hx
      · exact cutM_elem b m r _ _ (by simp at h ⊢; omega) x hx
      · split at hx
        · rcases List.mem_cons.1 hx with rfl | hx
          · have := trimW_len p
            simp at h; omega
          · exact cutM_elem b m (d :: r) _ _ (by simp at h ⊢; omega) x hx
        · exact cutM_elem b m (d :: r) _ _ (by simp at h ⊢; omega) x hx
theorem cutW_elem {l : List UInt8} {b : UInt8} {x : List UInt8} (h : x ∈ cutW l b) : x.length ≤ l.length := cutM_elem b l.length l false [] (by simp) x h

end Go.Proofs.YtpimfoohpfkciaaGreatDoor

/- Layer 16: bounds. No conditions but on lengths. -/
namespace Go.Proofs.YtpimfoohpfkciaaGreatDoor
open Go.RowKit Go.Shelf

structure Bds where
  ln : Int
  li : Bool
  hn : Int
  hi : Bool
  ok : Bool
def bdsM (l : List UInt8) : Bds :=
  if isUnitM l then
    let c := Lib.cut (l.drop 6) [45]
    ⟨numN c.1, numI c.1, numN c.2.1, numI c.2.1, c.2.2 && numK c.1 && numK c.2.1 && (numI c.1 || numI c.2.1) && !(numI c.1 && numI c.2.1 && decide (numN c.2.1 < numN c.1))⟩
  else ⟨0, false, 0, false, false⟩
def BdsOut (w : World) (r : Bds) (e : Ending) (w' : World) : Prop := e = .returned (.tuple #[.agg #[.int .i64 r.ln, .bool r.li], .agg #[.int .i64 r.hn, .bool r.hi], .bool r.ok]) ∧ Keep [] w w'

end Go.Proofs.YtpimfoohpfkciaaGreatDoor

/- Layer 16: Parse. No conditions but on lengths. -/
namespace Go.Proofs.YtpimfoohpfkciaaGreatDoor
open Go.RowKit Go.Shelf

def rangeB : List UInt8 := [82, 97, 110, 103, 101]
structure Prt where
  kind : Int
  a : Int
  b : Int
  deriving DecidableEq
/-- what is asked for -/
def prtM (n : Int) (r : Bds) (size : Int) : Prt :=
  if n ≠ 1 ∨ r.ok = false then ⟨1, 0, max size 0 - 1⟩
  else if size ≤ 0 ∨ size ≤ r.ln ∨ (r.li = false ∧ r.hn = 0) then ⟨3, 0, 0⟩
  else if r.li = false then ⟨2, size - min r.hn size, max size 0 - 1⟩
  else if r.hi then ⟨2, r.ln, min r.hn (max size 0 - 1)⟩
  else ⟨2, r.ln, max size 0 - 1⟩
def parseM (L : List Fld) (size : Int) : Prt := prtM (getN L rangeB) (bdsM (getV L rangeB)) size

theorem numN_range (l : List UInt8) : 0 ≤ numN l ∧ numN l ≤ GT := by
  have h := undec_range (numD l) GT
  unfold numN
  have hG : GT = 4611686018427387904 := rfl
  split
  · omega
  · split
    · omega
    · by_cases h0 : undecE (numD l) GT = 0
      · exact h.1 h0
      · have := (h.2 h0).1; omega
theorem bds_range (l : List UInt8) : 0 ≤ (bdsM l).ln ∧ 0 ≤ (bdsM l).hn ∧ (bdsM l).ln ≤ GT ∧ (bdsM l).hn ≤ GT := by
  have hG : GT = 4611686018427387904 := rfl
  unfold bdsM
  split
  · exact ⟨(numN_range _).1, (numN_range _).1, (numN_range _).2, (numN_range _).2⟩
  · exact ⟨by decide, by decide, by decide, by decide⟩
theorem prt_ret {r : Prt} {a b c : Int} (h : r = ⟨a, b, c⟩) : Ending.returned (.tuple #[.int .i64 a, .int .i64 b, .int .i64 c]) = .returned (.tuple #[.int .i64 r.kind, .int .i64 r.a, .int .i64 r.b]) := by rw [h]

end Go.Proofs.YtpimfoohpfkciaaGreatDoor

/- Layer 1: numbers in decimal are written. No conditions but on the numbers' table. -/
namespace Go.Proofs.YtpimfoohpfkciaaGreatDoor
open Go.RowKit Go.Shelf

/-- the library's table of powers of ten is as it was laid -/
def P10 (w : World) : Prop := Lib.TabIs Tryz.prog w "internal/strconv.uint64pow10" .u64 Lib.pow10Tab
theorem P10.keep {w w' : World} {S : List Nat} (h : P10 w) (k : Keep S w w') (hn : ∀ g, Tryz.prog.globalNamed "internal/strconv.uint64pow10" = some g → g ∉ S) : P10 w' := by
  unfold P10 Lib.TabIs World.var? at *
  cases hg : Tryz.prog.globalNamed "internal/strconv.uint64pow10" with
  | none => simp [hg] at h
  | some g =>
    try rw [hg] at h
    simp only [Option.bind_some] at h ⊢
    cases ho : w.heap[g]? with
    | none => rw [ho] at h; simp at h
    | some o =>
      rw [k.heap ho (hn g hg)]
      rw [ho] at h
      exact h
theorem P10.keep0 {w w' : World} (h : P10 w) (k : Keep [] w w') : P10 w' := h.keep k (by simp)
theorem laid_at {P : Program} {W : World} {name : String} {k : IntKind} {zs : List Int} {g : Nat} {t e : TypeId} {n : Nat}
    (hg : P.globalNamed name = some g) (hty : (P.globals[g]?).map (·.type) = some t) (ht : P.underlying t = some (.array n e)) (he : P.underlying e = some (.int k)) (hce : P.cellsOf e = 1) (hct : P.cellsOf t = n) :
    ∀ {laid : List (String × DataW Unit)} {ps : List MemPlace}, (name, Lib.tabData k zs) ∈ laid → DataW.LaidVars P W laid ps → Lib.TabIs P W name k zs
  | [], ps, hm, _ => by simp at hm
  | x :: r, ps, hm, h => by
    obtain ⟨g', t', cs, fuel, p, q, hg', ht', hvar, hd, hr, _⟩ := h
    rcases List.mem_cons.1 hm with e | hm
    · subst e
      obtain rfl := Option.some.inj (hg.symm.trans hg')
      obtain rfl := Option.some.inj (hty.symm.trans ht')
      unfold Lib.TabIs
      rw [hvar, ← Lib.cells_of_tab ht he hce hct hd]
    · exact laid_at hg hty ht he hce hct hm hr
theorem P10.laid {W : World} {laid : List (String × DataW Unit)} (h : laidMet Tryz.prog laid W) (hm : ("internal/strconv.uint64pow10", Lib.tabData .u64 Lib.pow10Tab) ∈ laid := by first | (repeat (first | exact List.Mem.head _ | exact List.Mem.tail _ (List.Mem.head _) | exact List.Mem.tail _ (List.Mem.tail _ (List.Mem.head _)))) | simp) : P10 W := by
  obtain ⟨ps, h, _⟩ := h
  exact laid_at (g := 1) (t := 150) (e := 117) (n := 20) (by kernel_rfl) rfl (by kernel_rfl) (by kernel_rfl) (by kernel_rfl) (by kernel_rfl) hm h
theorem keep_grow (w : World) (k : Nat) (os : Array Obj) : Keep [] w (Sort.grow (w.drewN k) os) :=
  ⟨rfl, rfl, rfl, by simp [Sort.grow, World.drewN], fun i hi _ => by
    show (w.heap ++ os)[i]? = w.heap[i]?
    rw [Array.getElem?_append_left hi]⟩
theorem hexa_Dec (n : Int) (w : World) (hn : in64 n) (hp : P10 w) :
    Calls Tryz.prog 54 #[.int .i64 n] w fun e w' => e = .returned (.string (S (Lib.itoa n))) ∧ Keep [] w w' := by
  have hI := Lib.hid (fun w' (k : Keep [] w w') => Tryz.strconv_Itoa n hn.1 hn.2 w' (hp.keep0 k))
  go_enter Tryz.func54, Tryz.ntmps54
  go_wp2_with fail
  refine (hI.out _ (Keep.refl _ _)).mono ?_
  rintro e w1 ⟨rfl, k, os, rfl⟩
  have hk := keep_grow w k os
  generalize Sort.grow (w.drewN k) os = w1 at hk
  go_wp2_with fail
  go_ret
  exact ⟨rfl, hk⟩
theorem itoa_len (n : Int) (h : in64 n) : (Lib.itoa n).length ≤ 21 := Lib.itoa_length_le n h.1 h.2
/-- 'bytes ' -/
def saidB : List UInt8 := [98, 121, 116, 101, 115, 32]
def prnOk (a b n : Int) : Bool := decide (0 ≤ a) && decide (a ≤ b) && decide (b < n) && decide (n ≤ 4611686018427387904)
/-- a part as it is written -/
def prnS (a b n : Int) : List UInt8 := if prnOk a b n then saidB ++ Lib.itoa a ++ [45] ++ Lib.itoa b ++ [47] ++ Lib.itoa n else []
def prnE (a b n : Int) : Int := if prnOk a b n then 0 else 1
def unmetS (n : Int) : List UInt8 := [98, 121, 116, 101, 115, 32, 42, 47] ++ Lib.itoa (max n 0)

end Go.Proofs.YtpimfoohpfkciaaGreatDoor

/- Layer 13: what its functions compute, as plain functions of lists of bytes; the request line of layer 12. No program. No conditions. -/
namespace Go.Proofs.YtpimfoohpfkciaaGreatDoor
open Go.RowKit Go.Shelf

/-- a status' words -/
def reasonM (s : Int) : List UInt8 :=
  if s = 200 then [79, 75] else
  if s = 206 then [80, 97, 114, 116, 105, 97, 108, 32, 67, 111, 110, 116, 101, 110, 116] else
  if s = 304 then [78, 111, 116, 32, 77, 111, 100, 105, 102, 105, 101, 100] else
  if s = 400 then [66, 97, 100, 32, 82, 101, 113, 117, 101, 115, 116] else
  if s = 404 then [78, 111, 116, 32, 70, 111, 117, 110, 100] else
  if s = 405 then [77, 101, 116, 104, 111, 100, 32, 78, 111, 116, 32, 65, 108, 108, 111, 119, 101, 100] else
  if s = 406 then [78, 111, 116, 32, 65, 99, 99, 101, 112, 116, 97, 98, 108, 101] else
  if s = 413 then [67, 111, 110, 116, 101, 110, 116, 32, 84, 111, 111, 32, 76, 97, 114, 103, 101] else
  if s = 416 then [82, 97, 110, 103, 101, 32, 78, 111, 116, 32, 83, 97, 116, 105, 115, 102, 105, 97, 98, 108, 101] else
  if s = 431 then [82, 101, 113, 117, 101, 115, 116, 32, 72, 101, 97, 100, 101, 114, 32, 70, 105, 101, 108, 100, 115, 32, 84, 111, 111, 32, 76, 97, 114, 103, 101] else
  if s = 502 then [66, 97, 100, 32, 71, 97, 116, 101, 119, 97, 121] else
  if s = 503 then [83, 101, 114, 118, 105, 99, 101, 32, 85, 110, 97, 118, 97, 105, 108, 97, 98, 108, 101] else
  if s = 504 then [71, 97, 116, 101, 119, 97, 121, 32, 84, 105, 109, 101, 111, 117, 116] else
  if s = 505 then [72, 84, 84, 80, 32, 86, 101, 114, 115, 105, 111, 110, 32, 78, 111, 116, 32, 83, 117, 112, 112, 111, 114, 116, 101, 100] else
  [85, 110, 107, 110, 111, 119, 110]
def crlfB : List UInt8 := [13, 10]
/-- 'HTTP/1.1' -/
def protB : List UInt8 := [72, 84, 84, 80, 47, 49, 46, 49]
def laidOk (L : List Fld) : Bool := decide (L.length ≤ 32) && L.all goodF
def laidE (st : List UInt8) (L : List Fld) : Int := if laidOk L then (if (headT st L).length ≤ 4096 then 0 else 4) else 1
def laidS (st : List UInt8) (L : List Fld) : List UInt8 := if laidE st L = 0 then headT st L else []
def stOf (s : Int) : List UInt8 := protB ++ [32] ++ Lib.itoa s ++ [32] ++ reasonM s
def statOk (s : Int) : Bool := decide (100 ≤ s) && decide (s ≤ 599)
def ansE (s : Int) (L : List Fld) : Int := if statOk s then laidE (stOf s) L else 1
def ansS (s : Int) (L : List Fld) : List UInt8 := if statOk s then laidS (stOf s) L else []
/-- a byte of a target -/
def tgtB (b : UInt8) : Bool := decide (33 ≤ b.toNat) && decide (b.toNat ≤ 126)
def isTgt (l : List UInt8) : Bool := l.all tgtB && !l.isEmpty
/-- 'HTTP/' -/
def httpB : List UInt8 := [72, 84, 84, 80, 47]
def digB (b : UInt8) : Bool := decide (48 ≤ b.toNat) && decide (b.toNat ≤ 57)
def verOk (l : List UInt8) : Bool := decide (l.length = 8) && decide (l.take 5 = httpB) && digB (l.getD 5 0) && (l.getD 6 0 == 46) && digB (l.getD 7 0)
def minS (l : List UInt8) : Int := if verOk l then (if l.getD 5 0 = 49 ∧ (l.getD 7 0).toNat ≤ 49 then 200 else 505) else 400
def minV (l : List UInt8) : Int := if minS l = 200 then ((l.getD 7 0).toNat : Int) - 48 else 0
structure Ln where
  m : List UInt8
  t : List UInt8
  v : Int
  s : Int
/-- a request line -/
def lnM (l : List UInt8) : Ln :=
  let c := Lib.cut l [32]
  let d := Lib.cut c.2.1 [32]
  if c.2.2 && d.2.2 && isTok c.1 && isTgt d.1 then (if minS d.2.1 = 200 then ⟨c.1, d.1, minV d.2.1, 200⟩ else ⟨[], [], 0, minS d.2.1⟩) else ⟨[], [], 0, 400⟩
def askT (m t : List UInt8) : List UInt8 := m ++ [32] ++ t ++ [32] ++ protB
def askOk (m t : List UInt8) : Bool := decide ((lnM (askT m t)).s = 200) && decide ((askT m t).length ≤ 1024)
def askE (m t : List UInt8) (L : List Fld) : Int := if askOk m t then laidE (askT m t) L else 1
def askS (m t : List UInt8) (L : List Fld) : List UInt8 := if askOk m t then laidS (askT m t) L else []
theorem len_ite {c : Prop} [Decidable c] {a b : List UInt8} {n : Nat} (ha : a.length ≤ n) (hb : b.length ≤ n) : (if c then a else b).length ≤ n := by split <;> assumption
theorem reason_len (s : Int) : (reasonM s).length ≤ 40 := by
  unfold reasonM
  repeat (refine len_ite (by decide) ?_)
  decide
theorem stOf_len (s : Int) (h : in64 s) : (stOf s).length ≤ 100 := by
  have h1 := reason_len s
  have h2 := itoa_len s h
  unfold stOf
  simp [protB]
  omega
end Go.Proofs.YtpimfoohpfkciaaGreatDoor

/- Layer 10: the document's Params. No conditions but on lengths. -/
namespace Go.Proofs.YtpimfoohpfkciaaGreatDoor
open Go.RowKit Go.Shelf

theorem parM_eq (x : List UInt8) : parM x = if 0 ≤ Lib.indexByte x 61 ∧ isTok (x.take (Lib.indexByte x 61).toNat) = true then
    (⟨lowW (x.take (Lib.indexByte x 61).toNat), (unqW (x.drop ((Lib.indexByte x 61).toNat + 1))).1⟩, (unqW (x.drop ((Lib.indexByte x 61).toNat + 1))).2) else (⟨[], []⟩, false) := by
  unfold parM Lib.cut
  rw [Lib.index_one]
  by_cases h : 0 ≤ Lib.indexByte x 61
  · simp only [if_pos h, List.length_singleton]
    by_cases h1 : isTok (x.take (Lib.indexByte x 61).toNat) = true
    · simp [h, h1]
    · simp [h1]
  · simp only [if_neg h]
    simp [h]

end Go.Proofs.YtpimfoohpfkciaaGreatDoor

/- Layer 10: Frame. No conditions but on lengths. -/
namespace Go.Proofs.YtpimfoohpfkciaaGreatDoor
open Go.RowKit Go.Shelf

def nTE : List UInt8 := [84, 114, 97, 110, 115, 102, 101, 114, 45, 69, 110, 99, 111, 100, 105, 110, 103]
def nCL : List UInt8 := [67, 111, 110, 116, 101, 110, 116, 45, 76, 101, 110, 103, 116, 104]
def nChunked : List UInt8 := [99, 104, 117, 110, 107, 101, 100]
/-- how a body is framed: its length, whether in chunks, the error -/
structure Frm where
  n : Int
  ch : Bool
  e : Int
def frameM (L : List Fld) (most : Int) : Frm :=
  if 1 < getN L nTE ∨ 1 < getN L nCL ∨ 1 < getN L nTE + getN L nCL then ⟨0, false, 3⟩
  else if getN L nTE = 1 then (if lowW (getV L nTE) = nChunked then ⟨0, true, 0⟩ else ⟨0, false, 3⟩)
  else if getN L nCL = 0 then ⟨-1, false, 0⟩
  else ⟨undecV (getV L nCL) most, false, if undecE (getV L nCL) most = 14 then 4 else undecE (getV L nCL) most⟩
theorem frm_ret {a c : Int} {b d : Bool} {x y : Int} (h : a = c) (h2 : b = d) (h3 : x = y) : Ending.returned (.tuple #[.int .i64 a, .bool b, .int .i64 x]) = .returned (.tuple #[.int .i64 c, .bool d, .int .i64 y]) := by rw [h, h2, h3]
theorem getV_len {L : List Fld} {n : List UInt8} {m : Nat} (h : ∀ x ∈ L, x.value.length ≤ m) : (getV L n).length ≤ m := by
  unfold getV
  cases hg : getS L n with
  | nil => simp
  | cons f r =>
    have : f ∈ getS L n := by rw [hg]; simp
    exact h f (List.mem_filter.1 this).1

set_option maxRecDepth 100000 in
set_option maxHeartbeats 1000000 in
theorem field_Frame (va : Value) (L : List Fld) (most : Int) (w : World) (ha : Sl Fld.cells 2 w va L) (hg : ∀ x ∈ L, x.name.length ≤ maxLen) (hv : ∀ x ∈ L, x.value.length ≤ maxLen) (_ : L.length ≤ 4611686018427387904) :
    Calls Tryz.prog 38 #[va, .int .i64 most] w fun e w' => e = .returned (.tuple #[.int .i64 (frameM L most).n, .bool (frameM L most).ch, .int .i64 (frameM L most).e]) ∧ Keep [] w w' := by
  have HG1 := Lib.hid (field_Get va L nTE w ha hg (by decide))
  have HG2 := Lib.hid (fun w1 (k : Keep [] w w1) => field_Get va L nCL w1 (ha.keep Fld.cells_length (by omega) ha k (by simp) (Nat.le_refl _)) hg (by decide))
  have hL := fun w1 => field_low (getV L nTE) w1 (getV_len hv)
  have hU := fun w1 => hexa_Undec (getV L nCL) most w1 (getV_len hv)
  have hF : frameM L most = if 1 < getN L nTE ∨ 1 < getN L nCL ∨ 1 < getN L nTE + getN L nCL then ⟨0, false, 3⟩
    else if getN L nTE = 1 then (if lowW (getV L nTE) = nChunked then ⟨0, true, 0⟩ else ⟨0, false, 3⟩)
    else if getN L nCL = 0 then ⟨-1, false, 0⟩
    else ⟨undecV (getV L nCL) most, false, if undecE (getV L nCL) most = 14 then 4 else undecE (getV L nCL) most⟩ := rfl
  have b1 := getN_le L nTE
  have b2 := getN_le L nCL
  unfold GetOut at HG1 HG2
  generalize frameM L most = f at hF
  generalize getV L nTE = tv at hL hF HG1
  generalize getV L nCL = cv at hU hF HG2
  generalize getN L nTE = tn at hF b1 HG1
  generalize getN L nCL = cn at hF b2 HG2
  obtain ⟨fn, fc, fe⟩ := f
  dsimp only
  clear ha hg hv
  by_cases h1 : 1 < tn ∨ 1 < cn ∨ 1 < tn + cn
  · rw [if_pos h1] at hF
    have HF := Lib.hid hF
    clear hF hL hU
    by_cases t1 : 1 < tn
    · clear h1
      go_enter Tryz.func38, Tryz.ntmps38
      go_wp2_with fail
      refine HG1.out.mono ?_
      rintro e w1 ⟨rfl, hk1⟩
      have K1 := Lib.hid hk1
      clear hk1
      go_wp2_with fail
      refine (HG2.out _ K1.out).mono ?_
      rintro e w2 ⟨rfl, hk2⟩
      have K2 := Lib.hid (K1.out.trans hk2)
      clear hk2
      go_wp2_with fail
      go_ret3
      exact ⟨frm_ret (by cases HF.out; rfl) (by cases HF.out; rfl) (by cases HF.out; rfl), K2.out⟩
    · by_cases t2 : 1 < cn
      · clear h1
        go_enter Tryz.func38, Tryz.ntmps38
        go_wp2_with fail
        refine HG1.out.mono ?_
        rintro e w1 ⟨rfl, hk1⟩
        have K1 := Lib.hid hk1
        clear hk1
        go_wp2_with fail
        refine (HG2.out _ K1.out).mono ?_
        rintro e w2 ⟨rfl, hk2⟩
        have K2 := Lib.hid (K1.out.trans hk2)
        clear hk2
        go_wp2_with fail
        go_ret3
        exact ⟨frm_ret (by cases HF.out; rfl) (by cases HF.out; rfl) (by cases HF.out; rfl), K2.out⟩
      · have t3 : 1 < tn + cn := by omega
        clear h1
        go_enter Tryz.func38, Tryz.ntmps38
        go_wp2_with fail
        refine HG1.out.mono ?_
        rintro e w1 ⟨rfl, hk1⟩
        have K1 := Lib.hid hk1
        clear hk1
        go_wp2_with fail
        refine (HG2.out _ K1.out).mono ?_
        rintro e w2 ⟨rfl, hk2⟩
        have K2 := Lib.hid (K1.out.trans hk2)
        clear hk2
        go_wp2_with fail
        go_ret3
        exact ⟨frm_ret (by cases HF.out; rfl) (by cases HF.out; rfl) (by cases HF.out; rfl), K2.out⟩
  · rw [if_neg h1] at hF
    have t1 : tn ≤ 1 := by omega
    have t2 : cn ≤ 1 := by omega
    have t3 : tn + cn ≤ 1 := by omega
    clear h1
    by_cases t4 : tn = 1
    · rw [if_pos t4] at hF
      obtain ⟨q1, q2⟩ := int_eq (show ((tn : Nat) : Int) = 1 by omega)
      have q5 := S_toList (lowW tv)
      by_cases hc : lowW tv = nChunked
      · rw [if_pos hc] at hF
        have q3 : (lowW tv == [99, 104, 117, 110, 107, 101, 100]) = true := by rw [hc]; rfl
        have q4 : (lowW tv != [99, 104, 117, 110, 107, 101, 100]) = false := by rw [hc]; rfl
        have HF := Lib.hid hF
        have HL := Lib.hid hL
        clear hF hL hU t4 hc
        go_enter Tryz.func38, Tryz.ntmps38
        go_wp2_with fail
        refine HG1.out.mono ?_
        rintro e w1 ⟨rfl, hk1⟩
        have K1 := Lib.hid hk1
        clear hk1
        go_wp2_with fail
        refine (HG2.out _ K1.out).mono ?_
        rintro e w2 ⟨rfl, hk2⟩
        have K2 := Lib.hid (K1.out.trans hk2)
        clear hk2
        go_wp2_with fail
        refine (HL.out _).mono ?_
        rintro e w3 ⟨rfl, hk3⟩
        have K3 := Lib.hid (K2.out.trans hk3)
        clear hk3
        go_wp2_with fail
        go_ret3
        exact ⟨frm_ret (by cases HF.out; rfl) (by cases HF.out; rfl) (by cases HF.out; rfl), K3.out⟩
      · rw [if_neg hc] at hF
        have q3 : (lowW tv == [99, 104, 117, 110, 107, 101, 100]) = false := beq_eq_false_iff_ne.2 hc
        have q4 : (lowW tv != [99, 104, 117, 110, 107, 101, 100]) = true := bne_iff_ne.2 hc
        have HF := Lib.hid hF
        have HL := Lib.hid hL
        clear hF hL hU t4 hc
        go_enter Tryz.func38, Tryz.ntmps38
        go_wp2_with fail
        refine HG1.out.mono ?_
        rintro e w1 ⟨rfl, hk1⟩
        have K1 := Lib.hid hk1
        clear hk1
        go_wp2_with fail
        refine (HG2.out _ K1.out).mono ?_
        rintro e w2 ⟨rfl, hk2⟩
        have K2 := Lib.hid (K1.out.trans hk2)
        clear hk2
        go_wp2_with fail
        refine (HL.out _).mono ?_
        rintro e w3 ⟨rfl, hk3⟩
        have K3 := Lib.hid (K2.out.trans hk3)
        clear hk3
        go_wp2_with fail
        go_ret3
        exact ⟨frm_ret (by cases HF.out; rfl) (by cases HF.out; rfl) (by cases HF.out; rfl), K3.out⟩
    · rw [if_neg t4] at hF
      obtain ⟨q1, q2⟩ := int_ne (show ((tn : Nat) : Int) ≠ 1 by omega)
      by_cases t5 : cn = 0
      · rw [if_pos t5] at hF
        obtain ⟨q3, q4⟩ := int_eq (show ((cn : Nat) : Int) = 0 by omega)
        have HF := Lib.hid hF
        clear hF hL hU t4 t5
        go_enter Tryz.func38, Tryz.ntmps38
        go_wp2_with fail
        refine HG1.out.mono ?_
        rintro e w1 ⟨rfl, hk1⟩
        have K1 := Lib.hid hk1
        clear hk1
        go_wp2_with fail
        refine (HG2.out _ K1.out).mono ?_
        rintro e w2 ⟨rfl, hk2⟩
        have K2 := Lib.hid (K1.out.trans hk2)
        clear hk2
        go_wp2_with fail
        go_ret3
        exact ⟨frm_ret (by cases HF.out; rfl) (by cases HF.out; rfl) (by cases HF.out; rfl), K2.out⟩
      · rw [if_neg t5] at hF
        obtain ⟨q3, q4⟩ := int_ne (show ((cn : Nat) : Int) ≠ 0 by omega)
        generalize undecV cv most = uv at hF hU
        generalize undecE cv most = ue at hF hU
        have HU := Lib.hid hU
        by_cases h14 : ue = 14
        · rw [if_pos h14] at hF
          obtain ⟨q5, q6⟩ := int_eq h14
          have HF := Lib.hid hF
          clear hF hL hU t4 t5 h14
          go_enter Tryz.func38, Tryz.ntmps38
          go_wp2_with fail
          refine HG1.out.mono ?_
          rintro e w1 ⟨rfl, hk1⟩
          have K1 := Lib.hid hk1
          clear hk1
          go_wp2_with fail
          refine (HG2.out _ K1.out).mono ?_
          rintro e w2 ⟨rfl, hk2⟩
          have K2 := Lib.hid (K1.out.trans hk2)
          clear hk2
          go_wp2_with fail
          refine (HU.out _).mono ?_
          rintro e w3 ⟨rfl, hk3⟩
          have K3 := Lib.hid (K2.out.trans hk3)
          clear hk3
          go_wp2_with fail
          go_ret3
          exact ⟨frm_ret (by cases HF.out; rfl) (by cases HF.out; rfl) (by cases HF.out; rfl), K3.out⟩
        · rw [if_neg h14] at hF
          obtain ⟨q5, q6⟩ := int_ne h14
          have HF := Lib.hid hF
          clear hF hL hU t4 t5 h14
          go_enter Tryz.func38, Tryz.ntmps38
          go_wp2_with fail
          refine HG1.out.mono ?_
          rintro e w1 ⟨rfl, hk1⟩
          have K1 := Lib.hid hk1
          clear hk1
          go_wp2_with fail
          refine (HG2.out _ K1.out).mono ?_
          rintro e w2 ⟨rfl, hk2⟩
          have K2 := Lib.hid (K1.out.trans hk2)
          clear hk2
          go_wp2_with fail
          refine (HU.out _).mono ?_
          rintro e w3 ⟨rfl, hk3⟩
          have K3 := Lib.hid (K2.out.trans hk3)
          clear hk3
          go_wp2_with fail
          go_ret3
          exact ⟨frm_ret (by cases HF.out; rfl) (by cases HF.out; rfl) (by cases HF.out; rfl), K3.out⟩

theorem frame_cases (L : List Fld) (most : Int) :
    ((1 < getN L nTE ∨ 1 < getN L nCL ∨ 1 < getN L nTE + getN L nCL) ∧ frameM L most = ⟨0, false, 3⟩) ∨ (getN L nTE = 1 ∧ getN L nCL = 0 ∧ frameM L most = ⟨0, true, 0⟩) ∨
    (((getN L nTE = 1 ∧ getN L nCL = 0) ∨ (getN L nTE = 0 ∧ getN L nCL = 1)) ∧ ∃ x, x ≠ 0 ∧ frameM L most = ⟨0, false, x⟩) ∨ (getN L nTE = 0 ∧ getN L nCL = 0 ∧ frameM L most = ⟨-1, false, 0⟩) ∨
    (getN L nTE = 0 ∧ getN L nCL = 1 ∧ ∃ v, 0 ≤ v ∧ v ≤ most ∧ frameM L most = ⟨v, false, 0⟩) := by
  have h := undec_range (getV L nCL) most
  unfold frameM
  by_cases h1 : 1 < getN L nTE ∨ 1 < getN L nCL ∨ 1 < getN L nTE + getN L nCL
  · exact .inl ⟨h1, if_pos h1⟩
  · rw [if_neg h1]
    by_cases t4 : getN L nTE = 1
    · rw [if_pos t4]
      by_cases hc : lowW (getV L nTE) = nChunked
      · rw [if_pos hc]; exact .inr (.inl ⟨t4, by omega, rfl⟩)
      · rw [if_neg hc]; exact .inr (.inr (.inl ⟨.inl ⟨t4, by omega⟩, 3, by omega, rfl⟩))
    · rw [if_neg t4]
      by_cases t5 : getN L nCL = 0
      · rw [if_pos t5]; exact .inr (.inr (.inr (.inl ⟨by omega, t5, rfl⟩)))
      · rw [if_neg t5]
        by_cases he : undecE (getV L nCL) most = 0
        · rw [if_neg (by omega), he]
          exact .inr (.inr (.inr (.inr ⟨by omega, by omega, _, (h.1 he).1, (h.1 he).2, rfl⟩)))
        · obtain ⟨h2, h3⟩ := h.2 he
          rw [h2]
          refine .inr (.inr (.inl ⟨.inr ⟨by omega, by omega⟩, _, ?_, rfl⟩))
          split <;> omega
end Go.Proofs.YtpimfoohpfkciaaGreatDoor

/- Layer 10: Closes, both sides; the document's Undec and Frame. No conditions but on lengths. -/
namespace Go.Proofs.YtpimfoohpfkciaaGreatDoor
open Go.RowKit Go.Shelf

def nConn : List UInt8 := [67, 111, 110, 110, 101, 99, 116, 105, 111, 110]
def nClose : List UInt8 := [99, 108, 111, 115, 101]
def nKeep : List UInt8 := [107, 101, 101, 112, 45, 97, 108, 105, 118, 101]
def closeL : List (List UInt8) → Bool → Bool
  | [], k => !k
  | x :: r, k => if lowW x = nClose then true else closeL r (k || decide (lowW x = nKeep))
def closesM (L : List Fld) (minor : Int) : Bool := closeL (elsM L nConn) (decide (1 ≤ minor))
theorem els_congr {n m : List UInt8} (L : List Fld) (h : lowW n = lowW m) : elsM L n = elsM L m := by
  have : sameN n = sameN m := by funext f; unfold sameN; rw [h]
  unfold elsM getS
  rw [this]
theorem els_elem {L : List Fld} {n x : List UInt8} {m : Nat} (hg : ∀ f ∈ L, f.value.length ≤ m) (h : x ∈ elsM L n) : x.length ≤ m := by
  unfold elsM at h
  obtain ⟨f, hf, hx⟩ := List.mem_flatMap.1 h
  have h1 := (List.mem_filter.1 hf).1
  have h2 := (List.mem_filter.1 hx).1
  exact Nat.le_trans (cutW_elem h2) (hg f h1)

set_option maxRecDepth 100000 in
set_option maxHeartbeats 1000000 in
theorem field_Closes (va : Value) (L : List Fld) (minor : Int) (w : World) (ha : Sl Fld.cells 2 w va L) (hg : ∀ x ∈ L, x.name.length ≤ 1048576 ∧ x.value.length ≤ 1048576) (hl : L.length ≤ 1024) :
    Calls Tryz.prog 40 #[va, .int .i64 minor] w fun e w' => e = .returned (.bool (closesM L minor)) ∧ Keep [] w w' := by
  have hE := field_Elements va L nConn w ha hg (by decide) hl
  have hC : closesM L minor = closeL (elsM L nConn) (decide (1 ≤ minor)) := rfl
  have hel : ∀ x ∈ elsM L nConn, x.length ≤ 1048576 := fun x hx => els_elem (fun f hf => (hg f hf).2) hx
  generalize elsM L nConn = M at hE hC hel
  generalize closesM L minor = res at hC
  have HE := Lib.hid hE
  have HC := Lib.hid hC
  have HEL := Lib.hid hel
  have HLW := Lib.hid (fun (x : List UInt8) (h : x.length ≤ 1048576) (w1 : World) => field_low x w1 (show x.length ≤ 9223372036854775807 by omega))
  clear hE hC hel ha hg
  generalize hdec : decide (1 ≤ minor) = kp0 at HC
  have hmin : (decide ((1 : Int) ≤ minor)) = kp0 := hdec
  go_enter Tryz.func40, Tryz.ntmps40
  go_wp2_with fail
  refine HE.out.mono ?_
  rintro e w1 ⟨pv, rfl, ho1, hk1⟩
  obtain ⟨pa, pc, rfl, hml⟩ := ho1.shape
  have hml' : M.length ≤ 9223372036854775807 := hml
  have HO := Lib.hid ho1
  have K1 := Lib.hid hk1
  clear ho1 hk1 hml hdec
  go_wp2_with fail
  clear hmin
  go_loopg [5, 13] M.length (fun g kv j wr => ∃ (k : Nat) (b : Bool), j = .int .i64 k ∧ kv = .bool b ∧ k ≤ M.length ∧ g = M.length - k ∧ Hid (Own strC 1 w.heap.size 9 wr (.slice pa M.length pc) M) ∧ Hid (Keep [] w wr) ∧ Hid (res = closeL (M.drop k) b))
  case atStart => exact ⟨0, _, rfl, rfl, by omega, by omega, HO, K1, HC⟩
  case round =>
    obtain ⟨k, b, rfl, rfl, hk, rfl, HO, HK, HF⟩ := hrel
    by_cases hlt : k < M.length
    · obtain ⟨x, hx⟩ : ∃ x, M[k]? = some x := ⟨_, List.getElem?_eq_getElem hlt⟩
      have HL := Lib.hid (HLW.out x (HEL.out x (List.mem_of_getElem? hx)))
      obtain ⟨b1, o1, c1, hv1, _, hc1, hx1⟩ := (HO.out.sl strC_length).cell hx
      cases hv1
      have hc1' : pc ≤ 9223372036854775807 := hc1
      have e0 := hx1 0 (by omega)
      simp only [strC, List.getElem?_cons_zero, Nat.mul_one, Nat.add_zero] at e0
      have hF := HF.out
      rw [drop_atG hx, closeL] at hF
      have ht := S_toList (lowW x)
      clear hx1 hx HF hc1
      by_cases h1 : lowW x = nClose
      · rw [if_pos h1] at hF
        have q1 : (lowW x == [99, 108, 111, 115, 101]) = true := by rw [h1]; rfl
        have HF := Lib.hid hF
        clear hF h1
        go_wp2_with fail
        refine (HL.out _).mono ?_
        rintro e w2 ⟨rfl, hk2⟩
        have K2 := Lib.hid (HK.out.trans hk2)
        clear hk2
        go_wp2_with fail
        go_ret
        exact ⟨ret_bool HF.out.symm, K2.out⟩
      · rw [if_neg h1] at hF
        have q1 : (lowW x == [99, 108, 111, 115, 101]) = false := beq_eq_false_iff_ne.2 h1
        by_cases h2 : lowW x = nKeep
        · have q2 : (lowW x == [107, 101, 101, 112, 45, 97, 108, 105, 118, 101]) = true := by rw [h2]; rfl
          have HF : Hid (res = closeL (M.drop (k + 1)) true) := by rw [Hid, hF]; simp [h2]
          clear hF h1 h2
          go_wp2_with fail
          refine (HL.out _).mono ?_
          rintro e w2 ⟨rfl, hk2⟩
          have K2 := Lib.hid (HK.out.trans hk2)
          have O2 := Lib.hid (HO.out.keep0 hk2)
          clear hk2
          go_wp2_with fail
          go_roundg (M.length - (k + 1))
          case measure => omega
          case rel => exact ⟨k + 1, true, by go_num, rfl, by omega, rfl, O2, K2, HF⟩
        · have q2 : (lowW x == [107, 101, 101, 112, 45, 97, 108, 105, 118, 101]) = false := beq_eq_false_iff_ne.2 h2
          have HF : Hid (res = closeL (M.drop (k + 1)) b) := by rw [Hid, hF]; simp [h2]
          clear hF h1 h2
          go_wp2_with fail
          refine (HL.out _).mono ?_
          rintro e w2 ⟨rfl, hk2⟩
          have K2 := Lib.hid (HK.out.trans hk2)
          have O2 := Lib.hid (HO.out.keep0 hk2)
          clear hk2
          go_wp2_with fail
          go_roundg (M.length - (k + 1))
          case measure => omega
          case rel => exact ⟨k + 1, b, by go_num, rfl, by omega, rfl, O2, K2, HF⟩
    · have hF := HF.out
      rw [List.drop_eq_nil_of_le (by omega), closeL] at hF
      have HF2 := Lib.hid hF
      clear hF HF
      go_wp2_with fail
      go_ret
      exact ⟨ret_bool HF2.out.symm, HK.out⟩

set_option maxRecDepth 100000 in
set_option maxHeartbeats 1000000 in
theorem ref_Closes (va : Value) (L : List Fld) (minor : Int) (w : World) (ha : Sl Fld.cells 2 w va L) (hg : ∀ x ∈ L, x.name.length ≤ 1048576 ∧ x.value.length ≤ 1048576) (hl : L.length ≤ 1024) :
    Calls Tryz.prog 27 #[va, .int .i64 minor] w fun e w' => e = .returned (.bool (closesM L minor)) ∧ Keep [] w w' := by
  have hE := ref_Elements va L [99, 111, 110, 110, 101, 99, 116, 105, 111, 110] w ha hg (by decide) hl
  rw [els_congr (m := nConn) L (by decide)] at hE
  have hC : closesM L minor = closeL (elsM L nConn) (decide (1 ≤ minor)) := rfl
  have hel : ∀ x ∈ elsM L nConn, x.length ≤ 1048576 := fun x hx => els_elem (fun f hf => (hg f hf).2) hx
  generalize elsM L nConn = M at hE hC hel
  generalize closesM L minor = res at hC
  have HE := Lib.hid hE
  have HC := Lib.hid hC
  have HEL := Lib.hid hel
  have HLW := Lib.hid (fun (x : List UInt8) (h : x.length ≤ 1048576) (w1 : World) => ref_Low x w1 (show x.length ≤ 70368744177664 by omega))
  clear hE hC hel ha hg
  generalize hdec : decide (1 ≤ minor) = kp0 at HC
  have hmin : (decide ((1 : Int) ≤ minor)) = kp0 := hdec
  go_enter Tryz.func27, Tryz.ntmps27
  go_wp2_with fail
  refine HE.out.mono ?_
  rintro e w1 ⟨pv, rfl, ho1, hk1⟩
  obtain ⟨pa, pc, rfl, hml⟩ := ho1.shape
  have hml' : M.length ≤ 9223372036854775807 := hml
  have HO := Lib.hid ho1
  have K1 := Lib.hid hk1
  clear ho1 hk1 hml hdec
  go_wp2_with fail
  clear hmin
  go_loopg [6, 7] M.length (fun g kv j wr => ∃ (k : Nat) (b : Bool), j = .int .i64 k ∧ kv = .bool b ∧ k ≤ M.length ∧ g = M.length - k ∧ Hid (Own strC 1 w.heap.size 9 wr (.slice pa M.length pc) M) ∧ Hid (Keep [] w wr) ∧ Hid (res = closeL (M.drop k) b))
  case atStart => exact ⟨0, _, rfl, rfl, by omega, by omega, HO, K1, HC⟩
  case round =>
    obtain ⟨k, b, rfl, rfl, hk, rfl, HO, HK, HF⟩ := hrel
    by_cases hlt : k < M.length
    · obtain ⟨x, hx⟩ : ∃ x, M[k]? = some x := ⟨_, List.getElem?_eq_getElem hlt⟩
      have HL := Lib.hid (HLW.out x (HEL.out x (List.mem_of_getElem? hx)))
      obtain ⟨b1, o1, c1, hv1, _, hc1, hx1⟩ := (HO.out.sl strC_length).cell hx
      cases hv1
      have hc1' : pc ≤ 9223372036854775807 := hc1
      have e0 := hx1 0 (by omega)
      simp only [strC, List.getElem?_cons_zero, Nat.mul_one, Nat.add_zero] at e0
      have hF := HF.out
      rw [drop_atG hx, closeL] at hF
      have ht := S_toList (lowW x)
      clear hx1 hx HF hc1
      by_cases h1 : lowW x = nClose
      · rw [if_pos h1] at hF
        have q1 : (lowW x == [99, 108, 111, 115, 101]) = true := by rw [h1]; rfl
        have HF := Lib.hid hF
        clear hF h1
        go_wp2_with fail
        refine (HL.out _).mono ?_
        rintro e w2 ⟨rfl, hk2⟩
        have K2 := Lib.hid (HK.out.trans hk2)
        clear hk2
        go_wp2_with fail
        go_ret
        exact ⟨ret_bool HF.out.symm, K2.out⟩
      · rw [if_neg h1] at hF
        have q1 : (lowW x == [99, 108, 111, 115, 101]) = false := beq_eq_false_iff_ne.2 h1
        cases b with
        | true =>
          have HF : Hid (res = closeL (M.drop (k + 1)) true) := by rw [Hid, hF]; simp
          clear hF h1
          go_wp2_with fail
          refine (HL.out _).mono ?_
          rintro e w2 ⟨rfl, hk2⟩
          have K2 := Lib.hid (HK.out.trans hk2)
          have O2 := Lib.hid (HO.out.keep0 hk2)
          clear hk2
          go_wp2_with fail
          go_roundg (M.length - (k + 1))
          case measure => omega
          case rel => exact ⟨k + 1, true, by go_num, rfl, by omega, rfl, O2, K2, HF⟩
        | false =>
          have q2 : ∃ q, (lowW x == [107, 101, 101, 112, 45, 97, 108, 105, 118, 101]) = q ∧ Hid (res = closeL (M.drop (k + 1)) q) := by
            refine ⟨_, rfl, ?_⟩
            rw [Hid, hF]
            by_cases h2 : lowW x = nKeep
            · rw [h2]; rfl
            · have : (lowW x == [107, 101, 101, 112, 45, 97, 108, 105, 118, 101]) = false := beq_eq_false_iff_ne.2 h2
              rw [this]; simp [h2]
          obtain ⟨q, q2, HF⟩ := q2
          clear hF h1
          go_wp2_with fail
          refine (HL.out _).mono ?_
          rintro e w2 ⟨rfl, hk2⟩
          have K2 := Lib.hid (HK.out.trans hk2)
          have O2 := Lib.hid (HO.out.keep0 hk2)
          have e2 := hk2.load e0
          clear hk2 e0
          go_wp2_with fail
          refine (HL.out _).mono ?_
          rintro e w3 ⟨rfl, hk3⟩
          have K3 := Lib.hid (K2.out.trans hk3)
          have O3 := Lib.hid (O2.out.keep0 hk3)
          clear hk3 e2
          go_wp2_with fail
          go_roundg (M.length - (k + 1))
          case measure => omega
          case rel => exact ⟨k + 1, q, by go_num, rfl, by omega, rfl, O3, K3, HF⟩
    · have hF := HF.out
      rw [List.drop_eq_nil_of_le (by omega), closeL] at hF
      have HF2 := Lib.hid hF
      clear hF HF
      go_wp2_with fail
      go_ret
      exact ⟨ret_bool HF2.out.symm, HK.out⟩
end Go.Proofs.YtpimfoohpfkciaaGreatDoor

/- Layer 12: what an inlet does, as a plain machine. No program. No conditions but those that each theorem states. -/
namespace Go.Proofs.YtpimfoohpfkciaaGreatDoor
open Go.RowKit

structure Req where
  m : List UInt8
  t : List UInt8
  F : List Fld
  cl : Bool
def req0 : Req := ⟨[], [], [], false⟩
def toldE (e long : Int) : Int := if e = 0 ∨ e = 17 then 0 else if e = 4 then long else 400
def nHost : List UInt8 := [72, 111, 115, 116]
/-- what a head comes to: what is wrong, whether one has come, its length, its request, what its body is -/
structure Hr where
  s : Int
  got : Bool
  n : Nat
  q : Req
  skip : Nat
  ch : Bool
def hr0 (s : Int) : Hr := ⟨s, false, 0, req0, 0, false⟩
def headM (l : List UInt8) : Hr :=
  if (splitM l).e ≠ 0 then hr0 (toldE (splitM l).e 431)
  else if (lnM (splitM l).st).s ≠ 200 then hr0 (lnM (splitM l).st).s
  else if 1 < getN (splitM l).F nHost ∨ (getN (splitM l).F nHost : Int) < (lnM (splitM l).st).v then hr0 400
  else if (frameM (splitM l).F 4096).e ≠ 0 then hr0 (toldE (frameM (splitM l).F 4096).e 413)
  else ⟨0, true, (splitM l).n, ⟨(lnM (splitM l).st).m, (lnM (splitM l).st).t, (splitM l).F, closesM (splitM l).F (lnM (splitM l).st).v⟩, (max (frameM (splitM l).F 4096).n 0).toNat, (frameM (splitM l).F 4096).ch⟩
/-- an inlet: what has come and wasn't read, the bytes of the request that is read, the request, what is left of its body, what was wrong -/
structure InS where
  inp : List UInt8
  held : Nat
  req : Option Req
  skip : Nat
  chk : Option Ck
  st : Int
def in0 : InS := ⟨[], 0, none, 0, none, 0⟩
def InS.left (p : InS) : Nat := p.inp.length + p.held
def inAdd (p : InS) (s : List UInt8) : InS × Int :=
  if p.st ≠ 0 then (p, 8) else if (16384 : Int) - p.left < s.length then (p, 6) else ({ p with inp := p.inp ++ s }, 0)
structure BdR where
  p : InS
  whole : Bool
  s : Int
def bodyB (p : InS) : BdR :=
  match p.chk with
  | none => ⟨{ p with inp := p.inp.drop (min p.skip p.inp.length), held := p.held + min p.skip p.inp.length, skip := p.skip - min p.skip p.inp.length }, decide (p.skip - min p.skip p.inp.length = 0), 0⟩
  | some c =>
    if (addC c p.inp).err ≠ 0 then ⟨{ p with inp := [], held := p.held + p.inp.length, chk := some (addC c p.inp) }, false, toldE (addC c p.inp).err 413⟩
    else if (addC c p.inp).st ≠ 4 then ⟨{ p with inp := [], held := p.held + p.inp.length, chk := some (addC c p.inp) }, false, 0⟩
    else ⟨{ p with inp := (addC c p.inp).inp, held := p.held + p.inp.length, chk := none }, true, 0⟩
/-- what Next comes to: the inlet, the request, the status -/
structure NxR where
  p : InS
  q : Req
  s : Int
def tailI (p : InS) (q : Req) : NxR :=
  if (bodyB p).s ≠ 0 then ⟨{ (bodyB p).p with st := (bodyB p).s }, req0, (bodyB p).s⟩
  else if (bodyB p).whole then ⟨{ (bodyB p).p with req := none, held := 0 }, q, 200⟩
  else ⟨(bodyB p).p, req0, 0⟩
def headed (p : InS) (h : Hr) : InS := { p with inp := p.inp.drop h.n, held := h.n, skip := h.skip, chk := if h.ch then some (ck0 4096) else p.chk, req := some h.q }
def nextI (p : InS) : NxR :=
  if p.st ≠ 0 then ⟨p, req0, p.st⟩
  else match p.req with
    | some q => tailI p q
    | none =>
      if (headM p.inp).s ≠ 0 then ⟨{ p with st := (headM p.inp).s }, req0, (headM p.inp).s⟩
      else if (headM p.inp).got then tailI (headed p (headM p.inp)) (headM p.inp).q
      else ⟨p, req0, 0⟩
/-- what holds of an inlet at any time -/
structure InS.ok (p : InS) : Prop where
  len : p.inp.length + p.held ≤ 16384
  skp : p.skip ≤ 4096
  chk : ∀ c, p.chk = some c → (c.err = 0 → c.ok) ∧ c.most = 4096 ∧ c.inp.length + c.dat.length + 2 ≤ p.held ∧ c.st ≤ 4
  req : p.st = 0 → p.req = none → p.chk = none ∧ p.held = 0
  bad : ∀ c, p.st = 0 → p.chk = some c → c.err = 0
  hld : p.st = 0 → p.req ≠ none → 2 ≤ p.held
end Go.Proofs.YtpimfoohpfkciaaGreatDoor
