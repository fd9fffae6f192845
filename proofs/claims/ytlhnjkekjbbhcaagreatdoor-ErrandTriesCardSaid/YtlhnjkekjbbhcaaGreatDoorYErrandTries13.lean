/- Parts of the proof of ErrandTries, in order. No conditions but those that each theorem states. -/
import Derived.Test.YtlhnjkekjbbhcaaGreatDoorYErrandTries0
import Derived.Test.YtlhnjkekjbbhcaaGreatDoorYErrandTries12
set_option linter.unusedSimpArgs false
set_option linter.unusedVariables false
namespace Go.Proofs.YtlhnjkekjbbhcaaGreatDoor
open Go.RowKit Go.Shelf
theorem num_len (t : List UInt8) : (numRest t).length ≤ t.length := by unfold numRest Lib.trimLeftS; exact List.Sublist.length_le (List.dropWhile_sublist _)
set_option maxRecDepth 100000 in
set_option maxHeartbeats 2000000 in
theorem chunk_begin (B b : Nat) (p : List UInt8) (c : Ck) (v : Value) (w : World) (hm : ML w) (hb : 1 ≠ b) (h : Ct B w b p c v) (hl : c.inp.length ≤ 1048576) (hmost : (c.most : Int) ≤ 9223372036854775807) (hok : c.dat.length ≤ c.most) :
    Calls Tryz.prog 201 #[.pointer (some ⟨b, 0, none⟩)] w fun e w' => e = .returned (.int .i64 (beginM c).2) ∧ Ct B w' b p (beginM c).1 v ∧ Keep [b] w w' := by
  have HL := Lib.hid (chunk_line B b p c v w h hl); have hle := line_le c.inp
  have HT := Lib.hid (fun w1 => show Calls Tryz.prog 146 #[.string (S (lnC c.inp).t), .string ⟨#[48, 49, 50, 51, 52, 53, 54, 55, 56, 57, 97, 98, 99, 100, 101, 102, 65, 66, 67, 68, 69, 70]⟩] w1 fun e w' => e = .returned (.string (S (numRest (lnC c.inp).t))) ∧ Below w1.heap.size w1 w' from
    Any.strings_TrimLeft_laid Tryz.lays161 (by kernel_rfl) (S (lnC c.inp).t) ⟨#[48, 49, 50, 51, 52, 53, 54, 55, 56, 57, 97, 98, 99, 100, 101, 102, 65, 66, 67, 68, 69, 70]⟩ w1 (by decide) (ascii_of_all (by decide)))
  have hnl := num_len (lnC c.inp).t; have HR := Lib.hid (fun w1 (hm1 : ML w1) => chunk_isRest (numRest (lnC c.inp).t) w1 hm1 (by omega)); have HU := Lib.hid (fun w1 => hexa_Unhexnum (numT (lnC c.inp).t) ((c.most : Int) - (c.dat.length : Nat)) w1 (show (numT (lnC c.inp).t).length ≤ 9223372036854775807 by unfold numT; rw [List.length_take]; omega))
  have hbe : beginM c = if (lnC c.inp).e ≠ 0 then (c, (lnC c.inp).e)
    else if numE (lnC c.inp).t ((c.most : Int) - (c.dat.length : Nat)) ≠ 0 then ({ c with inp := (lnC c.inp).r }, numE (lnC c.inp).t ((c.most : Int) - (c.dat.length : Nat)))
    else ({ c with inp := (lnC c.inp).r, left := (numV (lnC c.inp).t ((c.most : Int) - (c.dat.length : Nat))).toNat, st := if numV (lnC c.inp).t ((c.most : Int) - (c.dat.length : Nat)) = 0 then 3 else 1 }, 0) := rfl
  have hE : numE (lnC c.inp).t ((c.most : Int) - (c.dat.length : Nat)) = if restOk (numRest (lnC c.inp).t) then (if unhexE (numT (lnC c.inp).t) ((c.most : Int) - (c.dat.length : Nat)) = 14 then 4 else unhexE (numT (lnC c.inp).t) ((c.most : Int) - (c.dat.length : Nat))) else 3 := rfl
  have hV : numV (lnC c.inp).t ((c.most : Int) - (c.dat.length : Nat)) = unhexV (numT (lnC c.inp).t) ((c.most : Int) - (c.dat.length : Nat)) := rfl; have hVr := fun hh => numV_range (t := (lnC c.inp).t) (m := (c.most : Int) - (c.dat.length : Nat)) hh
  have hEr := unhex_range (numT (lnC c.inp).t) ((c.most : Int) - (c.dat.length : Nat)); have hle2 := line_err (l := c.inp); generalize (lnC c.inp).e = le at *; generalize hrr : (lnC c.inp).r = lr at *; have hx : (S (lnC c.inp).t).extract 0 ((lnC c.inp).t.length - (numRest (lnC c.inp).t).length) = S (numT (lnC c.inp).t) := by rw [S_extract, List.drop_zero]; rfl
  generalize numT (lnC c.inp).t = nt at *; generalize restOk (numRest (lnC c.inp).t) = ro at *; generalize numE (lnC c.inp).t ((c.most : Int) - (c.dat.length : Nat)) = ne at *; generalize numV (lnC c.inp).t ((c.most : Int) - (c.dat.length : Nat)) = nv at *; generalize unhexE nt ((c.most : Int) - (c.dat.length : Nat)) = ue at *; generalize unhexV nt ((c.most : Int) - (c.dat.length : Nat)) = uv at *; generalize numRest (lnC c.inp).t = nr at *; generalize (lnC c.inp).t = lt at *; have s1 := S_size lt; have s2 := S_size nr; subst hV; clear h; by_cases h0 : le = 0
  · subst h0; rw [if_neg (by simp)] at hbe
    cases ro with
    | false =>
      rw [if_neg (by simp)] at hE; subst hE; rw [if_pos (by decide)] at hbe; have HB := Lib.hid hbe; clear hbe hVr hEr hx hle2; go_enter Tryz.func201, Tryz.ntmps201; go_wp2_with fail; refine HL.out.mono ?_; rintro e w1 ⟨rfl, t1, k1⟩; have T1 := Lib.hid t1; have K1 := Lib.hid k1; clear t1 k1; go_wp2_with fail; refine (HT.out _).mono ?_; rintro e w2 ⟨rfl, k2⟩; have K2 := Lib.hid (Keep.of_below k2 []); clear k2; go_wp2_with fail; refine (HR.out _ ((hm.keep K1.out (by simpa using hb)).keep K2.out (by simp))).mono ?_; rintro e w3 ⟨rfl, k3⟩; have K3 := Lib.hid k3; clear k3; go_wp2_with fail; go_ret; rw [HB.out]; exact ⟨rfl, (T1.out.keep0 K2.out).keep0 K3.out, (K1.out.trans' K2.out (by simp)).trans' K3.out (by simp)⟩
    | true =>
      rw [if_pos rfl] at hE; have hsub : ((lt.length : Nat) : Int) - ((nr.length : Nat) : Int) = ((lt.length - nr.length : Nat) : Int) := by omega
      have hsw := IntWalk.i64_in (((lt.length - nr.length : Nat)) : Int) (by omega); have hs0 : (0 : Int) ≤ ((lt.length - nr.length : Nat) : Int) := by omega
      have hs1 : ((lt.length - nr.length : Nat) : Int) ≤ ((lt.length : Nat) : Int) := by omega
      have hmw := IntWalk.i64_in ((c.most : Int) - (c.dat.length : Nat)) (by omega); generalize lt.length - nr.length = sl at *; by_cases hu0 : ue = 0
      · subst hu0; rw [if_neg (by decide)] at hE; subst hE; rw [if_neg (by simp)] at hbe; obtain ⟨v0, v1⟩ := hVr rfl; obtain ⟨m, rfl⟩ : ∃ m : Nat, nv = m := ⟨nv.toNat, by omega⟩
        have htn : ((m : Nat) : Int).toNat = m := by omega
        rw [htn] at hbe; by_cases hz : m = 0
        · rw [if_pos (by omega)] at hbe; subst hz; have HB := Lib.hid hbe; clear hbe hVr hEr hle2; go_enter Tryz.func201, Tryz.ntmps201; go_wp2_with fail; refine HL.out.mono ?_; rintro e w1 ⟨rfl, t1, k1⟩; have T1 := Lib.hid t1; have K1 := Lib.hid k1; clear t1 k1; go_wp2_with fail; refine (HT.out _).mono ?_; rintro e w2 ⟨rfl, k2⟩; have K2 := Lib.hid (Keep.of_below k2 []); clear k2; go_wp2_with fail; refine (HR.out _ ((hm.keep K1.out (by simpa using hb)).keep K2.out (by simp))).mono ?_; rintro e w3 ⟨rfl, k3⟩; have T3 := Lib.hid ((T1.out.keep0 K2.out).keep0 k3); have K3 := Lib.hid ((K1.out.trans' K2.out (by simp)).trans' k3 (by simp)); clear k3; obtain ⟨_, _, c2, _, _, c7, _⟩ := T3.out.at; dsimp only at c2 c7
          go_upto_region 7 with fail
          go_cut [6, 4] (fun y z wx => y = .int .i64 0 ∧ z = .int .i64 0 ∧ Hid (Keep [] w3 wx))
          case first =>
            go_region_with (first | (go_at_call 227; refine (HU.out _).mono ?_; rintro e w4 ⟨rfl, k4⟩; have K4 := Lib.hid (Keep.trans (S := []) (a := w3) (by repeat (first | exact Keep.refl [] _ | apply Keep.drew)) k4); clear k4) | fail)
            all_goals
              go_wp2_with fail; go_meet; exact ⟨rfl, rfl, Lib.hid (by repeat (first | exact K4.out | apply Keep.drew))⟩
          case rest =>
          obtain ⟨rfl, rfl, KX⟩ := hcut; have T4 := Lib.hid (T3.out.keep0 KX.out); have K4 := Lib.hid (K3.out.trans' KX.out (by simp)); clear KX c2 c7; obtain ⟨d0, d1, _, _, _, _, _⟩ := T4.out.at; have f0 := T4.out.free 0; have f1 := T4.out.free 1; dsimp only at d0 d1; go_wp2_with fail; go_ret; rw [HB.out]; refine ⟨rfl, ?_, ((K4.out.setCell _ _ (by simp)).setCell _ _ (by simp)).setCell _ _ (by simp)⟩; exact (((T4.out.set 1 _ (fun _ => rfl) rfl (c' := { c with inp := lr, left := 0 })).set 0 _ (fun _ => rfl) rfl (c' := { c with inp := lr, left := 0, st := 1 })).set 0 _ (fun _ => rfl) rfl)
        · rw [if_neg (by omega)] at hbe; have HB := Lib.hid hbe; have hz' := (int_ne (show ((m : Nat) : Int) ≠ 0 by omega)).1; clear hbe hVr hEr hle2; go_enter Tryz.func201, Tryz.ntmps201; go_wp2_with fail; refine HL.out.mono ?_; rintro e w1 ⟨rfl, t1, k1⟩; have T1 := Lib.hid t1; have K1 := Lib.hid k1; clear t1 k1; go_wp2_with fail; refine (HT.out _).mono ?_; rintro e w2 ⟨rfl, k2⟩; have K2 := Lib.hid (Keep.of_below k2 []); clear k2; go_wp2_with fail; refine (HR.out _ ((hm.keep K1.out (by simpa using hb)).keep K2.out (by simp))).mono ?_; rintro e w3 ⟨rfl, k3⟩; have T3 := Lib.hid ((T1.out.keep0 K2.out).keep0 k3); have K3 := Lib.hid ((K1.out.trans' K2.out (by simp)).trans' k3 (by simp)); clear k3; obtain ⟨_, _, c2, _, _, c7, _⟩ := T3.out.at; dsimp only at c2 c7
          go_upto_region 7 with fail
          go_cut [6, 4] (fun y z wx => y = .int .i64 (m : Nat) ∧ z = .int .i64 0 ∧ Hid (Keep [] w3 wx))
          case first =>
            go_region_with (first | (go_at_call 227; refine (HU.out _).mono ?_; rintro e w4 ⟨rfl, k4⟩; have K4 := Lib.hid (Keep.trans (S := []) (a := w3) (by repeat (first | exact Keep.refl [] _ | apply Keep.drew)) k4); clear k4) | fail)
            all_goals
              go_wp2_with fail; go_meet; exact ⟨rfl, rfl, Lib.hid (by repeat (first | exact K4.out | apply Keep.drew))⟩
          case rest =>
          obtain ⟨rfl, rfl, KX⟩ := hcut; have T4 := Lib.hid (T3.out.keep0 KX.out); have K4 := Lib.hid (K3.out.trans' KX.out (by simp)); clear KX c2 c7; obtain ⟨d0, d1, _, _, _, _, _⟩ := T4.out.at; have f0 := T4.out.free 0; have f1 := T4.out.free 1; dsimp only at d0 d1; go_wp2_with fail; go_ret; rw [HB.out]; refine ⟨rfl, ?_, (K4.out.setCell _ _ (by simp)).setCell _ _ (by simp)⟩; exact ((T4.out.set 1 _ (fun _ => rfl) rfl (c' := { c with inp := lr, left := m })).set 0 _ (fun _ => rfl) rfl)
      · have hne : ne ≠ 0 := by rw [hE]; split <;> omega
        rw [if_pos hne] at hbe
        have hcase : (ue = 14 ∧ ne = 4) ∨ (ue = 3 ∧ ne = 3) := by
          rcases (hEr.2 hu0).2 with h14 | h3
          · exact .inl ⟨h14, by rw [hE, if_pos h14]⟩
          · exact .inr ⟨h3, by rw [hE, if_neg (by omega), h3]⟩
        rcases hcase with ⟨h14, hne4⟩ | ⟨h3, hne4⟩
        · rw [hne4] at hbe; have q1 := (int_eq h14).1; clear h14 hne4; have HB := Lib.hid hbe; clear hbe hVr hEr hle2 hE hne hu0; go_enter Tryz.func201, Tryz.ntmps201; go_wp2_with fail; refine HL.out.mono ?_; rintro e w1 ⟨rfl, t1, k1⟩; have T1 := Lib.hid t1; have K1 := Lib.hid k1; clear t1 k1; go_wp2_with fail; refine (HT.out _).mono ?_; rintro e w2 ⟨rfl, k2⟩; have K2 := Lib.hid (Keep.of_below k2 []); clear k2; go_wp2_with fail; refine (HR.out _ ((hm.keep K1.out (by simpa using hb)).keep K2.out (by simp))).mono ?_; rintro e w3 ⟨rfl, k3⟩; have T3 := Lib.hid ((T1.out.keep0 K2.out).keep0 k3); have K3 := Lib.hid ((K1.out.trans' K2.out (by simp)).trans' k3 (by simp)); clear k3; obtain ⟨_, _, c2, _, _, c7, _⟩ := T3.out.at; dsimp only at c2 c7
          go_upto_region 7 with fail
          go_cut [6, 4] (fun y z wx => y = .int .i64 nv ∧ z = .int .i64 ue ∧ Hid (Keep [] w3 wx))
          case first =>
            go_region_with (first | (go_at_call 227; refine (HU.out _).mono ?_; rintro e w4 ⟨rfl, k4⟩; have K4 := Lib.hid (Keep.trans (S := []) (a := w3) (by repeat (first | exact Keep.refl [] _ | apply Keep.drew)) k4); clear k4) | fail)
            all_goals
              go_wp2_with fail; go_meet; exact ⟨rfl, rfl, Lib.hid (by repeat (first | exact K4.out | apply Keep.drew))⟩
          case rest =>
          obtain ⟨rfl, rfl, KX⟩ := hcut; have T4 := Lib.hid (T3.out.keep0 KX.out); have K4 := Lib.hid (K3.out.trans' KX.out (by simp)); clear KX c2 c7; go_wp2_with fail; go_ret; rw [HB.out]; exact ⟨rfl, T4.out, K4.out⟩
        · rw [hne4, ← h3] at hbe; have q1 := (int_ne (show ue ≠ 14 by omega)).1; have q2 := (int_ne hu0).2; clear h3 hne4; have HB := Lib.hid hbe; clear hbe hVr hEr hle2 hE hne hu0; go_enter Tryz.func201, Tryz.ntmps201; go_wp2_with fail; refine HL.out.mono ?_; rintro e w1 ⟨rfl, t1, k1⟩; have T1 := Lib.hid t1; have K1 := Lib.hid k1; clear t1 k1; go_wp2_with fail; refine (HT.out _).mono ?_; rintro e w2 ⟨rfl, k2⟩; have K2 := Lib.hid (Keep.of_below k2 []); clear k2; go_wp2_with fail; refine (HR.out _ ((hm.keep K1.out (by simpa using hb)).keep K2.out (by simp))).mono ?_; rintro e w3 ⟨rfl, k3⟩; have T3 := Lib.hid ((T1.out.keep0 K2.out).keep0 k3); have K3 := Lib.hid ((K1.out.trans' K2.out (by simp)).trans' k3 (by simp)); clear k3; obtain ⟨_, _, c2, _, _, c7, _⟩ := T3.out.at; dsimp only at c2 c7
          go_upto_region 7 with fail
          go_cut [6, 4] (fun y z wx => y = .int .i64 nv ∧ z = .int .i64 ue ∧ Hid (Keep [] w3 wx))
          case first =>
            go_region_with (first | (go_at_call 227; refine (HU.out _).mono ?_; rintro e w4 ⟨rfl, k4⟩; have K4 := Lib.hid (Keep.trans (S := []) (a := w3) (by repeat (first | exact Keep.refl [] _ | apply Keep.drew)) k4); clear k4) | fail)
            all_goals
              go_wp2_with fail; go_meet; exact ⟨rfl, rfl, Lib.hid (by repeat (first | exact K4.out | apply Keep.drew))⟩
          case rest =>
          obtain ⟨rfl, rfl, KX⟩ := hcut; have T4 := Lib.hid (T3.out.keep0 KX.out); have K4 := Lib.hid (K3.out.trans' KX.out (by simp)); clear KX c2 c7; go_wp2_with fail; go_ret; rw [HB.out]; exact ⟨rfl, T4.out, K4.out⟩
  · rw [if_pos h0] at hbe; obtain ⟨rfl, rfl⟩ := hle2 h0; have h0' := (int_ne h0).2; have HB := Lib.hid hbe; clear hbe hVr hEr hle2 hE hx h0; go_enter Tryz.func201, Tryz.ntmps201; go_wp2_with fail; refine HL.out.mono ?_; rintro e w1 ⟨rfl, t1, k1⟩; have T1 := Lib.hid t1; have K1 := Lib.hid k1; clear t1 k1; go_wp2_with fail; go_ret; rw [HB.out]; exact ⟨rfl, T1.out, K1.out⟩
set_option maxRecDepth 100000 in
set_option maxHeartbeats 2000000 in
theorem chunk_trailer (B b : Nat) (p : List UInt8) (c : Ck) (v : Value) (w : World) (hm : ML w) (hb : 1 ≠ b) (h : Ct B w b p c v) (hl : c.inp.length ≤ 1048576) (hfl : c.flds ≤ 16) :
    Calls Tryz.prog 204 #[.pointer (some ⟨b, 0, none⟩)] w fun e w' => e = .returned (.int .i64 (trailM c).2) ∧ Ct B w' b p (trailM c).1 v ∧ Keep [b] w w' := by
  have HL := Lib.hid (chunk_line B b p c v w h hl); have hle := line_le c.inp; have HP := Lib.hid (fun w1 (hm1 : ML w1) => parse_two (lnC c.inp).t w1 hm1 (by omega))
  have hbe : trailM c = if (lnC c.inp).e ≠ 0 then (c, (lnC c.inp).e)
    else if (lnC c.inp).t = [] then ({ c with inp := (lnC c.inp).r, st := 4 }, 0)
    else if parseE (lnC c.inp).t ≠ 0 then ({ c with inp := (lnC c.inp).r }, parseE (lnC c.inp).t)
    else ({ c with inp := (lnC c.inp).r, flds := c.flds + 1 }, if 16 < c.flds + 1 then 4 else 0) := rfl
  have hPe := parseE_cases (lnC c.inp).t; have hle2 := line_err (l := c.inp); generalize (lnC c.inp).e = le at *; generalize (lnC c.inp).r = lr at *; generalize (parseV (lnC c.inp).t).name = pn at *; generalize (parseV (lnC c.inp).t).value = pw at *; generalize parseE (lnC c.inp).t = pe at *; generalize (lnC c.inp).t = lt at *; have s1 := S_size lt; have s2 := S_toList lt; clear h; by_cases h0 : le = 0
  · subst h0; rw [if_neg (by simp)] at hbe; by_cases ht : lt = []
    · rw [if_pos ht] at hbe; have ht' : lt.isEmpty = true := by rw [ht]; rfl
      have HB := Lib.hid hbe; clear hbe hle2 ht; go_enter Tryz.func204, Tryz.ntmps204; go_wp2_with fail; refine HL.out.mono ?_; rintro e w1 ⟨rfl, t1, k1⟩; have T1 := Lib.hid t1; have K1 := Lib.hid k1; clear t1 k1; obtain ⟨d0, _, _, _, _, _, _⟩ := T1.out.at; have f0 := T1.out.free 0; dsimp only at d0; go_wp2_with fail; go_ret; rw [HB.out]; exact ⟨rfl, T1.out.set 0 _ (fun _ => rfl) rfl, K1.out.setCell _ _ (by simp)⟩
    · have ht' : lt.isEmpty = false := by cases lt with | nil => exact absurd rfl ht | cons => rfl
      rw [if_neg ht] at hbe; by_cases hp0 : pe = 0
      · subst hp0; rw [if_neg (by simp)] at hbe; have HB := Lib.hid hbe; have hfw := IntWalk.i64_in ((c.flds : Int) + 1) (by omega); by_cases h16 : 16 < c.flds + 1
        · have h16' : decide ((c.flds : Int) + 1 > 16) = true := by simp; omega
          have HB := Lib.hid (hbe.trans (by rw [if_pos h16])); clear hbe hle2 ht h16; go_enter Tryz.func204, Tryz.ntmps204; go_wp2_with fail; refine HL.out.mono ?_; rintro e w1 ⟨rfl, t1, k1⟩; have T1 := Lib.hid t1; have K1 := Lib.hid k1; clear t1 k1; go_wp2_with fail; refine (HP.out _ (hm.keep K1.out (by simpa using hb))).mono ?_; rintro e w2 ⟨rfl, k2⟩; have k3 := k2.alloc (.cells #[.string (S pn), .string (S pw)] 89); have T2 := Lib.hid (T1.out.keep0 k3); have K2 := Lib.hid (K1.out.trans' k3 (by simp)); clear k2 k3; obtain ⟨_, _, _, d3, _, _, _⟩ := T2.out.at; have f3 := T2.out.free 3; dsimp only at d3; go_wp2_with fail; go_ret; rw [HB.out]; refine ⟨rfl, T2.out.set 3 _ (fun _ => rfl) rfl, K2.out.setCell _ _ (by simp)⟩
        · have h16' : decide ((c.flds : Int) + 1 > 16) = false := by simp; omega
          have HB := Lib.hid (hbe.trans (by rw [if_neg h16])); clear hbe hle2 ht h16; go_enter Tryz.func204, Tryz.ntmps204; go_wp2_with fail; refine HL.out.mono ?_; rintro e w1 ⟨rfl, t1, k1⟩; have T1 := Lib.hid t1; have K1 := Lib.hid k1; clear t1 k1; go_wp2_with fail; refine (HP.out _ (hm.keep K1.out (by simpa using hb))).mono ?_; rintro e w2 ⟨rfl, k2⟩; have k3 := k2.alloc (.cells #[.string (S pn), .string (S pw)] 89); have T2 := Lib.hid (T1.out.keep0 k3); have K2 := Lib.hid (K1.out.trans' k3 (by simp)); clear k2 k3; obtain ⟨_, _, _, d3, _, _, _⟩ := T2.out.at; have f3 := T2.out.free 3; dsimp only at d3; go_wp2_with fail; go_ret; rw [HB.out]; refine ⟨rfl, T2.out.set 3 _ (fun _ => rfl) rfl, K2.out.setCell _ _ (by simp)⟩
      · rw [if_pos hp0] at hbe; have hp0' := (int_ne hp0).2; have HB := Lib.hid hbe; clear hbe hle2 ht hp0; go_enter Tryz.func204, Tryz.ntmps204; go_wp2_with fail; refine HL.out.mono ?_; rintro e w1 ⟨rfl, t1, k1⟩; have T1 := Lib.hid t1; have K1 := Lib.hid k1; clear t1 k1; go_wp2_with fail; refine (HP.out _ (hm.keep K1.out (by simpa using hb))).mono ?_; rintro e w2 ⟨rfl, k2⟩; have k3 := k2.alloc (.cells #[.string (S pn), .string (S pw)] 89); have T2 := Lib.hid (T1.out.keep0 k3); have K2 := Lib.hid (K1.out.trans' k3 (by simp)); clear k2 k3; go_wp2_with fail; go_ret; rw [HB.out]; exact ⟨rfl, T2.out, K2.out⟩
  · rw [if_pos h0] at hbe; obtain ⟨rfl, rfl⟩ := hle2 h0; have h0' := (int_ne h0).2; have HB := Lib.hid hbe; clear hbe hle2 h0; go_enter Tryz.func204, Tryz.ntmps204; go_wp2_with fail; refine HL.out.mono ?_; rintro e w1 ⟨rfl, t1, k1⟩; have T1 := Lib.hid t1; have K1 := Lib.hid k1; clear t1 k1; go_wp2_with fail; go_ret; rw [HB.out]; exact ⟨rfl, T1.out, K1.out⟩
set_option maxRecDepth 100000 in
set_option maxHeartbeats 2000000 in
theorem chunk_close (B b : Nat) (p : List UInt8) (c : Ck) (v : Value) (w : World) (h : Ct B w b p c v) (hl : c.inp.length ≤ 1048576) :
    Calls Tryz.prog 203 #[.pointer (some ⟨b, 0, none⟩)] w fun e w' => e = .returned (.int .i64 (closeM c).2) ∧ Ct B w' b p (closeM c).1 v ∧ Keep [b] w w' := by
  have sz := S_size c.inp; obtain ⟨c0, _, _, _, c4, _, _⟩ := h.at; have f0 := h.free 0; have f4 := h.free 4; have H := Lib.hid h; have hbe : closeM c = if c.inp.take 2 ≠ crlfC.take c.inp.length then (c, 3) else if c.inp.length < 2 then (c, 17) else ({ c with inp := c.inp.drop 2, st := 0 }, 0) := rfl
  have hmin : min ((c.inp.length : Nat) : Int) 2 = ((min c.inp.length 2 : Nat) : Int) := by omega
  have e2 : c.inp.take (min c.inp.length 2) = c.inp.take 2 := by
    rcases Nat.le_total c.inp.length 2 with hh | hh
    · rw [Nat.min_eq_left hh, List.take_length, List.take_of_length_le hh]
    · rw [Nat.min_eq_right hh]
  have e3 : crlfC.take (min c.inp.length 2) = crlfC.take c.inp.length := by
    rcases Nat.le_total c.inp.length 2 with hh | hh
    · rw [Nat.min_eq_left hh]
    · rw [Nat.min_eq_right hh, List.take_of_length_le (show crlfC.length ≤ c.inp.length from hh)]; rfl
  have x1 : (S c.inp).extract 0 (min c.inp.length 2) = S (c.inp.take 2) := by rw [S_extract, List.drop_zero, e2]
  have x2 : (⟨#[13, 10]⟩ : ByteArray).extract 0 (min c.inp.length 2) = S (crlfC.take c.inp.length) := by
    have := S_extract crlfC 0 (min c.inp.length 2); rw [List.drop_zero, e3] at this; exact this
  have l1 := S_toList (c.inp.take 2); have l2 := S_toList (crlfC.take c.inp.length); have m2 : min c.inp.length 2 ≤ 2 := Nat.min_le_right _ _; have m1 : min c.inp.length 2 ≤ c.inp.length := Nat.min_le_left _ _; have x3 : (S c.inp).extract 2 c.inp.length = S (c.inp.drop 2) := by rw [S_extract, List.take_length]
  have hd : c.inp.length < 2 ↔ min c.inp.length 2 < 2 := by omega
  have hm2 : ¬ c.inp.length < 2 → min c.inp.length 2 = 2 := by omega
  generalize hmm : min c.inp.length 2 = m at *; have i0 : (0 : Int) ≤ (m : Int) := by omega
  have i1 : (m : Int) ≤ (c.inp.length : Int) := by omega
  have i2 : (m : Int) ≤ 2 := by omega
  clear e2 e3 h hmm; by_cases h1 : c.inp.take 2 = crlfC.take c.inp.length
  · rw [if_neg (by simp [h1])] at hbe; have q1 : (c.inp.take 2 != crlfC.take c.inp.length) = false := by rw [h1]; simp
    have q2 : (c.inp.take 2 == crlfC.take c.inp.length) = true := by rw [h1]; simp
    generalize c.inp.take 2 = A1 at *; generalize crlfC.take c.inp.length = A2 at *; by_cases h2 : c.inp.length < 2
    · rw [if_pos h2] at hbe; have h2' : decide ((m : Int) < 2) = true := by simp; omega
      have HB := Lib.hid hbe; clear hbe h1 h2 hd hm2; go_enter Tryz.func203, Tryz.ntmps203
      go_upto_region 2 with fail
      go_cut [10] (fun y wx => y = .bool false ∧ Hid (Keep [] w wx))
      case first =>
        go_region_with fail
        all_goals
          go_wp2_with fail; go_meet; exact ⟨rfl, Lib.hid (by repeat (first | exact Keep.refl _ _ | apply Keep.drew))⟩
      case rest =>
      obtain ⟨rfl, KX⟩ := hcut; have H1 := Lib.hid (H.out.keep0 KX.out); have K1 := Lib.hid (KX.out.mono (S' := [b]) (by simp)); clear c0 c4 f0 f4 KX; obtain ⟨c0, _, _, _, c4, _, _⟩ := H1.out.at; have f0 := H1.out.free 0; have f4 := H1.out.free 4; go_wp2_with fail; go_ret; rw [HB.out]; exact ⟨rfl, H1.out, K1.out⟩
    · rw [if_neg h2] at hbe; have hm := hm2 h2; subst hm; have HB := Lib.hid hbe; clear hbe h1 hd hm2; go_enter Tryz.func203, Tryz.ntmps203
      go_upto_region 2 with fail
      go_cut [10] (fun y wx => y = .bool false ∧ Hid (Keep [] w wx))
      case first =>
        go_region_with fail
        all_goals
          go_wp2_with fail; go_meet; exact ⟨rfl, Lib.hid (by repeat (first | exact Keep.refl _ _ | apply Keep.drew))⟩
      case rest =>
      obtain ⟨rfl, KX⟩ := hcut; have H1 := Lib.hid (H.out.keep0 KX.out); have K1 := Lib.hid (KX.out.mono (S' := [b]) (by simp)); clear c0 c4 f0 f4 KX; obtain ⟨c0, _, _, _, c4, _, _⟩ := H1.out.at; have f0 := H1.out.free 0; have f4 := H1.out.free 4; go_wp2_with fail; go_ret; rw [HB.out]; exact ⟨rfl, (H1.out.set 4 _ (fun _ => rfl) rfl (c' := { c with inp := c.inp.drop 2 })).set 0 _ (fun _ => rfl) rfl, (K1.out.setCell _ _ (by simp)).setCell _ _ (by simp)⟩
  · rw [if_pos h1] at hbe; have q1 : (c.inp.take 2 != crlfC.take c.inp.length) = true := by simp [h1]
    have q2 : (c.inp.take 2 == crlfC.take c.inp.length) = false := by simp [h1]
    generalize c.inp.take 2 = A1 at *; generalize crlfC.take c.inp.length = A2 at *; have HB := Lib.hid hbe; clear hbe h1 hd hm2; go_enter Tryz.func203, Tryz.ntmps203
    go_upto_region 2 with fail
    go_cut [10] (fun y wx => y = .bool true ∧ Hid (Keep [] w wx))
    case first =>
      go_region_with fail
      all_goals
        go_wp2_with fail; go_meet; exact ⟨rfl, Lib.hid (by repeat (first | exact Keep.refl _ _ | apply Keep.drew))⟩
    case rest =>
    obtain ⟨rfl, KX⟩ := hcut; have H1 := Lib.hid (H.out.keep0 KX.out); have K1 := Lib.hid (KX.out.mono (S' := [b]) (by simp)); clear c0 c4 f0 f4 KX; obtain ⟨c0, _, _, _, c4, _, _⟩ := H1.out.at; have f0 := H1.out.free 0; have f4 := H1.out.free 4; go_wp2_with fail; go_ret; rw [HB.out]; exact ⟨rfl, H1.out, K1.out⟩
end Go.Proofs.YtlhnjkekjbbhcaaGreatDoor
