/- Parts of the proof of ErrandTries, in order. No conditions but those that each theorem states. -/
import Derived.Test.YtlhnjkekjbbhcaaGreatDoorYErrandTries0
import Derived.Deep.RegionHeld3
import Derived.Lib.SlBytesConst
import Derived.Lib.LaidTab
import Derived.Lib.ItoaNum
import Derived.Lib.ItoaLen
import Derived.Sort.Grow
import Derived.Deep.LoopGhost
import Derived.Test.YtlhnjkekjbbhcaaGreatDoorYErrandTries9
set_option linter.unusedSimpArgs false
set_option linter.unusedVariables false
namespace Go.Proofs.YtlhnjkekjbbhcaaGreatDoor
open Go.RowKit Go.Shelf
theorem take5_prefix (l : List UInt8) : Lib.hasPrefix l httpB = decide (l.take 5 = httpB) := by
  rw [Bool.eq_iff_iff]; unfold Lib.hasPrefix; rw [List.isPrefixOf_iff_prefix, List.prefix_iff_eq_take]; constructor
  · intro h; exact decide_eq_true h.symm
  · intro h; exact (of_decide_eq_true h).symm
theorem ver_no {l : List UInt8} (h : Lib.hasPrefix l httpB = false ∨ l.length ≠ 8) : minS l = 400 ∧ minV l = 0 := by
  have hv : verOk l = false := by
    unfold verOk; rcases h with h | h
    · rw [take5_prefix] at h; rw [h]; simp
    · simp [h]
  have hs : minS l = 400 := by unfold minS; rw [hv]; rfl
  exact ⟨hs, by unfold minV; rw [hs]; rfl⟩
theorem ver_of (a p c : UInt8) : minS (httpB ++ [a, p, c]) = (if digB a && (p == 46) && digB c then (if a = 49 ∧ c.toNat ≤ 49 then 200 else 505) else 400) ∧ minV (httpB ++ [a, p, c]) = (if digB a && (p == 46) && digB c then (if a = 49 ∧ c.toNat ≤ 49 then (c.toNat : Int) - 48 else 0) else 0) := by
  have hv : verOk (httpB ++ [a, p, c]) = (digB a && (p == 46) && digB c) := by
    unfold verOk; simp [httpB]
  have hs : minS (httpB ++ [a, p, c]) = (if digB a && (p == 46) && digB c then (if a = 49 ∧ c.toNat ≤ 49 then 200 else 505) else 400) := by
    unfold minS; rw [hv]; rfl
  refine ⟨hs, ?_⟩; unfold minV; rw [hs]; by_cases h1 : (digB a && (p == 46) && digB c) = true
  · by_cases h2 : a = 49 ∧ c.toNat ≤ 49
    · rw [if_pos h1, if_pos h2, if_pos rfl, if_pos h1, if_pos h2]; rfl
    · rw [if_pos h1, if_neg h2, if_neg (by decide), if_pos h1, if_neg h2]
  · rw [if_neg h1, if_neg (by decide), if_neg h1]
set_option maxRecDepth 100000 in
set_option maxHeartbeats 2000000 in
theorem inlet_minor (l : List UInt8) (w : World) (hl : l.length ≤ maxLen) :
    Calls Tryz.prog 133 #[.string (S l)] w fun e w' => e = .returned (.tuple #[.int .i64 (minV l), .int .i64 (minS l)]) ∧ Keep [] w w' := by
  have hl' : l.length ≤ 9223372036854775807 := hl
  have hP : Calls Tryz.prog 74 #[.string (S l), .string ⟨#[72, 84, 84, 80, 47]⟩] w fun e w' => e = .returned (.tuple #[.string (S (Lib.trimPrefix l httpB)), .bool (Lib.hasPrefix l httpB)]) ∧ w' = w := by
    have := Tryz.strings_CutPrefix (S l) ⟨#[72, 84, 84, 80, 47]⟩ w; rw [S_list] at this; exact this
  have hsz := S_size l
  cases hpf : Lib.hasPrefix l httpB with
  | false =>
    obtain ⟨e1, e2⟩ := ver_no (.inl hpf); rw [e1, e2]; rw [hpf] at hP; have HP := Lib.hid hP; clear hP hpf e1 e2; go_enter Tryz.func133, Tryz.ntmps133; go_wp2_with fail; refine HP.out.mono ?_; rintro e w1 ⟨rfl, rfl⟩; go_wp2_with fail; go_ret2; exact ⟨rfl, Keep.refl _ _⟩
  | true =>
    rw [hpf] at hP; by_cases h8 : l.length = 8
    · have hle : l = httpB ++ l.drop 5 := by
        rw [take5_prefix] at hpf; have := of_decide_eq_true hpf; rw [← this, List.take_append_drop]
      have htr : Lib.trimPrefix l httpB = l.drop 5 := by unfold Lib.trimPrefix; rw [if_pos hpf]; rfl
      have hr3 : (l.drop 5).length = 3 := by rw [List.length_drop, h8]
      rw [htr] at hP; generalize l.drop 5 = r at *
      obtain ⟨a, p, c, rfl⟩ : ∃ a p c, r = [a, p, c] := by
        match r, hr3 with
        | [a, p, c], _ => exact ⟨a, p, c, rfl⟩
      have g0 := S_get (l := [a, p, c]) (k := 0) (c := a) rfl; have g1 := S_get (l := [a, p, c]) (k := 1) (c := p) rfl; have g2 := S_get (l := [a, p, c]) (k := 2) (c := c) rfl; have hs3 : (S [a, p, c]).size = 3 := S_size _; obtain ⟨hms, hmv⟩ := ver_of a p c; rw [← hle] at hms hmv; generalize minS l = ms at hms ⊢; generalize minV l = mv at hmv ⊢; have h8' : ((l.length : Nat) : Int) = 8 := by omega
      have h8q := (int_eq h8').2; have HP := Lib.hid hP; have Da := Lib.hid (fun w1 => inlet_isDigit a w1); have Dc := Lib.hid (fun w1 => inlet_isDigit c w1); have ca := u8_nat a; have cp := u8_nat p; have cc := u8_nat c; generalize S [a, p, c] = sr at *; clear hP hpf hle htr hr3 h8 h8'
      cases hda : digB a with
      | false =>
        rw [hda] at Da hms hmv; have HX := Lib.hid (show mv = 0 ∧ ms = 400 from ⟨by simpa using hmv, by simpa using hms⟩); clear hms hmv hda; go_enter Tryz.func133, Tryz.ntmps133; go_wp2_with fail; refine HP.out.mono ?_; rintro e w1 ⟨rfl, rfl⟩; go_wp2_with (first | (go_at_call 175; refine (Da.out _).mono ?_; rintro e w2 ⟨rfl, rfl⟩) | (go_at_call 175; refine (Dc.out _).mono ?_; rintro e w2 ⟨rfl, rfl⟩)); go_ret2; exact ⟨by rw [HX.out.1, HX.out.2]; rfl, Keep.refl _ _⟩
      | true =>
        by_cases hp : p = 46
        · have hpb : (p == 46) = true := by simp [hp]
          have hpn : ((p.toNat : Nat) : Int) = 46 := by rw [hp]; rfl
          have hpq := (int_eq hpn).2; rw [hda, hpb] at hms hmv; rw [hda] at Da; clear hpn hp hpb
          cases hdc : digB c with
          | false =>
            rw [hdc] at Dc hms hmv; have HX := Lib.hid (show mv = 0 ∧ ms = 400 from ⟨by simpa using hmv, by simpa using hms⟩); clear hms hmv hda hdc; go_enter Tryz.func133, Tryz.ntmps133; go_wp2_with fail; refine HP.out.mono ?_; rintro e w1 ⟨rfl, rfl⟩; go_wp2_with (first | (go_at_call 175; refine (Da.out _).mono ?_; rintro e w2 ⟨rfl, rfl⟩) | (go_at_call 175; refine (Dc.out _).mono ?_; rintro e w2 ⟨rfl, rfl⟩)); go_ret2; exact ⟨by rw [HX.out.1, HX.out.2]; rfl, Keep.refl _ _⟩
          | true =>
            rw [hdc] at Dc hms hmv; simp only [Bool.and_self, if_true] at hms hmv; have hc9 : 48 ≤ c.toNat ∧ c.toNat ≤ 57 := by simpa [digB] using hdc
            obtain ⟨hc0, hc1⟩ := hc9; by_cases ha : a = 49
            · have han : ((a.toNat : Nat) : Int) = 49 := by rw [ha]; rfl
              have haq := (int_eq han).2; by_cases hc : c.toNat ≤ 49
              · rw [if_pos ⟨ha, hc⟩] at hms hmv; have hcq : decide (((c.toNat : Nat) : Int) > 49) = false := by simp; omega
                have hwr := IntWalk.u8_in ((c.toNat : Int) - 48) (by omega); have hwi := IntWalk.i64_in ((c.toNat : Int) - 48) (by omega); have HX := Lib.hid (And.intro hmv hms); clear hms hmv hda hdc ha han; go_enter Tryz.func133, Tryz.ntmps133; go_wp2_with fail; refine HP.out.mono ?_; rintro e w1 ⟨rfl, rfl⟩; go_wp2_with (first | (go_at_call 175; refine (Da.out _).mono ?_; rintro e w2 ⟨rfl, rfl⟩) | (go_at_call 175; refine (Dc.out _).mono ?_; rintro e w2 ⟨rfl, rfl⟩)); go_ret2; exact ⟨by rw [HX.out.1, HX.out.2]; rfl, Keep.refl _ _⟩
              · rw [if_neg (fun h => hc h.2)] at hms hmv; have hcq : decide (((c.toNat : Nat) : Int) > 49) = true := by simp; omega
                have HX := Lib.hid (And.intro hmv hms); clear hms hmv hda hdc ha han; go_enter Tryz.func133, Tryz.ntmps133; go_wp2_with fail; refine HP.out.mono ?_; rintro e w1 ⟨rfl, rfl⟩; go_wp2_with (first | (go_at_call 175; refine (Da.out _).mono ?_; rintro e w2 ⟨rfl, rfl⟩) | (go_at_call 175; refine (Dc.out _).mono ?_; rintro e w2 ⟨rfl, rfl⟩)); go_ret2; exact ⟨by rw [HX.out.1, HX.out.2]; rfl, Keep.refl _ _⟩
            · rw [if_neg (fun h => ha h.1)] at hms hmv; have han : ((a.toNat : Nat) : Int) ≠ 49 := fun e => ha (UInt8.toNat_inj.1 (by show a.toNat = 49; omega))
              have haq := (int_ne han).2; have HX := Lib.hid (And.intro hmv hms); clear hms hmv hda hdc ha han; go_enter Tryz.func133, Tryz.ntmps133; go_wp2_with fail; refine HP.out.mono ?_; rintro e w1 ⟨rfl, rfl⟩; go_wp2_with (first | (go_at_call 175; refine (Da.out _).mono ?_; rintro e w2 ⟨rfl, rfl⟩) | (go_at_call 175; refine (Dc.out _).mono ?_; rintro e w2 ⟨rfl, rfl⟩)); go_ret2; exact ⟨by rw [HX.out.1, HX.out.2]; rfl, Keep.refl _ _⟩
        · have hpb : (p == 46) = false := by simp [hp]
          have hpn : ((p.toNat : Nat) : Int) ≠ 46 := fun e => hp (UInt8.toNat_inj.1 (by show p.toNat = 46; omega))
          have hpq := (int_ne hpn).2; rw [hda, hpb] at hms hmv; rw [hda] at Da; have HX := Lib.hid (show mv = 0 ∧ ms = 400 from ⟨by simpa using hmv, by simpa using hms⟩); clear hms hmv hda hpn hp hpb; go_enter Tryz.func133, Tryz.ntmps133; go_wp2_with fail; refine HP.out.mono ?_; rintro e w1 ⟨rfl, rfl⟩; go_wp2_with (first | (go_at_call 175; refine (Da.out _).mono ?_; rintro e w2 ⟨rfl, rfl⟩) | (go_at_call 175; refine (Dc.out _).mono ?_; rintro e w2 ⟨rfl, rfl⟩)); go_ret2; exact ⟨by rw [HX.out.1, HX.out.2]; rfl, Keep.refl _ _⟩
    · obtain ⟨e1, e2⟩ := ver_no (.inr h8); rw [e1, e2]; have h8' : ((l.length : Nat) : Int) ≠ 8 := by omega
      have h8q := (int_ne h8').2; have HP := Lib.hid hP; clear hP hpf e1 e2 h8 h8'; go_enter Tryz.func133, Tryz.ntmps133; go_wp2_with fail; refine HP.out.mono ?_; rintro e w1 ⟨rfl, rfl⟩; go_wp2_with fail; go_ret2; exact ⟨rfl, Keep.refl _ _⟩
theorem res4 {fn : Func} {t u v x : Tmp} (h : fn.results = #[.tmp t, .tmp u, .tmp v, .tmp x]) (tmps : Array Value) (P : Program) (w : World) :
    (results fn tmps).run P w = .ok (.tuple #[tmps.getD t undef, tmps.getD u undef, tmps.getD v undef, tmps.getD x undef]) w := by
  simp [results, h]
def Ln.out (r : Ln) : Value := .tuple #[.string (S r.m), .string (S r.t), .int .i64 r.v, .int .i64 r.s]
theorem ln_no {l : List UInt8} (h : ((Lib.cut l [32]).2.2 && (Lib.cut (Lib.cut l [32]).2.1 [32]).2.2 && isTok (Lib.cut l [32]).1 && isTgt (Lib.cut (Lib.cut l [32]).2.1 [32]).1) = false) : lnM l = ⟨[], [], 0, 400⟩ := by
  unfold lnM; dsimp only; rw [h]; rfl
theorem ln_yes {l : List UInt8} (h : ((Lib.cut l [32]).2.2 && (Lib.cut (Lib.cut l [32]).2.1 [32]).2.2 && isTok (Lib.cut l [32]).1 && isTgt (Lib.cut (Lib.cut l [32]).2.1 [32]).1) = true) :
    lnM l = if minS (Lib.cut (Lib.cut l [32]).2.1 [32]).2.1 = 200 then ⟨(Lib.cut l [32]).1, (Lib.cut (Lib.cut l [32]).2.1 [32]).1, minV (Lib.cut (Lib.cut l [32]).2.1 [32]).2.1, 200⟩ else ⟨[], [], 0, minS (Lib.cut (Lib.cut l [32]).2.1 [32]).2.1⟩ := by
  unfold lnM; dsimp only; rw [h]; rfl
set_option maxRecDepth 100000 in
set_option maxHeartbeats 2000000 in
theorem inlet_Line (l : List UInt8) (w : World) (hm : ML w) (hl : l.length < 4294967281) :
    Calls Tryz.prog 84 #[.string (S l)] w fun e w' => e = .returned (lnM l).out ∧ Keep [] w w' := by
  have hC1 : Calls Tryz.prog 130 #[.string (S l), .string ⟨#[32]⟩] w fun e w' => e = .returned (.tuple #[.string (S (Lib.cut l [32]).1), .string (S (Lib.cut l [32]).2.1), .bool (Lib.cut l [32]).2.2]) ∧ Keep [] w w' := strings_Cut l ⟨#[32]⟩ w hm hl
  have hl1 := cut_len l [32]; have hno := ln_no (l := l); have hyes := ln_yes (l := l); generalize lnM l = R at *; generalize Lib.cut l [32] = c1 at *; obtain ⟨xm, r, ok1⟩ := c1; dsimp only at *; have hC2 := fun w1 (k : Keep [] w w1) => show Calls Tryz.prog 130 #[.string (S r), .string ⟨#[32]⟩] w1 fun e w' => e = .returned (.tuple #[.string (S (Lib.cut r [32]).1), .string (S (Lib.cut r [32]).2.1), .bool (Lib.cut r [32]).2.2]) ∧ Keep [] w1 w' from strings_Cut r ⟨#[32]⟩ w1 (hm.keep k (by simp)) (by omega)
  have hl2 := cut_len r [32]; generalize Lib.cut r [32] = c2 at *; obtain ⟨xt, xl, ok2⟩ := c2; dsimp only at *; have HT := Lib.hid (fun w' => field_IsToken xm w' (show xm.length ≤ 9223372036854775807 by omega)); have HG := Lib.hid (fun w' => inlet_isTarget xt w' (show xt.length ≤ 9223372036854775807 by omega)); have HM := Lib.hid (fun w' => inlet_minor xl w' (show xl.length ≤ 9223372036854775807 by omega)); have HC1 := Lib.hid hC1; have HC2 := Lib.hid hC2; clear hC1 hC2 hl1 hl2
  cases ok1 with
  | false =>
    have HR := Lib.hid (hno rfl); clear hno hyes; go_enter Tryz.func84, Tryz.ntmps84; go_wp2_with fail; refine HC1.out.mono ?_; rintro e w1 ⟨rfl, k1⟩; go_wp2_with fail; refine (HC2.out _ k1).mono ?_; rintro e w2 ⟨rfl, k2⟩; go_wp2_with fail; refine bodyPost_ret (res4 rfl _ _ _) rfl ⟨?_, k1.trans k2⟩; rw [HR.out]; rfl
  | true =>
    cases ok2 with
    | false =>
      have HR := Lib.hid (hno rfl); clear hno hyes; go_enter Tryz.func84, Tryz.ntmps84; go_wp2_with fail; refine HC1.out.mono ?_; rintro e w1 ⟨rfl, k1⟩; go_wp2_with fail; refine (HC2.out _ k1).mono ?_; rintro e w2 ⟨rfl, k2⟩; go_wp2_with fail; refine bodyPost_ret (res4 rfl _ _ _) rfl ⟨?_, k1.trans k2⟩; rw [HR.out]; rfl
    | true =>
      cases htk : isTok xm with
      | false =>
        rw [htk] at HT hno; have HR := Lib.hid (hno rfl); clear hno hyes htk; go_enter Tryz.func84, Tryz.ntmps84; go_wp2_with fail; refine HC1.out.mono ?_; rintro e w1 ⟨rfl, k1⟩; go_wp2_with fail; refine (HC2.out _ k1).mono ?_; rintro e w2 ⟨rfl, k2⟩; go_wp2_with fail; refine (HT.out _).mono ?_; rintro e w3 ⟨rfl, k3⟩; go_wp2_with fail; refine bodyPost_ret (res4 rfl _ _ _) rfl ⟨?_, (k1.trans k2).trans k3⟩; rw [HR.out]; rfl
      | true =>
        rw [htk] at HT hno hyes
        cases htg : isTgt xt with
        | false =>
          rw [htg] at HG hno; have HR := Lib.hid (hno rfl); clear hno hyes htk htg; go_enter Tryz.func84, Tryz.ntmps84; go_wp2_with fail; refine HC1.out.mono ?_; rintro e w1 ⟨rfl, k1⟩; go_wp2_with fail; refine (HC2.out _ k1).mono ?_; rintro e w2 ⟨rfl, k2⟩; go_wp2_with fail; refine (HT.out _).mono ?_; rintro e w3 ⟨rfl, k3⟩; go_wp2_with fail; refine (HG.out _).mono ?_; rintro e w4 ⟨rfl, k4⟩; go_wp2_with fail; refine bodyPost_ret (res4 rfl _ _ _) rfl ⟨?_, ((k1.trans k2).trans k3).trans k4⟩; rw [HR.out]; rfl
        | true =>
          rw [htg] at HG hyes; have hR := hyes rfl; clear hno hyes htk htg; generalize minS xl = ms at *; generalize minV xl = mv at *; by_cases h2 : ms = 200
          · rw [if_pos h2] at hR; have q := (int_eq h2).2; have HR := Lib.hid hR; clear hR h2; go_enter Tryz.func84, Tryz.ntmps84; go_wp2_with fail; refine HC1.out.mono ?_; rintro e w1 ⟨rfl, k1⟩; go_wp2_with fail; refine (HC2.out _ k1).mono ?_; rintro e w2 ⟨rfl, k2⟩; go_wp2_with fail; refine (HT.out _).mono ?_; rintro e w3 ⟨rfl, k3⟩; go_wp2_with fail; refine (HG.out _).mono ?_; rintro e w4 ⟨rfl, k4⟩; go_wp2_with fail; refine (HM.out _).mono ?_; rintro e w5 ⟨rfl, k5⟩; go_wp2_with fail; refine bodyPost_ret (res4 rfl _ _ _) rfl ⟨?_, (((k1.trans k2).trans k3).trans k4).trans k5⟩; rw [HR.out]; rfl
          · rw [if_neg h2] at hR; have q := (int_ne h2).2; have HR := Lib.hid hR; clear hR h2; go_enter Tryz.func84, Tryz.ntmps84; go_wp2_with fail; refine HC1.out.mono ?_; rintro e w1 ⟨rfl, k1⟩; go_wp2_with fail; refine (HC2.out _ k1).mono ?_; rintro e w2 ⟨rfl, k2⟩; go_wp2_with fail; refine (HT.out _).mono ?_; rintro e w3 ⟨rfl, k3⟩; go_wp2_with fail; refine (HG.out _).mono ?_; rintro e w4 ⟨rfl, k4⟩; go_wp2_with fail; refine (HM.out _).mono ?_; rintro e w5 ⟨rfl, k5⟩; go_wp2_with fail; refine bodyPost_ret (res4 rfl _ _ _) rfl ⟨?_, (((k1.trans k2).trans k3).trans k4).trans k5⟩; rw [HR.out]; rfl
theorem cut_by (a b : List UInt8) (c : UInt8) (h : c ∉ a) : Lib.cut (a ++ c :: b) [c] = (a, b, true) := by
  unfold Lib.cut
  have hi : Lib.index (a ++ c :: b) [c] = (a.length : Int) := by
    rw [Lib.index_one]; refine indexByte_at (by simp) (fun j hj => ?_); rw [List.getElem?_append_left hj]; intro e; exact h (List.mem_of_getElem? e)
  rw [hi, if_pos (by omega)]; simp
end Go.Proofs.YtlhnjkekjbbhcaaGreatDoor
