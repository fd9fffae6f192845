/- Parts of the proof of ErrandWaits, in order. No conditions but those that each theorem states. -/
import Derived.Test.YtlhnjkekjbbhcaaGreatDoorYErrandWaits0
import Derived.Lib.SlBytesConst
import Derived.Lib.LaidTab
import Derived.Lib.ItoaNum
import Derived.Lib.ItoaLen
import Derived.Sort.Grow
import Derived.Deep.MidRow
import Derived.Test.YtlhnjkekjbbhcaaGreatDoorYErrandWaits32
namespace Go.Proofs.YtlhnjkekjbbhcaaGreatDoor
open Go.RowKit Go.Shelf
section
variable {w0 w : World} {b n : Nat} {rp va : Value} {X L : List Nat} {E : ErS}
set_option maxRecDepth 100000 in
set_option maxHeartbeats 400000 in
theorem er_State (h : Et w0 w b rp va X E n L) : Calls Tryz.prog 18 #[.pointer (some ⟨b, 0, Option.none⟩)] w fun e w' => e = .returned (.int .i64 E.state) ∧ w = w' := by
  have c := h.blk.get (g_state E rp va); clear h; go_enter Tryz.func18, Tryz.ntmps18; go_wp2_with fail; go_ret; exact ⟨rfl, rfl⟩
set_option maxRecDepth 100000 in
set_option maxHeartbeats 400000 in
theorem er_Tries (h : Et w0 w b rp va X E n L) : Calls Tryz.prog 20 #[.pointer (some ⟨b, 0, Option.none⟩)] w fun e w' => e = .returned (.int .i64 E.tries) ∧ w = w' := by
  have c := h.blk.get (g_tries E rp va); clear h; go_enter Tryz.func20, Tryz.ntmps20; go_wp2_with fail; go_ret; exact ⟨rfl, rfl⟩
set_option maxRecDepth 100000 in
set_option maxHeartbeats 400000 in
theorem er_Misses (h : Et w0 w b rp va X E n L) : Calls Tryz.prog 26 #[.pointer (some ⟨b, 0, Option.none⟩)] w fun e w' => e = .returned (.int .i64 E.misses) ∧ w = w' := by
  have c := h.blk.get (g_misses E rp va); clear h; go_enter Tryz.func26, Tryz.ntmps26; go_wp2_with fail; go_ret; exact ⟨rfl, rfl⟩
set_option maxRecDepth 100000 in
set_option maxHeartbeats 400000 in
theorem er_Silent (h : Et w0 w b rp va X E n L) : Calls Tryz.prog 27 #[.pointer (some ⟨b, 0, Option.none⟩)] w fun e w' => e = .returned (.int .i64 E.silent) ∧ w = w' := by
  have c := h.blk.get (g_silent E rp va); clear h; go_enter Tryz.func27, Tryz.ntmps27; go_wp2_with fail; go_ret; exact ⟨rfl, rfl⟩
set_option maxRecDepth 100000 in
set_option maxHeartbeats 400000 in
theorem er_Heard (h : Et w0 w b rp va X E n L) : Calls Tryz.prog 28 #[.pointer (some ⟨b, 0, Option.none⟩)] w fun e w' => e = .returned (.int .i64 E.heard) ∧ w = w' := by
  have c := h.blk.get (g_heard E rp va); clear h; go_enter Tryz.func28, Tryz.ntmps28; go_wp2_with fail; go_ret; exact ⟨rfl, rfl⟩
set_option maxRecDepth 100000 in
set_option maxHeartbeats 400000 in
theorem nilE_State (w : World) : Calls Tryz.prog 18 #[.pointer Option.none] w fun e w' => e = .returned (.int .i64 3) ∧ w = w' := by
  go_enter Tryz.func18, Tryz.ntmps18; go_wp2_with fail; go_ret; exact ⟨rfl, rfl⟩
set_option maxRecDepth 100000 in
set_option maxHeartbeats 400000 in
theorem nilE_Tries (w : World) : Calls Tryz.prog 20 #[.pointer Option.none] w fun e w' => e = .returned (.int .i64 0) ∧ w = w' := by
  go_enter Tryz.func20, Tryz.ntmps20; go_wp2_with fail; go_ret; exact ⟨rfl, rfl⟩
set_option maxRecDepth 100000 in
set_option maxHeartbeats 400000 in
theorem nilE_Misses (w : World) : Calls Tryz.prog 26 #[.pointer Option.none] w fun e w' => e = .returned (.int .i64 0) ∧ w = w' := by
  go_enter Tryz.func26, Tryz.ntmps26; go_wp2_with fail; go_ret; exact ⟨rfl, rfl⟩
set_option maxRecDepth 100000 in
set_option maxHeartbeats 400000 in
theorem nilE_Silent (w : World) : Calls Tryz.prog 27 #[.pointer Option.none] w fun e w' => e = .returned (.int .i64 0) ∧ w = w' := by
  go_enter Tryz.func27, Tryz.ntmps27; go_wp2_with fail; go_ret; exact ⟨rfl, rfl⟩
set_option maxRecDepth 100000 in
set_option maxHeartbeats 400000 in
theorem nilE_Heard (w : World) : Calls Tryz.prog 28 #[.pointer Option.none] w fun e w' => e = .returned (.int .i64 0) ∧ w = w' := by
  go_enter Tryz.func28, Tryz.ntmps28; go_wp2_with fail; go_ret; exact ⟨rfl, rfl⟩
set_option maxRecDepth 100000 in
set_option maxHeartbeats 400000 in
theorem er_Reuse (h : Et w0 w b rp va X E n L) : Calls Tryz.prog 42 #[.pointer (some ⟨b, 0, Option.none⟩)] w fun e w' => e = .returned (.bool E.reuse) ∧ w = w' := by
  have c := h.blk.get (g_reuse E rp va); clear h; go_enter Tryz.func42, Tryz.ntmps42; go_wp2_with fail; go_ret; exact ⟨rfl, rfl⟩
set_option maxRecDepth 100000 in
set_option maxHeartbeats 800000 in
theorem er_Wants (h : Et w0 w b rp va X E n L) (now : Int) : Calls Tryz.prog 21 #[.pointer (some ⟨b, 0, Option.none⟩), .int .i64 now] w fun e w' => e = .returned (.bool (decide (E.state = 1) && decide (E.unt ≤ now))) ∧ w = w' := by
  have c := h.blk.get (g_unt E rp va); have hs := er_State h; clear h; by_cases h1 : E.state = 1
  · have e1 := (int_eq h1).1; rw [decide_eq_true h1]; generalize E.state = x at *; clear h1; go_enter Tryz.func21, Tryz.ntmps21; go_wp2_with (go_at_call 18; refine hs.mono ?_; rintro e w' ⟨rfl, rfl⟩); go_ret; exact ⟨rfl, rfl⟩
  · have e1 := (int_ne h1).1; rw [decide_eq_false h1]; generalize E.state = x at *; clear h1; go_enter Tryz.func21, Tryz.ntmps21; go_wp2_with (go_at_call 18; refine hs.mono ?_; rintro e w' ⟨rfl, rfl⟩); go_ret; exact ⟨rfl, rfl⟩
set_option maxRecDepth 100000 in
set_option maxHeartbeats 400000 in
theorem nilE_Wants (w : World) (now : Int) : Calls Tryz.prog 21 #[.pointer Option.none, .int .i64 now] w fun e w' => e = .returned (.bool false) ∧ w = w' := by
  go_enter Tryz.func21, Tryz.ntmps21; go_wp2_with (go_at_call 18; refine (nilE_State _).mono ?_; rintro e w' ⟨rfl, rfl⟩); go_ret; exact ⟨rfl, rfl⟩
set_option maxRecDepth 100000 in
set_option maxHeartbeats 800000 in
theorem er_Result (h : Et w0 w b rp va X E n L) : Calls Tryz.prog 19 #[.pointer (some ⟨b, 0, Option.none⟩)] w fun e w' => e = .returned (.agg E.res.cells.toArray) ∧ Keep [] w w' := by
  have M0 : Hid (MemK w [] w0 w [(b, 106, E.cells rp va)]) := Lib.hid (MemK.of h.mem.1 []); clear h; go_enter Tryz.func19, Tryz.ntmps19
  go_wp2_with (first | ((with_reducible refine gA 2 ?_); refine wpList_allocK rfl 39 rfl (rs0.cells) (Lib.hid rs_zero) M0 ?_; intro c w1 M1 hnewc; try simp only [Act.put, sqA, sqB, sqC]) | ((with_reducible refine gL 9 8 ?_); refine wpList_loadPartK (by rfl) 39 (.tmp 8) rfl M1 1 rfl 102 (by rfl) (E.res.cells) (fun j v hv => (er_res E rp va (by have := (List.getElem?_eq_some_iff.1 hv).1; rw [Rs.len] at this; exact this)).trans hv) _ Tryz.underlying39 rfl (rs_size _) ?_; try simp only [Act.put, sqA, sqB, sqC]) | ((with_reducible refine gS 2 9 ?_); refine wpList_storeK rfl 39 (.tmp 2) (.tmp 9) rfl M1 0 rfl (by rfl) (E.res.cells) (by rfl) (rs_size _) (by rw [Rs.len, Rs.len]) (Rs.one _) (fun hlt => absurd hnewc.out (by omega)) ?_; intro w2 M2; try simp only [Act.put]) | fail); have hload := rs_end M2.out.1 0 rfl; refine bodyPost_ret (v := .agg E.res.cells.toArray) (by simp [results, Tryz.results19, asAddr, hload]) rfl ⟨rfl, M2.out.2⟩
set_option maxRecDepth 100000 in
set_option maxHeartbeats 1600000 in
theorem er_Take (h : Et w0 w b rp va X E n L) (hd : E.data.length ≤ 70368744177664) (ht : 0 ≤ E.taken ∧ E.taken ≤ 70368744177664) : Calls Tryz.prog 25 #[.pointer (some ⟨b, 0, Option.none⟩)] w fun e w' => e = .returned (.tuple #[.string (S E.data), .int .i64 E.taken]) ∧ Et w0 w' b rp va X (erTook E) n L ∧ Keep [b] w w' := by
  have c9 := h.blk.get (g_data E rp va); have c10 := h.blk.get (g_taken E rp va); have M0 : Hid (MemK w [b] w0 w [(b, 106, E.cells rp va)]) := Lib.hid (MemK.of h.mem.1 [b]); have H := Lib.hid h; clear h; go_enter Tryz.func25, Tryz.ntmps25
  go_upto_region 3 with fail
  go_cut [4, 5] (fun x y wx => x = .string (S E.data) ∧ y = .int .i64 E.taken ∧ Hid (Keep [] w wx))
  case first =>
    go_quiet (fail); go_wp2_with fail; go_meet; exact ⟨rfl, rfl, Lib.hid ((Keep.refl _ _).drewN _)⟩
  obtain ⟨rfl, rfl, kq⟩ := hcut; have MQ := Lib.hid (M0.out.keep0 kq.out); have hsz : (S E.data).size = E.data.length := rfl; clear c9 c10 kq
  go_wp2_with (first | ((with_reducible refine gT 21 ?_); refine wpList_store1K rfl 9 (.tmp 21) _ rfl MQ 0 rfl 9 (by rfl) (.string (S [])) (by rfl) rfl rfl (by kernel_rfl) (by rw [ErS.len]; omega) (fun _ => by simp) ?_; intro w1 M1; have hR := M1.out; simp only [sqC, s_data] at hR; clear M1; have M1 := Lib.hid hR; clear hR; have c10 := M1.out.get 0 rfl 10 (g_taken _ _ _); try simp only [Act.put]) | ((with_reducible refine gT 32 ?_); refine wpList_store1K rfl 3 (.tmp 32) _ rfl M1 0 rfl 10 (by rfl) (.int .i64 (E.taken + (E.data.length : Nat))) (by rfl) rfl rfl (by kernel_rfl) (by rw [ErS.len]; omega) (fun _ => by simp) ?_; intro w2 M2; have hR := M2.out; simp only [sqC, s_taken] at hR; clear M2; have M2 := Lib.hid hR; clear hR; try simp only [Act.put]) | fail); go_ret2; exact ⟨rfl, H.out.own M2.out.2 (M2.out.1.blk 0 rfl) rfl rfl, M2.out.2⟩
end
end Go.Proofs.YtlhnjkekjbbhcaaGreatDoor
namespace Go.Proofs.YtlhnjkekjbbhcaaGreatDoor
open Go.RowKit
theorem cls_num {b : Nat} (h : fNan b = false) : clsM b ≠ 1 := by
  unfold clsM; rw [h]; cases fInfN b <;> cases fInfP b <;> cases fNeg b <;> cases fPos b <;> cases fSign b <;> simp
set_option maxRecDepth 100000 in
set_option maxHeartbeats 1600000 in
theorem real_isNumber (g x y z : Nat) (w : World) (hx : fNan x = false) (hy : fNan y = false) (hz : fNan z = false) (c0 : w.cell? ⟨g, 0, none⟩ = some (.float .f64 x)) (c1 : w.cell? ⟨g, 1, none⟩ = some (.float .f64 y)) (c2 : w.cell? ⟨g, 2, none⟩ = some (.float .f64 z)) :
    Calls Tryz.prog 109 #[.slice (some ⟨g, 0, none⟩) 3 3] w fun e w' => e = .returned (.bool true) ∧ w = w' := by
  have e1 := (int_ne (cls_num hx)).1; have e2 := (int_ne (cls_num hy)).1; have e3 := (int_ne (cls_num hz)).1; have h1 := real_Class x; have h2 := real_Class y; have h3 := real_Class z; generalize clsM x = a1 at *; generalize clsM y = a2 at *; generalize clsM z = a3 at *; clear hx hy hz; go_enter Tryz.func109, Tryz.ntmps109; go_wp2_with fail
  go_loopg [7] 3 (fun g0 i wr => ∃ k : Nat, i = .int .i64 k ∧ k ≤ 3 ∧ g0 = 3 - k ∧ w = wr)
  case atStart => exact ⟨0, rfl, by omega, rfl, rfl⟩
  case round =>
    obtain ⟨k, rfl, hk, rfl, rfl⟩ := hrel; have hc : k = 0 ∨ k = 1 ∨ k = 2 ∨ k = 3 := by omega
    clear hk; rcases hc with rfl | rfl | rfl | rfl
    · go_wp2_with (go_at_call 101; refine (h1 _).mono ?_; rintro e w' ⟨rfl, rfl⟩)
      go_roundg 2
      case rel => exact ⟨1, rfl, by omega, by omega, rfl⟩
      case measure => omega
    · go_wp2_with (go_at_call 101; refine (h2 _).mono ?_; rintro e w' ⟨rfl, rfl⟩)
      go_roundg 1
      case rel => exact ⟨2, rfl, by omega, by omega, rfl⟩
      case measure => omega
    · go_wp2_with (go_at_call 101; refine (h3 _).mono ?_; rintro e w' ⟨rfl, rfl⟩)
      go_roundg 0
      case rel => exact ⟨3, rfl, by omega, by omega, rfl⟩
      case measure => omega
    · go_wp2_with fail; go_ret; exact ⟨rfl, rfl⟩
theorem less_mx : fLess 4697254411347427328 0 = false := by decide +kernel
theorem notNan_0 : fNan 0 = false := by decide +kernel
theorem notNan_mx : fNan 4697254411347427328 = false := by decide +kernel
set_option maxRecDepth 100000 in
set_option maxHeartbeats 1600000 in
theorem real_Clamp (x : Nat) (w : World) (hx : fNan x = false) :
    Calls Tryz.prog 68 #[.float .f64 x, .float .f64 0, .float .f64 4697254411347427328] w fun e w' => e = .returned (.float .f64 (clampM x)) ∧ Keep [] w w' := by
  have h1 := real_Less 4697254411347427328 0; rw [less_mx] at h1; have h2 := real_Less x 0; have h3 := real_Less 4697254411347427328 x; have HR : Hid (clampM x = _) := Lib.hid (show clampM x = if fLess x 0 then 0 else if fLess 4697254411347427328 x then 4697254411347427328 else x from rfl); have HN := Lib.hid (fun g w' c0 c1 c2 => real_isNumber g x 0 4697254411347427328 w' hx notNan_0 notNan_mx c0 c1 c2); have M0 : Hid (Mem w w []) := Lib.hid (Mem.nil w); clear hx; have MB := M0.out.allocA [.float .f64 x, .float .f64 0, .float .f64 4697254411347427328] #[.float .f64 x, .float .f64 0, .float .f64 4697254411347427328] rfl 45; have HC := Lib.hid (HN.out _ _ (MB.get 0 rfl 0 rfl) (MB.get 0 rfl 1 rfl) (MB.get 0 rfl 2 rfl)); have KB := Lib.hid MB.kp; clear MB M0 HN; cases hl : fLess x 0 <;> cases hm : fLess 4697254411347427328 x
  all_goals
    rw [hl] at h2 HR; rw [hm] at h3 HR; go_enter Tryz.func68, Tryz.ntmps68
    go_wp2_with (first | (go_at_call 109; refine HC.out.mono ?_; rintro e w' ⟨rfl, rfl⟩) | (go_at_call 110; with_reducible refine (h1 _).mono ?_; rintro e w' ⟨rfl, rfl⟩) | (go_at_call 110; with_reducible refine (h2 _).mono ?_; rintro e w' ⟨rfl, rfl⟩) | (go_at_call 110; with_reducible refine (h3 _).mono ?_; rintro e w' ⟨rfl, rfl⟩) | fail); go_ret; exact ⟨by rw [HR.out]; rfl, KB.out⟩
theorem clamp_notNan {y : Nat} (hy : fNan y = false) : fNan (clampM y) = false := by
  unfold clampM
  split
  · exact notNan_0
  · split
    · exact notNan_mx
    · exact hy
theorem wait_no {b : Nat} {t : Int} (h : goodSp b = false ∨ t < 1 ∨ fZero b = true) : waitM b t = 0 := by unfold waitM; rw [if_pos h]
theorem wait_yes {b : Nat} {t : Int} (h1 : goodSp b = true) (h2 : 1 ≤ t) (h3 : fZero b = false) : waitM b t = intM (ceilM (clampM (ldexpM b (min t 60 - 1)))) := by
  unfold waitM; rw [if_neg (by rw [h1, h3]; simp; omega)]
set_option maxRecDepth 100000 in
set_option maxHeartbeats 4000000 in
theorem term_Wait (b : Nat) (t : Int) (hb : b < 18446744073709551616) (w : World) :
    Calls Tryz.prog 31 #[.float .f64 b, .int .i64 t] w fun e w' => e = .returned (.int .i64 (waitM b t)) ∧ Keep [] w w' := by
  have hg := term_Good b; have e1 : (FloatKind.f64.format.order b 0 == some .eq) = fZero b := rfl
  cases h1 : goodSp b with
  | false =>
    have HR := Lib.hid (wait_no (t := t) (.inl h1)); rw [h1] at hg; clear e1 hb; go_enter Tryz.func31, Tryz.ntmps31; go_wp2_with (go_at_call 59; refine (hg _).mono ?_; rintro e w' ⟨rfl, rfl⟩); go_ret; exact ⟨by rw [HR.out]; rfl, Keep.refl _ _⟩
  | true =>
    rw [h1] at hg; by_cases h2 : t < 1
    · have HR := Lib.hid (wait_no (b := b) (.inr (.inl h2))); clear e1 hb; go_enter Tryz.func31, Tryz.ntmps31; go_wp2_with (go_at_call 59; refine (hg _).mono ?_; rintro e w' ⟨rfl, rfl⟩); go_ret; exact ⟨by rw [HR.out]; rfl, Keep.refl _ _⟩
    · cases h3 : fZero b with
      | true =>
        have HR := Lib.hid (wait_no (t := t) (.inr (.inr h3))); rw [h3] at e1; clear hb; go_enter Tryz.func31, Tryz.ntmps31; go_wp2_with (go_at_call 59; refine (hg _).mono ?_; rintro e w' ⟨rfl, rfl⟩); go_ret; exact ⟨by rw [HR.out]; rfl, Keep.refl _ _⟩
      | false =>
        rw [h3] at e1; have HR := Lib.hid (wait_yes h1 (show 1 ≤ t by omega) h3); have hn := good_notNan h1; obtain ⟨n, hnn⟩ : ∃ n, min t 60 - 1 = n := ⟨_, rfl⟩
        rw [hnn] at HR; have hn0 : 0 ≤ n ∧ n ≤ 60 := by omega
        have HM := Lib.hid hnn; obtain ⟨y1, y2⟩ := ldexp_ok hb hn n; have hL := fun w' => math_Ldexp b n w' hn0 hb h3 hn
        have HI := (wait_int (n := n) hb hn).1; have hC := fun w' => real_Clamp (ldexpM b n) w' y1
        have hE := fun w' => math_Ceil (clampM (ldexpM b n)) (clamp_notNan y1) w'
        have hV := run_convert_float_int (P := Tryz.prog) (w := w); generalize ldexpM b n = y at *; generalize clampM y = z at *; generalize ceilM z = u at *; have hcv := fun w' => run_convert_float_int (P := Tryz.prog) w' 45 3 .f64 .i64 u _ (by kernel_rfl) Tryz.underlying3 HI
        clear HI hV y2 hb h1 h3 hn y1 hnn; have hmin : min t 60 = n + 1 := by have := HM.out; omega
        clear HM; go_enter Tryz.func31, Tryz.ntmps31
        go_wp2_with (first | (go_at_call 59; refine (hg _).mono ?_; rintro e w' ⟨rfl, rfl⟩) | (go_at_call 67; refine (hL _).mono ?_; rintro e w' ⟨rfl, rfl⟩) | (go_at_call 68; refine (hC _).mono ?_; rintro e wk ⟨rfl, kk⟩; have KK := Lib.hid kk; clear kk) | (go_at_call 66; refine (hE _).mono ?_; rintro e w' ⟨rfl, rfl⟩) | fail); go_ret; exact ⟨by rw [HR.out]; rfl, KK.out⟩
end Go.Proofs.YtlhnjkekjbbhcaaGreatDoor
