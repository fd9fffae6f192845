/- Parts of the proof of ErrandTries, in order. No conditions but those that each theorem states. -/
import Derived.Test.YtlhnjkekjbbhcaaGreatDoorYErrandTries0
import Derived.Lib.SlBytesConst
import Derived.Lib.LaidTab
import Derived.Lib.ItoaNum
import Derived.Lib.ItoaLen
import Derived.Sort.Grow
import Derived.Deep.MidRow
import Derived.Test.YtlhnjkekjbbhcaaGreatDoorYErrandTries32
set_option linter.unusedSimpArgs false
set_option linter.unusedVariables false
namespace Go.Proofs.YtlhnjkekjbbhcaaGreatDoor
open Go.RowKit Go.Shelf
section
variable {w0 w : World} {b n : Nat} {rp va : Value} {X L : List Nat} {E : ErS}
set_option maxRecDepth 100000 in
set_option maxHeartbeats 400000 in
theorem er_State (h : Et w0 w b rp va X E n L) : Calls Tryz.prog 18 #[.pointer (some ⟨b, 0, Option.none⟩)] w fun e w' => e = .returned (.int .i64 E.state) ∧ w = w' := by
  have c := h.blk.get (g_state E rp va); clear h; go_enter Tryz.func18, Tryz.ntmps18; go_wp2_with fail; go_ret; exact ⟨rfl, rfl⟩
set_option maxRecDepth 100000 in
set_option maxHeartbeats 400000 in
theorem er_Tries (h : Et w0 w b rp va X E n L) : Calls Tryz.prog 20 #[.pointer (some ⟨b, 0, Option.none⟩)] w fun e w' => e = .returned (.int .i64 E.tries) ∧ w = w' := by
  have c := h.blk.get (g_tries E rp va); clear h; go_enter Tryz.func20, Tryz.ntmps20; go_wp2_with fail; go_ret; exact ⟨rfl, rfl⟩
set_option maxRecDepth 100000 in
set_option maxHeartbeats 400000 in
theorem er_Misses (h : Et w0 w b rp va X E n L) : Calls Tryz.prog 26 #[.pointer (some ⟨b, 0, Option.none⟩)] w fun e w' => e = .returned (.int .i64 E.misses) ∧ w = w' := by
  have c := h.blk.get (g_misses E rp va); clear h; go_enter Tryz.func26, Tryz.ntmps26; go_wp2_with fail; go_ret; exact ⟨rfl, rfl⟩
set_option maxRecDepth 100000 in
set_option maxHeartbeats 400000 in
theorem er_Silent (h : Et w0 w b rp va X E n L) : Calls Tryz.prog 27 #[.pointer (some ⟨b, 0, Option.none⟩)] w fun e w' => e = .returned (.int .i64 E.silent) ∧ w = w' := by
  have c := h.blk.get (g_silent E rp va); clear h; go_enter Tryz.func27, Tryz.ntmps27; go_wp2_with fail; go_ret; exact ⟨rfl, rfl⟩
set_option maxRecDepth 100000 in
set_option maxHeartbeats 400000 in
theorem er_Heard (h : Et w0 w b rp va X E n L) : Calls Tryz.prog 28 #[.pointer (some ⟨b, 0, Option.none⟩)] w fun e w' => e = .returned (.int .i64 E.heard) ∧ w = w' := by
  have c := h.blk.get (g_heard E rp va); clear h; go_enter Tryz.func28, Tryz.ntmps28; go_wp2_with fail; go_ret; exact ⟨rfl, rfl⟩
set_option maxRecDepth 100000 in
set_option maxHeartbeats 400000 in
theorem er_Reuse (h : Et w0 w b rp va X E n L) : Calls Tryz.prog 42 #[.pointer (some ⟨b, 0, Option.none⟩)] w fun e w' => e = .returned (.bool E.reuse) ∧ w = w' := by
  have c := h.blk.get (g_reuse E rp va); clear h; go_enter Tryz.func42, Tryz.ntmps42; go_wp2_with fail; go_ret; exact ⟨rfl, rfl⟩
set_option maxRecDepth 100000 in
set_option maxHeartbeats 800000 in
theorem er_Wants (h : Et w0 w b rp va X E n L) (now : Int) : Calls Tryz.prog 21 #[.pointer (some ⟨b, 0, Option.none⟩), .int .i64 now] w fun e w' => e = .returned (.bool (decide (E.state = 1) && decide (E.unt ≤ now))) ∧ w = w' := by
  have c := h.blk.get (g_unt E rp va); have hs := er_State h; clear h; by_cases h1 : E.state = 1
  · have e1 := (int_eq h1).1; rw [decide_eq_true h1]; generalize E.state = x at *; clear h1; go_enter Tryz.func21, Tryz.ntmps21; go_wp2_with (go_at_call 18; refine hs.mono ?_; rintro e w' ⟨rfl, rfl⟩); go_ret; exact ⟨rfl, rfl⟩
  · have e1 := (int_ne h1).1; rw [decide_eq_false h1]; generalize E.state = x at *; clear h1; go_enter Tryz.func21, Tryz.ntmps21; go_wp2_with (go_at_call 18; refine hs.mono ?_; rintro e w' ⟨rfl, rfl⟩); go_ret; exact ⟨rfl, rfl⟩
set_option maxRecDepth 100000 in
set_option maxHeartbeats 800000 in
theorem er_Result (h : Et w0 w b rp va X E n L) : Calls Tryz.prog 19 #[.pointer (some ⟨b, 0, Option.none⟩)] w fun e w' => e = .returned (.agg E.res.cells.toArray) ∧ Keep [] w w' := by
  have M0 : Hid (MemK w [] w0 w [(b, 106, E.cells rp va)]) := Lib.hid (MemK.of h.mem.1 []); clear h; go_enter Tryz.func19, Tryz.ntmps19
  go_wp2_with (first | ((with_reducible refine gA 2 ?_); refine wpList_allocK rfl 39 rfl (rs0.cells) (Lib.hid rs_zero) M0 ?_; intro c w1 M1 hnewc; try simp only [Act.put, sqA, sqB, sqC]) | ((with_reducible refine gL 9 8 ?_); refine wpList_loadPartK (by rfl) 39 (.tmp 8) rfl M1 1 rfl 102 (by rfl) (E.res.cells) (fun j v hv => (er_res E rp va (by have := (List.getElem?_eq_some_iff.1 hv).1; rw [Rs.len] at this; exact this)).trans hv) _ Tryz.underlying39 rfl (rs_size _) ?_; try simp only [Act.put, sqA, sqB, sqC]) | ((with_reducible refine gS 2 9 ?_); refine wpList_storeK rfl 39 (.tmp 2) (.tmp 9) rfl M1 0 rfl (by rfl) (E.res.cells) (by rfl) (rs_size _) (by rw [Rs.len, Rs.len]) (Rs.one _) (fun hlt => absurd hnewc.out (by omega)) ?_; intro w2 M2; try simp only [Act.put]) | fail); have hload := rs_end M2.out.1 0 rfl; refine bodyPost_ret (v := .agg E.res.cells.toArray) (by simp [results, Tryz.results19, asAddr, hload]) rfl ⟨rfl, M2.out.2⟩
set_option maxRecDepth 100000 in
set_option maxHeartbeats 1600000 in
theorem er_Take (h : Et w0 w b rp va X E n L) (hd : E.data.length ≤ 70368744177664) (ht : 0 ≤ E.taken ∧ E.taken ≤ 70368744177664) : Calls Tryz.prog 25 #[.pointer (some ⟨b, 0, Option.none⟩)] w fun e w' => e = .returned (.tuple #[.string (S E.data), .int .i64 E.taken]) ∧ Et w0 w' b rp va X (erTook E) n L ∧ Keep [b] w w' := by
  have c9 := h.blk.get (g_data E rp va); have c10 := h.blk.get (g_taken E rp va); have M0 : Hid (MemK w [b] w0 w [(b, 106, E.cells rp va)]) := Lib.hid (MemK.of h.mem.1 [b]); have H := Lib.hid h; clear h; go_enter Tryz.func25, Tryz.ntmps25
  go_upto_region 3 with fail
  go_cut [4, 5] (fun x y wx => x = .string (S E.data) ∧ y = .int .i64 E.taken ∧ Hid (Keep [] w wx))
  case first =>
    go_quiet (fail); go_wp2_with fail; go_meet; exact ⟨rfl, rfl, Lib.hid ((Keep.refl _ _).drewN _)⟩
  obtain ⟨rfl, rfl, kq⟩ := hcut; have MQ := Lib.hid (M0.out.keep0 kq.out); have hsz : (S E.data).size = E.data.length := rfl; clear c9 c10 kq
  go_wp2_with (first | ((with_reducible refine gT 21 ?_); refine wpList_store1K rfl 9 (.tmp 21) _ rfl MQ 0 rfl 9 (by rfl) (.string (S [])) (by rfl) rfl rfl (by kernel_rfl) (by rw [ErS.len]; omega) (fun _ => by simp) ?_; intro w1 M1; have hR := M1.out; simp only [sqC, s_data] at hR; clear M1; have M1 := Lib.hid hR; clear hR; have c10 := M1.out.get 0 rfl 10 (g_taken _ _ _); try simp only [Act.put]) | ((with_reducible refine gT 32 ?_); refine wpList_store1K rfl 3 (.tmp 32) _ rfl M1 0 rfl 10 (by rfl) (.int .i64 (E.taken + (E.data.length : Nat))) (by rfl) rfl rfl (by kernel_rfl) (by rw [ErS.len]; omega) (fun _ => by simp) ?_; intro w2 M2; have hR := M2.out; simp only [sqC, s_taken] at hR; clear M2; have M2 := Lib.hid hR; clear hR; try simp only [Act.put]) | fail); go_ret2; exact ⟨rfl, H.out.own M2.out.2 (M2.out.1.blk 0 rfl) rfl rfl, M2.out.2⟩
end
end Go.Proofs.YtlhnjkekjbbhcaaGreatDoor
namespace Go.Proofs.YtlhnjkekjbbhcaaGreatDoor
open Go.RowKit
theorem cls_num {b : Nat} (h : fNan b = false) : clsM b ≠ 1 := by
  unfold clsM; rw [h]; cases fInfN b <;> cases fInfP b <;> cases fNeg b <;> cases fPos b <;> cases fSign b <;> simp
set_option maxRecDepth 100000 in
set_option maxHeartbeats 1600000 in
theorem real_isNumber (g x y z : Nat) (w : World) (hx : fNan x = false) (hy : fNan y = false) (hz : fNan z = false) (c0 : w.cell? ⟨g, 0, none⟩ = some (.float .f64 x)) (c1 : w.cell? ⟨g, 1, none⟩ = some (.float .f64 y)) (c2 : w.cell? ⟨g, 2, none⟩ = some (.float .f64 z)) :
    Calls Tryz.prog 109 #[.slice (some ⟨g, 0, none⟩) 3 3] w fun e w' => e = .returned (.bool true) ∧ w = w' := by
  have e1 := (int_ne (cls_num hx)).1; have e2 := (int_ne (cls_num hy)).1; have e3 := (int_ne (cls_num hz)).1; have h1 := real_Class x; have h2 := real_Class y; have h3 := real_Class z; generalize clsM x = a1 at *; generalize clsM y = a2 at *; generalize clsM z = a3 at *; clear hx hy hz; go_enter Tryz.func109, Tryz.ntmps109; go_wp2_with fail
  go_loopg [7] 3 (fun g0 i wr => ∃ k : Nat, i = .int .i64 k ∧ k ≤ 3 ∧ g0 = 3 - k ∧ w = wr)
  case atStart => exact ⟨0, rfl, by omega, rfl, rfl⟩
  case round =>
    obtain ⟨k, rfl, hk, rfl, rfl⟩ := hrel; have hc : k = 0 ∨ k = 1 ∨ k = 2 ∨ k = 3 := by omega
    clear hk; rcases hc with rfl | rfl | rfl | rfl
    · go_wp2_with (go_at_call 101; refine (h1 _).mono ?_; rintro e w' ⟨rfl, rfl⟩)
      go_roundg 2
      case rel => exact ⟨1, rfl, by omega, by omega, rfl⟩
      case measure => omega
    · go_wp2_with (go_at_call 101; refine (h2 _).mono ?_; rintro e w' ⟨rfl, rfl⟩)
      go_roundg 1
      case rel => exact ⟨2, rfl, by omega, by omega, rfl⟩
      case measure => omega
    · go_wp2_with (go_at_call 101; refine (h3 _).mono ?_; rintro e w' ⟨rfl, rfl⟩)
      go_roundg 0
      case rel => exact ⟨3, rfl, by omega, by omega, rfl⟩
      case measure => omega
    · go_wp2_with fail; go_ret; exact ⟨rfl, rfl⟩
theorem less_mx : fLess 4697254411347427328 0 = false := by decide +kernel
theorem notNan_0 : fNan 0 = false := by decide +kernel
theorem notNan_mx : fNan 4697254411347427328 = false := by decide +kernel
set_option maxRecDepth 100000 in
set_option maxHeartbeats 1600000 in
theorem real_Clamp (x : Nat) (w : World) (hx : fNan x = false) :
    Calls Tryz.prog 68 #[.float .f64 x, .float .f64 0, .float .f64 4697254411347427328] w fun e w' => e = .returned (.float .f64 (clampM x)) ∧ Keep [] w w' := by
  have h1 := real_Less 4697254411347427328 0; rw [less_mx] at h1; have h2 := real_Less x 0; have h3 := real_Less 4697254411347427328 x; have HR : Hid (clampM x = _) := Lib.hid (show clampM x = if fLess x 0 then 0 else if fLess 4697254411347427328 x then 4697254411347427328 else x from rfl); have HN := Lib.hid (fun g w' c0 c1 c2 => real_isNumber g x 0 4697254411347427328 w' hx notNan_0 notNan_mx c0 c1 c2); have M0 : Hid (Mem w w []) := Lib.hid (Mem.nil w); clear hx; have MB := M0.out.allocA [.float .f64 x, .float .f64 0, .float .f64 4697254411347427328] #[.float .f64 x, .float .f64 0, .float .f64 4697254411347427328] rfl 45; have HC := Lib.hid (HN.out _ _ (MB.get 0 rfl 0 rfl) (MB.get 0 rfl 1 rfl) (MB.get 0 rfl 2 rfl)); have KB := Lib.hid MB.kp; clear MB M0 HN; cases hl : fLess x 0 <;> cases hm : fLess 4697254411347427328 x
  all_goals
    rw [hl] at h2 HR; rw [hm] at h3 HR; go_enter Tryz.func68, Tryz.ntmps68
    go_wp2_with (first | (go_at_call 109; refine HC.out.mono ?_; rintro e w' ⟨rfl, rfl⟩) | (go_at_call 110; with_reducible refine (h1 _).mono ?_; rintro e w' ⟨rfl, rfl⟩) | (go_at_call 110; with_reducible refine (h2 _).mono ?_; rintro e w' ⟨rfl, rfl⟩) | (go_at_call 110; with_reducible refine (h3 _).mono ?_; rintro e w' ⟨rfl, rfl⟩) | fail); go_ret; exact ⟨by rw [HR.out]; rfl, KB.out⟩
theorem clamp_notNan {y : Nat} (hy : fNan y = false) : fNan (clampM y) = false := by
  unfold clampM
  split
  · exact notNan_0
  · split
    · exact notNan_mx
    · exact hy
theorem wait_no {b : Nat} {t : Int} (h : goodSp b = false ∨ t < 1 ∨ fZero b = true) : waitM b t = 0 := by unfold waitM; rw [if_pos h]
theorem wait_yes {b : Nat} {t : Int} (h1 : goodSp b = true) (h2 : 1 ≤ t) (h3 : fZero b = false) : waitM b t = intM (ceilM (clampM (ldexpM b (min t 60 - 1)))) := by
  unfold waitM; rw [if_neg (by rw [h1, h3]; simp; omega)]
set_option maxRecDepth 100000 in
set_option maxHeartbeats 4000000 in
theorem term_Wait (b : Nat) (t : Int) (hb : b < 18446744073709551616) (w : World) :
    Calls Tryz.prog 31 #[.float .f64 b, .int .i64 t] w fun e w' => e = .returned (.int .i64 (waitM b t)) ∧ Keep [] w w' := by
  have hg := term_Good b; have e1 : (FloatKind.f64.format.order b 0 == some .eq) = fZero b := rfl
  cases h1 : goodSp b with
  | false =>
    have HR := Lib.hid (wait_no (t := t) (.inl h1)); rw [h1] at hg; clear e1 hb; go_enter Tryz.func31, Tryz.ntmps31; go_wp2_with (go_at_call 59; refine (hg _).mono ?_; rintro e w' ⟨rfl, rfl⟩); go_ret; exact ⟨by rw [HR.out]; rfl, Keep.refl _ _⟩
  | true =>
    rw [h1] at hg; by_cases h2 : t < 1
    · have HR := Lib.hid (wait_no (b := b) (.inr (.inl h2))); clear e1 hb; go_enter Tryz.func31, Tryz.ntmps31; go_wp2_with (go_at_call 59; refine (hg _).mono ?_; rintro e w' ⟨rfl, rfl⟩); go_ret; exact ⟨by rw [HR.out]; rfl, Keep.refl _ _⟩
    · cases h3 : fZero b with
      | true =>
        have HR := Lib.hid (wait_no (t := t) (.inr (.inr h3))); rw [h3] at e1; clear hb; go_enter Tryz.func31, Tryz.ntmps31; go_wp2_with (go_at_call 59; refine (hg _).mono ?_; rintro e w' ⟨rfl, rfl⟩); go_ret; exact ⟨by rw [HR.out]; rfl, Keep.refl _ _⟩
      | false =>
        rw [h3] at e1; have HR := Lib.hid (wait_yes h1 (show 1 ≤ t by omega) h3); have hn := good_notNan h1; obtain ⟨n, hnn⟩ : ∃ n, min t 60 - 1 = n := ⟨_, rfl⟩
        rw [hnn] at HR; have hn0 : 0 ≤ n ∧ n ≤ 60 := by omega
        have HM := Lib.hid hnn; obtain ⟨y1, y2⟩ := ldexp_ok hb hn n; have hL := fun w' => math_Ldexp b n w' hn0 hb h3 hn
        have HI := (wait_int (n := n) hb hn).1; have hC := fun w' => real_Clamp (ldexpM b n) w' y1
        have hE := fun w' => math_Ceil (clampM (ldexpM b n)) (clamp_notNan y1) w'
        have hV := run_convert_float_int (P := Tryz.prog) (w := w); generalize ldexpM b n = y at *; generalize clampM y = z at *; generalize ceilM z = u at *; have hcv := fun w' => run_convert_float_int (P := Tryz.prog) w' 45 3 .f64 .i64 u _ (by kernel_rfl) Tryz.underlying3 HI
        clear HI hV y2 hb h1 h3 hn y1 hnn; have hmin : min t 60 = n + 1 := by have := HM.out; omega
        clear HM; go_enter Tryz.func31, Tryz.ntmps31
        go_wp2_with (first | (go_at_call 59; refine (hg _).mono ?_; rintro e w' ⟨rfl, rfl⟩) | (go_at_call 67; refine (hL _).mono ?_; rintro e w' ⟨rfl, rfl⟩) | (go_at_call 68; refine (hC _).mono ?_; rintro e wk ⟨rfl, kk⟩; have KK := Lib.hid kk; clear kk) | (go_at_call 66; refine (hE _).mono ?_; rintro e w' ⟨rfl, rfl⟩) | fail); go_ret; exact ⟨by rw [HR.out]; rfl, KK.out⟩
end Go.Proofs.YtlhnjkekjbbhcaaGreatDoor
namespace Go.Proofs.YtlhnjkekjbbhcaaGreatDoor
open Go.RowKit Go.Shelf
theorem bd_rsOf (a : Int) : Tryz.prog.built 39 [(0, .int .i64 a)] = some (rsOf a).cells.toArray := by kernel_rfl
section
variable {w0 w : World} {b n : Nat} {rp va : Value} {X L : List Nat} {E : ErS}
set_option maxRecDepth 100000 in
set_option maxHeartbeats 1600000 in
theorem er_finish (h : Et w0 w b rp va X E n L) (r : Rs) : Calls Tryz.prog 69 #[.pointer (some ⟨b, 0, Option.none⟩), .agg r.cells.toArray] w fun e w' => e = .returned (.tuple #[]) ∧ Et w0 w' b rp va X (erFin E r) n L ∧ Keep [b] w w' := by
  have M0 : Hid (MemK w [b] w0 w [(b, 106, E.cells rp va)]) := Lib.hid (MemK.of h.mem.1 [b]); have H := Lib.hid h; clear h; go_enter Tryz.func69, Tryz.ntmps69
  go_upto_region 1 with (first | ((with_reducible refine gX 3 ?_); refine wpList_boxK rfl 39 (.tmp 1) rfl (r.cells) (by rfl) M0 ?_; intro c w1 M1 hnewc; try simp only [Act.put, sqA, sqB, sqC]) | fail)
  refine wp_region_noPanic ?_; refine wp_region_held_drew (S := fun w' => ∃ cs, MemK w [b] w0 w' [(c, 39, r.cells), (b, 106, cs)]) (by kernel_rfl) (⟨_, (Lib.hid (M1.out.keep0 ((Keep.refl _ _).drew))).out⟩) (fun hHeld => ?_); have M1d := Lib.hid (M1.out.keep0 ((Keep.refl _ _).drew)); refine gU 0 (oi := ⟨some 4, .move (.tmp 0), _, _, _, none⟩) (v := ?_) rfl (Or.inl ⟨by rfl, ?_⟩) (by assumption) ?_; rotate_left
  · (intro w' hSw; go_simp) <;> (with_reducible rfl)
  (try simp only [Act.put, sqA, sqC, sqB]); refine gU 1 (oi := ⟨some 5, .move (.tmp 0), _, _, _, none⟩) (v := ?_) rfl (Or.inl ⟨by rfl, ?_⟩) (by assumption) ?_; rotate_left
  · (intro w' hSw; go_simp) <;> (with_reducible rfl)
  (try simp only [Act.put, sqA, sqC, sqB]); refine gU 2 (oi := ⟨some 6, .load _ (.tmp 3), _, _, _, none⟩) rfl (yieldsIf_load_mid (by rfl) 39 (.tmp 3) rfl _ 0 (by rfl) (r.cells) _ (fun w' hSw => ((hSw.choose_spec).1.blk 0 (by rfl)).range') Tryz.underlying39 rfl (rs_size r)) (by assumption) ?_; (try simp only [Act.put, sqA, sqC, sqB]); refine gU 3 (oi := ⟨some 7, .nilCheck (.tmp 4), _, _, _, none⟩) (v := ?_) rfl (Or.inl ⟨by rfl, ?_⟩) (by assumption) ?_; rotate_left
  · (intro w' hSw; go_simp) <;> (with_reducible rfl)
  (try simp only [Act.put, sqA, sqC, sqB]); refine gU 4 (oi := ⟨some 8, .fieldAddr _ (.tmp 7) 4, _, _, _, none⟩) (v := ?_) rfl (Or.inl ⟨by rfl, ?_⟩) (by assumption) ?_; rotate_left
  · (intro w' hSw; go_simp) <;> (with_reducible rfl)
  (try simp only [Act.put, sqA, sqC, sqB]); refine gR 5 rfl (fun K hK => ?_); rw [if_pos (by rfl)]; refine wp_store1K 3 (.tmp 8) _ rfl M1d 1 rfl 100 (by rfl) (.int .i64 3) (by rfl) rfl rfl (by kernel_rfl) (by rw [ErS.len]; omega) (fun _ => by simp) ?_; intro wr1 MR1; have hR := MR1.out; simp only [sqC, sqB, s_state] at hR; clear MR1; have MR1 := Lib.hid hR; clear hR; refine hK.out _ _ (⟨_, MR1.out⟩) (fun hHeld => ?_); clear hK K; (try simp only [Act.put, sqA]); refine gU 6 (oi := ⟨some 9, .nilCheck (.tmp 5), _, _, _, none⟩) (v := ?_) rfl (Or.inl ⟨by rfl, ?_⟩) (by assumption) ?_; rotate_left
  · (intro w' hSw; go_simp) <;> (with_reducible rfl)
  (try simp only [Act.put]); refine gU 7 (oi := ⟨some 10, .fieldAddr _ (.tmp 9) 6, _, _, _, none⟩) (v := ?_) rfl (Or.inl ⟨by rfl, ?_⟩) (by assumption) ?_; rotate_left
  · (intro w' hSw; go_simp) <;> (with_reducible rfl)
  (try simp only [Act.put]); refine gR 8 rfl (fun K hK => ?_); rw [if_pos (by rfl)]; refine wp_storePartK 39 (.tmp 10) _ rfl MR1 1 rfl 102 (by rfl) (r.cells) (by rfl) (rs_size r) (ErS.upto { E with state := 3 } rp va) (E.res.cells) (E.low) (p_res _ _ _) (by rw [Rs.len, Rs.len]) (ErS.upto_len _ _ _).symm (Rs.one r) (fun _ => by simp) ?_; intro wr2 MR2; have hR := MR2.out; simp only [sqC, sqB, (show ErS.upto { E with state := 3 } rp va ++ r.cells ++ E.low = (erFin E r).cells rp va from p_res' { E with state := 3 } rp va r)] at hR; clear MR2; have MR2 := Lib.hid hR; clear hR; refine hK.out _ _ (⟨_, MR2.out⟩) (fun hHeld => ?_); clear hK K; (try simp only [Act.put]); refine wpAnyH_done (by kernel_rfl) ?_ _; refine NoPanic.normal ?_; go_wp2_with fail
  first | go_end0 | refine bodyPost_ret (results_none rfl _ _ _) rfl ?_
  exact ⟨rfl, H.out.own MR2.out.2 (MR2.out.1.blk 1 rfl) rfl rfl, MR2.out.2⟩
theorem miss_last {E : ErS} {s now : Int} (h : E.cfg.re < E.tries) : erMiss E s now = erFin { E with misses := E.misses + 1 } (rsOf s) := by unfold erMiss; rw [if_pos h]
theorem miss_wait {E : ErS} {s now : Int} (h : ¬ E.cfg.re < E.tries) : erMiss E s now = { E with misses := E.misses + 1, state := 1, unt := now + waitM E.cfg.bo E.tries } := by unfold erMiss; rw [if_neg h]
def smallE (E : ErS) (now : Int) : Prop := (0 ≤ E.misses ∧ E.misses ≤ 1152921504606846976) ∧ (0 ≤ now ∧ now ≤ 1152921504606846976) ∧ E.cfg.bo < 18446744073709551616
set_option maxRecDepth 100000 in
set_option maxHeartbeats 1600000 in
theorem er_miss (h : Et w0 w b rp va X E n L) (s now : Int) (hs : smallE E now) : Calls Tryz.prog 65 #[.pointer (some ⟨b, 0, Option.none⟩), .int .i64 s, .int .i64 now] w fun e w' => e = .returned (.tuple #[]) ∧ Et w0 w' b rp va X (erMiss E s now) n L ∧ Keep [b] w w' := by
  have c139 := h.blk.get (g_misses E rp va); have M0 : Hid (MemK w [b] w0 w [(b, 106, E.cells rp va)]) := Lib.hid (MemK.of h.mem.1 [b]); have H := Lib.hid h; have HB := Lib.hid (bd_rsOf s); obtain ⟨hm, hnow, hbo⟩ := hs; have hw := wait_ok (t := E.tries) hbo; clear h; by_cases hc : E.cfg.re < E.tries
  · have HR := Lib.hid (miss_last (s := s) (now := now) hc); go_enter Tryz.func65, Tryz.ntmps65
    go_upto_region 1 with (first | ((with_reducible refine gT 12 ?_); refine wpList_store1K rfl 3 (.tmp 12) _ rfl M0 0 rfl 139 (by rfl) (.int .i64 (E.misses + 1)) (by rfl) rfl rfl (by kernel_rfl) (by rw [ErS.len]; omega) (fun _ => by simp) ?_; intro w1 M1; have hR := M1.out; simp only [sqC, s_misses] at hR; clear M1; have M1 := Lib.hid hR; clear hR; have c138 := M1.out.get 0 rfl 138 (g_tries _ _ _); have c54 := M1.out.get 0 rfl 54 (g_re _ _ _); try simp only [Act.put]) | fail)
    clear c139
    go_cut [22] (fun v wx => v = .bool true ∧ Hid (Keep [] w1 wx))
    case first =>
      go_quiet (fail); go_wp2_with fail; go_meet; exact ⟨by first | rfl | exact congrArg Value.bool (decide_eq_true hc), Lib.hid ((Keep.refl _ _).drewN _)⟩
    obtain ⟨rfl, kq⟩ := hcut; have M2 := Lib.hid (M1.out.keep0 kq.out); have HF := Lib.hid (er_finish (H.out.own M2.out.2 (M2.out.1.blk 0 rfl) rfl rfl) (rsOf s)); clear kq c138 c54
    go_wp2_with (first | ((with_reducible refine gB 25 ?_); refine wpList_buildM (by rfl) 39 _ rfl ([(0, .int .i64 s)]) (by simp [Act.eval]) ((rsOf s).cells) HB ?_; try simp only [Act.put, sqA, sqB, sqC]) | fail); refine HF.out.mono ?_; rintro e w3 ⟨rfl, h3, k3⟩; have H3 := Lib.hid h3; have K3 := Lib.hid (M2.out.2.trans k3); clear h3 k3; go_wp2_with fail
    first | go_end0 | refine bodyPost_ret (results_none rfl _ _ _) rfl ?_
    rw [HR.out]; exact ⟨rfl, H3.out, K3.out⟩
  · have HR := Lib.hid (miss_wait (s := s) (now := now) hc); have HW := Lib.hid (fun w' => term_Wait E.cfg.bo E.tries hbo w'); go_enter Tryz.func65, Tryz.ntmps65
    go_upto_region 1 with (first | ((with_reducible refine gT 12 ?_); refine wpList_store1K rfl 3 (.tmp 12) _ rfl M0 0 rfl 139 (by rfl) (.int .i64 (E.misses + 1)) (by rfl) rfl rfl (by kernel_rfl) (by rw [ErS.len]; omega) (fun _ => by simp) ?_; intro w1 M1; have hR := M1.out; simp only [sqC, s_misses] at hR; clear M1; have M1 := Lib.hid hR; clear hR; have c138 := M1.out.get 0 rfl 138 (g_tries _ _ _); have c54 := M1.out.get 0 rfl 54 (g_re _ _ _); try simp only [Act.put]) | fail)
    clear c139
    go_cut [22] (fun v wx => v = .bool false ∧ Hid (Keep [] w1 wx))
    case first =>
      go_quiet (fail); go_wp2_with fail; go_meet; exact ⟨by first | rfl | exact congrArg Value.bool (decide_eq_false hc), Lib.hid ((Keep.refl _ _).drewN _)⟩
    obtain ⟨rfl, kq⟩ := hcut; have M2 := Lib.hid (M1.out.keep0 kq.out); clear kq c138 c54
    go_upto_region 4 with (first | ((with_reducible refine gT 29 ?_); refine wpList_store1K rfl 3 (.tmp 29) _ rfl M2 0 rfl 100 (by rfl) (.int .i64 1) (by rfl) rfl rfl (by kernel_rfl) (by rw [ErS.len]; omega) (fun _ => by simp) ?_; intro w3 M3; have hR := M3.out; simp only [sqC, s_state] at hR; clear M3; have M3 := Lib.hid hR; clear hR; try simp only [Act.put]) | fail)
    have hwrap := Lib.hid (IntWalk.i64_in (now + waitM E.cfg.bo E.tries) (by omega)); have M3' : Hid (MemK w [b] w0 w3 [(b, 106, ({ E with misses := E.misses + 1, state := 1 } : ErS).cells rp va)]) := M3; refine wp_region_noPanic ?_; refine wp_region_held_drew (S := fun w' => w'.cell? ⟨b, 60, Option.none⟩ = some (.float .f64 E.cfg.bo) ∧ w'.cell? ⟨b, 138, Option.none⟩ = some (.int .i64 E.tries)) (by kernel_rfl) (⟨(Lib.hid (M3'.out.keep0 ((Keep.refl _ _).drew))).out.get 0 rfl 60 (g_bo _ _ _), (Lib.hid (M3'.out.keep0 ((Keep.refl _ _).drew))).out.get 0 rfl 138 (g_tries _ _ _)⟩) (fun hHeld => ?_); have M3'd := Lib.hid (M3'.out.keep0 ((Keep.refl _ _).drew)); refine gU 0 (oi := ⟨some 30, .move (.tmp 0), _, _, _, none⟩) (v := ?_) rfl (Or.inl ⟨by rfl, ?_⟩) (by assumption) ?_; rotate_left
    · (intro w' hSw; go_simp) <;> (with_reducible rfl)
    (try simp only [Act.put, sqA, sqC, sqB]); refine gU 1 (oi := ⟨some 31, .move (.tmp 2), _, _, _, none⟩) (v := ?_) rfl (Or.inl ⟨by rfl, ?_⟩) (by assumption) ?_; rotate_left
    · (intro w' hSw; go_simp) <;> (with_reducible rfl)
    (try simp only [Act.put, sqA, sqC, sqB]); refine gU 2 (oi := ⟨some 32, .move (.tmp 0), _, _, _, none⟩) (v := ?_) rfl (Or.inl ⟨by rfl, ?_⟩) (by assumption) ?_; rotate_left
    · (intro w' hSw; go_simp) <;> (with_reducible rfl)
    (try simp only [Act.put, sqA, sqC, sqB]); refine gU 3 (oi := ⟨some 33, .nilCheck (.tmp 32), _, _, _, none⟩) (v := ?_) rfl (Or.inl ⟨by rfl, ?_⟩) (by assumption) ?_; rotate_left
    · (intro w' hSw; go_simp) <;> (with_reducible rfl)
    (try simp only [Act.put, sqA, sqC, sqB]); refine gU 4 (oi := ⟨some 34, .fieldAddr _ (.tmp 33) 2, _, _, _, none⟩) (v := ?_) rfl (Or.inl ⟨by rfl, ?_⟩) (by assumption) ?_; rotate_left
    · (intro w' hSw; go_simp) <;> (with_reducible rfl)
    (try simp only [Act.put, sqA, sqC, sqB]); refine gU 5 (oi := ⟨some 35, .fieldAddr _ (.tmp 34) 11, _, _, _, none⟩) (v := ?_) rfl (Or.inl ⟨by rfl, ?_⟩) (by assumption) ?_; rotate_left
    · (intro w' hSw; go_simp) <;> (with_reducible rfl)
    (try simp only [Act.put, sqA, sqC, sqB]); refine gU 6 (oi := ⟨some 36, .load _ (.tmp 35), _, _, _, none⟩) (v := ?_) rfl (Or.inl ⟨by rfl, ?_⟩) (by assumption) ?_; rotate_left
    · (intro w' hSw; obtain ⟨hy60, hy138⟩ := hSw; go_simp) <;> (with_reducible rfl)
    (try simp only [Act.put, sqA, sqC, sqB]); refine gU 7 (oi := ⟨some 37, .move (.tmp 0), _, _, _, none⟩) (v := ?_) rfl (Or.inl ⟨by rfl, ?_⟩) (by assumption) ?_; rotate_left
    · (intro w' hSw; go_simp) <;> (with_reducible rfl)
    (try simp only [Act.put, sqA, sqC, sqB]); refine gU 8 (oi := ⟨some 38, .nilCheck (.tmp 37), _, _, _, none⟩) (v := ?_) rfl (Or.inl ⟨by rfl, ?_⟩) (by assumption) ?_; rotate_left
    · (intro w' hSw; go_simp) <;> (with_reducible rfl)
    (try simp only [Act.put, sqA, sqC, sqB]); refine gU 9 (oi := ⟨some 39, .fieldAddr _ (.tmp 38) 7, _, _, _, none⟩) (v := ?_) rfl (Or.inl ⟨by rfl, ?_⟩) (by assumption) ?_; rotate_left
    · (intro w' hSw; go_simp) <;> (with_reducible rfl)
    (try simp only [Act.put, sqA, sqC, sqB]); refine gU 10 (oi := ⟨some 40, .load _ (.tmp 39), _, _, _, none⟩) (v := ?_) rfl (Or.inl ⟨by rfl, ?_⟩) (by assumption) ?_; rotate_left
    · (intro w' hSw; obtain ⟨hy60, hy138⟩ := hSw; go_simp) <;> (with_reducible rfl)
    (try simp only [Act.put, sqA, sqC, sqB]); refine gR 11 rfl (fun K hK => ?_); go_simp; refine (HW.out _).mono ?_; rintro e wr1 ⟨rfl, kR⟩; have MR1 := Lib.hid (M3'd.out.keep0 kR); clear kR; (try go_simp); refine hK.out _ _ (⟨MR1.out.get 0 rfl 60 (g_bo _ _ _), MR1.out.get 0 rfl 138 (g_tries _ _ _)⟩) (fun hHeld => ?_); clear hK K; (try simp only [Act.put, sqA, sqC, sqB]); refine gU 12 (oi := ⟨some 42, .binOp _ _ _ _ _, _, _, _, none⟩) (v := ?_) rfl (Or.inl ⟨by rfl, ?_⟩) (by assumption) ?_; rotate_left
    · (intro w' hSw; go_simp) <;> (with_reducible rfl)
    (try simp only [Act.put, sqA, sqC, sqB]); refine gU 13 (oi := ⟨some 43, .nilCheck (.tmp 30), _, _, _, none⟩) (v := ?_) rfl (Or.inl ⟨by rfl, ?_⟩) (by assumption) ?_; rotate_left
    · (intro w' hSw; go_simp) <;> (with_reducible rfl)
    (try simp only [Act.put, sqA, sqC, sqB]); refine gU 14 (oi := ⟨some 44, .fieldAddr _ (.tmp 43) 5, _, _, _, none⟩) (v := ?_) rfl (Or.inl ⟨by rfl, ?_⟩) (by assumption) ?_; rotate_left
    · (intro w' hSw; go_simp) <;> (with_reducible rfl)
    (try simp only [Act.put, sqA, sqC, sqB]); refine gR 15 rfl (fun K hK => ?_); rw [if_pos (by rfl)]; refine wp_store1K 3 (.tmp 44) _ rfl MR1 0 rfl 101 (by rfl) (.int .i64 (IntKind.i64.wrap (now + waitM E.cfg.bo E.tries))) (by rfl) rfl rfl (by kernel_rfl) (by rw [ErS.len]; omega) (fun _ => by simp) ?_; intro wr2 MR2; have hR := MR2.out; simp only [sqC, s_unt, hwrap.out] at hR; clear MR2; have MR2 := Lib.hid hR; clear hR; refine hK.out _ _ (⟨MR2.out.get 0 rfl 60 (g_bo _ _ _), MR2.out.get 0 rfl 138 (g_tries _ _ _)⟩) (fun hHeld => ?_); clear hK K; (try simp only [Act.put, sqA]); refine wpAnyH_done (by kernel_rfl) ?_ _; refine NoPanic.normal ?_; go_wp2_with fail
    first | go_end0 | refine bodyPost_ret (results_none rfl _ _ _) rfl ?_
    rw [HR.out]; exact ⟨rfl, H.out.own MR2.out.2 (MR2.out.1.blk 0 rfl) rfl rfl, MR2.out.2⟩
end
end Go.Proofs.YtlhnjkekjbbhcaaGreatDoor
