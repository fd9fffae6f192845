/- Parts of the proof of ErrandTries, in order. No conditions but those that each theorem states. -/
import Derived.Test.YtlhnjkekjbbhcaaGreatDoorYErrandTries0
import Derived.Lib.SlBytesConst
import Derived.Lib.LaidTab
import Derived.Lib.ItoaNum
import Derived.Lib.ItoaLen
import Derived.Sort.Grow
import Derived.Deep.MidRow
import Derived.DeepKeys4
import Derived.Test.YtlhnjkekjbbhcaaGreatDoorYErrandTries18
import Derived.Test.YtlhnjkekjbbhcaaGreatDoorYErrandTries33
set_option linter.unusedSimpArgs false
set_option linter.unusedVariables false
namespace Go.Proofs.YtlhnjkekjbbhcaaGreatDoor
open Go.RowKit Go.Shelf
theorem quiet_same' {P : Program} {f : FuncId} {args : Array Value} {w : World} {n : Nat} {v : Value}
    (h : Calls P f args (w.drewN n) fun e w' => e = .returned v ∧ w.drewN n = w') : Calls P f args (w.drewN n) fun e w'' => e = .returned v ∧ ∃ m, w'' = w.drewN m :=
  h.mono fun _ _ ⟨he, hm⟩ => ⟨he, n, hm.symm⟩
theorem tick_no {E : ErS} {now : Int} (h : ¬ (E.state = 2 ∧ withinM (now - E.last) E.cfg.tm = false)) : erTick E now = E := by unfold erTick; rw [if_neg h]
theorem tick_yes {E : ErS} {now : Int} (h : E.state = 2 ∧ withinM (now - E.last) E.cfg.tm = false) : erTick E now = erMiss { E with silent := E.silent + 1 } 504 now := by unfold erTick; rw [if_pos h]
section
variable {w0 w : World} {b n : Nat} {rp va : Value} {X L : List Nat} {E : ErS}
set_option maxRecDepth 100000 in
set_option maxHeartbeats 1600000 in
theorem er_Tick (h : Et w0 w b rp va X E n L) (now : Int) (hs : smallE E now) (hl : 0 ≤ E.last ∧ E.last ≤ 1152921504606846976) (hsi : 0 ≤ E.silent ∧ E.silent ≤ 1152921504606846976) : Calls Tryz.prog 24 #[.pointer (some ⟨b, 0, Option.none⟩), .int .i64 now] w fun e w' => e = .returned (.tuple #[]) ∧ Et w0 w' b rp va X (erTick E now) n L ∧ Keep [b] w w' := by
  have c2 := h.blk.get (g_last E rp va); have c59 := h.blk.get (g_tm E rp va); have M0 : Hid (MemK w [b] w0 w [(b, 106, E.cells rp va)]) := Lib.hid (MemK.of h.mem.1 [b]); have H := Lib.hid h; have HS := Lib.hid (fun m => er_State (h.keep0 ((Keep.refl [] w).drewN m))); have HI := Lib.hid (fun m => term_Within (now - E.last) E.cfg.tm (w.drewN m)); have hnow := hs.2.1; have hsub : IntKind.i64.wrap (now - E.last) = now - E.last := IntWalk.i64_in _ (by omega); have HSM := Lib.hid hs; clear h hs; obtain ⟨wi, hwi⟩ : ∃ z, withinM (now - E.last) E.cfg.tm = z := ⟨_, rfl⟩
  rw [hwi] at HI; by_cases h2 : E.state = 2 ∧ wi = false
  · obtain ⟨h2, rfl⟩ := h2; have HR := Lib.hid (tick_yes ⟨h2, hwi⟩); rw [h2] at HS; clear h2 hwi; go_enter Tryz.func24, Tryz.ntmps24
    go_upto_region 0 with fail
    go_cut [22] (fun v wx => v = .bool true ∧ Hid (Keep [] w wx))
    case first =>
      go_quiet ((first | (go_at_call 18; exact quiet_same' (HS.out _)) | (go_at_call 64; exact quiet_same' (HI.out _)))); go_wp2_with fail; go_meet; exact ⟨rfl, Lib.hid ((Keep.refl _ _).drewN _)⟩
    obtain ⟨rfl, kq⟩ := hcut; have M1 := Lib.hid (M0.out.keep0 kq.out); clear kq c2 c59 hsub; have c140 := M1.out.get 0 rfl 140 (g_silent _ _ _)
    go_wp2_with (first | ((with_reducible refine gT 29 ?_); refine wpList_store1K rfl 3 (.tmp 29) _ rfl M1 0 rfl 140 (by rfl) (.int .i64 (E.silent + 1)) (by rfl) rfl rfl (by kernel_rfl) (by rw [ErS.len]; omega) (fun _ => by simp) ?_; intro w3 M3; have hR := M3.out; simp only [sqC, s_silent] at hR; clear M3; have M3 := Lib.hid hR; clear hR; clear c140; try simp only [Act.put]) | fail); refine (er_miss (H.out.own M3.out.2 (M3.out.1.blk 0 rfl) rfl rfl) 504 now HSM.out).mono ?_; rintro e w4 ⟨rfl, h4, k4⟩; have H4 := Lib.hid h4; have K4 := Lib.hid (M3.out.2.trans k4); clear h4 k4; go_wp2_with fail
    first | go_end0 | refine bodyPost_ret (results_none rfl _ _ _) rfl ?_
    rw [HR.out]; exact ⟨rfl, H4.out, K4.out⟩
  · have HR := Lib.hid (tick_no (E := E) (now := now) (by rw [hwi]; exact h2)); by_cases h1 : E.state = 2
    · obtain rfl : wi = true := by
        cases wi
        · exact absurd ⟨h1, rfl⟩ h2
        · rfl
      rw [h1] at HS; clear h1 h2 hwi; go_enter Tryz.func24, Tryz.ntmps24
      go_upto_region 0 with fail
      go_cut [22] (fun v wx => v = .bool false ∧ Hid (Keep [] w wx))
      case first =>
        go_quiet ((first | (go_at_call 18; exact quiet_same' (HS.out _)) | (go_at_call 64; exact quiet_same' (HI.out _)))); go_wp2_with fail; go_meet; exact ⟨rfl, Lib.hid ((Keep.refl _ _).drewN _)⟩
      obtain ⟨rfl, kq⟩ := hcut; have M1 := Lib.hid (M0.out.keep0 kq.out); clear kq c2 c59 hsub; go_wp2_with fail
      first | go_end0 | refine bodyPost_ret (results_none rfl _ _ _) rfl ?_
      rw [HR.out]; exact ⟨rfl, H.out.own M1.out.2 (M1.out.1.blk 0 rfl) rfl rfl, M1.out.2⟩
    · have e1 := (int_ne h1).1; generalize E.state = st at *; clear h1 h2 hwi; go_enter Tryz.func24, Tryz.ntmps24
      go_upto_region 0 with fail
      go_cut [22] (fun v wx => v = .bool false ∧ Hid (Keep [] w wx))
      case first =>
        go_quiet ((first | (go_at_call 18; exact quiet_same' (HS.out _)) | (go_at_call 64; exact quiet_same' (HI.out _)))); go_wp2_with fail; go_meet; exact ⟨rfl, Lib.hid ((Keep.refl _ _).drewN _)⟩
      obtain ⟨rfl, kq⟩ := hcut; have M1 := Lib.hid (M0.out.keep0 kq.out); clear kq c2 c59 hsub; go_wp2_with fail
      first | go_end0 | refine bodyPost_ret (results_none rfl _ _ _) rfl ?_
      rw [HR.out]; exact ⟨rfl, H.out.own M1.out.2 (M1.out.1.blk 0 rfl) rfl rfl, M1.out.2⟩
theorem er_dig (E : ErS) (rp va : Value) : ∀ j v, (digC E.key.dig)[j]? = some v → (E.cells rp va)[16 + j]? = some v := fun j v hv => by
  have hj := (List.getElem?_eq_some_iff.1 hv).1; rw [digC_length] at hj; rw [show 16 + j = 13 + (3 + j) by omega, er_key E rp va (by omega)]; exact E.key.at_dig j v hv
theorem er_ans (E : ErS) (rp va : Value) : ∀ j v, (ansC E.head.st va E.head.len E.head.ch E.head.cl)[j]? = some v → (E.cells rp va)[3 + j]? = some v := fun j v hv => by
  have hj : j < 5 := (List.getElem?_eq_some_iff.1 hv).1; rw [er_top E rp va _ (by omega)]; rcases j with _ | _ | _ | _ | _ | j
  · exact hv
  · exact hv
  · exact hv
  · exact hv
  · exact hv
  · omega
theorem clean_str (l : List UInt8) : decide (l = []) = l.isEmpty := by cases l <;> simp
theorem end_eq {E : ErS} {P : ReS} {v : Bool} (h : (decide (reRest P = []) && !E.head.cl) = v) (hP : E.rep = some P) : erEnd E P = erFin { E with heard := E.heard + 1, reuse := v } ⟨200, E.key.dig, typM E.head.F, E.size, E.began⟩ := by
  unfold erEnd; rw [h]; congr 1; rw [← hP]
set_option maxRecDepth 100000 in
set_option maxHeartbeats 3200000 in
theorem er_ended (h : Et w0 w b rp va X E n L) (hm : ML w0) {P : ReS} (hP : E.rep = some P) (hh : 0 ≤ E.heard ∧ E.heard ≤ 1152921504606846976) : Calls Tryz.prog 104 #[.pointer (some ⟨b, 0, Option.none⟩)] w fun e w' => e = .returned (.tuple #[]) ∧ Et w0 w' b rp va X (erEnd E P) n L ∧ Keep [b] w w' := by
  have c141 := h.blk.get (g_heard E rp va); have M0 : Hid (MemK w [b] w0 w [(b, 106, E.cells rp va)]) := Lib.hid (MemK.of h.mem.1 [b]); have H := Lib.hid h; have HP := Lib.hid hP; have HML := Lib.hid hm; have HBR := Lib.hid (bd_rs 200 E.key.dig (typM E.head.F) E.size E.began); obtain ⟨p, hrp, _⟩ := h.reply hP; have HRP := Lib.hid hrp; obtain ⟨v, hv⟩ : ∃ v, (decide (reRest P = []) && !E.head.cl) = v := ⟨_, rfl⟩
  have HR := Lib.hid (end_eq hv hP); have HV := Lib.hid hv; clear h hP hm hrp hv; go_enter Tryz.func104, Tryz.ntmps104
  go_upto_region 1 with (first | ((with_reducible refine gT 8 ?_); refine wpList_store1K rfl 3 (.tmp 8) _ rfl M0 0 rfl 141 (by rfl) (.int .i64 (E.heard + 1)) (by rfl) rfl rfl (by kernel_rfl) (by rw [ErS.len]; omega) (fun _ => by simp) ?_; intro w1 M1; have hR := M1.out; simp only [sqC, s_heard] at hR; clear M1; have M1 := Lib.hid hR; clear hR; clear c141; try simp only [Act.put]) | fail)
  have H1 : Hid (Et w0 w1 b rp va X ({ E with heard := E.heard + 1 } : ErS) n L) := Lib.hid (H.out.own M1.out.2 (M1.out.1.blk 0 rfl) rfl rfl)
  go_cut [] (fun wx => Hid (MemK w [b] w0 wx [(b, 106, ({ E with heard := E.heard + 1, reuse := v } : ErS).cells rp va)]))
  case first =>
    have c0 := M1.out.get 0 rfl 0 (g_rep _ _ _); have c7 := M1.out.get 0 rfl 7 (g_cl _ _ _); obtain ⟨p', hp', hR'⟩ := H1.out.reply (P := P) HP.out; obtain rfl : p' = p := by simpa using hp'.symm.trans HRP.out
    have HQ := Lib.hid (rp_rest hR'); have hv := HV.out; rw [clean_str] at hv; rw [HRP.out] at c0; clear hp' hR'; generalize reRest P = l at *; have hcl : ({ E with heard := E.heard + 1 } : ErS).head.cl = E.head.cl := rfl; rw [hcl] at c7; clear hcl; generalize E.head.cl = cl at *
    cases hl : l.isEmpty with
    | true =>
      have te : (S l).toList.isEmpty = true := by rw [S_toList]; exact hl
      obtain rfl : (!cl) = v := by simpa [hl] using hv
      clear hv hl; go_wp2_with (first | (go_at_call 156; refine HQ.out.mono ?_; rintro e w' ⟨rfl, rfl⟩) | ((with_reducible refine gT 28 ?_); refine wpList_store1K rfl 4 (.tmp 28) _ rfl M1 0 rfl 12 (by rfl) (.bool (!cl)) (by rfl) rfl rfl (by kernel_rfl) (by rw [ErS.len]; omega) (fun _ => by simp) ?_; intro w2 M2; have hR := M2.out; simp only [sqC, s_reuse] at hR; clear M2; have M2 := Lib.hid hR; clear hR; try simp only [Act.put]) | fail); go_meet; exact M2
    | false =>
      have te : (S l).toList.isEmpty = false := by rw [S_toList]; exact hl
      obtain rfl : false = v := by simpa [hl] using hv
      clear hv hl; go_wp2_with (first | (go_at_call 156; refine HQ.out.mono ?_; rintro e w' ⟨rfl, rfl⟩) | ((with_reducible refine gT 28 ?_); refine wpList_store1K rfl 4 (.tmp 28) _ rfl M1 0 rfl 12 (by rfl) (.bool false) (by rfl) rfl rfl (by kernel_rfl) (by rw [ErS.len]; omega) (fun _ => by simp) ?_; intro w2 M2; have hR := M2.out; simp only [sqC, s_reuse] at hR; clear M2; have M2 := Lib.hid hR; clear hR; try simp only [Act.put]) | fail); go_meet; exact M2
  have M2 := hcut; clear hcut M1 H1; have H2 : Hid (Et w0 wc b rp va X ({ E with heard := E.heard + 1, reuse := v } : ErS) n L) := Lib.hid (H.out.own M2.out.2 (M2.out.1.blk 0 rfl) rfl rfl); have HK := Lib.hid (fun w' (m : Hid (MemK w [b] w0 w' [(b, 106, ({ E with heard := E.heard + 1, reuse := v } : ErS).cells rp va)])) => errand_kind E.head.st va E.head.F E.head.len E.head.ch E.head.cl w' (HML.out.keep m.out.1.kp (by simp)) (H.out.own m.out.2 (m.out.1.blk 0 rfl) (E' := ({ E with heard := E.heard + 1, reuse := v } : ErS)) rfl rfl).an); have HF := Lib.hid (fun w' (m : Hid (MemK w [b] w0 w' [(b, 106, ({ E with heard := E.heard + 1, reuse := v } : ErS).cells rp va)])) => er_finish (H.out.own m.out.2 (m.out.1.blk 0 rfl) (E' := ({ E with heard := E.heard + 1, reuse := v } : ErS)) rfl rfl) ⟨200, E.key.dig, typM E.head.F, E.size, E.began⟩); clear H2
  go_upto_region 2 with fail
  refine wp_region_noPanic ?_; refine wp_region_held_drew (S := fun w' => ∃ st r, MemK w [b] w0 w' [(b, 106, ErS.cells { E with heard := E.heard + 1, reuse := v, state := st, res := r } rp va)]) (by kernel_rfl) (⟨E.state, E.res, (Lib.hid (M2.out.keep0 ((Keep.refl _ _).drew))).out⟩) (fun hHeld => ?_); have M2d := Lib.hid (M2.out.keep0 ((Keep.refl _ _).drew)); refine gU 0 (oi := ⟨some 29, .move (.tmp 0), _, _, _, none⟩) (v := ?_) rfl (Or.inl ⟨by rfl, ?_⟩) (by assumption) ?_; rotate_left
  · (intro w' hSw; go_simp) <;> (with_reducible rfl)
  (try simp only [Act.put, sqA, sqC, sqB]); refine gU 1 (oi := ⟨some 30, .move (.tmp 0), _, _, _, none⟩) (v := ?_) rfl (Or.inl ⟨by rfl, ?_⟩) (by assumption) ?_; rotate_left
  · (intro w' hSw; go_simp) <;> (with_reducible rfl)
  (try simp only [Act.put, sqA, sqC, sqB]); refine gU 2 (oi := ⟨some 31, .nilCheck (.tmp 30), _, _, _, none⟩) (v := ?_) rfl (Or.inl ⟨by rfl, ?_⟩) (by assumption) ?_; rotate_left
  · (intro w' hSw; go_simp) <;> (with_reducible rfl)
  (try simp only [Act.put, sqA, sqC, sqB]); refine gU 3 (oi := ⟨some 32, .fieldAddr _ (.tmp 31) 1, _, _, _, none⟩) (v := ?_) rfl (Or.inl ⟨by rfl, ?_⟩) (by assumption) ?_; rotate_left
  · (intro w' hSw; go_simp) <;> (with_reducible rfl)
  (try simp only [Act.put, sqA, sqC, sqB]); refine gU 4 (oi := ⟨some 33, .fieldAddr _ (.tmp 32) 3, _, _, _, none⟩) (v := ?_) rfl (Or.inl ⟨by rfl, ?_⟩) (by assumption) ?_; rotate_left
  · (intro w' hSw; go_simp) <;> (with_reducible rfl)
  (try simp only [Act.put, sqA, sqC, sqB]); refine gU 5 (oi := ⟨some 34, .load _ (.tmp 33), _, _, _, none⟩) rfl (yieldsIf_load_mid (by rfl) 23 (.tmp 33) rfl _ 16 (by rfl) (digC E.key.dig) _ (fun w' hSw => fun j v hj => MemK.get (hSw.choose_spec.choose_spec) 0 rfl (16 + j) (((er_dig _ _ _)) j v hj)) Tryz.underlying23 rfl (dig_size E.key.dig)) (by assumption) ?_; (try simp only [Act.put, sqA, sqC, sqB]); refine gU 6 (oi := ⟨some 35, .move (.tmp 0), _, _, _, none⟩) (v := ?_) rfl (Or.inl ⟨by rfl, ?_⟩) (by assumption) ?_; rotate_left
  · (intro w' hSw; go_simp) <;> (with_reducible rfl)
  (try simp only [Act.put, sqA, sqC, sqB]); refine gU 7 (oi := ⟨some 36, .nilCheck (.tmp 35), _, _, _, none⟩) (v := ?_) rfl (Or.inl ⟨by rfl, ?_⟩) (by assumption) ?_; rotate_left
  · (intro w' hSw; go_simp) <;> (with_reducible rfl)
  (try simp only [Act.put, sqA, sqC, sqB]); refine gU 8 (oi := ⟨some 37, .fieldAddr _ (.tmp 36) 0, _, _, _, none⟩) (v := ?_) rfl (Or.inl ⟨by rfl, ?_⟩) (by assumption) ?_; rotate_left
  · (intro w' hSw; go_simp) <;> (with_reducible rfl)
  (try simp only [Act.put, sqA, sqC, sqB]); refine gU 9 (oi := ⟨some 38, .fieldAddr _ (.tmp 37) 3, _, _, _, none⟩) (v := ?_) rfl (Or.inl ⟨by rfl, ?_⟩) (by assumption) ?_; rotate_left
  · (intro w' hSw; go_simp) <;> (with_reducible rfl)
  (try simp only [Act.put, sqA, sqC, sqB]); refine gU 10 (oi := ⟨some 39, .load _ (.tmp 38), _, _, _, none⟩) rfl (yieldsIf_load_mid (by rfl) 30 (.tmp 38) rfl _ 3 (by rfl) (ansC E.head.st va E.head.len E.head.ch E.head.cl) _ (fun w' hSw => fun j v hj => MemK.get (hSw.choose_spec.choose_spec) 0 rfl (3 + j) (((er_ans _ _ _)) j v hj)) Tryz.underlying30 rfl (an_size E.head.st va E.head.len E.head.ch E.head.cl)) (by assumption) ?_; (try simp only [Act.put, sqA, sqC, sqB]); refine gU 12 (oi := ⟨some 41, .move (.tmp 0), _, _, _, none⟩) (v := ?_) rfl (Or.inl ⟨by rfl, ?_⟩) (by assumption) ?_; rotate_left
  · (intro w' hSw; go_simp) <;> (with_reducible rfl)
  (try simp only [Act.put, sqA, sqC, sqB]); refine gU 13 (oi := ⟨some 42, .nilCheck (.tmp 41), _, _, _, none⟩) (v := ?_) rfl (Or.inl ⟨by rfl, ?_⟩) (by assumption) ?_; rotate_left
  · (intro w' hSw; go_simp) <;> (with_reducible rfl)
  (try simp only [Act.put, sqA, sqC, sqB]); refine gU 14 (oi := ⟨some 43, .fieldAddr _ (.tmp 42) 0, _, _, _, none⟩) (v := ?_) rfl (Or.inl ⟨by rfl, ?_⟩) (by assumption) ?_; rotate_left
  · (intro w' hSw; go_simp) <;> (with_reducible rfl)
  (try simp only [Act.put, sqA, sqC, sqB]); refine gU 15 (oi := ⟨some 44, .fieldAddr _ (.tmp 43) 7, _, _, _, none⟩) (v := ?_) rfl (Or.inl ⟨by rfl, ?_⟩) (by assumption) ?_; rotate_left
  · (intro w' hSw; go_simp) <;> (with_reducible rfl)
  (try simp only [Act.put, sqA, sqC, sqB]); refine gU 16 (oi := ⟨some 45, .load _ (.tmp 44), _, _, _, none⟩) (v := ?_) rfl (Or.inl ⟨by rfl, ?_⟩) (by assumption) ?_; rotate_left
  · (intro w' hSw; have hy11 : w'.cell? ⟨b, 11, Option.none⟩ = some (.int .i64 E.size) := hSw.choose_spec.choose_spec.get 0 rfl 11 (g_size _ _ _); have hy1 : w'.cell? ⟨b, 1, Option.none⟩ = some (.int .i64 E.began) := hSw.choose_spec.choose_spec.get 0 rfl 1 (g_began _ _ _); clear hSw; go_simp) <;> (with_reducible rfl)
  (try simp only [Act.put, sqA, sqC, sqB]); refine gU 17 (oi := ⟨some 46, .move (.tmp 0), _, _, _, none⟩) (v := ?_) rfl (Or.inl ⟨by rfl, ?_⟩) (by assumption) ?_; rotate_left
  · (intro w' hSw; go_simp) <;> (with_reducible rfl)
  (try simp only [Act.put, sqA, sqC, sqB]); refine gU 18 (oi := ⟨some 47, .nilCheck (.tmp 46), _, _, _, none⟩) (v := ?_) rfl (Or.inl ⟨by rfl, ?_⟩) (by assumption) ?_; rotate_left
  · (intro w' hSw; go_simp) <;> (with_reducible rfl)
  (try simp only [Act.put, sqA, sqC, sqB]); refine gU 19 (oi := ⟨some 48, .fieldAddr _ (.tmp 47) 0, _, _, _, none⟩) (v := ?_) rfl (Or.inl ⟨by rfl, ?_⟩) (by assumption) ?_; rotate_left
  · (intro w' hSw; go_simp) <;> (with_reducible rfl)
  (try simp only [Act.put, sqA, sqC, sqB]); refine gU 20 (oi := ⟨some 49, .fieldAddr _ (.tmp 48) 1, _, _, _, none⟩) (v := ?_) rfl (Or.inl ⟨by rfl, ?_⟩) (by assumption) ?_; rotate_left
  · (intro w' hSw; go_simp) <;> (with_reducible rfl)
  (try simp only [Act.put, sqA, sqC, sqB]); refine gU 21 (oi := ⟨some 50, .load _ (.tmp 49), _, _, _, none⟩) (v := ?_) rfl (Or.inl ⟨by rfl, ?_⟩) (by assumption) ?_; rotate_left
  · (intro w' hSw; have hy11 : w'.cell? ⟨b, 11, Option.none⟩ = some (.int .i64 E.size) := hSw.choose_spec.choose_spec.get 0 rfl 11 (g_size _ _ _); have hy1 : w'.cell? ⟨b, 1, Option.none⟩ = some (.int .i64 E.began) := hSw.choose_spec.choose_spec.get 0 rfl 1 (g_began _ _ _); clear hSw; go_simp) <;> (with_reducible rfl)
  (try simp only [Act.put, sqA, sqC, sqB]); refine gR 11 rfl (fun K hK => ?_); go_simp; refine (HK.out _ M2d).mono ?_; rintro e wr1 ⟨rfl, kR⟩; have MR1 := Lib.hid (M2d.out.keep0 kR); clear kR; (try go_simp); refine hK.out _ _ (⟨E.state, E.res, MR1.out⟩) (fun hHeld => ?_); clear hK K; (try simp only [Act.put, sqA, sqC, sqB]); refine gU 22 (oi := ⟨some 51, _, _, _, _, none⟩) rfl (yieldsIf_buildM (by rfl) 39 _ rfl ([(0, .int .i64 200), (1, .agg (digC E.key.dig).toArray), (2, .string (S (typM E.head.F))), (3, .int .i64 E.size), (4, .int .i64 E.began)]) (by simp [Act.eval]) ((⟨200, E.key.dig, typM E.head.F, E.size, E.began⟩ : Rs).cells) HBR) (by assumption) ?_; (try simp only [Act.put, sqA, sqC, sqB]); refine gR 23 rfl (fun K hK => ?_); go_simp; refine (HF.out _ MR1).mono ?_; rintro e wr2 ⟨rfl, hE, hk⟩; have HE := Lib.hid hE; have MR2 : Hid (MemK w [b] w0 wr2 [(b, 106, ErS.cells { E with heard := E.heard + 1, reuse := v, state := 3, res := ⟨200, E.key.dig, typM E.head.F, E.size, E.began⟩ } rp va)]) := Lib.hid ⟨hE.mem.1, MR1.out.2.trans hk⟩; clear hE hk; (try go_simp); refine hK.out _ _ (⟨3, ⟨200, E.key.dig, typM E.head.F, E.size, E.began⟩, MR2.out⟩) (fun hHeld => ?_); clear hK K; (try simp only [Act.put, sqA, sqC, sqB]); refine wpAnyH_done (by kernel_rfl) ?_ _; refine NoPanic.normal ?_; go_wp2_with fail
  first | go_end0 | refine bodyPost_ret (results_none rfl _ _ _) rfl ?_
  rw [HR.out]; exact ⟨rfl, HE.out, MR2.out.2⟩
end
end Go.Proofs.YtlhnjkekjbbhcaaGreatDoor
namespace Go.Proofs.YtlhnjkekjbbhcaaGreatDoor
open Go.RowKit Go.Shelf
def fin (l : List UInt8) (e : Int) : Value := .tuple #[.string (S l), .int .i64 e]
theorem laid_many {st : List UInt8} {L : List Fld} (h : 32 < L.length) : laidE st L = 1 ∧ laidS st L = [] := by
  have h0 : laidOk L = false := by unfold laidOk; simp; omega
  have h1 : laidE st L = 1 := by unfold laidE; rw [h0]; rfl
  exact ⟨h1, by unfold laidS; rw [h1]; rfl⟩
theorem laid_bad {st : List UInt8} {L : List Fld} {x : Fld} (hx : x ∈ L) (hg : goodF x = false) : laidE st L = 1 ∧ laidS st L = [] := by
  have h0 : laidOk L = false := by
    unfold laidOk; rw [show L.all goodF = false from by rw [List.all_eq_false]; exact ⟨x, hx, by simp [hg]⟩, Bool.and_false]
  have h1 : laidE st L = 1 := by unfold laidE; rw [h0]; rfl
  exact ⟨h1, by unfold laidS; rw [h1]; rfl⟩
theorem laid_good {st : List UInt8} {L : List Fld} (h : L.length ≤ 32) (hg : L.all goodF = true) : laidE st L = (if (headT st L).length ≤ 4096 then 0 else 4) ∧ laidS st L = (if (headT st L).length ≤ 4096 then headT st L else []) := by
  have h0 : laidOk L = true := by unfold laidOk; rw [hg]; simp [h]
  have h1 : laidE st L = (if (headT st L).length ≤ 4096 then 0 else 4) := by unfold laidE; rw [h0]; rfl
  refine ⟨h1, ?_⟩; unfold laidS; rw [h1]; by_cases h2 : (headT st L).length ≤ 4096
  · rw [if_pos h2, if_pos h2, if_pos rfl]
  · rw [if_neg h2, if_neg h2, if_neg (by decide)]
theorem body_take {L : List Fld} {k : Nat} {x : Fld} (h : L[k]? = some x) : bodyT (L.take (k + 1)) = bodyT (L.take k) ++ (printF x ++ [13, 10]) := by
  have e : L.take (k + 1) = L.take k ++ [x] := by rw [List.take_add_one, h]; rfl
  rw [e]; simp [bodyT]
set_option maxRecDepth 100000 in
set_option maxHeartbeats 2000000 in
theorem outlet_laid (st : List UInt8) (va : Value) (L : List Fld) (w : World) (ha : Sl Fld.cells 2 w va L) (hg : L.length ≤ 32 → ∀ x ∈ L, x.name.length + x.value.length ≤ 1048576) (hst : st.length ≤ 1048576) :
    Calls Tryz.prog 85 #[.string (S st), va] w fun e w' => e = .returned (fin (laidS st L) (laidE st L)) ∧ Keep [] w w' := by
  obtain ⟨aa, ca, rfl, hal⟩ := ha.shape; have hal' : L.length ≤ 9223372036854775807 := hal; by_cases h32 : 32 < L.length
  · have h := laid_many (st := st) h32; have HX := Lib.hid h; clear h ha hg; go_enter Tryz.func85, Tryz.ntmps85; go_wp2_with fail; go_ret2; exact ⟨by rw [HX.out.1, HX.out.2]; rfl, Keep.refl _ _⟩
  · have hst2 : S st ++ ⟨#[13, 10]⟩ = S (st ++ [13, 10]) := S_append st [13, 10]; have hsz := S_size st; have HG := Lib.hid (hg (by omega)); have HA := Lib.hid ha; have hB := Lib.hid (bld_new (Keep.refl [] w)); clear ha hg hal; go_enter Tryz.func85, Tryz.ntmps85; go_wp2_with fail; refine (bld_write hB.out (st ++ [13, 10]) (by simp; omega)).mono ?_; rintro e w1 ⟨rfl, hb1⟩; rw [List.nil_append] at hb1; have HB := Lib.hid hb1; clear hb1 hB hst2; go_wp2_with fail; generalize w.heap.size = b at HB
    go_loopg [17] L.length (fun g i wr => ∃ (k : Nat) (T : List UInt8), i = .int .i64 k ∧ k ≤ L.length ∧ g = L.length - k ∧ T.length ≤ 1048578 + k * 1048580 ∧ Hid (T = st ++ [13, 10] ++ bodyT (L.take k) ∧ (L.take k).all goodF = true) ∧ Hid (Bld w wr b T))
    case atStart => exact ⟨0, st ++ [13, 10], rfl, Nat.zero_le _, by omega, by simp; omega, Lib.hid ⟨by simp [bodyT], by simp⟩, HB⟩
    case round =>
      obtain ⟨k, T, rfl, hk, hgk, hT, HE, HB⟩ := hrel; by_cases hlt : k < L.length
      · obtain ⟨x, hx⟩ : ∃ x, L[k]? = some x := ⟨_, List.getElem?_eq_getElem hlt⟩
        have hxl := HG.out x (List.mem_of_getElem? hx); have har := HA.out.keep Fld.cells_length (by omega) HA.out HB.out.kept (by simp) (Nat.le_refl _); obtain ⟨ba, oa, ca', hva, _, hca, hcell⟩ := har.cell hx; cases hva; have hc0 := hcell 0 (by omega); have hc1 := hcell 1 (by omega); simp only [Fld.cells, List.getElem?_cons_zero, List.getElem?_cons_succ, Nat.add_zero] at hc0 hc1; have hca' : ca ≤ 9223372036854775807 := hca; have hGd := fun w1 => field_Good x w1 (show x.name.length ≤ 9223372036854775807 by omega) (show x.value.length ≤ 9223372036854775807 by omega)
        have HX := Lib.hid hx; have hkA := (Keep.refl [] wr).alloc (.cells #[.string (S x.name), .string (S x.value)] 89); have hbA : Blk (wr.alloc (.cells #[.string (S x.name), .string (S x.value)] 89)) wr.heap.size 89 x.cells := Blk.newA wr _ _; have HKA := Lib.hid (And.intro hkA hbA); clear hcell hx har hca hkA hbA
        cases hgx : goodF x with
        | false =>
          rw [hgx] at hGd; have HGd := Lib.hid hGd; have HF := Lib.hid (laid_bad (st := st) (List.mem_of_getElem? HX.out) hgx); clear hGd hgx; go_wp2_with fail; refine (HGd.out _).mono ?_; rintro e w2 ⟨rfl, hk2⟩; have HK2 := Lib.hid ((HB.out.kept.trans HKA.out.1).trans hk2); clear hk2; go_wp2_with fail; go_ret2; exact ⟨by rw [HF.out.1, HF.out.2]; rfl, HK2.out⟩
        | true =>
          rw [hgx] at hGd; have HGd := Lib.hid hGd; have HPr := Lib.hid (fun w1 => field_Print x w1 (by omega)); have hcat : S (printF x) ++ ⟨#[13, 10]⟩ = S (printF x ++ [13, 10]) := S_append _ [13, 10]; have sP := S_size (printF x); have lP : (printF x).length ≤ 1048578 := by simp [printF]; omega
          have HGX := Lib.hid hgx; clear hGd hgx; go_wp2_with fail; refine (HGd.out _).mono ?_; rintro e w2 ⟨rfl, hk2⟩; have HB2 := Lib.hid ((HB.out.keep0 HKA.out.1).keep0 hk2); have hb2 := hk2.blk HKA.out.2 (by simp); have d0 := hb2.get (k := 0) rfl; have d1 := hb2.get (k := 1) rfl; clear hk2 hb2; go_wp2_with fail; refine (HPr.out _).mono ?_; rintro e w3 ⟨rfl, hk3⟩; have HB3 := Lib.hid (HB2.out.keep0 hk3); clear hk3 d0 d1; go_wp2_with fail; refine (bld_write HB3.out (printF x ++ [13, 10]) (by simp; omega)).mono ?_; rintro e w4 ⟨rfl, hb4⟩; have HB4 := Lib.hid hb4; clear hb4 hcat; go_wp2_with fail
          go_roundg (L.length - (k + 1))
          case measure => omega
          case rel =>
            refine ⟨k + 1, T ++ (printF x ++ [13, 10]), by go_num, by omega, rfl, by simp; omega, Lib.hid ⟨?_, ?_⟩, HB4⟩
            · rw [body_take HX.out, HE.out.1]; simp
            · rw [show L.take (k + 1) = L.take k ++ [x] from by rw [List.take_add_one, HX.out]; rfl, List.all_append, HE.out.2]; simp [HGX.out]
      · have hkl : k = L.length := by omega
        have hE := HE.out; rw [hkl, List.take_length] at hE; have hhd : T ++ [13, 10] = headT st L := by unfold headT; rw [hE.1]
        have hlay := laid_good (st := st) (show L.length ≤ 32 by omega) hE.2; rw [← hhd] at hlay; have HL := Lib.hid hlay; have hT' : (T ++ [13, 10]).length ≤ 70000000 := by simp; omega
        clear hE hhd hlay HE; go_wp2_with fail; refine (bld_write HB.out [13, 10] (by simp; omega)).mono ?_; rintro e w2 ⟨rfl, hb2⟩; have HB2 := Lib.hid hb2; clear hb2; generalize T ++ [13, 10] = H at HL HB2 hT'; go_wp2_with fail; refine (bld_len HB2.out).mono ?_; rintro e w3 ⟨rfl, rfl⟩; by_cases h4 : H.length ≤ 4096
        · have h4' : decide (4096 < ((H.length : Nat) : Int)) = false := by simp; omega
          have hl := HL.out; rw [if_pos h4, if_pos h4] at hl; have HL := Lib.hid hl; clear hl h4; go_wp2_with fail; refine (bld_string HB2.out).mono ?_; rintro e w4 ⟨rfl, hk4⟩; go_wp2_with fail; go_ret2; exact ⟨by rw [HL.out.1, HL.out.2]; rfl, hk4⟩
        · have h4' : decide (4096 < ((H.length : Nat) : Int)) = true := by simp; omega
          have hl := HL.out; rw [if_neg h4, if_neg h4] at hl; have HL := Lib.hid hl; clear hl h4; go_wp2_with fail; go_ret2; exact ⟨by rw [HL.out.1, HL.out.2]; rfl, HB2.out.kept⟩
theorem Sl.keep0 {α : Type} {enc : α → List Value} {n : Nat} {w w' : World} {v : Value} {L : List α} (h : Sl enc n w v L) (hn : ∀ x, (enc x).length = n) (h0 : 0 < n) (k : Keep [] w w') : Sl enc n w' v L := h.keep hn h0 h k (by simp) (Nat.le_refl _)
theorem ask_no {m t : List UInt8} {L : List Fld} (h : askOk m t = false) : askE m t L = 1 ∧ askS m t L = [] := by unfold askE askS; rw [h]; exact ⟨rfl, rfl⟩
theorem ask_yes {m t : List UInt8} {L : List Fld} (h : askOk m t = true) : askE m t L = laidE (askT m t) L ∧ askS m t L = laidS (askT m t) L := by unfold askE askS; rw [h]; exact ⟨rfl, rfl⟩
set_option maxRecDepth 100000 in
set_option maxHeartbeats 1000000 in
theorem outlet_Ask (m t : List UInt8) (va : Value) (L : List Fld) (w : World) (hm : ML w) (hl : m.length + t.length ≤ 1048000) (ha : Sl Fld.cells 2 w va L) (hg : L.length ≤ 32 → ∀ x ∈ L, x.name.length + x.value.length ≤ 1048576) :
    Calls Tryz.prog 47 #[.string (S m), .string (S t), va] w fun e w' => e = .returned (fin (askS m t L) (askE m t L)) ∧ Keep [] w w' := by
  have hst : askT m t = m ++ [32] ++ t ++ [32] ++ protB := rfl; have hok : askOk m t = (decide ((lnM (askT m t)).s = 200) && decide ((askT m t).length ≤ 1024)) := rfl; have hno := ask_no (m := m) (t := t) (L := L); have hyes := ask_yes (m := m) (t := t) (L := L); have hlen : (askT m t).length = m.length + t.length + 10 := by rw [hst]; simp [protB]; omega
  have HLi := Lib.hid (inlet_Line (askT m t) w hm (by omega)); have HL := Lib.hid (fun w' (k : Keep [] w w') => outlet_laid (askT m t) va L w' (ha.keep0 Fld.cells_length (by omega) k) hg (by omega)); generalize askE m t L = ae at *; generalize askS m t L = av at *; generalize askOk m t = ok at *; generalize askT m t = st at *; have q1 : S m ++ (⟨#[32]⟩ : ByteArray) = S (m ++ [32]) := S_append _ [32]; have q2 : S (m ++ [32]) ++ S t = S (m ++ [32] ++ t) := S_append _ _; have q3 : S (m ++ [32] ++ t) ++ (⟨#[32]⟩ : ByteArray) = S (m ++ [32] ++ t ++ [32]) := S_append _ [32]; have q4 : S (m ++ [32] ++ t ++ [32]) ++ (⟨#[72, 84, 84, 80, 47, 49, 46, 49]⟩ : ByteArray) = S st := by rw [hst]; exact S_append _ protB
  have t1 : (m ++ [32]).length = m.length + 1 := by simp
  have t2 : (m ++ [32] ++ t).length = m.length + t.length + 1 := by simp; omega
  have t3 : (m ++ [32] ++ t ++ [32]).length = m.length + t.length + 2 := by simp; omega
  generalize m ++ [32] ++ t ++ [32] = x3 at *; generalize m ++ [32] ++ t = x2 at *; generalize m ++ [32] = x1 at *; have s0 := S_size m; have s1 := S_size t; have s2 := S_size x1; have s3 := S_size x2; have s4 := S_size x3; have s5 := S_size st; generalize lnM st = R at *; obtain ⟨rm, rt, rv, rs⟩ := R; dsimp only at hok; unfold Ln.out at HLi; dsimp only at HLi; clear ha hg hst; by_cases h2 : rs = 200
  · have h2' := (int_eq h2).2; by_cases h3 : st.length ≤ 1024
    · have h3' : decide (((st.length : Nat) : Int) > 1024) = false := by simp; omega
      have HX := Lib.hid (hyes (by rw [hok]; simp [h2, h3])); clear hok hno hyes h2 h3 hlen; go_enter Tryz.func47, Tryz.ntmps47; go_wp2_with fail; refine HLi.out.mono ?_; rintro e w1 ⟨rfl, k1⟩; go_wp2_with fail; refine (HL.out _ k1).mono ?_; rintro e w3 ⟨rfl, k3⟩; unfold fin; go_wp2_with fail; go_ret2; exact ⟨by rw [HX.out.1, HX.out.2]; rfl, k1.trans k3⟩
    · have h3' : decide (((st.length : Nat) : Int) > 1024) = true := by simp; omega
      have HX := Lib.hid (hno (by rw [hok]; simp [h3])); clear hok hno hyes h2 h3 hlen; go_enter Tryz.func47, Tryz.ntmps47; go_wp2_with fail; refine HLi.out.mono ?_; rintro e w1 ⟨rfl, k1⟩; go_wp2_with fail; go_ret2; exact ⟨by rw [HX.out.1, HX.out.2]; rfl, k1⟩
  · have h2' := (int_ne h2).2; have HX := Lib.hid (hno (by rw [hok]; simp [h2])); clear hok hno hyes h2 hlen; go_enter Tryz.func47, Tryz.ntmps47; go_wp2_with fail; refine HLi.out.mono ?_; rintro e w1 ⟨rfl, k1⟩; go_wp2_with fail; go_ret2; exact ⟨by rw [HX.out.1, HX.out.2]; rfl, k1⟩
end Go.Proofs.YtlhnjkekjbbhcaaGreatDoor
