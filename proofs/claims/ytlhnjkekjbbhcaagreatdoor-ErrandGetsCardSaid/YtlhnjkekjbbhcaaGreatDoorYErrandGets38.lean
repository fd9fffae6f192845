/- Parts of the proof of ErrandGets, in order. No conditions but those that each theorem states. -/
import Derived.Test.YtlhnjkekjbbhcaaGreatDoorYErrandGets0
import Derived.Lib.SlBytesConst
import Derived.Deep.MidRow
import Derived.Test.YtlhnjkekjbbhcaaGreatDoorYErrandGets37
set_option linter.unusedSimpArgs false
set_option linter.unusedVariables false
namespace Go.Proofs.YtlhnjkekjbbhcaaGreatDoor
open Go.RowKit Go.Shelf
theorem quiet_same' {P : Program} {f : FuncId} {args : Array Value} {w : World} {n : Nat} {v : Value}
    (h : Calls P f args (w.drewN n) fun e w' => e = .returned v ∧ w.drewN n = w') : Calls P f args (w.drewN n) fun e w'' => e = .returned v ∧ ∃ m, w'' = w.drewN m :=
  h.mono fun _ _ ⟨he, hm⟩ => ⟨he, n, hm.symm⟩
theorem tick_no {E : ErS} {now : Int} (h : ¬ (E.state = 2 ∧ withinM (now - E.last) E.cfg.tm = false)) : erTick E now = E := by unfold erTick; rw [if_neg h]
theorem tick_yes {E : ErS} {now : Int} (h : E.state = 2 ∧ withinM (now - E.last) E.cfg.tm = false) : erTick E now = erMiss { E with silent := E.silent + 1 } 504 now := by unfold erTick; rw [if_pos h]
section
variable {w0 w : World} {b n : Nat} {rp va : Value} {X L : List Nat} {E : ErS}
set_option maxRecDepth 100000 in
set_option maxHeartbeats 1600000 in
theorem er_Tick (h : Et w0 w b rp va X E n L) (now : Int) (hs : smallE E now) (hl : 0 ≤ E.last ∧ E.last ≤ 1152921504606846976) (hsi : 0 ≤ E.silent ∧ E.silent ≤ 1152921504606846976) : Calls Tryz.prog 24 #[.pointer (some ⟨b, 0, Option.none⟩), .int .i64 now] w fun e w' => e = .returned (.tuple #[]) ∧ Et w0 w' b rp va X (erTick E now) n L ∧ Keep [b] w w' := by
  have c2 := h.blk.get (g_last E rp va); have c59 := h.blk.get (g_tm E rp va); have M0 : Hid (MemK w [b] w0 w [(b, 106, E.cells rp va)]) := Lib.hid (MemK.of h.mem.1 [b]); have H := Lib.hid h; have HS := Lib.hid (fun m => er_State (h.keep0 ((Keep.refl [] w).drewN m))); have HI := Lib.hid (fun m => term_Within (now - E.last) E.cfg.tm (w.drewN m)); have hnow := hs.2.1; have hsub : IntKind.i64.wrap (now - E.last) = now - E.last := IntWalk.i64_in _ (by omega); have HSM := Lib.hid hs; clear h hs; obtain ⟨wi, hwi⟩ : ∃ z, withinM (now - E.last) E.cfg.tm = z := ⟨_, rfl⟩
  rw [hwi] at HI; by_cases h2 : E.state = 2 ∧ wi = false
  · obtain ⟨h2, rfl⟩ := h2; have HR := Lib.hid (tick_yes ⟨h2, hwi⟩); rw [h2] at HS; clear h2 hwi; go_enter Tryz.func24, Tryz.ntmps24
    go_upto_region 0 with fail
    go_cut [22] (fun v wx => v = .bool true ∧ Hid (Keep [] w wx))
    case first =>
      go_quiet ((first | (go_at_call 18; exact quiet_same' (HS.out _)) | (go_at_call 64; exact quiet_same' (HI.out _)))); go_wp2_with fail; go_meet; exact ⟨rfl, Lib.hid ((Keep.refl _ _).drewN _)⟩
    obtain ⟨rfl, kq⟩ := hcut; have M1 := Lib.hid (M0.out.keep0 kq.out); clear kq c2 c59 hsub; have c140 := M1.out.get 0 rfl 140 (g_silent _ _ _)
    go_wp2_with (first | ((with_reducible refine gT 29 ?_); refine wpList_store1K rfl 3 (.tmp 29) _ rfl M1 0 rfl 140 (by rfl) (.int .i64 (E.silent + 1)) (by rfl) rfl rfl (by kernel_rfl) (by rw [ErS.len]; omega) (fun _ => by simp) ?_; intro w3 M3; have hR := M3.out; simp only [sqC, s_silent] at hR; clear M3; have M3 := Lib.hid hR; clear hR; clear c140; try simp only [Act.put]) | fail); refine (er_miss (H.out.own M3.out.2 (M3.out.1.blk 0 rfl) rfl rfl) 504 now HSM.out).mono ?_; rintro e w4 ⟨rfl, h4, k4⟩; have H4 := Lib.hid h4; have K4 := Lib.hid (M3.out.2.trans k4); clear h4 k4; go_wp2_with fail
    first | go_end0 | refine bodyPost_ret (results_none rfl _ _ _) rfl ?_
    rw [HR.out]; exact ⟨rfl, H4.out, K4.out⟩
  · have HR := Lib.hid (tick_no (E := E) (now := now) (by rw [hwi]; exact h2)); by_cases h1 : E.state = 2
    · obtain rfl : wi = true := by
        cases wi
        · exact absurd ⟨h1, rfl⟩ h2
        · rfl
      rw [h1] at HS; clear h1 h2 hwi; go_enter Tryz.func24, Tryz.ntmps24
      go_upto_region 0 with fail
      go_cut [22] (fun v wx => v = .bool false ∧ Hid (Keep [] w wx))
      case first =>
        go_quiet ((first | (go_at_call 18; exact quiet_same' (HS.out _)) | (go_at_call 64; exact quiet_same' (HI.out _)))); go_wp2_with fail; go_meet; exact ⟨rfl, Lib.hid ((Keep.refl _ _).drewN _)⟩
      obtain ⟨rfl, kq⟩ := hcut; have M1 := Lib.hid (M0.out.keep0 kq.out); clear kq c2 c59 hsub; go_wp2_with fail
      first | go_end0 | refine bodyPost_ret (results_none rfl _ _ _) rfl ?_
      rw [HR.out]; exact ⟨rfl, H.out.own M1.out.2 (M1.out.1.blk 0 rfl) rfl rfl, M1.out.2⟩
    · have e1 := (int_ne h1).1; generalize E.state = st at *; clear h1 h2 hwi; go_enter Tryz.func24, Tryz.ntmps24
      go_upto_region 0 with fail
      go_cut [22] (fun v wx => v = .bool false ∧ Hid (Keep [] w wx))
      case first =>
        go_quiet ((first | (go_at_call 18; exact quiet_same' (HS.out _)) | (go_at_call 64; exact quiet_same' (HI.out _)))); go_wp2_with fail; go_meet; exact ⟨rfl, Lib.hid ((Keep.refl _ _).drewN _)⟩
      obtain ⟨rfl, kq⟩ := hcut; have M1 := Lib.hid (M0.out.keep0 kq.out); clear kq c2 c59 hsub; go_wp2_with fail
      first | go_end0 | refine bodyPost_ret (results_none rfl _ _ _) rfl ?_
      rw [HR.out]; exact ⟨rfl, H.out.own M1.out.2 (M1.out.1.blk 0 rfl) rfl rfl, M1.out.2⟩
theorem er_dig (E : ErS) (rp va : Value) : ∀ j v, (digC E.key.dig)[j]? = some v → (E.cells rp va)[16 + j]? = some v := fun j v hv => by
  have hj := (List.getElem?_eq_some_iff.1 hv).1; rw [digC_length] at hj; rw [show 16 + j = 13 + (3 + j) by omega, er_key E rp va (by omega)]; exact E.key.at_dig j v hv
theorem er_ans (E : ErS) (rp va : Value) : ∀ j v, (ansC E.head.st va E.head.len E.head.ch E.head.cl)[j]? = some v → (E.cells rp va)[3 + j]? = some v := fun j v hv => by
  have hj : j < 5 := (List.getElem?_eq_some_iff.1 hv).1; rw [er_top E rp va _ (by omega)]; rcases j with _ | _ | _ | _ | _ | j
  · exact hv
  · exact hv
  · exact hv
  · exact hv
  · exact hv
  · omega
theorem clean_str (l : List UInt8) : decide (l = []) = l.isEmpty := by cases l <;> simp
theorem end_eq {E : ErS} {P : ReS} {v : Bool} (h : (decide (reRest P = []) && !E.head.cl) = v) (hP : E.rep = some P) : erEnd E P = erFin { E with heard := E.heard + 1, reuse := v } ⟨200, E.key.dig, typM E.head.F, E.size, E.began⟩ := by
  unfold erEnd; rw [h]; congr 1; rw [← hP]
set_option maxRecDepth 100000 in
set_option maxHeartbeats 3200000 in
theorem er_ended (h : Et w0 w b rp va X E n L) (hm : ML w0) {P : ReS} (hP : E.rep = some P) (hh : 0 ≤ E.heard ∧ E.heard ≤ 1152921504606846976) : Calls Tryz.prog 104 #[.pointer (some ⟨b, 0, Option.none⟩)] w fun e w' => e = .returned (.tuple #[]) ∧ Et w0 w' b rp va X (erEnd E P) n L ∧ Keep [b] w w' := by
  have c141 := h.blk.get (g_heard E rp va); have M0 : Hid (MemK w [b] w0 w [(b, 106, E.cells rp va)]) := Lib.hid (MemK.of h.mem.1 [b]); have H := Lib.hid h; have HP := Lib.hid hP; have HML := Lib.hid hm; have HBR := Lib.hid (bd_rs 200 E.key.dig (typM E.head.F) E.size E.began); obtain ⟨p, hrp, _⟩ := h.reply hP; have HRP := Lib.hid hrp; obtain ⟨v, hv⟩ : ∃ v, (decide (reRest P = []) && !E.head.cl) = v := ⟨_, rfl⟩
  have HR := Lib.hid (end_eq hv hP); have HV := Lib.hid hv; clear h hP hm hrp hv; go_enter Tryz.func104, Tryz.ntmps104
  go_upto_region 1 with (first | ((with_reducible refine gT 8 ?_); refine wpList_store1K rfl 3 (.tmp 8) _ rfl M0 0 rfl 141 (by rfl) (.int .i64 (E.heard + 1)) (by rfl) rfl rfl (by kernel_rfl) (by rw [ErS.len]; omega) (fun _ => by simp) ?_; intro w1 M1; have hR := M1.out; simp only [sqC, s_heard] at hR; clear M1; have M1 := Lib.hid hR; clear hR; clear c141; try simp only [Act.put]) | fail)
  have H1 : Hid (Et w0 w1 b rp va X ({ E with heard := E.heard + 1 } : ErS) n L) := Lib.hid (H.out.own M1.out.2 (M1.out.1.blk 0 rfl) rfl rfl)
  go_cut [] (fun wx => Hid (MemK w [b] w0 wx [(b, 106, ({ E with heard := E.heard + 1, reuse := v } : ErS).cells rp va)]))
  case first =>
    have c0 := M1.out.get 0 rfl 0 (g_rep _ _ _); have c7 := M1.out.get 0 rfl 7 (g_cl _ _ _); obtain ⟨p', hp', hR'⟩ := H1.out.reply (P := P) HP.out; obtain rfl : p' = p := by simpa using hp'.symm.trans HRP.out
    have HQ := Lib.hid (rp_rest hR'); have hv := HV.out; rw [clean_str] at hv; rw [HRP.out] at c0; clear hp' hR'; generalize reRest P = l at *; have hcl : ({ E with heard := E.heard + 1 } : ErS).head.cl = E.head.cl := rfl; rw [hcl] at c7; clear hcl; generalize E.head.cl = cl at *
    cases hl : l.isEmpty with
    | true =>
      have te : (S l).toList.isEmpty = true := by rw [S_toList]; exact hl
      obtain rfl : (!cl) = v := by simpa [hl] using hv
      clear hv hl; go_wp2_with (first | (go_at_call 156; refine HQ.out.mono ?_; rintro e w' ⟨rfl, rfl⟩) | ((with_reducible refine gT 28 ?_); refine wpList_store1K rfl 4 (.tmp 28) _ rfl M1 0 rfl 12 (by rfl) (.bool (!cl)) (by rfl) rfl rfl (by kernel_rfl) (by rw [ErS.len]; omega) (fun _ => by simp) ?_; intro w2 M2; have hR := M2.out; simp only [sqC, s_reuse] at hR; clear M2; have M2 := Lib.hid hR; clear hR; try simp only [Act.put]) | fail); go_meet; exact M2
    | false =>
      have te : (S l).toList.isEmpty = false := by rw [S_toList]; exact hl
      obtain rfl : false = v := by simpa [hl] using hv
      clear hv hl; go_wp2_with (first | (go_at_call 156; refine HQ.out.mono ?_; rintro e w' ⟨rfl, rfl⟩) | ((with_reducible refine gT 28 ?_); refine wpList_store1K rfl 4 (.tmp 28) _ rfl M1 0 rfl 12 (by rfl) (.bool false) (by rfl) rfl rfl (by kernel_rfl) (by rw [ErS.len]; omega) (fun _ => by simp) ?_; intro w2 M2; have hR := M2.out; simp only [sqC, s_reuse] at hR; clear M2; have M2 := Lib.hid hR; clear hR; try simp only [Act.put]) | fail); go_meet; exact M2
  have M2 := hcut; clear hcut M1 H1; have H2 : Hid (Et w0 wc b rp va X ({ E with heard := E.heard + 1, reuse := v } : ErS) n L) := Lib.hid (H.out.own M2.out.2 (M2.out.1.blk 0 rfl) rfl rfl); have HK := Lib.hid (fun w' (m : Hid (MemK w [b] w0 w' [(b, 106, ({ E with heard := E.heard + 1, reuse := v } : ErS).cells rp va)])) => errand_kind E.head.st va E.head.F E.head.len E.head.ch E.head.cl w' (HML.out.keep m.out.1.kp (by simp)) (H.out.own m.out.2 (m.out.1.blk 0 rfl) (E' := ({ E with heard := E.heard + 1, reuse := v } : ErS)) rfl rfl).an); have HF := Lib.hid (fun w' (m : Hid (MemK w [b] w0 w' [(b, 106, ({ E with heard := E.heard + 1, reuse := v } : ErS).cells rp va)])) => er_finish (H.out.own m.out.2 (m.out.1.blk 0 rfl) (E' := ({ E with heard := E.heard + 1, reuse := v } : ErS)) rfl rfl) ⟨200, E.key.dig, typM E.head.F, E.size, E.began⟩); clear H2
  go_upto_region 2 with fail
  refine wp_region_noPanic ?_; refine wp_region_held_drew (S := fun w' => ∃ st r, MemK w [b] w0 w' [(b, 106, ErS.cells { E with heard := E.heard + 1, reuse := v, state := st, res := r } rp va)]) (by kernel_rfl) (⟨E.state, E.res, (Lib.hid (M2.out.keep0 ((Keep.refl _ _).drew))).out⟩) (fun hHeld => ?_); have M2d := Lib.hid (M2.out.keep0 ((Keep.refl _ _).drew)); refine gU 0 (oi := ⟨some 29, .move (.tmp 0), _, _, _, none⟩) (v := ?_) rfl (Or.inl ⟨by rfl, ?_⟩) (by assumption) ?_; rotate_left
  · (intro w' hSw; go_simp) <;> (with_reducible rfl)
  (try simp only [Act.put, sqA, sqC, sqB]); refine gU 1 (oi := ⟨some 30, .move (.tmp 0), _, _, _, none⟩) (v := ?_) rfl (Or.inl ⟨by rfl, ?_⟩) (by assumption) ?_; rotate_left
  · (intro w' hSw; go_simp) <;> (with_reducible rfl)
  (try simp only [Act.put, sqA, sqC, sqB]); refine gU 2 (oi := ⟨some 31, .nilCheck (.tmp 30), _, _, _, none⟩) (v := ?_) rfl (Or.inl ⟨by rfl, ?_⟩) (by assumption) ?_; rotate_left
  · (intro w' hSw; go_simp) <;> (with_reducible rfl)
  (try simp only [Act.put, sqA, sqC, sqB]); refine gU 3 (oi := ⟨some 32, .fieldAddr _ (.tmp 31) 1, _, _, _, none⟩) (v := ?_) rfl (Or.inl ⟨by rfl, ?_⟩) (by assumption) ?_; rotate_left
  · (intro w' hSw; go_simp) <;> (with_reducible rfl)
  (try simp only [Act.put, sqA, sqC, sqB]); refine gU 4 (oi := ⟨some 33, .fieldAddr _ (.tmp 32) 3, _, _, _, none⟩) (v := ?_) rfl (Or.inl ⟨by rfl, ?_⟩) (by assumption) ?_; rotate_left
  · (intro w' hSw; go_simp) <;> (with_reducible rfl)
  (try simp only [Act.put, sqA, sqC, sqB]); refine gU 5 (oi := ⟨some 34, .load _ (.tmp 33), _, _, _, none⟩) rfl (yieldsIf_load_mid (by rfl) 23 (.tmp 33) rfl _ 16 (by rfl) (digC E.key.dig) _ (fun w' hSw => fun j v hj => MemK.get (hSw.choose_spec.choose_spec) 0 rfl (16 + j) (((er_dig _ _ _)) j v hj)) Tryz.underlying23 rfl (dig_size E.key.dig)) (by assumption) ?_; (try simp only [Act.put, sqA, sqC, sqB]); refine gU 6 (oi := ⟨some 35, .move (.tmp 0), _, _, _, none⟩) (v := ?_) rfl (Or.inl ⟨by rfl, ?_⟩) (by assumption) ?_; rotate_left
  · (intro w' hSw; go_simp) <;> (with_reducible rfl)
  (try simp only [Act.put, sqA, sqC, sqB]); refine gU 7 (oi := ⟨some 36, .nilCheck (.tmp 35), _, _, _, none⟩) (v := ?_) rfl (Or.inl ⟨by rfl, ?_⟩) (by assumption) ?_; rotate_left
  · (intro w' hSw; go_simp) <;> (with_reducible rfl)
  (try simp only [Act.put, sqA, sqC, sqB]); refine gU 8 (oi := ⟨some 37, .fieldAddr _ (.tmp 36) 0, _, _, _, none⟩) (v := ?_) rfl (Or.inl ⟨by rfl, ?_⟩) (by assumption) ?_; rotate_left
  · (intro w' hSw; go_simp) <;> (with_reducible rfl)
  (try simp only [Act.put, sqA, sqC, sqB]); refine gU 9 (oi := ⟨some 38, .fieldAddr _ (.tmp 37) 3, _, _, _, none⟩) (v := ?_) rfl (Or.inl ⟨by rfl, ?_⟩) (by assumption) ?_; rotate_left
  · (intro w' hSw; go_simp) <;> (with_reducible rfl)
  (try simp only [Act.put, sqA, sqC, sqB]); refine gU 10 (oi := ⟨some 39, .load _ (.tmp 38), _, _, _, none⟩) rfl (yieldsIf_load_mid (by rfl) 30 (.tmp 38) rfl _ 3 (by rfl) (ansC E.head.st va E.head.len E.head.ch E.head.cl) _ (fun w' hSw => fun j v hj => MemK.get (hSw.choose_spec.choose_spec) 0 rfl (3 + j) (((er_ans _ _ _)) j v hj)) Tryz.underlying30 rfl (an_size E.head.st va E.head.len E.head.ch E.head.cl)) (by assumption) ?_; (try simp only [Act.put, sqA, sqC, sqB]); refine gU 12 (oi := ⟨some 41, .move (.tmp 0), _, _, _, none⟩) (v := ?_) rfl (Or.inl ⟨by rfl, ?_⟩) (by assumption) ?_; rotate_left
  · (intro w' hSw; go_simp) <;> (with_reducible rfl)
  (try simp only [Act.put, sqA, sqC, sqB]); refine gU 13 (oi := ⟨some 42, .nilCheck (.tmp 41), _, _, _, none⟩) (v := ?_) rfl (Or.inl ⟨by rfl, ?_⟩) (by assumption) ?_; rotate_left
  · (intro w' hSw; go_simp) <;> (with_reducible rfl)
  (try simp only [Act.put, sqA, sqC, sqB]); refine gU 14 (oi := ⟨some 43, .fieldAddr _ (.tmp 42) 0, _, _, _, none⟩) (v := ?_) rfl (Or.inl ⟨by rfl, ?_⟩) (by assumption) ?_; rotate_left
  · (intro w' hSw; go_simp) <;> (with_reducible rfl)
  (try simp only [Act.put, sqA, sqC, sqB]); refine gU 15 (oi := ⟨some 44, .fieldAddr _ (.tmp 43) 7, _, _, _, none⟩) (v := ?_) rfl (Or.inl ⟨by rfl, ?_⟩) (by assumption) ?_; rotate_left
  · (intro w' hSw; go_simp) <;> (with_reducible rfl)
  (try simp only [Act.put, sqA, sqC, sqB]); refine gU 16 (oi := ⟨some 45, .load _ (.tmp 44), _, _, _, none⟩) (v := ?_) rfl (Or.inl ⟨by rfl, ?_⟩) (by assumption) ?_; rotate_left
  · (intro w' hSw; have hy11 : w'.cell? ⟨b, 11, Option.none⟩ = some (.int .i64 E.size) := hSw.choose_spec.choose_spec.get 0 rfl 11 (g_size _ _ _); have hy1 : w'.cell? ⟨b, 1, Option.none⟩ = some (.int .i64 E.began) := hSw.choose_spec.choose_spec.get 0 rfl 1 (g_began _ _ _); clear hSw; go_simp) <;> (with_reducible rfl)
  (try simp only [Act.put, sqA, sqC, sqB]); refine gU 17 (oi := ⟨some 46, .move (.tmp 0), _, _, _, none⟩) (v := ?_) rfl (Or.inl ⟨by rfl, ?_⟩) (by assumption) ?_; rotate_left
  · (intro w' hSw; go_simp) <;> (with_reducible rfl)
  (try simp only [Act.put, sqA, sqC, sqB]); refine gU 18 (oi := ⟨some 47, .nilCheck (.tmp 46), _, _, _, none⟩) (v := ?_) rfl (Or.inl ⟨by rfl, ?_⟩) (by assumption) ?_; rotate_left
  · (intro w' hSw; go_simp) <;> (with_reducible rfl)
  (try simp only [Act.put, sqA, sqC, sqB]); refine gU 19 (oi := ⟨some 48, .fieldAddr _ (.tmp 47) 0, _, _, _, none⟩) (v := ?_) rfl (Or.inl ⟨by rfl, ?_⟩) (by assumption) ?_; rotate_left
  · (intro w' hSw; go_simp) <;> (with_reducible rfl)
  (try simp only [Act.put, sqA, sqC, sqB]); refine gU 20 (oi := ⟨some 49, .fieldAddr _ (.tmp 48) 1, _, _, _, none⟩) (v := ?_) rfl (Or.inl ⟨by rfl, ?_⟩) (by assumption) ?_; rotate_left
  · (intro w' hSw; go_simp) <;> (with_reducible rfl)
  (try simp only [Act.put, sqA, sqC, sqB]); refine gU 21 (oi := ⟨some 50, .load _ (.tmp 49), _, _, _, none⟩) (v := ?_) rfl (Or.inl ⟨by rfl, ?_⟩) (by assumption) ?_; rotate_left
  · (intro w' hSw; have hy11 : w'.cell? ⟨b, 11, Option.none⟩ = some (.int .i64 E.size) := hSw.choose_spec.choose_spec.get 0 rfl 11 (g_size _ _ _); have hy1 : w'.cell? ⟨b, 1, Option.none⟩ = some (.int .i64 E.began) := hSw.choose_spec.choose_spec.get 0 rfl 1 (g_began _ _ _); clear hSw; go_simp) <;> (with_reducible rfl)
  (try simp only [Act.put, sqA, sqC, sqB]); refine gR 11 rfl (fun K hK => ?_); go_simp; refine (HK.out _ M2d).mono ?_; rintro e wr1 ⟨rfl, kR⟩; have MR1 := Lib.hid (M2d.out.keep0 kR); clear kR; (try go_simp); refine hK.out _ _ (⟨E.state, E.res, MR1.out⟩) (fun hHeld => ?_); clear hK K; (try simp only [Act.put, sqA, sqC, sqB]); refine gU 22 (oi := ⟨some 51, _, _, _, _, none⟩) rfl (yieldsIf_buildM (by rfl) 39 _ rfl ([(0, .int .i64 200), (1, .agg (digC E.key.dig).toArray), (2, .string (S (typM E.head.F))), (3, .int .i64 E.size), (4, .int .i64 E.began)]) (by simp [Act.eval]) ((⟨200, E.key.dig, typM E.head.F, E.size, E.began⟩ : Rs).cells) HBR) (by assumption) ?_; (try simp only [Act.put, sqA, sqC, sqB]); refine gR 23 rfl (fun K hK => ?_); go_simp; refine (HF.out _ MR1).mono ?_; rintro e wr2 ⟨rfl, hE, hk⟩; have HE := Lib.hid hE; have MR2 : Hid (MemK w [b] w0 wr2 [(b, 106, ErS.cells { E with heard := E.heard + 1, reuse := v, state := 3, res := ⟨200, E.key.dig, typM E.head.F, E.size, E.began⟩ } rp va)]) := Lib.hid ⟨hE.mem.1, MR1.out.2.trans hk⟩; clear hE hk; (try go_simp); refine hK.out _ _ (⟨3, ⟨200, E.key.dig, typM E.head.F, E.size, E.began⟩, MR2.out⟩) (fun hHeld => ?_); clear hK K; (try simp only [Act.put, sqA, sqC, sqB]); refine wpAnyH_done (by kernel_rfl) ?_ _; refine NoPanic.normal ?_; go_wp2_with fail
  first | go_end0 | refine bodyPost_ret (results_none rfl _ _ _) rfl ?_
  rw [HR.out]; exact ⟨rfl, HE.out, MR2.out.2⟩
end
end Go.Proofs.YtlhnjkekjbbhcaaGreatDoor
