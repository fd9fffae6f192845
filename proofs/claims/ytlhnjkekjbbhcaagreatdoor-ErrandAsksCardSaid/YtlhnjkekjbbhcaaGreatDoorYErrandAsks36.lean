/- Parts of the proof of ErrandAsks, in order. No conditions but those that each theorem states. -/
import Derived.Test.YtlhnjkekjbbhcaaGreatDoorYErrandAsks0
import Derived.Lib.SlBytesConst
import Derived.Lib.LaidTab
import Derived.Lib.ItoaNum
import Derived.Lib.ItoaLen
import Derived.Sort.Grow
import Derived.Test.YtlhnjkekjbbhcaaGreatDoorYErrandAsks35
set_option linter.unusedSimpArgs false
set_option linter.unusedVariables false
namespace Go.Proofs.YtlhnjkekjbbhcaaGreatDoor
open Go.RowKit Go.Shelf
theorem bd_rsOf (a : Int) : Tryz.prog.built 39 [(0, .int .i64 a)] = some (rsOf a).cells.toArray := by kernel_rfl
section
variable {w0 w : World} {b n : Nat} {rp va : Value} {X L : List Nat} {E : ErS}
set_option maxRecDepth 100000 in
set_option maxHeartbeats 1600000 in
theorem er_finish (h : Et w0 w b rp va X E n L) (r : Rs) : Calls Tryz.prog 69 #[.pointer (some ⟨b, 0, Option.none⟩), .agg r.cells.toArray] w fun e w' => e = .returned (.tuple #[]) ∧ Et w0 w' b rp va X (erFin E r) n L ∧ Keep [b] w w' := by
  have M0 : Hid (MemK w [b] w0 w [(b, 106, E.cells rp va)]) := Lib.hid (MemK.of h.mem.1 [b]); have H := Lib.hid h; clear h; go_enter Tryz.func69, Tryz.ntmps69
  go_upto_region 1 with (first | ((with_reducible refine gX 3 ?_); refine wpList_boxK rfl 39 (.tmp 1) rfl (r.cells) (by rfl) M0 ?_; intro c w1 M1 hnewc; try simp only [Act.put, sqA, sqB, sqC]) | fail)
  refine wp_region_noPanic ?_; refine wp_region_held_drew (S := fun w' => ∃ cs, MemK w [b] w0 w' [(c, 39, r.cells), (b, 106, cs)]) (by kernel_rfl) (⟨_, (Lib.hid (M1.out.keep0 ((Keep.refl _ _).drew))).out⟩) (fun hHeld => ?_); have M1d := Lib.hid (M1.out.keep0 ((Keep.refl _ _).drew)); refine gU 0 (oi := ⟨some 4, .move (.tmp 0), _, _, _, none⟩) (v := ?_) rfl (Or.inl ⟨by rfl, ?_⟩) (by assumption) ?_; rotate_left
  · (intro w' hSw; go_simp) <;> (with_reducible rfl)
  (try simp only [Act.put, sqA, sqC, sqB]); refine gU 1 (oi := ⟨some 5, .move (.tmp 0), _, _, _, none⟩) (v := ?_) rfl (Or.inl ⟨by rfl, ?_⟩) (by assumption) ?_; rotate_left
  · (intro w' hSw; go_simp) <;> (with_reducible rfl)
  (try simp only [Act.put, sqA, sqC, sqB]); refine gU 2 (oi := ⟨some 6, .load _ (.tmp 3), _, _, _, none⟩) rfl (yieldsIf_load_mid (by rfl) 39 (.tmp 3) rfl _ 0 (by rfl) (r.cells) _ (fun w' hSw => ((hSw.choose_spec).1.blk 0 (by rfl)).range') Tryz.underlying39 rfl (rs_size r)) (by assumption) ?_; (try simp only [Act.put, sqA, sqC, sqB]); refine gU 3 (oi := ⟨some 7, .nilCheck (.tmp 4), _, _, _, none⟩) (v := ?_) rfl (Or.inl ⟨by rfl, ?_⟩) (by assumption) ?_; rotate_left
  · (intro w' hSw; go_simp) <;> (with_reducible rfl)
  (try simp only [Act.put, sqA, sqC, sqB]); refine gU 4 (oi := ⟨some 8, .fieldAddr _ (.tmp 7) 4, _, _, _, none⟩) (v := ?_) rfl (Or.inl ⟨by rfl, ?_⟩) (by assumption) ?_; rotate_left
  · (intro w' hSw; go_simp) <;> (with_reducible rfl)
  (try simp only [Act.put, sqA, sqC, sqB]); refine gR 5 rfl (fun K hK => ?_); rw [if_pos (by rfl)]; refine wp_store1K 3 (.tmp 8) _ rfl M1d 1 rfl 100 (by rfl) (.int .i64 3) (by rfl) rfl rfl (by kernel_rfl) (by rw [ErS.len]; omega) (fun _ => by simp) ?_; intro wr1 MR1; have hR := MR1.out; simp only [sqC, sqB, s_state] at hR; clear MR1; have MR1 := Lib.hid hR; clear hR; refine hK.out _ _ (⟨_, MR1.out⟩) (fun hHeld => ?_); clear hK K; (try simp only [Act.put, sqA]); refine gU 6 (oi := ⟨some 9, .nilCheck (.tmp 5), _, _, _, none⟩) (v := ?_) rfl (Or.inl ⟨by rfl, ?_⟩) (by assumption) ?_; rotate_left
  · (intro w' hSw; go_simp) <;> (with_reducible rfl)
  (try simp only [Act.put]); refine gU 7 (oi := ⟨some 10, .fieldAddr _ (.tmp 9) 6, _, _, _, none⟩) (v := ?_) rfl (Or.inl ⟨by rfl, ?_⟩) (by assumption) ?_; rotate_left
  · (intro w' hSw; go_simp) <;> (with_reducible rfl)
  (try simp only [Act.put]); refine gR 8 rfl (fun K hK => ?_); rw [if_pos (by rfl)]; refine wp_storePartK 39 (.tmp 10) _ rfl MR1 1 rfl 102 (by rfl) (r.cells) (by rfl) (rs_size r) (ErS.upto { E with state := 3 } rp va) (E.res.cells) (E.low) (p_res _ _ _) (by rw [Rs.len, Rs.len]) (ErS.upto_len _ _ _).symm (Rs.one r) (fun _ => by simp) ?_; intro wr2 MR2; have hR := MR2.out; simp only [sqC, sqB, (show ErS.upto { E with state := 3 } rp va ++ r.cells ++ E.low = (erFin E r).cells rp va from p_res' { E with state := 3 } rp va r)] at hR; clear MR2; have MR2 := Lib.hid hR; clear hR; refine hK.out _ _ (⟨_, MR2.out⟩) (fun hHeld => ?_); clear hK K; (try simp only [Act.put]); refine wpAnyH_done (by kernel_rfl) ?_ _; refine NoPanic.normal ?_; go_wp2_with fail
  first | go_end0 | refine bodyPost_ret (results_none rfl _ _ _) rfl ?_
  exact ⟨rfl, H.out.own MR2.out.2 (MR2.out.1.blk 1 rfl) rfl rfl, MR2.out.2⟩
theorem miss_last {E : ErS} {s now : Int} (h : E.cfg.re < E.tries) : erMiss E s now = erFin { E with misses := E.misses + 1 } (rsOf s) := by unfold erMiss; rw [if_pos h]
theorem miss_wait {E : ErS} {s now : Int} (h : ¬ E.cfg.re < E.tries) : erMiss E s now = { E with misses := E.misses + 1, state := 1, unt := now + waitM E.cfg.bo E.tries } := by unfold erMiss; rw [if_neg h]
def smallE (E : ErS) (now : Int) : Prop := (0 ≤ E.misses ∧ E.misses ≤ 1152921504606846976) ∧ (0 ≤ now ∧ now ≤ 1152921504606846976) ∧ E.cfg.bo < 18446744073709551616
set_option maxRecDepth 100000 in
set_option maxHeartbeats 1600000 in
theorem er_miss (h : Et w0 w b rp va X E n L) (s now : Int) (hs : smallE E now) : Calls Tryz.prog 65 #[.pointer (some ⟨b, 0, Option.none⟩), .int .i64 s, .int .i64 now] w fun e w' => e = .returned (.tuple #[]) ∧ Et w0 w' b rp va X (erMiss E s now) n L ∧ Keep [b] w w' := by
  have c139 := h.blk.get (g_misses E rp va); have M0 : Hid (MemK w [b] w0 w [(b, 106, E.cells rp va)]) := Lib.hid (MemK.of h.mem.1 [b]); have H := Lib.hid h; have HB := Lib.hid (bd_rsOf s); obtain ⟨hm, hnow, hbo⟩ := hs; have hw := wait_ok (t := E.tries) hbo; clear h; by_cases hc : E.cfg.re < E.tries
  · have HR := Lib.hid (miss_last (s := s) (now := now) hc); go_enter Tryz.func65, Tryz.ntmps65
    go_upto_region 1 with (first | ((with_reducible refine gT 12 ?_); refine wpList_store1K rfl 3 (.tmp 12) _ rfl M0 0 rfl 139 (by rfl) (.int .i64 (E.misses + 1)) (by rfl) rfl rfl (by kernel_rfl) (by rw [ErS.len]; omega) (fun _ => by simp) ?_; intro w1 M1; have hR := M1.out; simp only [sqC, s_misses] at hR; clear M1; have M1 := Lib.hid hR; clear hR; have c138 := M1.out.get 0 rfl 138 (g_tries _ _ _); have c54 := M1.out.get 0 rfl 54 (g_re _ _ _); try simp only [Act.put]) | fail)
    clear c139
    go_cut [22] (fun v wx => v = .bool true ∧ Hid (Keep [] w1 wx))
    case first =>
      go_quiet (fail); go_wp2_with fail; go_meet; exact ⟨by first | rfl | exact congrArg Value.bool (decide_eq_true hc), Lib.hid ((Keep.refl _ _).drewN _)⟩
    obtain ⟨rfl, kq⟩ := hcut; have M2 := Lib.hid (M1.out.keep0 kq.out); have HF := Lib.hid (er_finish (H.out.own M2.out.2 (M2.out.1.blk 0 rfl) rfl rfl) (rsOf s)); clear kq c138 c54
    go_wp2_with (first | ((with_reducible refine gB 25 ?_); refine wpList_buildM (by rfl) 39 _ rfl ([(0, .int .i64 s)]) (by simp [Act.eval]) ((rsOf s).cells) HB ?_; try simp only [Act.put, sqA, sqB, sqC]) | fail); refine HF.out.mono ?_; rintro e w3 ⟨rfl, h3, k3⟩; have H3 := Lib.hid h3; have K3 := Lib.hid (M2.out.2.trans k3); clear h3 k3; go_wp2_with fail
    first | go_end0 | refine bodyPost_ret (results_none rfl _ _ _) rfl ?_
    rw [HR.out]; exact ⟨rfl, H3.out, K3.out⟩
  · have HR := Lib.hid (miss_wait (s := s) (now := now) hc); have HW := Lib.hid (fun w' => term_Wait E.cfg.bo E.tries hbo w'); go_enter Tryz.func65, Tryz.ntmps65
    go_upto_region 1 with (first | ((with_reducible refine gT 12 ?_); refine wpList_store1K rfl 3 (.tmp 12) _ rfl M0 0 rfl 139 (by rfl) (.int .i64 (E.misses + 1)) (by rfl) rfl rfl (by kernel_rfl) (by rw [ErS.len]; omega) (fun _ => by simp) ?_; intro w1 M1; have hR := M1.out; simp only [sqC, s_misses] at hR; clear M1; have M1 := Lib.hid hR; clear hR; have c138 := M1.out.get 0 rfl 138 (g_tries _ _ _); have c54 := M1.out.get 0 rfl 54 (g_re _ _ _); try simp only [Act.put]) | fail)
    clear c139
    go_cut [22] (fun v wx => v = .bool false ∧ Hid (Keep [] w1 wx))
    case first =>
      go_quiet (fail); go_wp2_with fail; go_meet; exact ⟨by first | rfl | exact congrArg Value.bool (decide_eq_false hc), Lib.hid ((Keep.refl _ _).drewN _)⟩
    obtain ⟨rfl, kq⟩ := hcut; have M2 := Lib.hid (M1.out.keep0 kq.out); clear kq c138 c54
    go_upto_region 4 with (first | ((with_reducible refine gT 29 ?_); refine wpList_store1K rfl 3 (.tmp 29) _ rfl M2 0 rfl 100 (by rfl) (.int .i64 1) (by rfl) rfl rfl (by kernel_rfl) (by rw [ErS.len]; omega) (fun _ => by simp) ?_; intro w3 M3; have hR := M3.out; simp only [sqC, s_state] at hR; clear M3; have M3 := Lib.hid hR; clear hR; try simp only [Act.put]) | fail)
    have hwrap := Lib.hid (IntWalk.i64_in (now + waitM E.cfg.bo E.tries) (by omega)); have M3' : Hid (MemK w [b] w0 w3 [(b, 106, ({ E with misses := E.misses + 1, state := 1 } : ErS).cells rp va)]) := M3; refine wp_region_noPanic ?_; refine wp_region_held_drew (S := fun w' => w'.cell? ⟨b, 60, Option.none⟩ = some (.float .f64 E.cfg.bo) ∧ w'.cell? ⟨b, 138, Option.none⟩ = some (.int .i64 E.tries)) (by kernel_rfl) (⟨(Lib.hid (M3'.out.keep0 ((Keep.refl _ _).drew))).out.get 0 rfl 60 (g_bo _ _ _), (Lib.hid (M3'.out.keep0 ((Keep.refl _ _).drew))).out.get 0 rfl 138 (g_tries _ _ _)⟩) (fun hHeld => ?_); have M3'd := Lib.hid (M3'.out.keep0 ((Keep.refl _ _).drew)); refine gU 0 (oi := ⟨some 30, .move (.tmp 0), _, _, _, none⟩) (v := ?_) rfl (Or.inl ⟨by rfl, ?_⟩) (by assumption) ?_; rotate_left
    · (intro w' hSw; go_simp) <;> (with_reducible rfl)
    (try simp only [Act.put, sqA, sqC, sqB]); refine gU 1 (oi := ⟨some 31, .move (.tmp 2), _, _, _, none⟩) (v := ?_) rfl (Or.inl ⟨by rfl, ?_⟩) (by assumption) ?_; rotate_left
    · (intro w' hSw; go_simp) <;> (with_reducible rfl)
    (try simp only [Act.put, sqA, sqC, sqB]); refine gU 2 (oi := ⟨some 32, .move (.tmp 0), _, _, _, none⟩) (v := ?_) rfl (Or.inl ⟨by rfl, ?_⟩) (by assumption) ?_; rotate_left
    · (intro w' hSw; go_simp) <;> (with_reducible rfl)
    (try simp only [Act.put, sqA, sqC, sqB]); refine gU 3 (oi := ⟨some 33, .nilCheck (.tmp 32), _, _, _, none⟩) (v := ?_) rfl (Or.inl ⟨by rfl, ?_⟩) (by assumption) ?_; rotate_left
    · (intro w' hSw; go_simp) <;> (with_reducible rfl)
    (try simp only [Act.put, sqA, sqC, sqB]); refine gU 4 (oi := ⟨some 34, .fieldAddr _ (.tmp 33) 2, _, _, _, none⟩) (v := ?_) rfl (Or.inl ⟨by rfl, ?_⟩) (by assumption) ?_; rotate_left
    · (intro w' hSw; go_simp) <;> (with_reducible rfl)
    (try simp only [Act.put, sqA, sqC, sqB]); refine gU 5 (oi := ⟨some 35, .fieldAddr _ (.tmp 34) 11, _, _, _, none⟩) (v := ?_) rfl (Or.inl ⟨by rfl, ?_⟩) (by assumption) ?_; rotate_left
    · (intro w' hSw; go_simp) <;> (with_reducible rfl)
    (try simp only [Act.put, sqA, sqC, sqB]); refine gU 6 (oi := ⟨some 36, .load _ (.tmp 35), _, _, _, none⟩) (v := ?_) rfl (Or.inl ⟨by rfl, ?_⟩) (by assumption) ?_; rotate_left
    · (intro w' hSw; obtain ⟨hy60, hy138⟩ := hSw; go_simp) <;> (with_reducible rfl)
    (try simp only [Act.put, sqA, sqC, sqB]); refine gU 7 (oi := ⟨some 37, .move (.tmp 0), _, _, _, none⟩) (v := ?_) rfl (Or.inl ⟨by rfl, ?_⟩) (by assumption) ?_; rotate_left
    · (intro w' hSw; go_simp) <;> (with_reducible rfl)
    (try simp only [Act.put, sqA, sqC, sqB]); refine gU 8 (oi := ⟨some 38, .nilCheck (.tmp 37), _, _, _, none⟩) (v := ?_) rfl (Or.inl ⟨by rfl, ?_⟩) (by assumption) ?_; rotate_left
    · (intro w' hSw; go_simp) <;> (with_reducible rfl)
    (try simp only [Act.put, sqA, sqC, sqB]); refine gU 9 (oi := ⟨some 39, .fieldAddr _ (.tmp 38) 7, _, _, _, none⟩) (v := ?_) rfl (Or.inl ⟨by rfl, ?_⟩) (by assumption) ?_; rotate_left
    · (intro w' hSw; go_simp) <;> (with_reducible rfl)
    (try simp only [Act.put, sqA, sqC, sqB]); refine gU 10 (oi := ⟨some 40, .load _ (.tmp 39), _, _, _, none⟩) (v := ?_) rfl (Or.inl ⟨by rfl, ?_⟩) (by assumption) ?_; rotate_left
    · (intro w' hSw; obtain ⟨hy60, hy138⟩ := hSw; go_simp) <;> (with_reducible rfl)
    (try simp only [Act.put, sqA, sqC, sqB]); refine gR 11 rfl (fun K hK => ?_); go_simp; refine (HW.out _).mono ?_; rintro e wr1 ⟨rfl, kR⟩; have MR1 := Lib.hid (M3'd.out.keep0 kR); clear kR; (try go_simp); refine hK.out _ _ (⟨MR1.out.get 0 rfl 60 (g_bo _ _ _), MR1.out.get 0 rfl 138 (g_tries _ _ _)⟩) (fun hHeld => ?_); clear hK K; (try simp only [Act.put, sqA, sqC, sqB]); refine gU 12 (oi := ⟨some 42, .binOp _ _ _ _ _, _, _, _, none⟩) (v := ?_) rfl (Or.inl ⟨by rfl, ?_⟩) (by assumption) ?_; rotate_left
    · (intro w' hSw; go_simp) <;> (with_reducible rfl)
    (try simp only [Act.put, sqA, sqC, sqB]); refine gU 13 (oi := ⟨some 43, .nilCheck (.tmp 30), _, _, _, none⟩) (v := ?_) rfl (Or.inl ⟨by rfl, ?_⟩) (by assumption) ?_; rotate_left
    · (intro w' hSw; go_simp) <;> (with_reducible rfl)
    (try simp only [Act.put, sqA, sqC, sqB]); refine gU 14 (oi := ⟨some 44, .fieldAddr _ (.tmp 43) 5, _, _, _, none⟩) (v := ?_) rfl (Or.inl ⟨by rfl, ?_⟩) (by assumption) ?_; rotate_left
    · (intro w' hSw; go_simp) <;> (with_reducible rfl)
    (try simp only [Act.put, sqA, sqC, sqB]); refine gR 15 rfl (fun K hK => ?_); rw [if_pos (by rfl)]; refine wp_store1K 3 (.tmp 44) _ rfl MR1 0 rfl 101 (by rfl) (.int .i64 (IntKind.i64.wrap (now + waitM E.cfg.bo E.tries))) (by rfl) rfl rfl (by kernel_rfl) (by rw [ErS.len]; omega) (fun _ => by simp) ?_; intro wr2 MR2; have hR := MR2.out; simp only [sqC, s_unt, hwrap.out] at hR; clear MR2; have MR2 := Lib.hid hR; clear hR; refine hK.out _ _ (⟨MR2.out.get 0 rfl 60 (g_bo _ _ _), MR2.out.get 0 rfl 138 (g_tries _ _ _)⟩) (fun hHeld => ?_); clear hK K; (try simp only [Act.put, sqA]); refine wpAnyH_done (by kernel_rfl) ?_ _; refine NoPanic.normal ?_; go_wp2_with fail
    first | go_end0 | refine bodyPost_ret (results_none rfl _ _ _) rfl ?_
    rw [HR.out]; exact ⟨rfl, H.out.own MR2.out.2 (MR2.out.1.blk 0 rfl) rfl rfl, MR2.out.2⟩
end
end Go.Proofs.YtlhnjkekjbbhcaaGreatDoor
namespace Go.Proofs.YtlhnjkekjbbhcaaGreatDoor
open Go.RowKit Go.Shelf
section
variable {w0 w : World} {b n : Nat} {rp va : Value} {X L : List Nat} {E : ErS}
theorem er_dig (E : ErS) (rp va : Value) : ∀ j v, (digC E.key.dig)[j]? = some v → (E.cells rp va)[16 + j]? = some v := fun j v hv => by
  have hj := (List.getElem?_eq_some_iff.1 hv).1; rw [digC_length] at hj; rw [show 16 + j = 13 + (3 + j) by omega, er_key E rp va (by omega)]; exact E.key.at_dig j v hv
theorem er_ans (E : ErS) (rp va : Value) : ∀ j v, (ansC E.head.st va E.head.len E.head.ch E.head.cl)[j]? = some v → (E.cells rp va)[3 + j]? = some v := fun j v hv => by
  have hj : j < 5 := (List.getElem?_eq_some_iff.1 hv).1; rw [er_top E rp va _ (by omega)]; rcases j with _ | _ | _ | _ | _ | j
  · exact hv
  · exact hv
  · exact hv
  · exact hv
  · exact hv
  · omega
theorem clean_str (l : List UInt8) : decide (l = []) = l.isEmpty := by cases l <;> simp
theorem end_eq {E : ErS} {P : ReS} {v : Bool} (h : (decide (reRest P = []) && !E.head.cl) = v) (hP : E.rep = some P) : erEnd E P = erFin { E with heard := E.heard + 1, reuse := v } ⟨200, E.key.dig, typM E.head.F, E.size, E.began⟩ := by
  unfold erEnd; rw [h]; congr 1; rw [← hP]
set_option maxRecDepth 100000 in
set_option maxHeartbeats 3200000 in
theorem er_ended (h : Et w0 w b rp va X E n L) (hm : ML w0) {P : ReS} (hP : E.rep = some P) (hh : 0 ≤ E.heard ∧ E.heard ≤ 1152921504606846976) : Calls Tryz.prog 104 #[.pointer (some ⟨b, 0, Option.none⟩)] w fun e w' => e = .returned (.tuple #[]) ∧ Et w0 w' b rp va X (erEnd E P) n L ∧ Keep [b] w w' := by
  have c141 := h.blk.get (g_heard E rp va); have M0 : Hid (MemK w [b] w0 w [(b, 106, E.cells rp va)]) := Lib.hid (MemK.of h.mem.1 [b]); have H := Lib.hid h; have HP := Lib.hid hP; have HML := Lib.hid hm; have HBR := Lib.hid (bd_rs 200 E.key.dig (typM E.head.F) E.size E.began); obtain ⟨p, hrp, _⟩ := h.reply hP; have HRP := Lib.hid hrp; obtain ⟨v, hv⟩ : ∃ v, (decide (reRest P = []) && !E.head.cl) = v := ⟨_, rfl⟩
  have HR := Lib.hid (end_eq hv hP); have HV := Lib.hid hv; clear h hP hm hrp hv; go_enter Tryz.func104, Tryz.ntmps104
  go_upto_region 1 with (first | ((with_reducible refine gT 8 ?_); refine wpList_store1K rfl 3 (.tmp 8) _ rfl M0 0 rfl 141 (by rfl) (.int .i64 (E.heard + 1)) (by rfl) rfl rfl (by kernel_rfl) (by rw [ErS.len]; omega) (fun _ => by simp) ?_; intro w1 M1; have hR := M1.out; simp only [sqC, s_heard] at hR; clear M1; have M1 := Lib.hid hR; clear hR; clear c141; try simp only [Act.put]) | fail)
  have H1 : Hid (Et w0 w1 b rp va X ({ E with heard := E.heard + 1 } : ErS) n L) := Lib.hid (H.out.own M1.out.2 (M1.out.1.blk 0 rfl) rfl rfl)
  go_cut [] (fun wx => Hid (MemK w [b] w0 wx [(b, 106, ({ E with heard := E.heard + 1, reuse := v } : ErS).cells rp va)]))
  case first =>
    have c0 := M1.out.get 0 rfl 0 (g_rep _ _ _); have c7 := M1.out.get 0 rfl 7 (g_cl _ _ _); obtain ⟨p', hp', hR'⟩ := H1.out.reply (P := P) HP.out; obtain rfl : p' = p := by simpa using hp'.symm.trans HRP.out
    have HQ := Lib.hid (rp_rest hR'); have hv := HV.out; rw [clean_str] at hv; rw [HRP.out] at c0; clear hp' hR'; generalize reRest P = l at *; have hcl : ({ E with heard := E.heard + 1 } : ErS).head.cl = E.head.cl := rfl; rw [hcl] at c7; clear hcl; generalize E.head.cl = cl at *
    cases hl : l.isEmpty with
    | true =>
      have te : (S l).toList.isEmpty = true := by rw [S_toList]; exact hl
      obtain rfl : (!cl) = v := by simpa [hl] using hv
      clear hv hl; go_wp2_with (first | (go_at_call 156; refine HQ.out.mono ?_; rintro e w' ⟨rfl, rfl⟩) | ((with_reducible refine gT 28 ?_); refine wpList_store1K rfl 4 (.tmp 28) _ rfl M1 0 rfl 12 (by rfl) (.bool (!cl)) (by rfl) rfl rfl (by kernel_rfl) (by rw [ErS.len]; omega) (fun _ => by simp) ?_; intro w2 M2; have hR := M2.out; simp only [sqC, s_reuse] at hR; clear M2; have M2 := Lib.hid hR; clear hR; try simp only [Act.put]) | fail); go_meet; exact M2
    | false =>
      have te : (S l).toList.isEmpty = false := by rw [S_toList]; exact hl
      obtain rfl : false = v := by simpa [hl] using hv
      clear hv hl; go_wp2_with (first | (go_at_call 156; refine HQ.out.mono ?_; rintro e w' ⟨rfl, rfl⟩) | ((with_reducible refine gT 28 ?_); refine wpList_store1K rfl 4 (.tmp 28) _ rfl M1 0 rfl 12 (by rfl) (.bool false) (by rfl) rfl rfl (by kernel_rfl) (by rw [ErS.len]; omega) (fun _ => by simp) ?_; intro w2 M2; have hR := M2.out; simp only [sqC, s_reuse] at hR; clear M2; have M2 := Lib.hid hR; clear hR; try simp only [Act.put]) | fail); go_meet; exact M2
  have M2 := hcut; clear hcut M1 H1; have H2 : Hid (Et w0 wc b rp va X ({ E with heard := E.heard + 1, reuse := v } : ErS) n L) := Lib.hid (H.out.own M2.out.2 (M2.out.1.blk 0 rfl) rfl rfl); have HK := Lib.hid (fun w' (m : Hid (MemK w [b] w0 w' [(b, 106, ({ E with heard := E.heard + 1, reuse := v } : ErS).cells rp va)])) => errand_kind E.head.st va E.head.F E.head.len E.head.ch E.head.cl w' (HML.out.keep m.out.1.kp (by simp)) (H.out.own m.out.2 (m.out.1.blk 0 rfl) (E' := ({ E with heard := E.heard + 1, reuse := v } : ErS)) rfl rfl).an); have HF := Lib.hid (fun w' (m : Hid (MemK w [b] w0 w' [(b, 106, ({ E with heard := E.heard + 1, reuse := v } : ErS).cells rp va)])) => er_finish (H.out.own m.out.2 (m.out.1.blk 0 rfl) (E' := ({ E with heard := E.heard + 1, reuse := v } : ErS)) rfl rfl) ⟨200, E.key.dig, typM E.head.F, E.size, E.began⟩); clear H2
  go_upto_region 2 with fail
  refine wp_region_noPanic ?_; refine wp_region_held_drew (S := fun w' => ∃ st r, MemK w [b] w0 w' [(b, 106, ErS.cells { E with heard := E.heard + 1, reuse := v, state := st, res := r } rp va)]) (by kernel_rfl) (⟨E.state, E.res, (Lib.hid (M2.out.keep0 ((Keep.refl _ _).drew))).out⟩) (fun hHeld => ?_); have M2d := Lib.hid (M2.out.keep0 ((Keep.refl _ _).drew)); refine gU 0 (oi := ⟨some 29, .move (.tmp 0), _, _, _, none⟩) (v := ?_) rfl (Or.inl ⟨by rfl, ?_⟩) (by assumption) ?_; rotate_left
  · (intro w' hSw; go_simp) <;> (with_reducible rfl)
  (try simp only [Act.put, sqA, sqC, sqB]); refine gU 1 (oi := ⟨some 30, .move (.tmp 0), _, _, _, none⟩) (v := ?_) rfl (Or.inl ⟨by rfl, ?_⟩) (by assumption) ?_; rotate_left
  · (intro w' hSw; go_simp) <;> (with_reducible rfl)
  (try simp only [Act.put, sqA, sqC, sqB]); refine gU 2 (oi := ⟨some 31, .nilCheck (.tmp 30), _, _, _, none⟩) (v := ?_) rfl (Or.inl ⟨by rfl, ?_⟩) (by assumption) ?_; rotate_left
  · (intro w' hSw; go_simp) <;> (with_reducible rfl)
  (try simp only [Act.put, sqA, sqC, sqB]); refine gU 3 (oi := ⟨some 32, .fieldAddr _ (.tmp 31) 1, _, _, _, none⟩) (v := ?_) rfl (Or.inl ⟨by rfl, ?_⟩) (by assumption) ?_; rotate_left
  · (intro w' hSw; go_simp) <;> (with_reducible rfl)
  (try simp only [Act.put, sqA, sqC, sqB]); refine gU 4 (oi := ⟨some 33, .fieldAddr _ (.tmp 32) 3, _, _, _, none⟩) (v := ?_) rfl (Or.inl ⟨by rfl, ?_⟩) (by assumption) ?_; rotate_left
  · (intro w' hSw; go_simp) <;> (with_reducible rfl)
  (try simp only [Act.put, sqA, sqC, sqB]); refine gU 5 (oi := ⟨some 34, .load _ (.tmp 33), _, _, _, none⟩) rfl (yieldsIf_load_mid (by rfl) 23 (.tmp 33) rfl _ 16 (by rfl) (digC E.key.dig) _ (fun w' hSw => fun j v hj => MemK.get (hSw.choose_spec.choose_spec) 0 rfl (16 + j) (((er_dig _ _ _)) j v hj)) Tryz.underlying23 rfl (dig_size E.key.dig)) (by assumption) ?_; (try simp only [Act.put, sqA, sqC, sqB]); refine gU 6 (oi := ⟨some 35, .move (.tmp 0), _, _, _, none⟩) (v := ?_) rfl (Or.inl ⟨by rfl, ?_⟩) (by assumption) ?_; rotate_left
  · (intro w' hSw; go_simp) <;> (with_reducible rfl)
  (try simp only [Act.put, sqA, sqC, sqB]); refine gU 7 (oi := ⟨some 36, .nilCheck (.tmp 35), _, _, _, none⟩) (v := ?_) rfl (Or.inl ⟨by rfl, ?_⟩) (by assumption) ?_; rotate_left
  · (intro w' hSw; go_simp) <;> (with_reducible rfl)
  (try simp only [Act.put, sqA, sqC, sqB]); refine gU 8 (oi := ⟨some 37, .fieldAddr _ (.tmp 36) 0, _, _, _, none⟩) (v := ?_) rfl (Or.inl ⟨by rfl, ?_⟩) (by assumption) ?_; rotate_left
  · (intro w' hSw; go_simp) <;> (with_reducible rfl)
  (try simp only [Act.put, sqA, sqC, sqB]); refine gU 9 (oi := ⟨some 38, .fieldAddr _ (.tmp 37) 3, _, _, _, none⟩) (v := ?_) rfl (Or.inl ⟨by rfl, ?_⟩) (by assumption) ?_; rotate_left
  · (intro w' hSw; go_simp) <;> (with_reducible rfl)
  (try simp only [Act.put, sqA, sqC, sqB]); refine gU 10 (oi := ⟨some 39, .load _ (.tmp 38), _, _, _, none⟩) rfl (yieldsIf_load_mid (by rfl) 30 (.tmp 38) rfl _ 3 (by rfl) (ansC E.head.st va E.head.len E.head.ch E.head.cl) _ (fun w' hSw => fun j v hj => MemK.get (hSw.choose_spec.choose_spec) 0 rfl (3 + j) (((er_ans _ _ _)) j v hj)) Tryz.underlying30 rfl (an_size E.head.st va E.head.len E.head.ch E.head.cl)) (by assumption) ?_; (try simp only [Act.put, sqA, sqC, sqB]); refine gU 12 (oi := ⟨some 41, .move (.tmp 0), _, _, _, none⟩) (v := ?_) rfl (Or.inl ⟨by rfl, ?_⟩) (by assumption) ?_; rotate_left
  · (intro w' hSw; go_simp) <;> (with_reducible rfl)
  (try simp only [Act.put, sqA, sqC, sqB]); refine gU 13 (oi := ⟨some 42, .nilCheck (.tmp 41), _, _, _, none⟩) (v := ?_) rfl (Or.inl ⟨by rfl, ?_⟩) (by assumption) ?_; rotate_left
  · (intro w' hSw; go_simp) <;> (with_reducible rfl)
  (try simp only [Act.put, sqA, sqC, sqB]); refine gU 14 (oi := ⟨some 43, .fieldAddr _ (.tmp 42) 0, _, _, _, none⟩) (v := ?_) rfl (Or.inl ⟨by rfl, ?_⟩) (by assumption) ?_; rotate_left
  · (intro w' hSw; go_simp) <;> (with_reducible rfl)
  (try simp only [Act.put, sqA, sqC, sqB]); refine gU 15 (oi := ⟨some 44, .fieldAddr _ (.tmp 43) 7, _, _, _, none⟩) (v := ?_) rfl (Or.inl ⟨by rfl, ?_⟩) (by assumption) ?_; rotate_left
  · (intro w' hSw; go_simp) <;> (with_reducible rfl)
  (try simp only [Act.put, sqA, sqC, sqB]); refine gU 16 (oi := ⟨some 45, .load _ (.tmp 44), _, _, _, none⟩) (v := ?_) rfl (Or.inl ⟨by rfl, ?_⟩) (by assumption) ?_; rotate_left
  · (intro w' hSw; have hy11 : w'.cell? ⟨b, 11, Option.none⟩ = some (.int .i64 E.size) := hSw.choose_spec.choose_spec.get 0 rfl 11 (g_size _ _ _); have hy1 : w'.cell? ⟨b, 1, Option.none⟩ = some (.int .i64 E.began) := hSw.choose_spec.choose_spec.get 0 rfl 1 (g_began _ _ _); clear hSw; go_simp) <;> (with_reducible rfl)
  (try simp only [Act.put, sqA, sqC, sqB]); refine gU 17 (oi := ⟨some 46, .move (.tmp 0), _, _, _, none⟩) (v := ?_) rfl (Or.inl ⟨by rfl, ?_⟩) (by assumption) ?_; rotate_left
  · (intro w' hSw; go_simp) <;> (with_reducible rfl)
  (try simp only [Act.put, sqA, sqC, sqB]); refine gU 18 (oi := ⟨some 47, .nilCheck (.tmp 46), _, _, _, none⟩) (v := ?_) rfl (Or.inl ⟨by rfl, ?_⟩) (by assumption) ?_; rotate_left
  · (intro w' hSw; go_simp) <;> (with_reducible rfl)
  (try simp only [Act.put, sqA, sqC, sqB]); refine gU 19 (oi := ⟨some 48, .fieldAddr _ (.tmp 47) 0, _, _, _, none⟩) (v := ?_) rfl (Or.inl ⟨by rfl, ?_⟩) (by assumption) ?_; rotate_left
  · (intro w' hSw; go_simp) <;> (with_reducible rfl)
  (try simp only [Act.put, sqA, sqC, sqB]); refine gU 20 (oi := ⟨some 49, .fieldAddr _ (.tmp 48) 1, _, _, _, none⟩) (v := ?_) rfl (Or.inl ⟨by rfl, ?_⟩) (by assumption) ?_; rotate_left
  · (intro w' hSw; go_simp) <;> (with_reducible rfl)
  (try simp only [Act.put, sqA, sqC, sqB]); refine gU 21 (oi := ⟨some 50, .load _ (.tmp 49), _, _, _, none⟩) (v := ?_) rfl (Or.inl ⟨by rfl, ?_⟩) (by assumption) ?_; rotate_left
  · (intro w' hSw; have hy11 : w'.cell? ⟨b, 11, Option.none⟩ = some (.int .i64 E.size) := hSw.choose_spec.choose_spec.get 0 rfl 11 (g_size _ _ _); have hy1 : w'.cell? ⟨b, 1, Option.none⟩ = some (.int .i64 E.began) := hSw.choose_spec.choose_spec.get 0 rfl 1 (g_began _ _ _); clear hSw; go_simp) <;> (with_reducible rfl)
  (try simp only [Act.put, sqA, sqC, sqB]); refine gR 11 rfl (fun K hK => ?_); go_simp; refine (HK.out _ M2d).mono ?_; rintro e wr1 ⟨rfl, kR⟩; have MR1 := Lib.hid (M2d.out.keep0 kR); clear kR; (try go_simp); refine hK.out _ _ (⟨E.state, E.res, MR1.out⟩) (fun hHeld => ?_); clear hK K; (try simp only [Act.put, sqA, sqC, sqB]); refine gU 22 (oi := ⟨some 51, _, _, _, _, none⟩) rfl (yieldsIf_buildM (by rfl) 39 _ rfl ([(0, .int .i64 200), (1, .agg (digC E.key.dig).toArray), (2, .string (S (typM E.head.F))), (3, .int .i64 E.size), (4, .int .i64 E.began)]) (by simp [Act.eval]) ((⟨200, E.key.dig, typM E.head.F, E.size, E.began⟩ : Rs).cells) HBR) (by assumption) ?_; (try simp only [Act.put, sqA, sqC, sqB]); refine gR 23 rfl (fun K hK => ?_); go_simp; refine (HF.out _ MR1).mono ?_; rintro e wr2 ⟨rfl, hE, hk⟩; have HE := Lib.hid hE; have MR2 : Hid (MemK w [b] w0 wr2 [(b, 106, ErS.cells { E with heard := E.heard + 1, reuse := v, state := 3, res := ⟨200, E.key.dig, typM E.head.F, E.size, E.began⟩ } rp va)]) := Lib.hid ⟨hE.mem.1, MR1.out.2.trans hk⟩; clear hE hk; (try go_simp); refine hK.out _ _ (⟨3, ⟨200, E.key.dig, typM E.head.F, E.size, E.began⟩, MR2.out⟩) (fun hHeld => ?_); clear hK K; (try simp only [Act.put, sqA, sqC, sqB]); refine wpAnyH_done (by kernel_rfl) ?_ _; refine NoPanic.normal ?_; go_wp2_with fail
  first | go_end0 | refine bodyPost_ret (results_none rfl _ _ _) rfl ?_
  rw [HR.out]; exact ⟨rfl, HE.out, MR2.out.2⟩
end
end Go.Proofs.YtlhnjkekjbbhcaaGreatDoor
