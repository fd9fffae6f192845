/- Parts of the proof of ErrandWaits, in order. No conditions but those that each theorem states. -/
import Derived.Test.YtlhnjkekjbbhcaaGreatDoorYErrandWaits0
import Derived.Lib.SlBytesConst
import Derived.Lib.LaidTab
import Derived.Lib.ItoaNum
import Derived.Lib.ItoaLen
import Derived.Sort.Grow
import Derived.DeepKeys4
import Derived.Deep.MidRow
import Derived.Laws.Cover2
import Derived.OpenShut
import Derived.Test.YtlhnjkekjbbhcaaGreatDoorYErrandWaits43
namespace Go.Proofs.YtlhnjkekjbbhcaaGreatDoor
open Go.RowKit Go.Shelf
structure Wv (r : Nat) (c : Cf) (i : Nat) (now : Int) (E : ErS) : Prop where
  key : E.key = ky24
  cfg : E.cfg = c
  known : E.known = tk0
  tr : E.tries = i
  ms : E.misses = i
  si : E.silent = i
  hd : E.heard = 0
  on : i ≤ r → E.state = 1 ∧ E.unt ≤ now
  off : i = r + 1 → E.state = 3 ∧ E.res = rsOf 504
  nw : 0 ≤ now ∧ now ≤ 7 + 1048640 * i
theorem wv_new (r : Nat) (c : Cf) : Wv r c 0 7 (erNew ky24 c tk0) := ⟨rfl, rfl, rfl, rfl, rfl, rfl, rfl, fun _ => ⟨rfl, by show (0 : Int) ≤ 7; omega⟩, fun h => by omega, by omega⟩
theorem wv_wait {r i m : Nat} {c : Cf} {now : Int} {E : ErS} (h : Wv r c i now E) (ht : withinM (m : Int) c.tm = true) : erTick (erBegin E now) (now + ((m : Int) + 1) - 1) = erBegin E now := by
  unfold erTick; refine if_neg ?_; rintro ⟨_, h2⟩; have e1 : (now + ((m : Int) + 1) - 1) - (erBegin E now).last = m := by show (now + ((m : Int) + 1) - 1) - now = m; omega
  have e2 : (erBegin E now).cfg = c := h.cfg; rw [e1, e2, ht] at h2; cases h2
theorem wv_step {r i m : Nat} {c : Cf} {now : Int} {E : ErS} (h : Wv r c i now E) (hi : i ≤ r) (hre : c.re = r) (hm : m < 50) (ht : withinM ((m : Int) + 1) c.tm = false) (hw : 0 ≤ waitM c.bo ((i : Int) + 1) ∧ waitM c.bo ((i : Int) + 1) ≤ 1048576) :
    (erTick (erBegin E now) (now + ((m : Int) + 1))).misses = (i : Int) + 1 ∧ (i < r → (erTick (erBegin E now) (now + ((m : Int) + 1))).state = 1 ∧ (erTick (erBegin E now) (now + ((m : Int) + 1))).unt = now + ((m : Int) + 1) + waitM c.bo ((i : Int) + 1)) ∧ Wv r c (i + 1) (now + ((m : Int) + 1) + waitM c.bo ((i : Int) + 1)) (erTick (erBegin E now) (now + ((m : Int) + 1))) := by
  have e1 : now + ((m : Int) + 1) - (erBegin E now).last = (m : Int) + 1 := by show now + ((m : Int) + 1) - now = (m : Int) + 1; omega
  have e2 : (erBegin E now).cfg = c := h.cfg; have hnw := h.nw
  have hx : erTick (erBegin E now) (now + ((m : Int) + 1)) = erMiss { erBegin E now with silent := (erBegin E now).silent + 1 } 504 (now + ((m : Int) + 1)) := by
    unfold erTick; rw [if_pos ⟨rfl, by rw [e1, e2]; exact ht⟩]
  rw [hx]; have t1 : E.tries + 1 = (i : Int) + 1 := by rw [h.tr]
  have t2 : E.misses + 1 = (i : Int) + 1 := by rw [h.ms]
  have t3 : E.silent + 1 = (i : Int) + 1 := by rw [h.si]
  have t0 : (({ erBegin E now with silent := (erBegin E now).silent + 1 } : ErS).cfg.re < ({ erBegin E now with silent := (erBegin E now).silent + 1 } : ErS).tries) ↔ (r : Int) < (i : Int) + 1 := by
    show E.cfg.re < E.tries + 1 ↔ _; rw [h.cfg, hre, t1]
  by_cases hr : i = r
  · have hy : erMiss { erBegin E now with silent := (erBegin E now).silent + 1 } 504 (now + ((m : Int) + 1)) = erFin { { erBegin E now with silent := (erBegin E now).silent + 1 } with misses := E.misses + 1 } (rsOf 504) := by
      unfold erMiss; rw [if_pos (t0.2 (by omega))]; rfl
    rw [hy]; exact ⟨t2, fun hh => absurd hr (by omega), ⟨h.key, h.cfg, h.known, t1, t2, t3, h.hd, fun hh => by omega, fun _ => ⟨rfl, rfl⟩, by omega⟩⟩
  · have hy : erMiss { erBegin E now with silent := (erBegin E now).silent + 1 } 504 (now + ((m : Int) + 1)) = { { erBegin E now with silent := (erBegin E now).silent + 1 } with misses := E.misses + 1, state := 1, unt := now + ((m : Int) + 1) + waitM c.bo ((i : Int) + 1) } := by
      unfold erMiss; rw [if_neg (fun hh => by have := t0.1 hh; omega)]; show ({ { erBegin E now with silent := (erBegin E now).silent + 1 } with misses := E.misses + 1, state := 1, unt := now + ((m : Int) + 1) + waitM E.cfg.bo (E.tries + 1) } : ErS) = _; rw [h.cfg, t1]
    rw [hy]; exact ⟨t2, fun _ => ⟨rfl, rfl⟩, ⟨h.key, h.cfg, h.known, t1, t2, t3, h.hd, fun _ => ⟨rfl, Int.le_refl _⟩, fun hh => by omega, by omega⟩⟩
theorem bd_rs504 : Tryz.prog.built 39 [(0, .int .i64 504)] = some (rsOf 504).cells.toArray := by kernel_rfl
theorem newW_good {r m bo : Nat} (hr : r < 6) (hm : m < 50) : newOk ky24 (cfgM r (tmM m) (boM bo)) tk0 = true := by
  unfold newOk; have e1 : (cfgM r (tmM m) (boM bo)).tm = tmM m := rfl; have e2 : (cfgM r (tmM m) (boM bo)).bo = boM bo := rfl; have e3 : (cfgM r (tmM m) (boM bo)).re = r := rfl; have e4 : (cfgM r (tmM m) (boM bo)).host = [117, 112] := rfl; rw [e1, e2, e3, e4, tm_good ⟨m, hm⟩, bo_good bo, aw24_asked.1, decide_eq_true (show (0 : Int) ≤ (r : Nat) by omega), decide_eq_true (show ((r : Nat) : Int) ≤ 5 by omega)]; rfl
set_option maxRecDepth 100000 in
set_option maxHeartbeats 16000000 in
theorem errandWaits_walk (x y z : Int) (bo : Nat) (w : World) (hm : ML w) (hbo : bo < 18446744073709551616) :
    Calls Tryz.prog 5 #[.agg #[.int .i64 x, .int .i64 y, .int .i64 z], .float .f64 bo] w fun e w' => e = .returned (.bool true) ∧ Keep [] w w' := by
  obtain ⟨r, hr6, er⟩ := u64_mod x 6 (by omega); replace er : (IntKind.u64.wrap x).tmod 6 = (r : Int) := er; obtain ⟨m, hm5, em⟩ := u64_mod y 50 (by omega); replace em : (IntKind.u64.wrap y).tmod 50 = (m : Int) := em; have M0 := Lib.hid (Mem.nil w); have HAw := Lib.hid (fun w' (kk : Keep [] w w') => errand_awake w' (hm.keep kk (by simp))); have HCf := Lib.hid (fun w' => law24_config x y z bo r m w' er hr6 em hm5); have HNG := Lib.hid (newW_good (bo := bo) hr6 hm5); have HBd := Lib.hid (fun w' => law24_body w'); have HB0 := Lib.hid bd_tk0; have HM := Lib.hid hm; have hcb : boM bo < 18446744073709551616 := by unfold boM; split <;> omega
  have HRM := Lib.hid (And.intro hr6 hm5); have htm : (cfgM r (tmM m) (boM bo)).tm = tmM m := rfl; have hhs : (cfgM r (tmM m) (boM bo)).host = [117, 112] := rfl; have hcr : (cfgM r (tmM m) (boM bo)).re = r := rfl; have hcb2 : (cfgM r (tmM m) (boM bo)).bo < 18446744073709551616 := hcb; have HWt := fun now (hn : (0 : Int) ≤ now ∧ now ≤ 1000000000) w' => term_Ends m hm5 now hn w'
  have HIn := tm_in ⟨m, hm5⟩; have HOut := tm_out ⟨m, hm5⟩; dsimp only at HIn HOut; rw [← htm] at HWt HIn HOut; have HNo : ∀ L, Hid (∀ w' (kk : Keep [] w w') (hL : ∀ l ∈ L, l < w'.heap.size), Calls Tryz.prog 17 #[.agg ky24.cells.toArray, .agg (cfgM r (tmM m) (boM bo)).cells.toArray, .agg tk0.cells.toArray] w' (NewOut w w' ky24 (cfgM r (tmM m) (boM bo)) tk0 L)) := fun L => Lib.hid (fun w' kk hL => er_New (w0 := w) (L := L) ky24 _ tk0 kk (hm.keep kk (by simp)) ok_ky24 (by rw [hhs]; decide) hL)
  obtain ⟨cf, hcf⟩ : ∃ c, cfgM r (tmM m) (boM bo) = c := ⟨_, rfl⟩
  rw [hcf] at HCf HNG HNo hhs hcr hcb2 HWt HIn HOut; have HHS := Lib.hid hhs; have HCR := Lib.hid hcr; have HCB := Lib.hid hcb2; have HEN := Lib.hid HWt; have HIN := Lib.hid HIn; have HOUT := Lib.hid HOut; clear hm er em hcb hcf hr6 hm5 hbo htm hhs hcr hcb2 HWt HIn HOut; go_enter Tryz.func5, Tryz.ntmps5
  go_wp2_with (first | ((with_reducible refine gX 2 ?_); refine wpList_boxM rfl 44 (.tmp 0) rfl ([.int .i64 x, .int .i64 y, .int .i64 z]) (by rfl) M0 ?_; intro b2 w1 M1 _ _; try simp only [Act.put, sqA, sqB, sqC]) | fail); refine (HAw.out _ M1.out.kp).mono ?_; rintro e w4 ⟨rfl, k4⟩; have M4 := Lib.hid (M1.out.keep0 k4); clear k4 HAw
  go_wp2_with (first | ((with_reducible refine gL 19 2 ?_); refine wpList_loadM (by rfl) 44 (.tmp 2) rfl M4 0 rfl (by rfl) _ Tryz.underlying44 rfl rfl ?_; try simp only [Act.put, sqA, sqB, sqC]) | fail); refine (HCf.out _).mono ?_; rintro e w6 ⟨rfl, k6⟩; have M6 := Lib.hid (M4.out.keep0 k6); clear k6 HCf
  go_upto_region 4 with (first | ((with_reducible refine gA 5 ?_); refine wpList_allocM rfl 48 rfl (cf0.cells) (Lib.hid cf_zero) M6 ?_; intro b5 w7 M7 _ _; try simp only [Act.put, sqA, sqB, sqC]) | ((with_reducible refine gS 5 21 ?_); refine wpList_storeM rfl 48 (.tmp 5) (.tmp 21) rfl M7 0 rfl (by rfl) (cf.cells) (by rfl) (cf_size cf) (by rw [Cf.len, Cf.len]) (Cf.one _) ?_; intro w8 M8 _; try simp only [Act.put, sqA, sqB, sqC]) | fail)
  have M8' : Hid (MemK w8 [] w w8 [(b5, 48, cf.cells), (b2, 44, [.int .i64 x, .int .i64 y, .int .i64 z])]) := Lib.hid (MemK.of M8.out []); have HN2 := HNo [b5, b2]; refine wp_region_noPanic ?_; refine wp_region_held_drew (S := fun w' => MemK w8 [] w w' [(b5, 48, cf.cells), (b2, 44, [.int .i64 x, .int .i64 y, .int .i64 z])]) (by kernel_rfl) ((Lib.hid (M8'.out.keep0 ((Keep.refl _ _).drew))).out) (fun hHeld => ?_); have M8'd := Lib.hid (M8'.out.keep0 ((Keep.refl _ _).drew)); refine gU 1 (oi := ⟨some 24, .load _ (.tmp 5), _, _, _, none⟩) rfl (yieldsIf_load_mid (by rfl) 48 (.tmp 5) rfl _ 0 (by rfl) (cf.cells) _ (fun w' hSw => ((hSw).1.blk 0 (by rfl)).range') Tryz.underlying48 rfl (cf_size _)) (by assumption) ?_; (try simp only [Act.put, sqA, sqC, sqB]); refine gU 2 (oi := ⟨some 25, _, _, _, _, none⟩) rfl (yieldsIf_buildM (by rfl) 27 _ rfl ([]) (by simp [Act.eval]) (tk0.cells) HB0) (by assumption) ?_; (try simp only [Act.put, sqA, sqC, sqB]); refine gR 0 rfl (fun K hK => ?_); go_simp; refine (HBd.out _).mono ?_; rintro e wr1 ⟨rfl, kR⟩; have MR1 := Lib.hid (M8'd.out.keep0 kR); clear kR; (try go_simp); refine hK.out _ _ (MR1.out) (fun hHeld => ?_); clear hK K; (try simp only [Act.put, sqA, sqC, sqB]); refine gR 3 rfl (fun K hK => ?_); go_simp; refine (HN2.out _ MR1.out.1.kp (fun l hl => by rcases List.mem_cons.1 hl with rfl | hl; exact (MR1.out.1.blk 0 rfl).lt; obtain rfl := List.mem_singleton.1 hl; exact (MR1.out.1.blk 1 rfl).lt)).mono ?_; rintro e wr2 hN; rcases hN with ⟨_, b, rfl, hb, hE, k3⟩ | ⟨hno, _⟩
  rotate_left
  · rw [HNG.out] at hno; cases hno
  have MR2 := Lib.hid (MR1.out.keep0 k3); have H9 := Lib.hid (⟨hE, MR1.out.1.keep0 k3⟩ : Lw w wr2 b (.pointer Option.none) nilS [] (erNew ky24 cf tk0) 0 [(b5, 48, cf.cells), (b2, 44, [.int .i64 x, .int .i64 y, .int .i64 z])]); clear hb hE k3; (try go_simp); refine hK.out _ _ (MR2.out) (fun hHeld => ?_); clear hK K; (try simp only [Act.put, sqA, sqC, sqB]); refine gU 4 (oi := ⟨some 22, .move (.tmp 26), _, _, _, none⟩) (v := ?_) rfl (Or.inl ⟨by rfl, ?_⟩) (by assumption) ?_; rotate_left
  · (intro w' hSw; go_simp) <;> (with_reducible rfl)
  (try simp only [Act.put, sqA, sqC, sqB]); refine gU 5 (oi := ⟨some 27, _, _, _, _, none⟩) (v := ?_) rfl (Or.inl ⟨by rfl, ?_⟩) (by assumption) ?_; rotate_left
  · (intro w' hSw; go_simp) <;> (with_reducible rfl)
  (try simp only [Act.put, sqA, sqC, sqB]); refine gU 6 (oi := ⟨some 28, _, _, _, _, none⟩) (v := ?_) rfl (Or.inl ⟨by rfl, ?_⟩) (by assumption) ?_; rotate_left
  · (intro w' hSw; go_simp) <;> (with_reducible rfl)
  (try simp only [Act.put, sqA, sqC, sqB]); refine gU 7 (oi := ⟨some 6, .assign (.tmp 27), _, _, _, none⟩) (v := ?_) rfl (Or.inl ⟨by rfl, ?_⟩) (by assumption) ?_; rotate_left
  · (intro w' hSw; go_simp) <;> (with_reducible rfl)
  (try simp only [Act.put, sqA, sqC, sqB]); refine gU 8 (oi := ⟨some 7, .assign (.tmp 28), _, _, _, none⟩) (v := ?_) rfl (Or.inl ⟨by rfl, ?_⟩) (by assumption) ?_; rotate_left
  · (intro w' hSw; go_simp) <;> (with_reducible rfl)
  (try simp only [Act.put, sqA, sqC, sqB]); refine wpAnyH_done (by kernel_rfl) ?_ _; refine NoPanic.normal ?_; have V9 := Lib.hid (wv_new r cf); clear HN2 HNo HBd HB0 M8 M8'; go_wp2_with fail
  go_loopg [8, 9] 7 (fun gg nv iv wr => ∃ (i : Nat) (now : Int) (E : ErS) (rp vA : Value) (X : List Nat), nv = .int .i64 now ∧ iv = .int .i64 (i : Nat) ∧ i ≤ r + 1 ∧ gg = 7 - i ∧ Hid (Lw w wr b rp vA X E 0 [(b5, 48, cf.cells), (b2, 44, [.int .i64 x, .int .i64 y, .int .i64 z])]) ∧ Hid (Wv r cf i now E))
  case atStart => exact ⟨0, 7, _, _, _, _, rfl, rfl, by omega, rfl, H9, V9⟩
  case round =>
    clear H9 V9; obtain ⟨i, now, E, rp, vA, X, rfl, rfl, hi, hgg, HR, VR⟩ := hrel; have hri := HRM.out; have y5 := HR.out.me.get 0 rfl 5 rfl; have hY := Lib.hid HCR.out; by_cases hc : i ≤ r
    · as_aux_lemma =>
        have d1 : decide ((i : Int) ≤ cf.re) = true := decide_eq_true (by rw [hY.out]; omega); have hnw := VR.out.nw; have wi := IntWalk.i64_in ((i : Int) + 1) (by omega); have hon := VR.out.on hc; have HW := er_Wants HR.out.et now; have hwv : (decide (E.state = 1) && decide (E.unt ≤ now)) = true := by simp [hon.1, hon.2]
        rw [hwv] at HW; have HW := Lib.hid HW; have hkk : E.key = ky24 := VR.out.key; have hcc : E.cfg = cf := VR.out.cfg; have htt : E.known = tk0 := VR.out.known; have hho : E.cfg.host = [117, 112] := by rw [hcc, HHS.out]
        have ha : askedE E.key E.cfg.host E.known = 0 := by rw [hkk, hho, htt]; exact aw24_asked.1
        have HBg := Lib.hid (er_Begin HR.out.et HM.out now hwv (by rw [hkk]; exact ok_ky24) (by rw [hho]; decide) ha (by rw [VR.out.tr]; omega)); obtain ⟨qs, hqs⟩ : ∃ z, askedS E.key E.cfg.host E.known = z := ⟨_, rfl⟩
        rw [hqs] at HBg; have hEn := HEN.out now (by omega); have hwt := wait_ok (t := (i : Int) + 1) HCB.out; have hst := wv_step VR.out hc HCR.out hri.2 HOUT.out hwt; have hwa := wv_wait VR.out HIN.out; have HTw := Lib.hid (fun w' => term_Wait cf.bo ((i : Int) + 1) HCB.out w'); obtain ⟨en, hen⟩ : ∃ z, now + ((m : Int) + 1) = z := ⟨_, rfl⟩
        obtain ⟨wt, hwt2⟩ : ∃ z, waitM cf.bo ((i : Int) + 1) = z := ⟨_, rfl⟩
        rw [hen] at hEn hst hwa; rw [hwt2] at hst hwt HTw; have HEn := Lib.hid hEn; have we : IntKind.i64.wrap (en - 1) = en - 1 := IntWalk.i64_in _ (by omega); have ww : IntKind.i64.wrap (en + wt) = en + wt := IntWalk.i64_in _ (by omega); have wn : IntKind.i64.wrap (en + wt - 1) = en + wt - 1 := IntWalk.i64_in _ (by omega); have hnum := Lib.hid (show 0 ≤ now ∧ now + 1 ≤ en ∧ en ≤ 1000000000 ∧ 0 ≤ wt by omega); have HST := Lib.hid hst; have HWA := Lib.hid hwa; have hms : E.misses = i := VR.out.ms; have hsi : E.silent = i := VR.out.si; have HSM := Lib.hid (show ∀ u : Int, 0 ≤ u ∧ u ≤ 1000000000 → smallE (erBegin E now) u from fun u hu => ⟨by show 0 ≤ E.misses ∧ E.misses ≤ _; omega, by omega, by show E.cfg.bo < _; rw [hcc]; exact HCB.out⟩); have HSI := Lib.hid (show 0 ≤ (erBegin E now).silent ∧ (erBegin E now).silent ≤ 1152921504606846976 by show 0 ≤ E.silent ∧ E.silent ≤ _; omega); have HLS := Lib.hid (show 0 ≤ (erBegin E now).last ∧ (erBegin E now).last ≤ 1152921504606846976 by show 0 ≤ now ∧ now ≤ _; omega); have HB2 := Lib.hid (show (erBegin E now).state = 2 from rfl); clear hwv hkk hcc htt hho ha hon hst hwa hen hwt2 hEn hms hsi hnw hwt hqs; go_wp2_with (first | (go_at_call 21; refine HW.out.mono ?_; rintro e w' ⟨rfl, rfl⟩) | fail); refine HBg.out.mono ?_; rintro e v6 ⟨rfl, rp6, va6, X6, hE2, k6, _⟩; have H6 := Lib.hid (HR.out.got hE2 k6); clear hE2 k6 HBg HW y5; have y10 := H6.out.me.get 0 rfl 10 rfl; have HT1 := Lib.hid (er_Tick H6.out.et (en - 1) (HSM.out _ (by have := hnum.out; omega)) HLS.out HSI.out); rw [HWA.out] at HT1; go_wp2_with (first | (go_at_call 30; refine HEn.out _ |>.mono ?_; rintro e w' ⟨rfl, rfl⟩) | fail); refine HT1.out.mono ?_; rintro e v7 ⟨rfl, hE2, k7⟩; have H7 := Lib.hid (H6.out.got hE2 (k7.mono (fun y hy _ => by simp only [List.mem_singleton] at hy; subst hy; simp))); clear hE2 k7 HT1 y10; have HS7 := er_State H7.out.et; rw [HB2.out] at HS7; have HS7 := Lib.hid HS7; have HT2 := Lib.hid (er_Tick H7.out.et en (HSM.out _ (by have := hnum.out; omega)) HLS.out HSI.out); obtain ⟨E2, hE2d⟩ : ∃ z, erTick (erBegin E now) en = z := ⟨_, rfl⟩
        rw [hE2d] at HT2 HST; clear hE2d HWA; go_wp2_with (first | (go_at_call 18; refine HS7.out.mono ?_; rintro e w' ⟨rfl, rfl⟩) | fail); refine HT2.out.mono ?_; rintro e v8 ⟨rfl, hE2, k8⟩; have H8 := Lib.hid (H7.out.got hE2 (k8.mono (fun y hy _ => by simp only [List.mem_singleton] at hy; subst hy; simp))); clear hE2 k8 HT2 HS7 HSM HSI HLS HB2; have HM8 := Lib.hid (er_MissesQ H8.out.et HST.out.1); have b1 : (((i : Int) + 1) != ((i : Int) + 1)) = false := by simp
        go_wp2_with fail; refine HM8.out.mono ?_; rintro e v9 ⟨rfl, k9⟩; have H9 := Lib.hid (H8.out.keep0 k9); clear k9 HM8; have y11 := H9.out.me.get 0 rfl 11 rfl; go_wp2_with fail; refine (HTw.out _).mono ?_; rintro e v10 ⟨rfl, k10⟩; have H10 := Lib.hid (H9.out.keep0 k10); clear k10 HTw y11; have y5 := H10.out.me.get 0 rfl 5 rfl; by_cases hlt : i < r
        · have d2 : decide ((i : Int) < cf.re) = true := decide_eq_true (by rw [hY.out]; omega); have hs1 := HST.out.2.1 hlt; have HS10 := er_State H10.out.et; rw [hs1.1] at HS10; have HS10 := Lib.hid HS10; have HW10 := er_Wants H10.out.et (en + wt - 1); rw [hs1.1, hs1.2, show decide (en + wt ≤ en + wt - 1) = false from decide_eq_false (by omega), Bool.and_false] at HW10; have HW10 := Lib.hid HW10; have HST2 := Lib.hid HST.out.2.2; clear hs1 HST
          cases hg : decide (en < en + wt) with
          | true =>
            go_wp2_with (first | (go_at_call 18; refine HS10.out.mono ?_; rintro e w' ⟨rfl, rfl⟩) | (go_at_call 21; refine HW10.out.mono ?_; rintro e w' ⟨rfl, rfl⟩) | fail)
            go_roundg (7 - (i + 1))
            case measure => omega
            case rel => exact ⟨i + 1, en + wt, E2, rp6, va6, X6, rfl, by go_num, by omega, rfl, H10, HST2⟩
          | false =>
            go_wp2_with (first | (go_at_call 18; refine HS10.out.mono ?_; rintro e w' ⟨rfl, rfl⟩) | (go_at_call 21; refine HW10.out.mono ?_; rintro e w' ⟨rfl, rfl⟩) | fail)
            go_roundg (7 - (i + 1))
            case measure => omega
            case rel => exact ⟨i + 1, en + wt, E2, rp6, va6, X6, rfl, by go_num, by omega, rfl, H10, HST2⟩
        · have d2 : decide ((i : Int) < cf.re) = false := decide_eq_false (by rw [hY.out]; omega); have HST2 := Lib.hid HST.out.2.2; clear HST; go_wp2_with fail
          go_roundg (7 - (i + 1))
          case measure => omega
          case rel => exact ⟨i + 1, en + wt, E2, rp6, va6, X6, rfl, by go_num, by omega, rfl, H10, HST2⟩
    · as_aux_lemma =>
        have d1 : decide ((i : Int) ≤ cf.re) = false := decide_eq_false (by rw [hY.out]; omega); have hof := VR.out.off (by omega); have hts : E.silent = E.tries := by rw [VR.out.si, VR.out.tr]
        have HOF := Lib.hid hof; have HQ := Lib.hid (And.intro VR.out.hd hts); have heq := fun w' => eqRs (rsOf 504) (rsOf 504) (rsOf_good (by omega)) (rsOf_good (by omega)) w'
        rw [decide_eq_true rfl] at heq; have HB5 := Lib.hid bd_rs504; clear hof hts; go_wp2_with fail; refine (nilE_Hear [120] true 1 _).mono ?_; rintro e v1 ⟨rfl, rfl⟩; go_wp2_with fail; refine (nilE_Tick _ 1).mono ?_; rintro e v1 ⟨rfl, k1⟩; have H1 := Lib.hid (HR.out.keep0 k1); clear k1; go_wp2_with fail; refine (nilE_Fail _ 1).mono ?_; rintro e v2 ⟨rfl, k1⟩; have H2 := Lib.hid (H1.out.keep0 k1); clear k1; have hs1 := er_State H2.out.et; rw [HOF.out.1] at hs1; have HS1 := Lib.hid hs1; have HRs := Lib.hid (er_ResultQ H2.out.et HOF.out.2); clear hs1; go_wp2_with fail; refine (nilE_Begin _ 1).mono ?_; rintro e v3 ⟨rfl, rfl⟩; go_wp2_with (first | (go_at_call 18; refine HS1.out.mono ?_; rintro e w' ⟨rfl, rfl⟩) | fail); refine HRs.out.mono ?_; rintro e v3 ⟨rfl, k1⟩; have H3 := Lib.hid (H2.out.keep0 k1); clear k1 HRs HS1 H2 H1; have hh := er_Heard H3.out.et; have hsl := er_Silent H3.out.et; have htr := er_Tries H3.out.et; rw [HQ.out.1] at hh; rw [HQ.out.2] at hsl; have HH := Lib.hid hh; have HSL := Lib.hid hsl; have HTR := Lib.hid htr; clear hh hsl htr
        go_wp2_with (first | (go_at_call 28; refine HH.out.mono ?_; rintro e w' ⟨rfl, rfl⟩) | (go_at_call 27; refine HSL.out.mono ?_; rintro e w' ⟨rfl, rfl⟩) | (go_at_call 20; refine HTR.out.mono ?_; rintro e w' ⟨rfl, rfl⟩) | (go_at_call 18; refine (nilE_State _).mono ?_; rintro e w' ⟨rfl, rfl⟩) | (go_at_call 21; refine (nilE_Wants _ _).mono ?_; rintro e w' ⟨rfl, rfl⟩) | (go_at_call 20; refine (nilE_Tries _).mono ?_; rintro e w' ⟨rfl, rfl⟩) | (go_at_call 26; refine (nilE_Misses _).mono ?_; rintro e w' ⟨rfl, rfl⟩) | (go_at_call 27; refine (nilE_Silent _).mono ?_; rintro e w' ⟨rfl, rfl⟩) | (go_at_call 28; refine (nilE_Heard _).mono ?_; rintro e w' ⟨rfl, rfl⟩) | ((with_reducible refine gB 119 ?_); refine wpList_buildM (by rfl) 39 _ rfl ([(0, .int .i64 504)]) (by simp [Act.eval]) ((rsOf 504).cells) HB5 ?_; try simp only [Act.put, sqA, sqB, sqC]) | fail); go_ret; exact ⟨rfl, H3.out.et.kp⟩
end Go.Proofs.YtlhnjkekjbbhcaaGreatDoor
namespace Go.Proofs.YtlhnjkekjbbhcaaGreatDoor
theorem wf_float {b : Nat} (h : (Lit.float .f64 b).wf = true) : b < 18446744073709551616 := by
  simpa [Lit.wf] using h
end Go.Proofs.YtlhnjkekjbbhcaaGreatDoor
namespace Go.Proofs.YtlhnjkekjbbhcaaGreatDoor
open Go.ChangeShapes Go.WideShapes Go.ChangeAt Go.RowKit
theorem okWide_array3 {P : Program} {w : World} {r : Reach} {base : Nat} {t : TypeId} {v : Value} {n : Nat} {e : TypeId} (ht : P.underlying t = some (.array n e)) (h : Value.okWide P w r base t v) : ∃ cs, v = .agg cs ∧ cs.size = P.cellsOf t := by
  simp only [Value.okWide, ht] at h; obtain ⟨cs, h1, h2, _⟩ := h; exact ⟨cs, h1, h2⟩
theorem read_arr3 {H : Type} {enc : TypeId × Value → H} {P : Program} {w : World} {base : Nat} {spare : Nat → Bool} {held : Bool}
    {t e : TypeId} {v : Value} {d : DataW H} {ps : List MemPlace} (ht : P.underlying t = some (.array 3 e)) (he : P.underlying e = some (.int .i64)) (hc : P.cellsOf e = 1) (hct : P.cellsOf t = 3)
    (h : DataW.Trod enc P w base spare held t v d ps) (hv : ∃ cs, v = .agg cs ∧ cs.size = P.cellsOf t) : ∃ a b c : Int, v = .agg #[.int .i64 a, .int .i64 b, .int .i64 c] ∧ in64 a ∧ in64 b ∧ in64 c := by
  obtain ⟨fuel, hf⟩ := h; obtain ⟨cs, rfl, _⟩ := hv; obtain ⟨xs, m, _, _, hl, hn, hx⟩ := DataW.trod_array ht hf; have hl' : cs.size = 3 := by simpa [Value.cells, hct] using hl
  obtain ⟨x0, y0⟩ : ∃ x, xs[0]? = some x := ⟨_, List.getElem?_eq_getElem (by omega)⟩
  obtain ⟨x1, y1⟩ : ∃ x, xs[1]? = some x := ⟨_, List.getElem?_eq_getElem (by omega)⟩
  obtain ⟨x2, y2⟩ : ∃ x, xs[2]? = some x := ⟨_, List.getElem?_eq_getElem (by omega)⟩
  have h0 := hx 0 (by omega); have h1 := hx 1 (by omega); have h2 := hx 2 (by omega); rw [y0] at h0; rw [y1] at h1; rw [y2] at h2; obtain ⟨a, c0, _, wa⟩ := DataW.trod_int he h0; obtain ⟨b, c1, _, wb⟩ := DataW.trod_int he h1; obtain ⟨c, c2, _, wc⟩ := DataW.trod_int he h2; obtain ⟨l⟩ := cs; rcases l with _ | ⟨p, _ | ⟨q, _ | ⟨s, _ | ⟨u, l⟩⟩⟩⟩
  · simp at hl'
  · simp at hl'
  · simp at hl'
  · simp [Value.cells, hc] at c0 c1 c2; subst c0; subst c1; subst c2; exact ⟨a, b, c, rfl, in64_of wa, in64_of wb, in64_of wc⟩
  · simp at hl'
end Go.Proofs.YtlhnjkekjbbhcaaGreatDoor
