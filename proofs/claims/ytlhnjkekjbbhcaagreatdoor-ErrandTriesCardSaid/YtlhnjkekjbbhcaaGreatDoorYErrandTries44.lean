/- Parts of the proof of ErrandTries, in order. No conditions but those that each theorem states. -/
import Derived.Test.YtlhnjkekjbbhcaaGreatDoorYErrandTries0
import Derived.Lib.SlBytesConst
import Derived.Lib.LaidTab
import Derived.Lib.ItoaNum
import Derived.Lib.ItoaLen
import Derived.Sort.Grow
import Derived.DeepKeys4
import Derived.Deep.MidRow
import Derived.Test.YtlhnjkekjbbhcaaGreatDoorYErrandTries43
set_option linter.unusedSimpArgs false
set_option linter.unusedVariables false
namespace Go.Proofs.YtlhnjkekjbbhcaaGreatDoor
open Go.RowKit Go.Shelf
theorem bd_an0 : Tryz.prog.built 30 [] = some ansZ.toArray := by kernel_rfl
theorem a3_size (x y z : Int) : (Tryz.prog.info? 44).map (·.size) = some ([.int .i64 x, .int .i64 y, .int .i64 z] : List Value).length := by kernel_rfl
theorem anZ_ok (w : World) : AnOk w ans0 nilS := ⟨.inl ⟨Option.none, 0, rfl, Nat.zero_le _, rfl⟩, by simp [ans0], by unfold in64; exact ⟨by decide, by decide⟩, by unfold in64; exact ⟨by decide, by decide⟩⟩
theorem new_good {k : Ky} {t : Tk} {r m bo : Nat} (hr : r < 6) (hm : m < 50) : newOk k (cfgM r (tmM m) (boM bo)) t = goodKyM k := by
  have h1 := tm_good ⟨m, hm⟩; have h2 := bo_good bo; unfold newOk; have e1 : (cfgM r (tmM m) (boM bo)).tm = tmM m := rfl; have e2 : (cfgM r (tmM m) (boM bo)).bo = boM bo := rfl; have e3 : (cfgM r (tmM m) (boM bo)).re = r := rfl; have e4 : (cfgM r (tmM m) (boM bo)).host = [117, 112] := rfl; rw [e1, e2, e3, e4, h1, h2, decide_eq_true (show (0 : Int) ≤ (r : Nat) by omega), decide_eq_true (show ((r : Nat) : Int) ≤ 5 by omega)]; simp only [Bool.and_true]
  cases hk : goodKyM k with
  | true => rw [good_asked t hk]; rfl
  | false => rw [(asked_bad hk).1]; rfl
set_option maxRecDepth 100000 in
set_option maxHeartbeats 16000000 in
theorem errandTries_walk (k : Ky) (t : Tk) (x y z : Int) (bo : Nat) (v : Value) (Ls : List Sp) (w : World) (hm : ML w) (hk : goodKyIn k) (ht : goodTkIn t) (hbo : bo < 18446744073709551616) (hv : Sl Sp.cells 3 w v Ls) (hg : ∀ x ∈ Ls, x.good) :
    Calls Tryz.prog 4 #[.agg k.cells.toArray, .agg t.cells.toArray, .agg #[.int .i64 x, .int .i64 y, .int .i64 z], .float .f64 bo, v] w fun e w' => e = .returned (.bool true) ∧ Keep [] w w' := by
  obtain ⟨r, hr6, er⟩ := u64_mod x 6 (by omega); replace er : (IntKind.u64.wrap x).tmod 6 = (r : Int) := er; obtain ⟨m, hm5, em⟩ := u64_mod y 50 (by omega); replace em : (IntKind.u64.wrap y).tmod 50 = (m : Int) := em; have M0 := Lib.hid (Mem.nil w); have HAw := Lib.hid (fun w' (kk : Keep [] w w') => errand_awake w' (hm.keep kk (by simp))); have HGr := Lib.hid (fun w' => law24_great k t ans0 nilS w' (anZ_ok w') hk.2.1 hk.2.2 ht.2.2.1); have HCf := Lib.hid (fun w' => law24_config x y z bo r m w' er hr6 em hm5); have HNG := Lib.hid (new_good (k := k) (t := t) (bo := bo) hr6 hm5); have HBA := Lib.hid bd_an0; have HM := Lib.hid hm; have HKI := Lib.hid hk; have HT := Lib.hid ht; have HV := Lib.hid hv; have HG := Lib.hid hg; have hcb : boM bo < 18446744073709551616 := by unfold boM; split <;> omega
  have HCB := Lib.hid hcb; have HRM := Lib.hid (And.intro hr6 hm5); obtain ⟨cf, hcf⟩ : ∃ c, cfgM r (tmM m) (boM bo) = c := ⟨_, rfl⟩
  have HCE := Lib.hid hcf; rw [hcf] at HCf HNG; obtain ⟨va, vcap, rfl, hvl⟩ := hv.shape; clear hm hk ht hv hg er em hcb hcf hr6 hm5 hbo; go_enter Tryz.func4, Tryz.ntmps4
  go_wp2_with (first | ((with_reducible refine gX 5 ?_); refine wpList_boxM rfl 25 (.tmp 0) rfl (k.cells) (by rfl) M0 ?_; intro b5 w1 M1 _ _; try simp only [Act.put, sqA, sqB, sqC]) | ((with_reducible refine gX 6 ?_); refine wpList_boxM rfl 27 (.tmp 1) rfl (t.cells) (by rfl) M1 ?_; intro b6 w2 M2 _ _; try simp only [Act.put, sqA, sqB, sqC]) | ((with_reducible refine gX 7 ?_); refine wpList_boxM rfl 44 (.tmp 2) rfl ([.int .i64 x, .int .i64 y, .int .i64 z]) (by rfl) M2 ?_; intro b7 w3 M3 _ _; try simp only [Act.put, sqA, sqB, sqC]) | fail); refine (HAw.out _ M3.out.kp).mono ?_; rintro e w4 ⟨rfl, k4⟩; have M4 := Lib.hid (M3.out.keep0 k4); clear k4 HAw
  go_wp2_with (first | ((with_reducible refine gL 28 5 ?_); refine wpList_loadM (by rfl) 25 (.tmp 5) rfl M4 2 rfl (by rfl) _ Tryz.underlying25 rfl (ky_size k) ?_; try simp only [Act.put, sqA, sqB, sqC]) | ((with_reducible refine gL 29 6 ?_); refine wpList_loadM (by rfl) 27 (.tmp 6) rfl M4 1 rfl (by rfl) _ Tryz.underlying27 rfl (tk_size t) ?_; try simp only [Act.put, sqA, sqB, sqC]) | ((with_reducible refine gB 30 ?_); refine wpList_buildM (by rfl) 30 _ rfl ([]) (by simp [Act.eval]) (ansZ) HBA ?_; try simp only [Act.put, sqA, sqB, sqC]) | fail); refine (HGr.out _).mono ?_; rintro e w5 ⟨v, rfl, hv, k5⟩; have M5 := Lib.hid (M4.out.keep0 k5); have HSm := Lib.hid hv; clear k5 HGr hv
  cases v with
  | true =>
    as_aux_lemma =>
      go_wp2_with fail; go_ret; exact ⟨rfl, M5.out.kp⟩
  | false =>
    as_aux_lemma =>
      have hsm := HSm.out rfl; have hok : okKy k := ⟨by have := hsm.1; omega, by have := hsm.1; omega, HKI.out.1⟩
      have HG1 := Lib.hid (fun w' => errand_Good k w' hok); have HOK := Lib.hid hok; clear hsm hok HSm
      go_wp2_with (first | ((with_reducible refine gL 32 7 ?_); refine wpList_loadM (by rfl) 44 (.tmp 7) rfl M5 0 rfl (by rfl) _ Tryz.underlying44 rfl (a3_size x y z) ?_; try simp only [Act.put, sqA, sqB, sqC]) | fail); refine (HCf.out _).mono ?_; rintro e w6 ⟨rfl, k6⟩; have M6 := Lib.hid (M5.out.keep0 k6); clear k6 HCf
      go_wp2_with (first | ((with_reducible refine gA 11 ?_); refine wpList_allocM rfl 48 rfl (cf0.cells) (Lib.hid cf_zero) M6 ?_; intro b11 w7 M7 _ _; try simp only [Act.put, sqA, sqB, sqC]) | ((with_reducible refine gS 11 34 ?_); refine wpList_storeM rfl 48 (.tmp 11) (.tmp 34) rfl M7 0 rfl (by rfl) (cf.cells) (by rfl) (cf_size cf) (by rw [Cf.len, Cf.len]) (Cf.one _) ?_; intro w8 M8 _; try simp only [Act.put, sqA, sqB, sqC]) | ((with_reducible refine gL 36 5 ?_); refine wpList_loadM (by rfl) 25 (.tmp 5) rfl M8 3 rfl (by rfl) _ Tryz.underlying25 rfl (ky_size k) ?_; try simp only [Act.put, sqA, sqB, sqC]) | ((with_reducible refine gL 37 11 ?_); refine wpList_loadM (by rfl) 48 (.tmp 11) rfl M8 0 rfl (by rfl) _ Tryz.underlying48 rfl (cf_size cf) ?_; try simp only [Act.put, sqA, sqB, sqC]) | ((with_reducible refine gL 38 6 ?_); refine wpList_loadM (by rfl) 27 (.tmp 6) rfl M8 2 rfl (by rfl) _ Tryz.underlying27 rfl (tk_size t) ?_; try simp only [Act.put, sqA, sqB, sqC]) | fail); have M8' : Hid (Mem w w8 [(b11, 48, cf.cells), (b7, 44, [.int .i64 x, .int .i64 y, .int .i64 z]), (b6, 27, t.cells), (b5, 25, k.cells)]) := M8; have hN := er_New (w0 := w) (L := ([(b11, 48, cf.cells), (b7, 44, [.int .i64 x, .int .i64 y, .int .i64 z]), (b6, 27, t.cells), (b5, 25, k.cells)] : List (Nat × TypeId × List Value)).map (·.1)) k cf t M8'.out.kp (HM.out.keep M8'.out.kp (by simp)) HOK.out (by rw [← HCE.out]; show 2 ≤ 1000000; omega) (fun l hl => by obtain ⟨y, hy, rfl⟩ := List.mem_map.1 hl; exact (M8'.out.2.2 y hy).2.lt); refine hN.mono ?_; rintro e w9 hN9; clear hN; rcases hN9 with ⟨hn, b, rfl, hb, hE, k9⟩ | ⟨hn, rfl, k9⟩
      rotate_left
      · rw [HNG.out] at hn; rw [hn] at HG1; have M9 := Lib.hid (M8'.out.keep0 k9); clear k9 M8
        go_wp2_with (first | ((with_reducible refine gL 44 5 ?_); refine wpList_loadM (by rfl) 25 (.tmp 5) rfl M9 3 rfl (by rfl) _ Tryz.underlying25 rfl (ky_size k) ?_; try simp only [Act.put, sqA, sqB, sqC]) | fail); refine (HG1.out _).mono ?_; rintro e w10 ⟨rfl, k10⟩; have M10 := Lib.hid (M9.out.keep0 k10); clear k10
        go_wp2_with (first | ((with_reducible refine gL 58 5 ?_); refine wpList_loadM (by rfl) 25 (.tmp 5) rfl M10 3 rfl (by rfl) _ Tryz.underlying25 rfl (ky_size k) ?_; try simp only [Act.put, sqA, sqB, sqC]) | fail); refine (HG1.out _).mono ?_; rintro e w11 ⟨rfl, k11⟩; have M11 := Lib.hid (M10.out.keep0 k11); clear k11; go_wp2_with fail; go_ret; exact ⟨rfl, M11.out.kp⟩
      rw [HNG.out] at hn; rw [hn] at HG1; have H9 := Lib.hid (⟨hE, M8'.out.keep0 k9⟩ : Lw w w9 b (.pointer Option.none) nilS [] (erNew k cf t) 0 [(b11, 48, cf.cells), (b7, 44, [.int .i64 x, .int .i64 y, .int .i64 z]), (b6, 27, t.cells), (b5, 25, k.cells)]); have T9 := Lib.hid (tr_new k cf t (by rw [← HCE.out]; exact Int.natCast_nonneg r) (by rw [← HCE.out]; exact HCB.out)); have HGK := Lib.hid hn; have G9 := Lib.hid (ginv_new k cf HT.out.2.2.1 HT.out.2.2.2.1); clear hE k9 M8 M8' hb hn HNG; have M9 := Lib.hid H9.out.m
      go_wp2_with (first | ((with_reducible refine gL 44 5 ?_); refine wpList_loadK (by rfl) 25 (.tmp 5) rfl M9 3 rfl (by rfl) _ Tryz.underlying25 rfl (ky_size k) ?_; try simp only [Act.put, sqA, sqB, sqC]) | fail); refine (HG1.out _).mono ?_; rintro e w10 ⟨rfl, k10⟩; have H10 := Lib.hid (H9.out.keep0 k10); clear k10 H9 M9 HG1; go_wp2_with fail
      go_loopg [14, 15] 100 (fun gg nv iv wr => ∃ (i : Nat) (now : Int) (E : ErS) (rp vA : Value) (X : List Nat), nv = .int .i64 now ∧ iv = .int .i64 (i : Nat) ∧ i ≤ 100 ∧ gg = 100 - i ∧ Hid (Lw w wr b rp vA X E (2048 * i) [(b11, 48, cf.cells), (b7, 44, [.int .i64 x, .int .i64 y, .int .i64 z]), (b6, 27, t.cells), (b5, 25, k.cells)]) ∧ Hid (Tr k cf t i now E) ∧ Hid (Ginv E))
      case atStart => exact ⟨0, 0, _, _, _, _, rfl, rfl, by omega, rfl, H10, T9, G9⟩
      case round =>
        as_aux_lemma =>
          clear H10 T9 G9; obtain ⟨i, now, E, rp, vA, X, rfl, rfl, hi, hgg, HR, TR, GR⟩ := hrel; have wi := IntWalk.i64_in ((i : Int) + 1) (by omega); by_cases hcont : i < Ls.length ∧ i < 100
          · as_aux_lemma =>
              obtain ⟨hlt, hi1⟩ := hcont; obtain ⟨sp, hx⟩ : ∃ x, Ls[i]? = some x := ⟨_, List.getElem?_eq_getElem hlt⟩
              have hgs := Lib.hid (HG.out sp (List.mem_of_getElem? hx)); have hsl := HV.out.keep Sp.len (by omega) HV.out HR.out.et.kp (by simp) (Nat.le_refl _); obtain ⟨ba, off, cap', hve, _, _, hcell⟩ := hsl.cell hx; obtain ⟨rfl, _, rfl⟩ : va = some ⟨ba, off, none⟩ ∧ True ∧ vcap = cap' := by simpa using hve
              have x0 := hcell 0 (by omega); have x1 := hcell 1 (by omega); have x2 := hcell 2 (by omega); simp only [Sp.cells, List.getElem?_cons_zero, List.getElem?_cons_succ, Nat.add_zero] at x0 x1 x2; clear hcell hve hsl hx; have d1 : decide (i < Ls.length) = true := decide_eq_true hlt; have d2 : decide ((i : Int) < 100) = true := decide_eq_true (by omega); have d3 : decide (i < 100) = true := decide_eq_true (by omega); have MR := Lib.hid HR.out.m; have hsz : (S sp.s).size = sp.s.length := S_size _; have hsm : sp.s.length ≤ 9223372036854775807 := by have := hgs.out.2.1; omega
              clear d1; have d1 : decide ((i : Int) < (Ls.length : Int)) = true := decide_eq_true (by omega); have d1' : decide (i < Ls.length) = true := decide_eq_true hlt
              go_wp2_with (first | ((with_reducible refine gA 16 ?_); refine wpList_allocK rfl 54 rfl ((⟨0, [], 0⟩ : Sp).cells) (Lib.hid sp_zero) MR ?_; intro b16 v1 N1 hnewb16; try simp only [Act.put, sqA, sqB, sqC]) | ((with_reducible refine gS 16 75 ?_); refine wpList_storeK rfl 54 (.tmp 16) (.tmp 75) rfl N1 0 rfl (by rfl) (sp.cells) (by rfl) (sp_size sp) (by rw [Sp.len, Sp.len]) (Sp.one _) (fun hlt => absurd hnewb16.out (by omega)) ?_; intro v2 N2; have s0 := N2.out.get 0 rfl 0 rfl; have s1 := N2.out.get 0 rfl 1 rfl; have s2 := N2.out.get 0 rfl 2 rfl; try simp only [Act.put, sqA, sqB, sqC]) | fail)
              · go_ret; exact ⟨rfl, N2.out.1.kp⟩
              have hbig : sp.s.length ≤ 1024 := by omega
              have HS := Lib.hid (HR.out.step (N := [(b16, 54, sp.cells)]) N2.out (by simpa using hnewb16.out)); have HSt := Lib.hid (er_State HS.out.et); have HRs := Lib.hid (er_Result HS.out.et); go_wp2_with (first | (go_at_call 18; refine HSt.out.mono ?_; rintro e w' ⟨rfl, rfl⟩) | fail); refine HRs.out.mono ?_; rintro e v3 ⟨rfl, k3⟩; have H3 := Lib.hid (HS.out.keep0 k3); have N3 := Lib.hid H3.out.m; clear k3 HS HRs HSt N2 N1
              go_wp2_with (first | ((with_reducible refine gA 18 ?_); refine wpList_allocK rfl 39 rfl (rs0.cells) (Lib.hid rs_zero) N3 ?_; intro b18 v4 N4 hnewb18; try simp only [Act.put, sqA, sqB, sqC]) | ((with_reducible refine gS 18 83 ?_); refine wpList_storeK rfl 39 (.tmp 18) (.tmp 83) rfl N4 0 rfl (by rfl) (E.res.cells) (by rfl) (rs_size _) (by rw [Rs.len, Rs.len]) (Rs.one _) (fun hlt => absurd hnewb18.out (by omega)) ?_; intro v5 N5; try simp only [Act.put, sqA, sqB, sqC]) | fail); have HS := Lib.hid (H3.out.step (N := [(b18, 39, E.res.cells)]) N5.out (by simpa using hnewb18.out)); have HTr := Lib.hid (er_Tries HS.out.et); have s0 := N5.out.get 1 rfl 0 rfl; have s1 := N5.out.get 1 rfl 1 rfl; have s2 := N5.out.get 1 rfl 2 rfl; clear HTr; have HTr := Lib.hid (er_Tries HS.out.et)
              go_upto_block 2 with (first | (go_at_call 20; refine HTr.out.mono ?_; rintro e w' ⟨rfl, rfl⟩) | fail)
              go_cut [14] (fun nv wx => ∃ (now' : Int) (R : ErS) (rp' vA' : Value) (X' : List Nat), nv = .int .i64 now' ∧ Hid (Lw w wx b rp' vA' X' R (2048 * (i + 1)) [(b18, 39, E.res.cells), (b16, 54, sp.cells), (b11, 48, cf.cells), (b7, 44, [.int .i64 x, .int .i64 y, .int .i64 z]), (b6, 27, t.cells), (b5, 25, k.cells)]) ∧ Hid (Tr k cf t (i + 1) now' R) ∧ Hid (Trans E R sp.kind) ∧ Hid (Ginv R))
              case first =>
                as_aux_lemma =>
                  have hE := Lib.hid (tinv_end TR.out.T (by rw [← HCE.out]; have := HRM.out; exact ⟨Int.natCast_nonneg r, by show ((r : Nat) : Int) ≤ 5; omega⟩)); by_cases q1 : sp.kind = 1
                  · as_aux_lemma =>
                      have e1 : (sp.kind == 1) = true := by simp [q1]
                      obtain ⟨wv, hwv⟩ : ∃ v, (decide (E.state = 1) && decide (E.unt ≤ now)) = v := ⟨_, rfl⟩
                      have HW := er_Wants HS.out.et now; rw [hwv] at HW; have HW := Lib.hid HW
                      cases wv with
                      | false =>
                        as_aux_lemma =>
                          have HBg := Lib.hid (er_BeginNo HS.out.et now hwv); have b4 : (S []).toList.isEmpty = true := by rw [S_toList]; rfl
                          have H7 := Lib.hid (HS.out.mono (n' := 2048 * (i + 1)) (by omega)); have fin := Lib.hid (tr_up TR.out); have fin2 := Lib.hid (trans_same E sp.kind); have Q1 := Lib.hid q1; clear hwv q1; go_wp2_with (first | (go_at_call 21; refine HW.out.mono ?_; rintro e w' ⟨rfl, rfl⟩) | (go_at_call 22; refine HBg.out.mono ?_; rintro e w' ⟨rfl, rfl⟩) | fail); go_meet; exact ⟨now, E, rp, vA, X, rfl, H7, fin, fin2, GR⟩
                      | true =>
                        as_aux_lemma =>
                          have h1 : E.state = 1 := by simp only [Bool.and_eq_true, decide_eq_true_eq] at hwv; exact hwv.1
                          have hkk : E.key = k := TR.out.T.key; have hcc : E.cfg = cf := TR.out.T.cfg; have htt : E.known = t := TR.out.T.known; have hho : E.cfg.host = [117, 112] := by rw [hcc, ← HCE.out]; rfl
                          have ha : askedE E.key E.cfg.host E.known = 0 := by rw [hkk, hho, htt]; exact good_asked t HGK.out
                          have HBg := Lib.hid (er_Begin HS.out.et HM.out now hwv (by rw [hkk]; exact HOK.out) (by rw [hho]; decide) ha (by have := hE.out.2.2.2.2.2.2.2.2; omega)); have b4 : (S (askedS E.key E.cfg.host E.known)).toList.isEmpty = false := asked_some ha; have wt : IntKind.i64.wrap (E.tries + 1) = E.tries + 1 := IntWalk.i64_in _ (by have := hE.out.2.2.2.2.2.2.2.2; omega); have e5 : (E.state != 1) = false := by simp [h1]
                          have fin : Hid (Tr k cf t (i + 1) now (erBegin E now)) := Lib.hid (tr_begin TR.out h1); have fin2 : Hid (Trans E (erBegin E now) sp.kind) := Lib.hid (q1 ▸ trans_begin h1 now); have fin3 : Hid (Ginv (erBegin E now)) := Lib.hid (ginv_begin GR.out (by have := TR.out.now; unfold in64; omega)); generalize askedS E.key E.cfg.host E.known = qs at HBg b4; have Q1 := Lib.hid q1; clear hwv ha hho hkk hcc htt h1 q1; go_wp2_with (first | (go_at_call 21; refine HW.out.mono ?_; rintro e w' ⟨rfl, rfl⟩) | fail); refine HBg.out.mono ?_; rintro e v6 ⟨rfl, rp6, va6, X6, hE2, k6, _⟩; have H6 := Lib.hid (HS.out.got hE2 k6); clear hE2 k6 HBg HW; have hs2 := er_State H6.out.et; rw [show (erBegin E now).state = 2 from rfl] at hs2; have ht2 := er_Tries H6.out.et; rw [show (erBegin E now).tries = E.tries + 1 from rfl] at ht2; have HS2 := Lib.hid hs2; have HT2 := Lib.hid ht2; clear hs2 ht2; have H7 := Lib.hid (H6.out.mono (n' := 2048 * (i + 1)) (by omega)); go_wp2_with (first | (go_at_call 18; refine HS2.out.mono ?_; rintro e w' ⟨rfl, rfl⟩) | (go_at_call 20; refine HT2.out.mono ?_; rintro e w' ⟨rfl, rfl⟩) | fail); go_meet; exact ⟨now, erBegin E now, rp6, va6, X6, rfl, H7, fin, fin2, fin3⟩
                  by_cases q2 : sp.kind = 2
                  · as_aux_lemma =>
                      have e1 : (sp.kind == 1) = false := by simp [q1]
                      have e2 : (sp.kind == 2) = true := by simp [q2]
                      have e3 : (sp.kind == 3) = false := by simp [q2]
                      obtain ⟨R, hR, hT, _⟩ := tr_hear TR.out hi1 (s := sp.s) hbig false; have HH := Lib.hid (er_Hear HS.out.et HM.out sp.s false now (by have := TR.out.now; omega) (by omega) hR TR.out.cnt (by omega) TR.out.told); have fin := Lib.hid hT; have fin2 := Lib.hid (trans_hear hR sp.kind); have fin3 := Lib.hid (ginv_hear hR (by omega) TR.out.ok TR.out.told TR.out.cnt (by omega) TR.out.live GR.out); have Q1 := Lib.hid q2; clear hR hT q2; go_wp2_with fail; refine HH.out.mono ?_; rintro e v6 ⟨rfl, va6, X6, hE2, k6, _⟩; have H6 := Lib.hid (HS.out.got hE2 k6); have H7 := Lib.hid (H6.out.mono (n' := 2048 * (i + 1)) (by omega)); clear hE2 k6 HH; have c0 := H6.out.me.get 1 rfl 0 rfl; go_wp2_with fail; go_meet; exact ⟨now, R, rp, va6, X6, rfl, H7, fin, fin2, fin3⟩
                  by_cases q3 : sp.kind = 3
                  · as_aux_lemma =>
                      have e1 : (sp.kind == 1) = false := by simp [q1]
                      have e2 : (sp.kind == 2) = false := by simp [q2]
                      have e3 : (sp.kind == 3) = true := by simp [q3]
                      obtain ⟨R, hR, hT, hns⟩ := tr_hear TR.out hi1 (s := sp.s) hbig true; have HH := Lib.hid (er_Hear HS.out.et HM.out sp.s true now (by have := TR.out.now; omega) (by omega) hR TR.out.cnt (by omega) TR.out.told); have fin := Lib.hid hT; have fin2 := Lib.hid (trans_hear hR sp.kind); have fin3 := Lib.hid (ginv_hear hR (by omega) TR.out.ok TR.out.told TR.out.cnt (by omega) TR.out.live GR.out); have e5 : (R.state == 2) = false := by simp [hns rfl]
                      have Q1 := Lib.hid q3; clear hR hT hns q3; go_wp2_with fail; refine HH.out.mono ?_; rintro e v6 ⟨rfl, va6, X6, hE2, k6, _⟩; have H6 := Lib.hid (HS.out.got hE2 k6); have H7 := Lib.hid (H6.out.mono (n' := 2048 * (i + 1)) (by omega)); clear hE2 k6 HH; have HS2 := Lib.hid (er_State H6.out.et); have c0 := H6.out.me.get 1 rfl 0 rfl; go_wp2_with (first | (go_at_call 18; refine HS2.out.mono ?_; rintro e w' ⟨rfl, rfl⟩) | fail); go_meet; exact ⟨now, R, rp, va6, X6, rfl, H7, fin, fin2, fin3⟩
                  by_cases q4 : sp.kind = 4
                  · as_aux_lemma =>
                      have e1 : (sp.kind == 1) = false := by simp [q1]
                      have e2 : (sp.kind == 2) = false := by simp [q2]
                      have e3 : (sp.kind == 3) = false := by simp [q3]
                      have e4 : (sp.kind == 4) = true := by simp [q4]
                      obtain ⟨u, hu, eu⟩ := u64_mod sp.n 100 (by omega); replace eu : (IntKind.u64.wrap sp.n).tmod 100 = (u : Int) := eu; have hnw := TR.out.now; have wu : IntKind.i64.wrap (u : Int) = u := IntWalk.i64_in _ (by omega); have wn : IntKind.i64.wrap (now + (u : Int)) = now + (u : Int) := IntWalk.i64_in _ (by omega); have hin := hE.out.2.2.2.2.2.2.2.2; have hin2 := hE.out.2.2.2.2.1; have hin3 := hE.out.2.2.2.2.2.1; have HT := Lib.hid (er_Tick HS.out.et (now + (u : Int)) ⟨by omega, by omega, TR.out.cnt.2.2.2.2.2⟩ (by have := TR.out.last; omega) (by omega)); have fin := Lib.hid (tr_tick TR.out (u : Int) (by omega)); have fin2 := Lib.hid (trans_tick E (now + (u : Int)) sp.kind); have fin3 := Lib.hid (ginv_tick GR.out (now + (u : Int))); have Q1 := Lib.hid q4; clear hin hnw hin2 hin3 q4; go_wp2_with fail; refine HT.out.mono ?_; rintro e v6 ⟨rfl, hE2, k6⟩; have H6 := Lib.hid (HS.out.got hE2 (k6.mono (fun y hy _ => by simp only [List.mem_singleton] at hy; subst hy; simp))); have H7 := Lib.hid (H6.out.mono (n' := 2048 * (i + 1)) (by omega)); clear hE2 k6 HT; go_wp2_with fail; go_meet; exact ⟨now + (u : Int), erTick E (now + (u : Int)), rp, vA, X, rfl, H7, fin, fin2, fin3⟩
                  have e1 : (sp.kind == 1) = false := by simp [q1]
                  have e2 : (sp.kind == 2) = false := by simp [q2]
                  have e3 : (sp.kind == 3) = false := by simp [q3]
                  have e4 : (sp.kind == 4) = false := by simp [q4]
                  have hcd : E.data.length ≤ 5125 * i * 400000 := TR.out.cnt.2.2.2.1; have htk := TR.out.taken; have HTk := Lib.hid (er_Take HS.out.et (by omega) (by omega)); go_wp2_with fail; refine HTk.out.mono ?_; rintro e v6 ⟨rfl, hE2, k6⟩; have H6 := Lib.hid (HS.out.got hE2 (k6.mono (fun y hy _ => by simp only [List.mem_singleton] at hy; subst hy; simp))); clear hE2 k6 HTk; have c0 := H6.out.me.get 5 rfl 0 rfl; have b1 : decide (E.taken < 0) = false := decide_eq_false (by omega); have TD := Lib.hid (TR.out.D); have fin : Hid (Tr k cf t (i + 1) now (erTook E)) := Lib.hid (tr_took TR.out hi1); have fin2 : Hid (Trans E (erTook E) sp.kind) := Lib.hid (trans_took E sp.kind); have fin3 : Hid (Ginv (erTook E)) := Lib.hid (ginv_took GR.out); have H7 := Lib.hid (H6.out.mono (n' := 2048 * (i + 1)) (by omega)); have hkk : E.key = k := TR.out.T.key; by_cases hk2 : k.kind = 2
                  · have b2 : (k.kind != 2) = false := by simp [hk2]
                    go_wp2_with fail; go_meet; exact ⟨now, erTook E, rp, vA, X, rfl, H7, fin, fin2, fin3⟩
                  · have b2 : (k.kind != 2) = true := by simp [hk2]
                    have hdat : E.data = [] := (TD.out (by rw [hkk]; exact hk2)).1; have b4 : (S E.data).toList.isEmpty = true := by rw [hdat, S_toList]; rfl
                    clear hdat; go_wp2_with fail; go_meet; exact ⟨now, erTook E, rp, vA, X, rfl, H7, fin, fin2, fin3⟩
              case rest =>
                as_aux_lemma =>
                  as_aux_lemma =>
                    obtain ⟨now', R, rp', vA', X', rfl, HR2, TR2, TrN, GR2⟩ := hcut; have HS3 := Lib.hid (er_State HR2.out.et)
                    go_upto_region 37 with (first | (go_at_call 18; refine HS3.out.mono ?_; rintro e w' ⟨rfl, rfl⟩) | fail)
                    go_cut [208] (fun v wx => v = .bool false ∧ Hid (Lw w wx b rp' vA' X' R (2048 * (i + 1)) [(b18, 39, E.res.cells), (b16, 54, sp.cells), (b11, 48, cf.cells), (b7, 44, [.int .i64 x, .int .i64 y, .int .i64 z]), (b6, 27, t.cells), (b5, 25, k.cells)]))
                    case first =>
                      as_aux_lemma =>
                        by_cases s3 : E.state = 3
                        · have hdn := TrN.out.done s3; have a1 : (E.state == 3) = true := by simp [s3]
                          have a2 : (E.state == 1) = false := by simp [s3]
                          have a3 : (R.state != 3) = false := by simp [hdn.1]
                          have a4 : (E.tries != E.tries) = false := by simp
                          have HX := Lib.hid hdn; have heq := fun w' => eqRs E.res E.res GR.out.res GR.out.res w'
                          rw [decide_eq_true rfl] at heq; clear s3 hdn
                          as_aux_lemma =>
                            refine wp_region_noPanic ?_; refine wp_region_held_drew (S := fun w' => Lw w w' b rp' vA' X' R (2048 * (i + 1)) [(b18, 39, E.res.cells), (b16, 54, sp.cells), (b11, 48, cf.cells), (b7, 44, [.int .i64 x, .int .i64 y, .int .i64 z]), (b6, 27, t.cells), (b5, 25, k.cells)]) (by kernel_rfl) ((Lib.hid (HR2.out.keep0 ((Keep.refl _ _).drew))).out) (fun hHeld => ?_); have HR2d := Lib.hid (HR2.out.keep0 ((Keep.refl _ _).drew)); refine gU 0 (oi := ⟨some 177, .move (.tmp 17), _, _, _, none⟩) (v := ?_) rfl (Or.inl ⟨by rfl, ?_⟩) (by assumption) ?_; rotate_left
                            · (intro w' hSw; go_simp) <;> (with_reducible rfl)
                            (try simp only [Act.put, sqA, sqC, sqB]); refine gU 1 (oi := ⟨some 178, .binOp _ _ _ _ _, _, _, _, none⟩) (v := ?_) rfl (Or.inl ⟨by rfl, ?_⟩) (by assumption) ?_; rotate_left
                            · (intro w' hSw; go_simp) <;> (with_reducible rfl)
                            (try simp only [Act.put, sqA, sqC, sqB]); refine gU 2 (oi := ⟨some 179, .move (.tmp 178), _, _, _, none⟩) (v := ?_) rfl (Or.inl ⟨by rfl, ?_⟩) (by assumption) ?_; rotate_left
                            · (intro w' hSw; go_simp) <;> (with_reducible rfl)
                            (try simp only [Act.put, sqA, sqC, sqB]); refine gU 3 (oi := ⟨some 180, .move (.tmp 25), _, _, _, some (2, true)⟩) (v := ?_) rfl (Or.inl ⟨by rfl, ?_⟩) (by assumption) ?_; rotate_left
                            · (intro w' hSw; go_simp) <;> (with_reducible rfl)
                            (try simp only [Act.put, sqA, sqC, sqB]); refine gU 4 (oi := ⟨some 181, .binOp _ _ _ _ _, _, _, _, some (2, true)⟩) (v := ?_) rfl (Or.inl ⟨by rfl, ?_⟩) (by assumption) ?_; rotate_left
                            · (intro w' hSw; go_simp) <;> (with_reducible rfl)
                            (try simp only [Act.put, sqA, sqC, sqB]); refine gU 5 (oi := ⟨some 182, .move (.tmp 181), _, _, _, some (2, true)⟩) (v := ?_) rfl (Or.inl ⟨by rfl, ?_⟩) (by assumption) ?_; rotate_left
                            · (intro w' hSw; go_simp) <;> (with_reducible rfl)
                            (try simp only [Act.put, sqA, sqC, sqB]); refine gU 6 (oi := ⟨some 183, .move (.tmp 12), _, _, _, some (5, false)⟩) (v := ?_) rfl (Or.inl ⟨by rfl, ?_⟩) (by assumption) ?_; rotate_left
                            · (intro w' hSw; go_simp) <;> (with_reducible rfl)
                            (try simp only [Act.put, sqA, sqC, sqB]); refine gU 8 (oi := ⟨some 185, .load _ (.tmp 18), _, _, _, some (5, false)⟩) rfl (yieldsIf_load_mid (by rfl) 39 (.tmp 18) rfl _ 0 (by rfl) (E.res.cells) _ (fun w' hSw => ((hSw.m).1.blk 0 (by rfl)).range') Tryz.underlying39 rfl (rs_size _)) (by assumption) ?_; (try simp only [Act.put, sqA, sqC, sqB]); refine gR 7 rfl (fun K hK => ?_); go_simp; refine (er_ResultQ HR2d.out.et HX.out.2.1).mono ?_; rintro e wr1 ⟨rfl, kR⟩; have MR1 := Lib.hid (HR2d.out.keep0 kR); clear kR; (try go_simp); refine hK.out _ _ (MR1.out) (fun hHeld => ?_); clear hK K; (try simp only [Act.put, sqA, sqC, sqB]); refine gU 9 (oi := ⟨some 186, .binOp _ _ _ _ _, _, _, _, some (5, false)⟩) (v := ?_) rfl (Or.inl ⟨by rfl, ?_⟩) (by assumption) ?_; rotate_left
                            · (intro w' hSw; go_simp) <;> (with_reducible rfl)
                            (try simp only [Act.put, sqA, sqC, sqB]); refine gU 10 (oi := ⟨some 187, .pick _ _ _, _, _, _, some (2, true)⟩) (v := ?_) rfl (Or.inl ⟨by rfl, ?_⟩) (by assumption) ?_; rotate_left
                            · (intro w' hSw; go_simp) <;> (with_reducible rfl)
                            (try simp only [Act.put, sqA, sqC, sqB]); refine gU 11 (oi := ⟨some 188, .move (.tmp 187), _, _, _, some (2, true)⟩) (v := ?_) rfl (Or.inl ⟨by rfl, ?_⟩) (by assumption) ?_; rotate_left
                            · (intro w' hSw; go_simp) <;> (with_reducible rfl)
                            (try simp only [Act.put, sqA, sqC, sqB]); refine gU 12 (oi := ⟨some 189, .move (.tmp 12), _, _, _, some (11, false)⟩) (v := ?_) rfl (Or.inl ⟨by rfl, ?_⟩) (by assumption) ?_; rotate_left
                            · (intro w' hSw; go_simp) <;> (with_reducible rfl)
                            (try simp only [Act.put, sqA, sqC, sqB]); refine gU 14 (oi := ⟨some 191, .move (.tmp 19), _, _, _, some (11, false)⟩) (v := ?_) rfl (Or.inl ⟨by rfl, ?_⟩) (by assumption) ?_; rotate_left
                            · (intro w' hSw; go_simp) <;> (with_reducible rfl)
                            (try simp only [Act.put, sqA, sqC, sqB]); refine gR 13 rfl (fun K hK => ?_); go_simp; refine (er_TriesQ MR1.out.et HX.out.2.2).mono ?_; rintro e wr2 ⟨rfl, kR⟩; have MR2 := Lib.hid (MR1.out.keep0 kR); clear kR; (try go_simp); refine hK.out _ _ (MR2.out) (fun hHeld => ?_); clear hK K; (try simp only [Act.put, sqA, sqC, sqB]); refine gU 15 (oi := ⟨some 192, .binOp _ _ _ _ _, _, _, _, some (11, false)⟩) (v := ?_) rfl (Or.inl ⟨by rfl, ?_⟩) (by assumption) ?_; rotate_left
                            · (intro w' hSw; go_simp) <;> (with_reducible rfl)
                            (try simp only [Act.put, sqA, sqC, sqB]); refine gU 16 (oi := ⟨some 193, .pick _ _ _, _, _, _, some (2, true)⟩) (v := ?_) rfl (Or.inl ⟨by rfl, ?_⟩) (by assumption) ?_; rotate_left
                            · (intro w' hSw; go_simp) <;> (with_reducible rfl)
                            (try simp only [Act.put, sqA, sqC, sqB]); refine gU 17 (oi := ⟨some 194, .pick _ _ _, _, _, _, none⟩) (v := ?_) rfl (Or.inl ⟨by rfl, ?_⟩) (by assumption) ?_; rotate_left
                            · (intro w' hSw; go_simp) <;> (with_reducible rfl)
                            try simp only [Act.put, sqA, sqC, sqB]
                            as_aux_lemma =>
                              refine gU 18 (oi := ⟨some 195, .move (.tmp 194), _, _, _, none⟩) (v := ?_) rfl (Or.inl ⟨by rfl, ?_⟩) (by assumption) ?_; rotate_left
                              · (intro w' hSw; go_simp) <;> (with_reducible rfl)
                              (try simp only [Act.put, sqA, sqC, sqB]); refine gU 19 (oi := ⟨some 196, .move (.tmp 17), _, _, _, some (18, false)⟩) (v := ?_) rfl (Or.inl ⟨by rfl, ?_⟩) (by assumption) ?_; rotate_left
                              · (intro w' hSw; go_simp) <;> (with_reducible rfl)
                              (try simp only [Act.put, sqA, sqC, sqB]); refine gU 20 (oi := ⟨some 197, .binOp _ _ _ _ _, _, _, _, some (18, false)⟩) (v := ?_) rfl (Or.inl ⟨by rfl, ?_⟩) (by assumption) ?_; rotate_left
                              · (intro w' hSw; go_simp) <;> (with_reducible rfl)
                              (try simp only [Act.put, sqA, sqC, sqB]); refine gU 21 (oi := ⟨some 198, .move (.tmp 197), _, _, _, some (18, false)⟩) (v := ?_) rfl (Or.inl ⟨by rfl, ?_⟩) (by assumption) ?_; rotate_left
                              · (intro w' hSw; go_simp) <;> (with_reducible rfl)
                              (try simp only [Act.put, sqA, sqC, sqB]); refine gU 22 (oi := ⟨some 199, .move (.tmp 25), _, _, _, some (21, true)⟩) (v := undef) rfl (Or.inr ⟨by rfl, rfl⟩) (by assumption) ?_; (try simp only [Act.put, sqA, sqC, sqB]); refine gU 23 (oi := ⟨some 200, .move (.tmp 17), _, _, _, some (21, true)⟩) (v := undef) rfl (Or.inr ⟨by rfl, rfl⟩) (by assumption) ?_; (try simp only [Act.put, sqA, sqC, sqB]); refine gU 24 (oi := ⟨some 201, .binOp _ _ _ _ _, _, _, _, some (21, true)⟩) (v := undef) rfl (Or.inr ⟨by rfl, rfl⟩) (by assumption) ?_; (try simp only [Act.put, sqA, sqC, sqB]); refine gU 25 (oi := ⟨some 202, .pick _ _ _, _, _, _, some (18, false)⟩) (v := ?_) rfl (Or.inl ⟨by rfl, ?_⟩) (by assumption) ?_; rotate_left
                              · (intro w' hSw; go_simp) <;> (with_reducible rfl)
                              (try simp only [Act.put, sqA, sqC, sqB]); refine gU 26 (oi := ⟨some 203, .move (.tmp 202), _, _, _, some (18, false)⟩) (v := ?_) rfl (Or.inl ⟨by rfl, ?_⟩) (by assumption) ?_; rotate_left
                              · (intro w' hSw; go_simp) <;> (with_reducible rfl)
                              try simp only [Act.put, sqA, sqC, sqB]
                              as_aux_lemma =>
                                refine gU 27 (oi := ⟨some 204, .fieldAddr _ (.tmp 16) 0, _, _, _, some (26, true)⟩) (v := undef) rfl (Or.inr ⟨by rfl, rfl⟩) (by assumption) ?_; (try simp only [Act.put, sqA, sqC, sqB]); refine gU 28 (oi := ⟨some 205, .load _ (.tmp 204), _, _, _, some (26, true)⟩) (v := undef) rfl (Or.inr ⟨by rfl, rfl⟩) (by assumption) ?_; (try simp only [Act.put, sqA, sqC, sqB]); refine gU 29 (oi := ⟨some 206, .binOp _ _ _ _ _, _, _, _, some (26, true)⟩) (v := undef) rfl (Or.inr ⟨by rfl, rfl⟩) (by assumption) ?_; (try simp only [Act.put, sqA, sqC, sqB]); refine gU 30 (oi := ⟨some 207, .pick _ _ _, _, _, _, some (18, false)⟩) (v := ?_) rfl (Or.inl ⟨by rfl, ?_⟩) (by assumption) ?_; rotate_left
                                · (intro w' hSw; go_simp) <;> (with_reducible rfl)
                                (try simp only [Act.put, sqA, sqC, sqB]); refine gU 31 (oi := ⟨some 208, .pick _ _ _, _, _, _, none⟩) (v := ?_) rfl (Or.inl ⟨by rfl, ?_⟩) (by assumption) ?_; rotate_left
                                · (intro w' hSw; go_simp) <;> (with_reducible rfl)
                                (try simp only [Act.put, sqA, sqC, sqB]); refine wpAnyH_done (by kernel_rfl) ?_ _; refine NoPanic.normal ?_; (try go_wp2_with fail); go_meet; exact ⟨rfl, MR2⟩
                        · have a1 : (E.state == 3) = false := by simp [s3]
                          by_cases s1 : E.state = 1
                          · have a2 : (E.state == 1) = true := by simp [s1]
                            by_cases r1 : R.state = 1
                            · have a3 : (R.state != E.state) = false := by simp [s1, r1]
                              clear s3 s1 r1
                              as_aux_lemma =>
                                refine wp_region_noPanic ?_; refine wp_region_held_drew (S := fun w' => Lw w w' b rp' vA' X' R (2048 * (i + 1)) [(b18, 39, E.res.cells), (b16, 54, sp.cells), (b11, 48, cf.cells), (b7, 44, [.int .i64 x, .int .i64 y, .int .i64 z]), (b6, 27, t.cells), (b5, 25, k.cells)]) (by kernel_rfl) ((Lib.hid (HR2.out.keep0 ((Keep.refl _ _).drew))).out) (fun hHeld => ?_); have HR2d := Lib.hid (HR2.out.keep0 ((Keep.refl _ _).drew)); refine gU 0 (oi := ⟨some 177, .move (.tmp 17), _, _, _, none⟩) (v := ?_) rfl (Or.inl ⟨by rfl, ?_⟩) (by assumption) ?_; rotate_left
                                · (intro w' hSw; go_simp) <;> (with_reducible rfl)
                                (try simp only [Act.put, sqA, sqC, sqB]); refine gU 1 (oi := ⟨some 178, .binOp _ _ _ _ _, _, _, _, none⟩) (v := ?_) rfl (Or.inl ⟨by rfl, ?_⟩) (by assumption) ?_; rotate_left
                                · (intro w' hSw; go_simp) <;> (with_reducible rfl)
                                (try simp only [Act.put, sqA, sqC, sqB]); refine gU 2 (oi := ⟨some 179, .move (.tmp 178), _, _, _, none⟩) (v := ?_) rfl (Or.inl ⟨by rfl, ?_⟩) (by assumption) ?_; rotate_left
                                · (intro w' hSw; go_simp) <;> (with_reducible rfl)
                                (try simp only [Act.put, sqA, sqC, sqB]); refine gU 3 (oi := ⟨some 180, .move (.tmp 25), _, _, _, some (2, true)⟩) (v := undef) rfl (Or.inr ⟨by rfl, rfl⟩) (by assumption) ?_; (try simp only [Act.put, sqA, sqC, sqB]); refine gU 4 (oi := ⟨some 181, .binOp _ _ _ _ _, _, _, _, some (2, true)⟩) (v := undef) rfl (Or.inr ⟨by rfl, rfl⟩) (by assumption) ?_; (try simp only [Act.put, sqA, sqC, sqB]); refine gU 5 (oi := ⟨some 182, .move (.tmp 181), _, _, _, some (2, true)⟩) (v := undef) rfl (Or.inr ⟨by rfl, rfl⟩) (by assumption) ?_; (try simp only [Act.put, sqA, sqC, sqB]); refine gU 6 (oi := ⟨some 183, .move (.tmp 12), _, _, _, some (5, false)⟩) (v := undef) rfl (Or.inr ⟨by rfl, rfl⟩) (by assumption) ?_; (try simp only [Act.put, sqA, sqC, sqB]); refine gU 7 (oi := ⟨some 184, _, _, _, _, some (5, false)⟩) (v := undef) rfl (Or.inr ⟨by rfl, rfl⟩) (by assumption) ?_; (try simp only [Act.put, sqA, sqC, sqB]); refine gU 8 (oi := ⟨some 185, .load _ (.tmp 18), _, _, _, some (5, false)⟩) (v := undef) rfl (Or.inr ⟨by rfl, rfl⟩) (by assumption) ?_; try simp only [Act.put, sqA, sqC, sqB]
                                as_aux_lemma =>
                                  refine gU 9 (oi := ⟨some 186, .binOp _ _ _ _ _, _, _, _, some (5, false)⟩) (v := undef) rfl (Or.inr ⟨by rfl, rfl⟩) (by assumption) ?_; (try simp only [Act.put, sqA, sqC, sqB]); refine gU 10 (oi := ⟨some 187, .pick _ _ _, _, _, _, some (2, true)⟩) (v := undef) rfl (Or.inr ⟨by rfl, rfl⟩) (by assumption) ?_; (try simp only [Act.put, sqA, sqC, sqB]); refine gU 11 (oi := ⟨some 188, .move (.tmp 187), _, _, _, some (2, true)⟩) (v := undef) rfl (Or.inr ⟨by rfl, rfl⟩) (by assumption) ?_; (try simp only [Act.put, sqA, sqC, sqB]); refine gU 12 (oi := ⟨some 189, .move (.tmp 12), _, _, _, some (11, false)⟩) (v := undef) rfl (Or.inr ⟨by rfl, rfl⟩) (by assumption) ?_; (try simp only [Act.put, sqA, sqC, sqB]); refine gU 13 (oi := ⟨some 190, _, _, _, _, some (11, false)⟩) (v := undef) rfl (Or.inr ⟨by rfl, rfl⟩) (by assumption) ?_; (try simp only [Act.put, sqA, sqC, sqB]); refine gU 14 (oi := ⟨some 191, .move (.tmp 19), _, _, _, some (11, false)⟩) (v := undef) rfl (Or.inr ⟨by rfl, rfl⟩) (by assumption) ?_; (try simp only [Act.put, sqA, sqC, sqB]); refine gU 15 (oi := ⟨some 192, .binOp _ _ _ _ _, _, _, _, some (11, false)⟩) (v := undef) rfl (Or.inr ⟨by rfl, rfl⟩) (by assumption) ?_; (try simp only [Act.put, sqA, sqC, sqB]); refine gU 16 (oi := ⟨some 193, .pick _ _ _, _, _, _, some (2, true)⟩) (v := undef) rfl (Or.inr ⟨by rfl, rfl⟩) (by assumption) ?_; (try simp only [Act.put, sqA, sqC, sqB]); refine gU 17 (oi := ⟨some 194, .pick _ _ _, _, _, _, none⟩) (v := ?_) rfl (Or.inl ⟨by rfl, ?_⟩) (by assumption) ?_; rotate_left
                                  · (intro w' hSw; go_simp) <;> (with_reducible rfl)
                                  try simp only [Act.put, sqA, sqC, sqB]
                                  as_aux_lemma =>
                                    refine gU 18 (oi := ⟨some 195, .move (.tmp 194), _, _, _, none⟩) (v := ?_) rfl (Or.inl ⟨by rfl, ?_⟩) (by assumption) ?_; rotate_left
                                    · (intro w' hSw; go_simp) <;> (with_reducible rfl)
                                    (try simp only [Act.put, sqA, sqC, sqB]); refine gU 19 (oi := ⟨some 196, .move (.tmp 17), _, _, _, some (18, false)⟩) (v := ?_) rfl (Or.inl ⟨by rfl, ?_⟩) (by assumption) ?_; rotate_left
                                    · (intro w' hSw; go_simp) <;> (with_reducible rfl)
                                    (try simp only [Act.put, sqA, sqC, sqB]); refine gU 20 (oi := ⟨some 197, .binOp _ _ _ _ _, _, _, _, some (18, false)⟩) (v := ?_) rfl (Or.inl ⟨by rfl, ?_⟩) (by assumption) ?_; rotate_left
                                    · (intro w' hSw; go_simp) <;> (with_reducible rfl)
                                    (try simp only [Act.put, sqA, sqC, sqB]); refine gU 21 (oi := ⟨some 198, .move (.tmp 197), _, _, _, some (18, false)⟩) (v := ?_) rfl (Or.inl ⟨by rfl, ?_⟩) (by assumption) ?_; rotate_left
                                    · (intro w' hSw; go_simp) <;> (with_reducible rfl)
                                    (try simp only [Act.put, sqA, sqC, sqB]); refine gU 22 (oi := ⟨some 199, .move (.tmp 25), _, _, _, some (21, true)⟩) (v := ?_) rfl (Or.inl ⟨by rfl, ?_⟩) (by assumption) ?_; rotate_left
                                    · (intro w' hSw; go_simp) <;> (with_reducible rfl)
                                    (try simp only [Act.put, sqA, sqC, sqB]); refine gU 23 (oi := ⟨some 200, .move (.tmp 17), _, _, _, some (21, true)⟩) (v := ?_) rfl (Or.inl ⟨by rfl, ?_⟩) (by assumption) ?_; rotate_left
                                    · (intro w' hSw; go_simp) <;> (with_reducible rfl)
                                    (try simp only [Act.put, sqA, sqC, sqB]); refine gU 24 (oi := ⟨some 201, .binOp _ _ _ _ _, _, _, _, some (21, true)⟩) (v := ?_) rfl (Or.inl ⟨by rfl, ?_⟩) (by assumption) ?_; rotate_left
                                    · (intro w' hSw; go_simp) <;> (with_reducible rfl)
                                    (try simp only [Act.put, sqA, sqC, sqB]); refine gU 25 (oi := ⟨some 202, .pick _ _ _, _, _, _, some (18, false)⟩) (v := ?_) rfl (Or.inl ⟨by rfl, ?_⟩) (by assumption) ?_; rotate_left
                                    · (intro w' hSw; go_simp) <;> (with_reducible rfl)
                                    (try simp only [Act.put, sqA, sqC, sqB]); refine gU 26 (oi := ⟨some 203, .move (.tmp 202), _, _, _, some (18, false)⟩) (v := ?_) rfl (Or.inl ⟨by rfl, ?_⟩) (by assumption) ?_; rotate_left
                                    · (intro w' hSw; go_simp) <;> (with_reducible rfl)
                                    try simp only [Act.put, sqA, sqC, sqB]
                                    as_aux_lemma =>
                                      refine gU 27 (oi := ⟨some 204, .fieldAddr _ (.tmp 16) 0, _, _, _, some (26, true)⟩) (v := undef) rfl (Or.inr ⟨by rfl, rfl⟩) (by assumption) ?_; (try simp only [Act.put, sqA, sqC, sqB]); refine gU 28 (oi := ⟨some 205, .load _ (.tmp 204), _, _, _, some (26, true)⟩) (v := undef) rfl (Or.inr ⟨by rfl, rfl⟩) (by assumption) ?_; (try simp only [Act.put, sqA, sqC, sqB]); refine gU 29 (oi := ⟨some 206, .binOp _ _ _ _ _, _, _, _, some (26, true)⟩) (v := undef) rfl (Or.inr ⟨by rfl, rfl⟩) (by assumption) ?_; (try simp only [Act.put, sqA, sqC, sqB]); refine gU 30 (oi := ⟨some 207, .pick _ _ _, _, _, _, some (18, false)⟩) (v := ?_) rfl (Or.inl ⟨by rfl, ?_⟩) (by assumption) ?_; rotate_left
                                      · (intro w' hSw; go_simp) <;> (with_reducible rfl)
                                      (try simp only [Act.put, sqA, sqC, sqB]); refine gU 31 (oi := ⟨some 208, .pick _ _ _, _, _, _, none⟩) (v := ?_) rfl (Or.inl ⟨by rfl, ?_⟩) (by assumption) ?_; rotate_left
                                      · (intro w' hSw; go_simp) <;> (with_reducible rfl)
                                      (try simp only [Act.put, sqA, sqC, sqB]); refine wpAnyH_done (by kernel_rfl) ?_ _; refine NoPanic.normal ?_; (try go_wp2_with fail); go_meet; exact ⟨rfl, HR2d⟩
                            · have a3 : (R.state != E.state) = true := by simp [s1, r1]
                              have a4 : (sp.kind != 1) = false := by simp [TrN.out.wait s1 r1]
                              clear s3 s1 r1
                              as_aux_lemma =>
                                refine wp_region_noPanic ?_; refine wp_region_held_drew (S := fun w' => Lw w w' b rp' vA' X' R (2048 * (i + 1)) [(b18, 39, E.res.cells), (b16, 54, sp.cells), (b11, 48, cf.cells), (b7, 44, [.int .i64 x, .int .i64 y, .int .i64 z]), (b6, 27, t.cells), (b5, 25, k.cells)]) (by kernel_rfl) ((Lib.hid (HR2.out.keep0 ((Keep.refl _ _).drew))).out) (fun hHeld => ?_); have HR2d := Lib.hid (HR2.out.keep0 ((Keep.refl _ _).drew)); refine gU 0 (oi := ⟨some 177, .move (.tmp 17), _, _, _, none⟩) (v := ?_) rfl (Or.inl ⟨by rfl, ?_⟩) (by assumption) ?_; rotate_left
                                · (intro w' hSw; go_simp) <;> (with_reducible rfl)
                                (try simp only [Act.put, sqA, sqC, sqB]); refine gU 1 (oi := ⟨some 178, .binOp _ _ _ _ _, _, _, _, none⟩) (v := ?_) rfl (Or.inl ⟨by rfl, ?_⟩) (by assumption) ?_; rotate_left
                                · (intro w' hSw; go_simp) <;> (with_reducible rfl)
                                (try simp only [Act.put, sqA, sqC, sqB]); refine gU 2 (oi := ⟨some 179, .move (.tmp 178), _, _, _, none⟩) (v := ?_) rfl (Or.inl ⟨by rfl, ?_⟩) (by assumption) ?_; rotate_left
                                · (intro w' hSw; go_simp) <;> (with_reducible rfl)
                                (try simp only [Act.put, sqA, sqC, sqB]); refine gU 3 (oi := ⟨some 180, .move (.tmp 25), _, _, _, some (2, true)⟩) (v := undef) rfl (Or.inr ⟨by rfl, rfl⟩) (by assumption) ?_; (try simp only [Act.put, sqA, sqC, sqB]); refine gU 4 (oi := ⟨some 181, .binOp _ _ _ _ _, _, _, _, some (2, true)⟩) (v := undef) rfl (Or.inr ⟨by rfl, rfl⟩) (by assumption) ?_; (try simp only [Act.put, sqA, sqC, sqB]); refine gU 5 (oi := ⟨some 182, .move (.tmp 181), _, _, _, some (2, true)⟩) (v := undef) rfl (Or.inr ⟨by rfl, rfl⟩) (by assumption) ?_; (try simp only [Act.put, sqA, sqC, sqB]); refine gU 6 (oi := ⟨some 183, .move (.tmp 12), _, _, _, some (5, false)⟩) (v := undef) rfl (Or.inr ⟨by rfl, rfl⟩) (by assumption) ?_; (try simp only [Act.put, sqA, sqC, sqB]); refine gU 7 (oi := ⟨some 184, _, _, _, _, some (5, false)⟩) (v := undef) rfl (Or.inr ⟨by rfl, rfl⟩) (by assumption) ?_; (try simp only [Act.put, sqA, sqC, sqB]); refine gU 8 (oi := ⟨some 185, .load _ (.tmp 18), _, _, _, some (5, false)⟩) (v := undef) rfl (Or.inr ⟨by rfl, rfl⟩) (by assumption) ?_; try simp only [Act.put, sqA, sqC, sqB]
                                as_aux_lemma =>
                                  refine gU 9 (oi := ⟨some 186, .binOp _ _ _ _ _, _, _, _, some (5, false)⟩) (v := undef) rfl (Or.inr ⟨by rfl, rfl⟩) (by assumption) ?_; (try simp only [Act.put, sqA, sqC, sqB]); refine gU 10 (oi := ⟨some 187, .pick _ _ _, _, _, _, some (2, true)⟩) (v := undef) rfl (Or.inr ⟨by rfl, rfl⟩) (by assumption) ?_; (try simp only [Act.put, sqA, sqC, sqB]); refine gU 11 (oi := ⟨some 188, .move (.tmp 187), _, _, _, some (2, true)⟩) (v := undef) rfl (Or.inr ⟨by rfl, rfl⟩) (by assumption) ?_; (try simp only [Act.put, sqA, sqC, sqB]); refine gU 12 (oi := ⟨some 189, .move (.tmp 12), _, _, _, some (11, false)⟩) (v := undef) rfl (Or.inr ⟨by rfl, rfl⟩) (by assumption) ?_; (try simp only [Act.put, sqA, sqC, sqB]); refine gU 13 (oi := ⟨some 190, _, _, _, _, some (11, false)⟩) (v := undef) rfl (Or.inr ⟨by rfl, rfl⟩) (by assumption) ?_; (try simp only [Act.put, sqA, sqC, sqB]); refine gU 14 (oi := ⟨some 191, .move (.tmp 19), _, _, _, some (11, false)⟩) (v := undef) rfl (Or.inr ⟨by rfl, rfl⟩) (by assumption) ?_; (try simp only [Act.put, sqA, sqC, sqB]); refine gU 15 (oi := ⟨some 192, .binOp _ _ _ _ _, _, _, _, some (11, false)⟩) (v := undef) rfl (Or.inr ⟨by rfl, rfl⟩) (by assumption) ?_; (try simp only [Act.put, sqA, sqC, sqB]); refine gU 16 (oi := ⟨some 193, .pick _ _ _, _, _, _, some (2, true)⟩) (v := undef) rfl (Or.inr ⟨by rfl, rfl⟩) (by assumption) ?_; (try simp only [Act.put, sqA, sqC, sqB]); refine gU 17 (oi := ⟨some 194, .pick _ _ _, _, _, _, none⟩) (v := ?_) rfl (Or.inl ⟨by rfl, ?_⟩) (by assumption) ?_; rotate_left
                                  · (intro w' hSw; go_simp) <;> (with_reducible rfl)
                                  try simp only [Act.put, sqA, sqC, sqB]
                                  as_aux_lemma =>
                                    refine gU 18 (oi := ⟨some 195, .move (.tmp 194), _, _, _, none⟩) (v := ?_) rfl (Or.inl ⟨by rfl, ?_⟩) (by assumption) ?_; rotate_left
                                    · (intro w' hSw; go_simp) <;> (with_reducible rfl)
                                    (try simp only [Act.put, sqA, sqC, sqB]); refine gU 19 (oi := ⟨some 196, .move (.tmp 17), _, _, _, some (18, false)⟩) (v := ?_) rfl (Or.inl ⟨by rfl, ?_⟩) (by assumption) ?_; rotate_left
                                    · (intro w' hSw; go_simp) <;> (with_reducible rfl)
                                    (try simp only [Act.put, sqA, sqC, sqB]); refine gU 20 (oi := ⟨some 197, .binOp _ _ _ _ _, _, _, _, some (18, false)⟩) (v := ?_) rfl (Or.inl ⟨by rfl, ?_⟩) (by assumption) ?_; rotate_left
                                    · (intro w' hSw; go_simp) <;> (with_reducible rfl)
                                    (try simp only [Act.put, sqA, sqC, sqB]); refine gU 21 (oi := ⟨some 198, .move (.tmp 197), _, _, _, some (18, false)⟩) (v := ?_) rfl (Or.inl ⟨by rfl, ?_⟩) (by assumption) ?_; rotate_left
                                    · (intro w' hSw; go_simp) <;> (with_reducible rfl)
                                    (try simp only [Act.put, sqA, sqC, sqB]); refine gU 22 (oi := ⟨some 199, .move (.tmp 25), _, _, _, some (21, true)⟩) (v := ?_) rfl (Or.inl ⟨by rfl, ?_⟩) (by assumption) ?_; rotate_left
                                    · (intro w' hSw; go_simp) <;> (with_reducible rfl)
                                    (try simp only [Act.put, sqA, sqC, sqB]); refine gU 23 (oi := ⟨some 200, .move (.tmp 17), _, _, _, some (21, true)⟩) (v := ?_) rfl (Or.inl ⟨by rfl, ?_⟩) (by assumption) ?_; rotate_left
                                    · (intro w' hSw; go_simp) <;> (with_reducible rfl)
                                    (try simp only [Act.put, sqA, sqC, sqB]); refine gU 24 (oi := ⟨some 201, .binOp _ _ _ _ _, _, _, _, some (21, true)⟩) (v := ?_) rfl (Or.inl ⟨by rfl, ?_⟩) (by assumption) ?_; rotate_left
                                    · (intro w' hSw; go_simp) <;> (with_reducible rfl)
                                    (try simp only [Act.put, sqA, sqC, sqB]); refine gU 25 (oi := ⟨some 202, .pick _ _ _, _, _, _, some (18, false)⟩) (v := ?_) rfl (Or.inl ⟨by rfl, ?_⟩) (by assumption) ?_; rotate_left
                                    · (intro w' hSw; go_simp) <;> (with_reducible rfl)
                                    (try simp only [Act.put, sqA, sqC, sqB]); refine gU 26 (oi := ⟨some 203, .move (.tmp 202), _, _, _, some (18, false)⟩) (v := ?_) rfl (Or.inl ⟨by rfl, ?_⟩) (by assumption) ?_; rotate_left
                                    · (intro w' hSw; go_simp) <;> (with_reducible rfl)
                                    try simp only [Act.put, sqA, sqC, sqB]
                                    as_aux_lemma =>
                                      refine gU 27 (oi := ⟨some 204, .fieldAddr _ (.tmp 16) 0, _, _, _, some (26, true)⟩) (v := ?_) rfl (Or.inl ⟨by rfl, ?_⟩) (by assumption) ?_; rotate_left
                                      · (intro w' hSw; go_simp) <;> (with_reducible rfl)
                                      (try simp only [Act.put, sqA, sqC, sqB]); refine gU 28 (oi := ⟨some 205, .load _ (.tmp 204), _, _, _, some (26, true)⟩) (v := ?_) rfl (Or.inl ⟨by rfl, ?_⟩) (by assumption) ?_; rotate_left
                                      · (intro w' hSw; have y0 := hSw.me.get 1 rfl 0 rfl; have y1 := hSw.me.get 2 rfl 5 rfl; go_simp) <;> (with_reducible rfl)
                                      (try simp only [Act.put, sqA, sqC, sqB]); refine gU 29 (oi := ⟨some 206, .binOp _ _ _ _ _, _, _, _, some (26, true)⟩) (v := ?_) rfl (Or.inl ⟨by rfl, ?_⟩) (by assumption) ?_; rotate_left
                                      · (intro w' hSw; go_simp) <;> (with_reducible rfl)
                                      (try simp only [Act.put, sqA, sqC, sqB]); refine gU 30 (oi := ⟨some 207, .pick _ _ _, _, _, _, some (18, false)⟩) (v := ?_) rfl (Or.inl ⟨by rfl, ?_⟩) (by assumption) ?_; rotate_left
                                      · (intro w' hSw; go_simp) <;> (with_reducible rfl)
                                      (try simp only [Act.put, sqA, sqC, sqB]); refine gU 31 (oi := ⟨some 208, .pick _ _ _, _, _, _, none⟩) (v := ?_) rfl (Or.inl ⟨by rfl, ?_⟩) (by assumption) ?_; rotate_left
                                      · (intro w' hSw; go_simp) <;> (with_reducible rfl)
                                      (try simp only [Act.put, sqA, sqC, sqB]); refine wpAnyH_done (by kernel_rfl) ?_ _; refine NoPanic.normal ?_; (try go_wp2_with fail); go_meet; exact ⟨rfl, HR2d⟩
                          · have a2 : (E.state == 1) = false := by simp [s1]
                            clear s3 s1
                            as_aux_lemma =>
                              refine wp_region_noPanic ?_; refine wp_region_held_drew (S := fun w' => Lw w w' b rp' vA' X' R (2048 * (i + 1)) [(b18, 39, E.res.cells), (b16, 54, sp.cells), (b11, 48, cf.cells), (b7, 44, [.int .i64 x, .int .i64 y, .int .i64 z]), (b6, 27, t.cells), (b5, 25, k.cells)]) (by kernel_rfl) ((Lib.hid (HR2.out.keep0 ((Keep.refl _ _).drew))).out) (fun hHeld => ?_); have HR2d := Lib.hid (HR2.out.keep0 ((Keep.refl _ _).drew)); refine gU 0 (oi := ⟨some 177, .move (.tmp 17), _, _, _, none⟩) (v := ?_) rfl (Or.inl ⟨by rfl, ?_⟩) (by assumption) ?_; rotate_left
                              · (intro w' hSw; go_simp) <;> (with_reducible rfl)
                              (try simp only [Act.put, sqA, sqC, sqB]); refine gU 1 (oi := ⟨some 178, .binOp _ _ _ _ _, _, _, _, none⟩) (v := ?_) rfl (Or.inl ⟨by rfl, ?_⟩) (by assumption) ?_; rotate_left
                              · (intro w' hSw; go_simp) <;> (with_reducible rfl)
                              (try simp only [Act.put, sqA, sqC, sqB]); refine gU 2 (oi := ⟨some 179, .move (.tmp 178), _, _, _, none⟩) (v := ?_) rfl (Or.inl ⟨by rfl, ?_⟩) (by assumption) ?_; rotate_left
                              · (intro w' hSw; go_simp) <;> (with_reducible rfl)
                              (try simp only [Act.put, sqA, sqC, sqB]); refine gU 3 (oi := ⟨some 180, .move (.tmp 25), _, _, _, some (2, true)⟩) (v := undef) rfl (Or.inr ⟨by rfl, rfl⟩) (by assumption) ?_; (try simp only [Act.put, sqA, sqC, sqB]); refine gU 4 (oi := ⟨some 181, .binOp _ _ _ _ _, _, _, _, some (2, true)⟩) (v := undef) rfl (Or.inr ⟨by rfl, rfl⟩) (by assumption) ?_; (try simp only [Act.put, sqA, sqC, sqB]); refine gU 5 (oi := ⟨some 182, .move (.tmp 181), _, _, _, some (2, true)⟩) (v := undef) rfl (Or.inr ⟨by rfl, rfl⟩) (by assumption) ?_; (try simp only [Act.put, sqA, sqC, sqB]); refine gU 6 (oi := ⟨some 183, .move (.tmp 12), _, _, _, some (5, false)⟩) (v := undef) rfl (Or.inr ⟨by rfl, rfl⟩) (by assumption) ?_; (try simp only [Act.put, sqA, sqC, sqB]); refine gU 7 (oi := ⟨some 184, _, _, _, _, some (5, false)⟩) (v := undef) rfl (Or.inr ⟨by rfl, rfl⟩) (by assumption) ?_; (try simp only [Act.put, sqA, sqC, sqB]); refine gU 8 (oi := ⟨some 185, .load _ (.tmp 18), _, _, _, some (5, false)⟩) (v := undef) rfl (Or.inr ⟨by rfl, rfl⟩) (by assumption) ?_; try simp only [Act.put, sqA, sqC, sqB]
                              as_aux_lemma =>
                                refine gU 9 (oi := ⟨some 186, .binOp _ _ _ _ _, _, _, _, some (5, false)⟩) (v := undef) rfl (Or.inr ⟨by rfl, rfl⟩) (by assumption) ?_; (try simp only [Act.put, sqA, sqC, sqB]); refine gU 10 (oi := ⟨some 187, .pick _ _ _, _, _, _, some (2, true)⟩) (v := undef) rfl (Or.inr ⟨by rfl, rfl⟩) (by assumption) ?_; (try simp only [Act.put, sqA, sqC, sqB]); refine gU 11 (oi := ⟨some 188, .move (.tmp 187), _, _, _, some (2, true)⟩) (v := undef) rfl (Or.inr ⟨by rfl, rfl⟩) (by assumption) ?_; (try simp only [Act.put, sqA, sqC, sqB]); refine gU 12 (oi := ⟨some 189, .move (.tmp 12), _, _, _, some (11, false)⟩) (v := undef) rfl (Or.inr ⟨by rfl, rfl⟩) (by assumption) ?_; (try simp only [Act.put, sqA, sqC, sqB]); refine gU 13 (oi := ⟨some 190, _, _, _, _, some (11, false)⟩) (v := undef) rfl (Or.inr ⟨by rfl, rfl⟩) (by assumption) ?_; (try simp only [Act.put, sqA, sqC, sqB]); refine gU 14 (oi := ⟨some 191, .move (.tmp 19), _, _, _, some (11, false)⟩) (v := undef) rfl (Or.inr ⟨by rfl, rfl⟩) (by assumption) ?_; (try simp only [Act.put, sqA, sqC, sqB]); refine gU 15 (oi := ⟨some 192, .binOp _ _ _ _ _, _, _, _, some (11, false)⟩) (v := undef) rfl (Or.inr ⟨by rfl, rfl⟩) (by assumption) ?_; (try simp only [Act.put, sqA, sqC, sqB]); refine gU 16 (oi := ⟨some 193, .pick _ _ _, _, _, _, some (2, true)⟩) (v := undef) rfl (Or.inr ⟨by rfl, rfl⟩) (by assumption) ?_; (try simp only [Act.put, sqA, sqC, sqB]); refine gU 17 (oi := ⟨some 194, .pick _ _ _, _, _, _, none⟩) (v := ?_) rfl (Or.inl ⟨by rfl, ?_⟩) (by assumption) ?_; rotate_left
                                · (intro w' hSw; go_simp) <;> (with_reducible rfl)
                                try simp only [Act.put, sqA, sqC, sqB]
                                as_aux_lemma =>
                                  refine gU 18 (oi := ⟨some 195, .move (.tmp 194), _, _, _, none⟩) (v := ?_) rfl (Or.inl ⟨by rfl, ?_⟩) (by assumption) ?_; rotate_left
                                  · (intro w' hSw; go_simp) <;> (with_reducible rfl)
                                  (try simp only [Act.put, sqA, sqC, sqB]); refine gU 19 (oi := ⟨some 196, .move (.tmp 17), _, _, _, some (18, false)⟩) (v := ?_) rfl (Or.inl ⟨by rfl, ?_⟩) (by assumption) ?_; rotate_left
                                  · (intro w' hSw; go_simp) <;> (with_reducible rfl)
                                  (try simp only [Act.put, sqA, sqC, sqB]); refine gU 20 (oi := ⟨some 197, .binOp _ _ _ _ _, _, _, _, some (18, false)⟩) (v := ?_) rfl (Or.inl ⟨by rfl, ?_⟩) (by assumption) ?_; rotate_left
                                  · (intro w' hSw; go_simp) <;> (with_reducible rfl)
                                  (try simp only [Act.put, sqA, sqC, sqB]); refine gU 21 (oi := ⟨some 198, .move (.tmp 197), _, _, _, some (18, false)⟩) (v := ?_) rfl (Or.inl ⟨by rfl, ?_⟩) (by assumption) ?_; rotate_left
                                  · (intro w' hSw; go_simp) <;> (with_reducible rfl)
                                  (try simp only [Act.put, sqA, sqC, sqB]); refine gU 22 (oi := ⟨some 199, .move (.tmp 25), _, _, _, some (21, true)⟩) (v := undef) rfl (Or.inr ⟨by rfl, rfl⟩) (by assumption) ?_; (try simp only [Act.put, sqA, sqC, sqB]); refine gU 23 (oi := ⟨some 200, .move (.tmp 17), _, _, _, some (21, true)⟩) (v := undef) rfl (Or.inr ⟨by rfl, rfl⟩) (by assumption) ?_; (try simp only [Act.put, sqA, sqC, sqB]); refine gU 24 (oi := ⟨some 201, .binOp _ _ _ _ _, _, _, _, some (21, true)⟩) (v := undef) rfl (Or.inr ⟨by rfl, rfl⟩) (by assumption) ?_; (try simp only [Act.put, sqA, sqC, sqB]); refine gU 25 (oi := ⟨some 202, .pick _ _ _, _, _, _, some (18, false)⟩) (v := ?_) rfl (Or.inl ⟨by rfl, ?_⟩) (by assumption) ?_; rotate_left
                                  · (intro w' hSw; go_simp) <;> (with_reducible rfl)
                                  (try simp only [Act.put, sqA, sqC, sqB]); refine gU 26 (oi := ⟨some 203, .move (.tmp 202), _, _, _, some (18, false)⟩) (v := ?_) rfl (Or.inl ⟨by rfl, ?_⟩) (by assumption) ?_; rotate_left
                                  · (intro w' hSw; go_simp) <;> (with_reducible rfl)
                                  try simp only [Act.put, sqA, sqC, sqB]
                                  as_aux_lemma =>
                                    refine gU 27 (oi := ⟨some 204, .fieldAddr _ (.tmp 16) 0, _, _, _, some (26, true)⟩) (v := undef) rfl (Or.inr ⟨by rfl, rfl⟩) (by assumption) ?_; (try simp only [Act.put, sqA, sqC, sqB]); refine gU 28 (oi := ⟨some 205, .load _ (.tmp 204), _, _, _, some (26, true)⟩) (v := undef) rfl (Or.inr ⟨by rfl, rfl⟩) (by assumption) ?_; (try simp only [Act.put, sqA, sqC, sqB]); refine gU 29 (oi := ⟨some 206, .binOp _ _ _ _ _, _, _, _, some (26, true)⟩) (v := undef) rfl (Or.inr ⟨by rfl, rfl⟩) (by assumption) ?_; (try simp only [Act.put, sqA, sqC, sqB]); refine gU 30 (oi := ⟨some 207, .pick _ _ _, _, _, _, some (18, false)⟩) (v := ?_) rfl (Or.inl ⟨by rfl, ?_⟩) (by assumption) ?_; rotate_left
                                    · (intro w' hSw; go_simp) <;> (with_reducible rfl)
                                    (try simp only [Act.put, sqA, sqC, sqB]); refine gU 31 (oi := ⟨some 208, .pick _ _ _, _, _, _, none⟩) (v := ?_) rfl (Or.inl ⟨by rfl, ?_⟩) (by assumption) ?_; rotate_left
                                    · (intro w' hSw; go_simp) <;> (with_reducible rfl)
                                    (try simp only [Act.put, sqA, sqC, sqB]); refine wpAnyH_done (by kernel_rfl) ?_ _; refine NoPanic.normal ?_; (try go_wp2_with fail); go_meet; exact ⟨rfl, HR2d⟩
                    case rest =>
                      obtain ⟨rfl, HR2⟩ := hcut; have HE := Lib.hid (tinv_end TR2.out.T (by rw [← HCE.out]; have := HRM.out; exact ⟨Int.natCast_nonneg r, by show ((r : Nat) : Int) ≤ 5; omega⟩)); have hre : 0 ≤ cf.re ∧ cf.re ≤ 5 := by rw [← HCE.out]; have := HRM.out; exact ⟨Int.natCast_nonneg r, by show ((r : Nat) : Int) ≤ 5; omega⟩
                      have hin := HE.out; have w1_ : IntKind.i64.wrap (cf.re + 1) = cf.re + 1 := IntWalk.i64_in _ (by omega); have w2_ : IntKind.i64.wrap (R.silent + R.heard) = R.silent + R.heard := IntWalk.i64_in _ (by omega); have f1 : decide (cf.re + 1 < R.tries) = false := decide_eq_false (by omega); have f2 : decide (R.tries < R.misses) = false := decide_eq_false (by omega); have f3 : decide (R.misses < R.silent) = false := decide_eq_false (by omega); have f4 : decide (R.tries < R.silent + R.heard) = false := decide_eq_false (by omega); have f5 : decide (IntKind.i64.wrap (cf.re + 1) < R.tries) = false := by rw [w1_]; exact f1
                      have f6 : decide (R.tries < IntKind.i64.wrap (R.silent + R.heard)) = false := by rw [w2_]; exact f4
                      clear hre hin
                      go_upto_region 39 with fail
                      go_cut [269] (fun v wx => v = .bool false ∧ Hid (Lw w wx b rp' vA' X' R (2048 * (i + 1)) [(b18, 39, E.res.cells), (b16, 54, sp.cells), (b11, 48, cf.cells), (b7, 44, [.int .i64 x, .int .i64 y, .int .i64 z]), (b6, 27, t.cells), (b5, 25, k.cells)]))
                      case first =>
                        as_aux_lemma =>
                          by_cases s3 : R.state = 3
                          · have a1 : (R.state == 3) = true := by simp [s3]
                            have a2 : (R.state != 3) = false := by simp [s3]
                            have a3 : (R.state == 1) = false := by simp [s3]
                            have a4 : (R.res.status == 0) = false := by simp [HE.out.1 s3]
                            have hf := fun w' => rs_field0 R.res w'
                            clear s3
                            as_aux_lemma =>
                              refine wp_region_noPanic ?_; refine wp_region_held_drew (S := fun w' => Lw w w' b rp' vA' X' R (2048 * (i + 1)) [(b18, 39, E.res.cells), (b16, 54, sp.cells), (b11, 48, cf.cells), (b7, 44, [.int .i64 x, .int .i64 y, .int .i64 z]), (b6, 27, t.cells), (b5, 25, k.cells)]) (by kernel_rfl) ((Lib.hid (HR2.out.keep0 ((Keep.refl _ _).drew))).out) (fun hHeld => ?_); have HR2d := Lib.hid (HR2.out.keep0 ((Keep.refl _ _).drew)); refine gU 0 (oi := ⟨some 209, .move (.tmp 25), _, _, _, none⟩) (v := ?_) rfl (Or.inl ⟨by rfl, ?_⟩) (by assumption) ?_; rotate_left
                              · (intro w' hSw; go_simp) <;> (with_reducible rfl)
                              (try simp only [Act.put, sqA, sqC, sqB]); refine gU 1 (oi := ⟨some 210, .binOp _ _ _ _ _, _, _, _, none⟩) (v := ?_) rfl (Or.inl ⟨by rfl, ?_⟩) (by assumption) ?_; rotate_left
                              · (intro w' hSw; go_simp) <;> (with_reducible rfl)
                              (try simp only [Act.put, sqA, sqC, sqB]); refine gU 2 (oi := ⟨some 211, .move (.tmp 210), _, _, _, none⟩) (v := ?_) rfl (Or.inl ⟨by rfl, ?_⟩) (by assumption) ?_; rotate_left
                              · (intro w' hSw; go_simp) <;> (with_reducible rfl)
                              (try simp only [Act.put, sqA, sqC, sqB]); refine gU 3 (oi := ⟨some 212, .move (.tmp 12), _, _, _, some (2, true)⟩) (v := ?_) rfl (Or.inl ⟨by rfl, ?_⟩) (by assumption) ?_; rotate_left
                              · (intro w' hSw; go_simp) <;> (with_reducible rfl)
                              (try simp only [Act.put, sqA, sqC, sqB]); refine gR 4 rfl (fun K hK => ?_); go_simp; refine (er_ResultQ HR2d.out.et rfl).mono ?_; rintro e wr1 ⟨rfl, kR⟩; have MR1 := Lib.hid (HR2d.out.keep0 kR); clear kR; (try go_simp); refine hK.out _ _ (MR1.out) (fun hHeld => ?_); clear hK K; (try simp only [Act.put, sqA, sqC, sqB]); refine gU 5 (oi := ⟨some 214, _, _, _, _, some (2, true)⟩) (v := ?_) rfl (Or.inl ⟨by rfl, ?_⟩) (by assumption) ?_; rotate_left
                              · (intro w' hSw; go_simp) <;> (with_reducible rfl)
                              (try simp only [Act.put, sqA, sqC, sqB]); refine gU 6 (oi := ⟨some 215, .binOp _ _ _ _ _, _, _, _, some (2, true)⟩) (v := ?_) rfl (Or.inl ⟨by rfl, ?_⟩) (by assumption) ?_; rotate_left
                              · (intro w' hSw; go_simp) <;> (with_reducible rfl)
                              (try simp only [Act.put, sqA, sqC, sqB]); refine gU 7 (oi := ⟨some 216, .pick _ _ _, _, _, _, none⟩) (v := ?_) rfl (Or.inl ⟨by rfl, ?_⟩) (by assumption) ?_; rotate_left
                              · (intro w' hSw; go_simp) <;> (with_reducible rfl)
                              (try simp only [Act.put, sqA, sqC, sqB]); refine gU 8 (oi := ⟨some 217, .move (.tmp 216), _, _, _, none⟩) (v := ?_) rfl (Or.inl ⟨by rfl, ?_⟩) (by assumption) ?_; rotate_left
                              · (intro w' hSw; go_simp) <;> (with_reducible rfl)
                              try simp only [Act.put, sqA, sqC, sqB]
                              as_aux_lemma =>
                                refine gU 9 (oi := ⟨some 218, .move (.tmp 25), _, _, _, some (8, false)⟩) (v := ?_) rfl (Or.inl ⟨by rfl, ?_⟩) (by assumption) ?_; rotate_left
                                · (intro w' hSw; go_simp) <;> (with_reducible rfl)
                                (try simp only [Act.put, sqA, sqC, sqB]); refine gU 10 (oi := ⟨some 219, .binOp _ _ _ _ _, _, _, _, some (8, false)⟩) (v := ?_) rfl (Or.inl ⟨by rfl, ?_⟩) (by assumption) ?_; rotate_left
                                · (intro w' hSw; go_simp) <;> (with_reducible rfl)
                                (try simp only [Act.put, sqA, sqC, sqB]); refine gU 11 (oi := ⟨some 220, .move (.tmp 219), _, _, _, some (8, false)⟩) (v := ?_) rfl (Or.inl ⟨by rfl, ?_⟩) (by assumption) ?_; rotate_left
                                · (intro w' hSw; go_simp) <;> (with_reducible rfl)
                                (try simp only [Act.put, sqA, sqC, sqB]); refine gU 12 (oi := ⟨some 221, .move (.tmp 12), _, _, _, some (11, true)⟩) (v := undef) rfl (Or.inr ⟨by rfl, rfl⟩) (by assumption) ?_; (try simp only [Act.put, sqA, sqC, sqB]); refine gU 13 (oi := ⟨some 222, _, _, _, _, some (11, true)⟩) (v := undef) rfl (Or.inr ⟨by rfl, rfl⟩) (by assumption) ?_; (try simp only [Act.put, sqA, sqC, sqB]); refine gU 14 (oi := ⟨some 223, _, _, _, _, some (11, true)⟩) (v := undef) rfl (Or.inr ⟨by rfl, rfl⟩) (by assumption) ?_; (try simp only [Act.put, sqA, sqC, sqB]); refine gU 15 (oi := ⟨some 224, .binOp _ _ _ _ _, _, _, _, some (11, true)⟩) (v := undef) rfl (Or.inr ⟨by rfl, rfl⟩) (by assumption) ?_; (try simp only [Act.put, sqA, sqC, sqB]); refine gU 16 (oi := ⟨some 225, .pick _ _ _, _, _, _, some (8, false)⟩) (v := ?_) rfl (Or.inl ⟨by rfl, ?_⟩) (by assumption) ?_; rotate_left
                                · (intro w' hSw; go_simp) <;> (with_reducible rfl)
                                (try simp only [Act.put, sqA, sqC, sqB]); refine gU 17 (oi := ⟨some 226, .pick _ _ _, _, _, _, none⟩) (v := ?_) rfl (Or.inl ⟨by rfl, ?_⟩) (by assumption) ?_; rotate_left
                                · (intro w' hSw; go_simp) <;> (with_reducible rfl)
                                try simp only [Act.put, sqA, sqC, sqB]
                                as_aux_lemma =>
                                  refine gU 18 (oi := ⟨some 227, .move (.tmp 226), _, _, _, none⟩) (v := ?_) rfl (Or.inl ⟨by rfl, ?_⟩) (by assumption) ?_; rotate_left
                                  · (intro w' hSw; go_simp) <;> (with_reducible rfl)
                                  (try simp only [Act.put, sqA, sqC, sqB]); refine gU 19 (oi := ⟨some 228, .move (.tmp 12), _, _, _, some (18, false)⟩) (v := ?_) rfl (Or.inl ⟨by rfl, ?_⟩) (by assumption) ?_; rotate_left
                                  · (intro w' hSw; go_simp) <;> (with_reducible rfl)
                                  (try simp only [Act.put, sqA, sqC, sqB]); refine gU 21 (oi := ⟨some 230, .fieldAddr _ (.tmp 11) 5, _, _, _, some (18, false)⟩) (v := ?_) rfl (Or.inl ⟨by rfl, ?_⟩) (by assumption) ?_; rotate_left
                                  · (intro w' hSw; go_simp) <;> (with_reducible rfl)
                                  (try simp only [Act.put, sqA, sqC, sqB]); refine gU 22 (oi := ⟨some 231, .load _ (.tmp 230), _, _, _, some (18, false)⟩) (v := ?_) rfl (Or.inl ⟨by rfl, ?_⟩) (by assumption) ?_; rotate_left
                                  · (intro w' hSw; have y0 := hSw.me.get 1 rfl 0 rfl; have y1 := hSw.me.get 2 rfl 5 rfl; go_simp) <;> (with_reducible rfl)
                                  (try simp only [Act.put, sqA, sqC, sqB]); refine gU 23 (oi := ⟨some 232, .binOp _ _ _ _ _, _, _, _, some (18, false)⟩) (v := ?_) rfl (Or.inl ⟨by rfl, ?_⟩) (by assumption) ?_; rotate_left
                                  · (intro w' hSw; go_simp) <;> (with_reducible rfl)
                                  (try simp only [Act.put, sqA, sqC, sqB]); refine gR 20 rfl (fun K hK => ?_); go_simp; refine (er_TriesQ MR1.out.et rfl).mono ?_; rintro e wr2 ⟨rfl, kR⟩; have MR2 := Lib.hid (MR1.out.keep0 kR); clear kR; (try go_simp); refine hK.out _ _ (MR2.out) (fun hHeld => ?_); clear hK K; (try simp only [Act.put, sqA, sqC, sqB]); refine gU 24 (oi := ⟨some 233, .binOp _ _ _ _ _, _, _, _, some (18, false)⟩) (v := ?_) rfl (Or.inl ⟨by rfl, ?_⟩) (by assumption) ?_; rotate_left
                                  · (intro w' hSw; go_simp) <;> (with_reducible rfl)
                                  (try simp only [Act.put, sqA, sqC, sqB]); refine gU 25 (oi := ⟨some 234, .pick _ _ _, _, _, _, none⟩) (v := ?_) rfl (Or.inl ⟨by rfl, ?_⟩) (by assumption) ?_; rotate_left
                                  · (intro w' hSw; go_simp) <;> (with_reducible rfl)
                                  (try simp only [Act.put, sqA, sqC, sqB]); refine gU 26 (oi := ⟨some 235, .move (.tmp 234), _, _, _, none⟩) (v := ?_) rfl (Or.inl ⟨by rfl, ?_⟩) (by assumption) ?_; rotate_left
                                  · (intro w' hSw; go_simp) <;> (with_reducible rfl)
                                  try simp only [Act.put, sqA, sqC, sqB]
                                  as_aux_lemma =>
                                    refine gU 27 (oi := ⟨some 236, .move (.tmp 12), _, _, _, some (26, false)⟩) (v := ?_) rfl (Or.inl ⟨by rfl, ?_⟩) (by assumption) ?_; rotate_left
                                    · (intro w' hSw; go_simp) <;> (with_reducible rfl)
                                    (try simp only [Act.put, sqA, sqC, sqB]); refine gU 29 (oi := ⟨some 238, .move (.tmp 12), _, _, _, some (26, false)⟩) (v := ?_) rfl (Or.inl ⟨by rfl, ?_⟩) (by assumption) ?_; rotate_left
                                    · (intro w' hSw; go_simp) <;> (with_reducible rfl)
                                    (try simp only [Act.put, sqA, sqC, sqB]); refine gR 28 rfl (fun K hK => ?_); go_simp; refine (er_MissesQ MR2.out.et rfl).mono ?_; rintro e wr3 ⟨rfl, kR⟩; have MR3 := Lib.hid (MR2.out.keep0 kR); clear kR; (try go_simp); refine hK.out _ _ (MR3.out) (fun hHeld => ?_); clear hK K; (try simp only [Act.put, sqA, sqC, sqB]); refine gR 30 rfl (fun K hK => ?_); go_simp; refine (er_TriesQ MR3.out.et rfl).mono ?_; rintro e wr4 ⟨rfl, kR⟩; have MR4 := Lib.hid (MR3.out.keep0 kR); clear kR; (try go_simp); refine hK.out _ _ (MR4.out) (fun hHeld => ?_); clear hK K; (try simp only [Act.put, sqA, sqC, sqB]); refine gU 31 (oi := ⟨some 240, .binOp _ _ _ _ _, _, _, _, some (26, false)⟩) (v := ?_) rfl (Or.inl ⟨by rfl, ?_⟩) (by assumption) ?_; rotate_left
                                    · (intro w' hSw; go_simp) <;> (with_reducible rfl)
                                    (try simp only [Act.put, sqA, sqC, sqB]); refine gU 32 (oi := ⟨some 241, .pick _ _ _, _, _, _, none⟩) (v := ?_) rfl (Or.inl ⟨by rfl, ?_⟩) (by assumption) ?_; rotate_left
                                    · (intro w' hSw; go_simp) <;> (with_reducible rfl)
                                    (try simp only [Act.put, sqA, sqC, sqB]); refine gU 33 (oi := ⟨some 242, .move (.tmp 241), _, _, _, none⟩) (v := ?_) rfl (Or.inl ⟨by rfl, ?_⟩) (by assumption) ?_; rotate_left
                                    · (intro w' hSw; go_simp) <;> (with_reducible rfl)
                                    (try simp only [Act.put, sqA, sqC, sqB]); refine gU 34 (oi := ⟨some 243, .move (.tmp 12), _, _, _, some (33, false)⟩) (v := ?_) rfl (Or.inl ⟨by rfl, ?_⟩) (by assumption) ?_; rotate_left
                                    · (intro w' hSw; go_simp) <;> (with_reducible rfl)
                                    (try simp only [Act.put, sqA, sqC, sqB]); refine gU 36 (oi := ⟨some 245, .move (.tmp 12), _, _, _, some (33, false)⟩) (v := ?_) rfl (Or.inl ⟨by rfl, ?_⟩) (by assumption) ?_; rotate_left
                                    · (intro w' hSw; go_simp) <;> (with_reducible rfl)
                                    try simp only [Act.put, sqA, sqC, sqB]
                                    as_aux_lemma =>
                                      refine gR 35 rfl (fun K hK => ?_); go_simp; refine (er_SilentQ MR4.out.et rfl).mono ?_; rintro e wr5 ⟨rfl, kR⟩; have MR5 := Lib.hid (MR4.out.keep0 kR); clear kR; (try go_simp); refine hK.out _ _ (MR5.out) (fun hHeld => ?_); clear hK K; (try simp only [Act.put, sqA, sqC, sqB]); refine gR 37 rfl (fun K hK => ?_); go_simp; refine (er_MissesQ MR5.out.et rfl).mono ?_; rintro e wr6 ⟨rfl, kR⟩; have MR6 := Lib.hid (MR5.out.keep0 kR); clear kR; (try go_simp); refine hK.out _ _ (MR6.out) (fun hHeld => ?_); clear hK K; (try simp only [Act.put, sqA, sqC, sqB]); refine gU 38 (oi := ⟨some 247, .binOp _ _ _ _ _, _, _, _, some (33, false)⟩) (v := ?_) rfl (Or.inl ⟨by rfl, ?_⟩) (by assumption) ?_; rotate_left
                                      · (intro w' hSw; go_simp) <;> (with_reducible rfl)
                                      (try simp only [Act.put, sqA, sqC, sqB]); refine gU 39 (oi := ⟨some 248, .pick _ _ _, _, _, _, none⟩) (v := ?_) rfl (Or.inl ⟨by rfl, ?_⟩) (by assumption) ?_; rotate_left
                                      · (intro w' hSw; go_simp) <;> (with_reducible rfl)
                                      (try simp only [Act.put, sqA, sqC, sqB]); refine gU 40 (oi := ⟨some 249, .move (.tmp 248), _, _, _, none⟩) (v := ?_) rfl (Or.inl ⟨by rfl, ?_⟩) (by assumption) ?_; rotate_left
                                      · (intro w' hSw; go_simp) <;> (with_reducible rfl)
                                      (try simp only [Act.put, sqA, sqC, sqB]); refine gU 41 (oi := ⟨some 250, .move (.tmp 12), _, _, _, some (40, false)⟩) (v := ?_) rfl (Or.inl ⟨by rfl, ?_⟩) (by assumption) ?_; rotate_left
                                      · (intro w' hSw; go_simp) <;> (with_reducible rfl)
                                      (try simp only [Act.put, sqA, sqC, sqB]); refine gU 43 (oi := ⟨some 252, .move (.tmp 12), _, _, _, some (40, false)⟩) (v := ?_) rfl (Or.inl ⟨by rfl, ?_⟩) (by assumption) ?_; rotate_left
                                      · (intro w' hSw; go_simp) <;> (with_reducible rfl)
                                      (try simp only [Act.put, sqA, sqC, sqB]); refine gU 46 (oi := ⟨some 255, .move (.tmp 12), _, _, _, some (40, false)⟩) (v := ?_) rfl (Or.inl ⟨by rfl, ?_⟩) (by assumption) ?_; rotate_left
                                      · (intro w' hSw; go_simp) <;> (with_reducible rfl)
                                      (try simp only [Act.put, sqA, sqC, sqB]); refine gR 42 rfl (fun K hK => ?_); go_simp; refine (er_SilentQ MR6.out.et rfl).mono ?_; rintro e wr7 ⟨rfl, kR⟩; have MR7 := Lib.hid (MR6.out.keep0 kR); clear kR; (try go_simp); refine hK.out _ _ (MR7.out) (fun hHeld => ?_); clear hK K; (try simp only [Act.put, sqA, sqC, sqB]); refine gR 44 rfl (fun K hK => ?_); go_simp; refine (er_HeardQ MR7.out.et rfl).mono ?_; rintro e wr8 ⟨rfl, kR⟩; have MR8 := Lib.hid (MR7.out.keep0 kR); clear kR; (try go_simp); refine hK.out _ _ (MR8.out) (fun hHeld => ?_); clear hK K; (try simp only [Act.put, sqA, sqC, sqB]); refine gU 45 (oi := ⟨some 254, .binOp _ _ _ _ _, _, _, _, some (40, false)⟩) (v := ?_) rfl (Or.inl ⟨by rfl, ?_⟩) (by assumption) ?_; rotate_left
                                      · (intro w' hSw; go_simp) <;> (with_reducible rfl)
                                      (try simp only [Act.put, sqA, sqC, sqB]); refine gR 47 rfl (fun K hK => ?_); go_simp; refine (er_TriesQ MR8.out.et rfl).mono ?_; rintro e wr9 ⟨rfl, kR⟩; have MR9 := Lib.hid (MR8.out.keep0 kR); clear kR; (try go_simp); refine hK.out _ _ (MR9.out) (fun hHeld => ?_); clear hK K; (try simp only [Act.put, sqA, sqC, sqB]); refine gU 48 (oi := ⟨some 257, .binOp _ _ _ _ _, _, _, _, some (40, false)⟩) (v := ?_) rfl (Or.inl ⟨by rfl, ?_⟩) (by assumption) ?_; rotate_left
                                      · (intro w' hSw; go_simp) <;> (with_reducible rfl)
                                      (try simp only [Act.put, sqA, sqC, sqB]); refine gU 49 (oi := ⟨some 258, .pick _ _ _, _, _, _, none⟩) (v := ?_) rfl (Or.inl ⟨by rfl, ?_⟩) (by assumption) ?_; rotate_left
                                      · (intro w' hSw; go_simp) <;> (with_reducible rfl)
                                      (try simp only [Act.put, sqA, sqC, sqB]); refine gU 50 (oi := ⟨some 259, .move (.tmp 258), _, _, _, none⟩) (v := ?_) rfl (Or.inl ⟨by rfl, ?_⟩) (by assumption) ?_; rotate_left
                                      · (intro w' hSw; go_simp) <;> (with_reducible rfl)
                                      (try simp only [Act.put, sqA, sqC, sqB]); refine gU 51 (oi := ⟨some 260, .move (.tmp 25), _, _, _, some (50, false)⟩) (v := ?_) rfl (Or.inl ⟨by rfl, ?_⟩) (by assumption) ?_; rotate_left
                                      · (intro w' hSw; go_simp) <;> (with_reducible rfl)
                                      (try simp only [Act.put, sqA, sqC, sqB]); refine gU 52 (oi := ⟨some 261, .binOp _ _ _ _ _, _, _, _, some (50, false)⟩) (v := ?_) rfl (Or.inl ⟨by rfl, ?_⟩) (by assumption) ?_; rotate_left
                                      · (intro w' hSw; go_simp) <;> (with_reducible rfl)
                                      (try simp only [Act.put, sqA, sqC, sqB]); refine gU 53 (oi := ⟨some 262, .move (.tmp 261), _, _, _, some (50, false)⟩) (v := ?_) rfl (Or.inl ⟨by rfl, ?_⟩) (by assumption) ?_; rotate_left
                                      · (intro w' hSw; go_simp) <;> (with_reducible rfl)
                                      try simp only [Act.put, sqA, sqC, sqB]
                                      as_aux_lemma =>
                                        refine gU 54 (oi := ⟨some 263, .move (.tmp 12), _, _, _, some (53, true)⟩) (v := undef) rfl (Or.inr ⟨by rfl, rfl⟩) (by assumption) ?_; (try simp only [Act.put, sqA, sqC, sqB]); refine gU 55 (oi := ⟨some 264, _, _, _, _, some (53, true)⟩) (v := undef) rfl (Or.inr ⟨by rfl, rfl⟩) (by assumption) ?_; (try simp only [Act.put, sqA, sqC, sqB]); refine gU 56 (oi := ⟨some 265, .move (.tmp 12), _, _, _, some (53, true)⟩) (v := undef) rfl (Or.inr ⟨by rfl, rfl⟩) (by assumption) ?_; (try simp only [Act.put, sqA, sqC, sqB]); refine gU 57 (oi := ⟨some 266, _, _, _, _, some (53, true)⟩) (v := undef) rfl (Or.inr ⟨by rfl, rfl⟩) (by assumption) ?_; (try simp only [Act.put, sqA, sqC, sqB]); refine gU 58 (oi := ⟨some 267, .binOp _ _ _ _ _, _, _, _, some (53, true)⟩) (v := undef) rfl (Or.inr ⟨by rfl, rfl⟩) (by assumption) ?_; (try simp only [Act.put, sqA, sqC, sqB]); refine gU 59 (oi := ⟨some 268, .pick _ _ _, _, _, _, some (50, false)⟩) (v := ?_) rfl (Or.inl ⟨by rfl, ?_⟩) (by assumption) ?_; rotate_left
                                        · (intro w' hSw; go_simp) <;> (with_reducible rfl)
                                        (try simp only [Act.put, sqA, sqC, sqB]); refine gU 60 (oi := ⟨some 269, .pick _ _ _, _, _, _, none⟩) (v := ?_) rfl (Or.inl ⟨by rfl, ?_⟩) (by assumption) ?_; rotate_left
                                        · (intro w' hSw; go_simp) <;> (with_reducible rfl)
                                        (try simp only [Act.put, sqA, sqC, sqB]); refine wpAnyH_done (by kernel_rfl) ?_ _; refine NoPanic.normal ?_; (try go_wp2_with fail); go_meet; exact ⟨rfl, MR9⟩
                          · have a1 : (R.state == 3) = false := by simp [s3]
                            have a2 : (R.state != 3) = true := by simp [s3]
                            have HX := Lib.hid (HE.out.2.1 s3); have heq := fun w' => eqRs rs0 rs0 (rsOf_good (s := 0) (by omega)) (rsOf_good (s := 0) (by omega)) w'
                            rw [decide_eq_true rfl] at heq; have HB0 := Lib.hid bd_rs0; by_cases s1 : R.state = 1
                            · have a3 : (R.state == 1) = true := by simp [s1]
                              have a4 : (R.misses != R.tries) = false := by simp [HE.out.2.2.2.2.2.2.2.1 s1]
                              clear s3 s1
                              as_aux_lemma =>
                                refine wp_region_noPanic ?_; refine wp_region_held_drew (S := fun w' => Lw w w' b rp' vA' X' R (2048 * (i + 1)) [(b18, 39, E.res.cells), (b16, 54, sp.cells), (b11, 48, cf.cells), (b7, 44, [.int .i64 x, .int .i64 y, .int .i64 z]), (b6, 27, t.cells), (b5, 25, k.cells)]) (by kernel_rfl) ((Lib.hid (HR2.out.keep0 ((Keep.refl _ _).drew))).out) (fun hHeld => ?_); have HR2d := Lib.hid (HR2.out.keep0 ((Keep.refl _ _).drew)); refine gU 0 (oi := ⟨some 209, .move (.tmp 25), _, _, _, none⟩) (v := ?_) rfl (Or.inl ⟨by rfl, ?_⟩) (by assumption) ?_; rotate_left
                                · (intro w' hSw; go_simp) <;> (with_reducible rfl)
                                (try simp only [Act.put, sqA, sqC, sqB]); refine gU 1 (oi := ⟨some 210, .binOp _ _ _ _ _, _, _, _, none⟩) (v := ?_) rfl (Or.inl ⟨by rfl, ?_⟩) (by assumption) ?_; rotate_left
                                · (intro w' hSw; go_simp) <;> (with_reducible rfl)
                                (try simp only [Act.put, sqA, sqC, sqB]); refine gU 2 (oi := ⟨some 211, .move (.tmp 210), _, _, _, none⟩) (v := ?_) rfl (Or.inl ⟨by rfl, ?_⟩) (by assumption) ?_; rotate_left
                                · (intro w' hSw; go_simp) <;> (with_reducible rfl)
                                (try simp only [Act.put, sqA, sqC, sqB]); refine gU 3 (oi := ⟨some 212, .move (.tmp 12), _, _, _, some (2, true)⟩) (v := undef) rfl (Or.inr ⟨by rfl, rfl⟩) (by assumption) ?_; (try simp only [Act.put, sqA, sqC, sqB]); refine gU 4 (oi := ⟨some 213, _, _, _, _, some (2, true)⟩) (v := undef) rfl (Or.inr ⟨by rfl, rfl⟩) (by assumption) ?_; (try simp only [Act.put, sqA, sqC, sqB]); refine gU 5 (oi := ⟨some 214, _, _, _, _, some (2, true)⟩) (v := undef) rfl (Or.inr ⟨by rfl, rfl⟩) (by assumption) ?_; (try simp only [Act.put, sqA, sqC, sqB]); refine gU 6 (oi := ⟨some 215, .binOp _ _ _ _ _, _, _, _, some (2, true)⟩) (v := undef) rfl (Or.inr ⟨by rfl, rfl⟩) (by assumption) ?_; (try simp only [Act.put, sqA, sqC, sqB]); refine gU 7 (oi := ⟨some 216, .pick _ _ _, _, _, _, none⟩) (v := ?_) rfl (Or.inl ⟨by rfl, ?_⟩) (by assumption) ?_; rotate_left
                                · (intro w' hSw; go_simp) <;> (with_reducible rfl)
                                (try simp only [Act.put, sqA, sqC, sqB]); refine gU 8 (oi := ⟨some 217, .move (.tmp 216), _, _, _, none⟩) (v := ?_) rfl (Or.inl ⟨by rfl, ?_⟩) (by assumption) ?_; rotate_left
                                · (intro w' hSw; go_simp) <;> (with_reducible rfl)
                                try simp only [Act.put, sqA, sqC, sqB]
                                as_aux_lemma =>
                                  refine gU 9 (oi := ⟨some 218, .move (.tmp 25), _, _, _, some (8, false)⟩) (v := ?_) rfl (Or.inl ⟨by rfl, ?_⟩) (by assumption) ?_; rotate_left
                                  · (intro w' hSw; go_simp) <;> (with_reducible rfl)
                                  (try simp only [Act.put, sqA, sqC, sqB]); refine gU 10 (oi := ⟨some 219, .binOp _ _ _ _ _, _, _, _, some (8, false)⟩) (v := ?_) rfl (Or.inl ⟨by rfl, ?_⟩) (by assumption) ?_; rotate_left
                                  · (intro w' hSw; go_simp) <;> (with_reducible rfl)
                                  (try simp only [Act.put, sqA, sqC, sqB]); refine gU 11 (oi := ⟨some 220, .move (.tmp 219), _, _, _, some (8, false)⟩) (v := ?_) rfl (Or.inl ⟨by rfl, ?_⟩) (by assumption) ?_; rotate_left
                                  · (intro w' hSw; go_simp) <;> (with_reducible rfl)
                                  (try simp only [Act.put, sqA, sqC, sqB]); refine gU 12 (oi := ⟨some 221, .move (.tmp 12), _, _, _, some (11, true)⟩) (v := ?_) rfl (Or.inl ⟨by rfl, ?_⟩) (by assumption) ?_; rotate_left
                                  · (intro w' hSw; go_simp) <;> (with_reducible rfl)
                                  (try simp only [Act.put, sqA, sqC, sqB]); refine gU 14 (oi := ⟨some 223, _, _, _, _, some (11, true)⟩) rfl (yieldsIf_buildM (by rfl) 39 _ rfl ([]) (by simp [Act.eval]) (rs0.cells) HB0) (by assumption) ?_; (try simp only [Act.put, sqA, sqC, sqB]); refine gR 13 rfl (fun K hK => ?_); go_simp; refine (er_ResultQ HR2d.out.et HX.out).mono ?_; rintro e wr1 ⟨rfl, kR⟩; have MR1 := Lib.hid (HR2d.out.keep0 kR); clear kR; (try go_simp); refine hK.out _ _ (MR1.out) (fun hHeld => ?_); clear hK K; (try simp only [Act.put, sqA, sqC, sqB]); refine gU 15 (oi := ⟨some 224, .binOp _ _ _ _ _, _, _, _, some (11, true)⟩) (v := ?_) rfl (Or.inl ⟨by rfl, ?_⟩) (by assumption) ?_; rotate_left
                                  · (intro w' hSw; go_simp) <;> (with_reducible rfl)
                                  (try simp only [Act.put, sqA, sqC, sqB]); refine gU 16 (oi := ⟨some 225, .pick _ _ _, _, _, _, some (8, false)⟩) (v := ?_) rfl (Or.inl ⟨by rfl, ?_⟩) (by assumption) ?_; rotate_left
                                  · (intro w' hSw; go_simp) <;> (with_reducible rfl)
                                  (try simp only [Act.put, sqA, sqC, sqB]); refine gU 17 (oi := ⟨some 226, .pick _ _ _, _, _, _, none⟩) (v := ?_) rfl (Or.inl ⟨by rfl, ?_⟩) (by assumption) ?_; rotate_left
                                  · (intro w' hSw; go_simp) <;> (with_reducible rfl)
                                  try simp only [Act.put, sqA, sqC, sqB]
                                  as_aux_lemma =>
                                    refine gU 18 (oi := ⟨some 227, .move (.tmp 226), _, _, _, none⟩) (v := ?_) rfl (Or.inl ⟨by rfl, ?_⟩) (by assumption) ?_; rotate_left
                                    · (intro w' hSw; go_simp) <;> (with_reducible rfl)
                                    (try simp only [Act.put, sqA, sqC, sqB]); refine gU 19 (oi := ⟨some 228, .move (.tmp 12), _, _, _, some (18, false)⟩) (v := ?_) rfl (Or.inl ⟨by rfl, ?_⟩) (by assumption) ?_; rotate_left
                                    · (intro w' hSw; go_simp) <;> (with_reducible rfl)
                                    (try simp only [Act.put, sqA, sqC, sqB]); refine gU 21 (oi := ⟨some 230, .fieldAddr _ (.tmp 11) 5, _, _, _, some (18, false)⟩) (v := ?_) rfl (Or.inl ⟨by rfl, ?_⟩) (by assumption) ?_; rotate_left
                                    · (intro w' hSw; go_simp) <;> (with_reducible rfl)
                                    (try simp only [Act.put, sqA, sqC, sqB]); refine gU 22 (oi := ⟨some 231, .load _ (.tmp 230), _, _, _, some (18, false)⟩) (v := ?_) rfl (Or.inl ⟨by rfl, ?_⟩) (by assumption) ?_; rotate_left
                                    · (intro w' hSw; have y0 := hSw.me.get 1 rfl 0 rfl; have y1 := hSw.me.get 2 rfl 5 rfl; go_simp) <;> (with_reducible rfl)
                                    (try simp only [Act.put, sqA, sqC, sqB]); refine gU 23 (oi := ⟨some 232, .binOp _ _ _ _ _, _, _, _, some (18, false)⟩) (v := ?_) rfl (Or.inl ⟨by rfl, ?_⟩) (by assumption) ?_; rotate_left
                                    · (intro w' hSw; go_simp) <;> (with_reducible rfl)
                                    (try simp only [Act.put, sqA, sqC, sqB]); refine gR 20 rfl (fun K hK => ?_); go_simp; refine (er_TriesQ MR1.out.et rfl).mono ?_; rintro e wr2 ⟨rfl, kR⟩; have MR2 := Lib.hid (MR1.out.keep0 kR); clear kR; (try go_simp); refine hK.out _ _ (MR2.out) (fun hHeld => ?_); clear hK K; (try simp only [Act.put, sqA, sqC, sqB]); refine gU 24 (oi := ⟨some 233, .binOp _ _ _ _ _, _, _, _, some (18, false)⟩) (v := ?_) rfl (Or.inl ⟨by rfl, ?_⟩) (by assumption) ?_; rotate_left
                                    · (intro w' hSw; go_simp) <;> (with_reducible rfl)
                                    (try simp only [Act.put, sqA, sqC, sqB]); refine gU 25 (oi := ⟨some 234, .pick _ _ _, _, _, _, none⟩) (v := ?_) rfl (Or.inl ⟨by rfl, ?_⟩) (by assumption) ?_; rotate_left
                                    · (intro w' hSw; go_simp) <;> (with_reducible rfl)
                                    (try simp only [Act.put, sqA, sqC, sqB]); refine gU 26 (oi := ⟨some 235, .move (.tmp 234), _, _, _, none⟩) (v := ?_) rfl (Or.inl ⟨by rfl, ?_⟩) (by assumption) ?_; rotate_left
                                    · (intro w' hSw; go_simp) <;> (with_reducible rfl)
                                    try simp only [Act.put, sqA, sqC, sqB]
                                    as_aux_lemma =>
                                      refine gU 27 (oi := ⟨some 236, .move (.tmp 12), _, _, _, some (26, false)⟩) (v := ?_) rfl (Or.inl ⟨by rfl, ?_⟩) (by assumption) ?_; rotate_left
                                      · (intro w' hSw; go_simp) <;> (with_reducible rfl)
                                      (try simp only [Act.put, sqA, sqC, sqB]); refine gU 29 (oi := ⟨some 238, .move (.tmp 12), _, _, _, some (26, false)⟩) (v := ?_) rfl (Or.inl ⟨by rfl, ?_⟩) (by assumption) ?_; rotate_left
                                      · (intro w' hSw; go_simp) <;> (with_reducible rfl)
                                      (try simp only [Act.put, sqA, sqC, sqB]); refine gR 28 rfl (fun K hK => ?_); go_simp; refine (er_MissesQ MR2.out.et rfl).mono ?_; rintro e wr3 ⟨rfl, kR⟩; have MR3 := Lib.hid (MR2.out.keep0 kR); clear kR; (try go_simp); refine hK.out _ _ (MR3.out) (fun hHeld => ?_); clear hK K; (try simp only [Act.put, sqA, sqC, sqB]); refine gR 30 rfl (fun K hK => ?_); go_simp; refine (er_TriesQ MR3.out.et rfl).mono ?_; rintro e wr4 ⟨rfl, kR⟩; have MR4 := Lib.hid (MR3.out.keep0 kR); clear kR; (try go_simp); refine hK.out _ _ (MR4.out) (fun hHeld => ?_); clear hK K; (try simp only [Act.put, sqA, sqC, sqB]); refine gU 31 (oi := ⟨some 240, .binOp _ _ _ _ _, _, _, _, some (26, false)⟩) (v := ?_) rfl (Or.inl ⟨by rfl, ?_⟩) (by assumption) ?_; rotate_left
                                      · (intro w' hSw; go_simp) <;> (with_reducible rfl)
                                      (try simp only [Act.put, sqA, sqC, sqB]); refine gU 32 (oi := ⟨some 241, .pick _ _ _, _, _, _, none⟩) (v := ?_) rfl (Or.inl ⟨by rfl, ?_⟩) (by assumption) ?_; rotate_left
                                      · (intro w' hSw; go_simp) <;> (with_reducible rfl)
                                      (try simp only [Act.put, sqA, sqC, sqB]); refine gU 33 (oi := ⟨some 242, .move (.tmp 241), _, _, _, none⟩) (v := ?_) rfl (Or.inl ⟨by rfl, ?_⟩) (by assumption) ?_; rotate_left
                                      · (intro w' hSw; go_simp) <;> (with_reducible rfl)
                                      (try simp only [Act.put, sqA, sqC, sqB]); refine gU 34 (oi := ⟨some 243, .move (.tmp 12), _, _, _, some (33, false)⟩) (v := ?_) rfl (Or.inl ⟨by rfl, ?_⟩) (by assumption) ?_; rotate_left
                                      · (intro w' hSw; go_simp) <;> (with_reducible rfl)
                                      (try simp only [Act.put, sqA, sqC, sqB]); refine gU 36 (oi := ⟨some 245, .move (.tmp 12), _, _, _, some (33, false)⟩) (v := ?_) rfl (Or.inl ⟨by rfl, ?_⟩) (by assumption) ?_; rotate_left
                                      · (intro w' hSw; go_simp) <;> (with_reducible rfl)
                                      try simp only [Act.put, sqA, sqC, sqB]
                                      as_aux_lemma =>
                                        refine gR 35 rfl (fun K hK => ?_); go_simp; refine (er_SilentQ MR4.out.et rfl).mono ?_; rintro e wr5 ⟨rfl, kR⟩; have MR5 := Lib.hid (MR4.out.keep0 kR); clear kR; (try go_simp); refine hK.out _ _ (MR5.out) (fun hHeld => ?_); clear hK K; (try simp only [Act.put, sqA, sqC, sqB]); refine gR 37 rfl (fun K hK => ?_); go_simp; refine (er_MissesQ MR5.out.et rfl).mono ?_; rintro e wr6 ⟨rfl, kR⟩; have MR6 := Lib.hid (MR5.out.keep0 kR); clear kR; (try go_simp); refine hK.out _ _ (MR6.out) (fun hHeld => ?_); clear hK K; (try simp only [Act.put, sqA, sqC, sqB]); refine gU 38 (oi := ⟨some 247, .binOp _ _ _ _ _, _, _, _, some (33, false)⟩) (v := ?_) rfl (Or.inl ⟨by rfl, ?_⟩) (by assumption) ?_; rotate_left
                                        · (intro w' hSw; go_simp) <;> (with_reducible rfl)
                                        (try simp only [Act.put, sqA, sqC, sqB]); refine gU 39 (oi := ⟨some 248, .pick _ _ _, _, _, _, none⟩) (v := ?_) rfl (Or.inl ⟨by rfl, ?_⟩) (by assumption) ?_; rotate_left
                                        · (intro w' hSw; go_simp) <;> (with_reducible rfl)
                                        (try simp only [Act.put, sqA, sqC, sqB]); refine gU 40 (oi := ⟨some 249, .move (.tmp 248), _, _, _, none⟩) (v := ?_) rfl (Or.inl ⟨by rfl, ?_⟩) (by assumption) ?_; rotate_left
                                        · (intro w' hSw; go_simp) <;> (with_reducible rfl)
                                        (try simp only [Act.put, sqA, sqC, sqB]); refine gU 41 (oi := ⟨some 250, .move (.tmp 12), _, _, _, some (40, false)⟩) (v := ?_) rfl (Or.inl ⟨by rfl, ?_⟩) (by assumption) ?_; rotate_left
                                        · (intro w' hSw; go_simp) <;> (with_reducible rfl)
                                        (try simp only [Act.put, sqA, sqC, sqB]); refine gU 43 (oi := ⟨some 252, .move (.tmp 12), _, _, _, some (40, false)⟩) (v := ?_) rfl (Or.inl ⟨by rfl, ?_⟩) (by assumption) ?_; rotate_left
                                        · (intro w' hSw; go_simp) <;> (with_reducible rfl)
                                        (try simp only [Act.put, sqA, sqC, sqB]); refine gU 46 (oi := ⟨some 255, .move (.tmp 12), _, _, _, some (40, false)⟩) (v := ?_) rfl (Or.inl ⟨by rfl, ?_⟩) (by assumption) ?_; rotate_left
                                        · (intro w' hSw; go_simp) <;> (with_reducible rfl)
                                        (try simp only [Act.put, sqA, sqC, sqB]); refine gR 42 rfl (fun K hK => ?_); go_simp; refine (er_SilentQ MR6.out.et rfl).mono ?_; rintro e wr7 ⟨rfl, kR⟩; have MR7 := Lib.hid (MR6.out.keep0 kR); clear kR; (try go_simp); refine hK.out _ _ (MR7.out) (fun hHeld => ?_); clear hK K; (try simp only [Act.put, sqA, sqC, sqB]); refine gR 44 rfl (fun K hK => ?_); go_simp; refine (er_HeardQ MR7.out.et rfl).mono ?_; rintro e wr8 ⟨rfl, kR⟩; have MR8 := Lib.hid (MR7.out.keep0 kR); clear kR; (try go_simp); refine hK.out _ _ (MR8.out) (fun hHeld => ?_); clear hK K; (try simp only [Act.put, sqA, sqC, sqB]); refine gU 45 (oi := ⟨some 254, .binOp _ _ _ _ _, _, _, _, some (40, false)⟩) (v := ?_) rfl (Or.inl ⟨by rfl, ?_⟩) (by assumption) ?_; rotate_left
                                        · (intro w' hSw; go_simp) <;> (with_reducible rfl)
                                        (try simp only [Act.put, sqA, sqC, sqB]); refine gR 47 rfl (fun K hK => ?_); go_simp; refine (er_TriesQ MR8.out.et rfl).mono ?_; rintro e wr9 ⟨rfl, kR⟩; have MR9 := Lib.hid (MR8.out.keep0 kR); clear kR; (try go_simp); refine hK.out _ _ (MR9.out) (fun hHeld => ?_); clear hK K; (try simp only [Act.put, sqA, sqC, sqB]); refine gU 48 (oi := ⟨some 257, .binOp _ _ _ _ _, _, _, _, some (40, false)⟩) (v := ?_) rfl (Or.inl ⟨by rfl, ?_⟩) (by assumption) ?_; rotate_left
                                        · (intro w' hSw; go_simp) <;> (with_reducible rfl)
                                        (try simp only [Act.put, sqA, sqC, sqB]); refine gU 49 (oi := ⟨some 258, .pick _ _ _, _, _, _, none⟩) (v := ?_) rfl (Or.inl ⟨by rfl, ?_⟩) (by assumption) ?_; rotate_left
                                        · (intro w' hSw; go_simp) <;> (with_reducible rfl)
                                        (try simp only [Act.put, sqA, sqC, sqB]); refine gU 50 (oi := ⟨some 259, .move (.tmp 258), _, _, _, none⟩) (v := ?_) rfl (Or.inl ⟨by rfl, ?_⟩) (by assumption) ?_; rotate_left
                                        · (intro w' hSw; go_simp) <;> (with_reducible rfl)
                                        (try simp only [Act.put, sqA, sqC, sqB]); refine gU 51 (oi := ⟨some 260, .move (.tmp 25), _, _, _, some (50, false)⟩) (v := ?_) rfl (Or.inl ⟨by rfl, ?_⟩) (by assumption) ?_; rotate_left
                                        · (intro w' hSw; go_simp) <;> (with_reducible rfl)
                                        (try simp only [Act.put, sqA, sqC, sqB]); refine gU 52 (oi := ⟨some 261, .binOp _ _ _ _ _, _, _, _, some (50, false)⟩) (v := ?_) rfl (Or.inl ⟨by rfl, ?_⟩) (by assumption) ?_; rotate_left
                                        · (intro w' hSw; go_simp) <;> (with_reducible rfl)
                                        (try simp only [Act.put, sqA, sqC, sqB]); refine gU 53 (oi := ⟨some 262, .move (.tmp 261), _, _, _, some (50, false)⟩) (v := ?_) rfl (Or.inl ⟨by rfl, ?_⟩) (by assumption) ?_; rotate_left
                                        · (intro w' hSw; go_simp) <;> (with_reducible rfl)
                                        try simp only [Act.put, sqA, sqC, sqB]
                                        as_aux_lemma =>
                                          refine gU 54 (oi := ⟨some 263, .move (.tmp 12), _, _, _, some (53, true)⟩) (v := ?_) rfl (Or.inl ⟨by rfl, ?_⟩) (by assumption) ?_; rotate_left
                                          · (intro w' hSw; go_simp) <;> (with_reducible rfl)
                                          (try simp only [Act.put, sqA, sqC, sqB]); refine gU 56 (oi := ⟨some 265, .move (.tmp 12), _, _, _, some (53, true)⟩) (v := ?_) rfl (Or.inl ⟨by rfl, ?_⟩) (by assumption) ?_; rotate_left
                                          · (intro w' hSw; go_simp) <;> (with_reducible rfl)
                                          (try simp only [Act.put, sqA, sqC, sqB]); refine gR 55 rfl (fun K hK => ?_); go_simp; refine (er_MissesQ MR9.out.et rfl).mono ?_; rintro e wr10 ⟨rfl, kR⟩; have MR10 := Lib.hid (MR9.out.keep0 kR); clear kR; (try go_simp); refine hK.out _ _ (MR10.out) (fun hHeld => ?_); clear hK K; (try simp only [Act.put, sqA, sqC, sqB]); refine gR 57 rfl (fun K hK => ?_); go_simp; refine (er_TriesQ MR10.out.et rfl).mono ?_; rintro e wr11 ⟨rfl, kR⟩; have MR11 := Lib.hid (MR10.out.keep0 kR); clear kR; (try go_simp); refine hK.out _ _ (MR11.out) (fun hHeld => ?_); clear hK K; (try simp only [Act.put, sqA, sqC, sqB]); refine gU 58 (oi := ⟨some 267, .binOp _ _ _ _ _, _, _, _, some (53, true)⟩) (v := ?_) rfl (Or.inl ⟨by rfl, ?_⟩) (by assumption) ?_; rotate_left
                                          · (intro w' hSw; go_simp) <;> (with_reducible rfl)
                                          (try simp only [Act.put, sqA, sqC, sqB]); refine gU 59 (oi := ⟨some 268, .pick _ _ _, _, _, _, some (50, false)⟩) (v := ?_) rfl (Or.inl ⟨by rfl, ?_⟩) (by assumption) ?_; rotate_left
                                          · (intro w' hSw; go_simp) <;> (with_reducible rfl)
                                          (try simp only [Act.put, sqA, sqC, sqB]); refine gU 60 (oi := ⟨some 269, .pick _ _ _, _, _, _, none⟩) (v := ?_) rfl (Or.inl ⟨by rfl, ?_⟩) (by assumption) ?_; rotate_left
                                          · (intro w' hSw; go_simp) <;> (with_reducible rfl)
                                          (try simp only [Act.put, sqA, sqC, sqB]); refine wpAnyH_done (by kernel_rfl) ?_ _; refine NoPanic.normal ?_; (try go_wp2_with fail); go_meet; exact ⟨rfl, MR11⟩
                            · have a3 : (R.state == 1) = false := by simp [s1]
                              clear s3 s1
                              as_aux_lemma =>
                                refine wp_region_noPanic ?_; refine wp_region_held_drew (S := fun w' => Lw w w' b rp' vA' X' R (2048 * (i + 1)) [(b18, 39, E.res.cells), (b16, 54, sp.cells), (b11, 48, cf.cells), (b7, 44, [.int .i64 x, .int .i64 y, .int .i64 z]), (b6, 27, t.cells), (b5, 25, k.cells)]) (by kernel_rfl) ((Lib.hid (HR2.out.keep0 ((Keep.refl _ _).drew))).out) (fun hHeld => ?_); have HR2d := Lib.hid (HR2.out.keep0 ((Keep.refl _ _).drew)); refine gU 0 (oi := ⟨some 209, .move (.tmp 25), _, _, _, none⟩) (v := ?_) rfl (Or.inl ⟨by rfl, ?_⟩) (by assumption) ?_; rotate_left
                                · (intro w' hSw; go_simp) <;> (with_reducible rfl)
                                (try simp only [Act.put, sqA, sqC, sqB]); refine gU 1 (oi := ⟨some 210, .binOp _ _ _ _ _, _, _, _, none⟩) (v := ?_) rfl (Or.inl ⟨by rfl, ?_⟩) (by assumption) ?_; rotate_left
                                · (intro w' hSw; go_simp) <;> (with_reducible rfl)
                                (try simp only [Act.put, sqA, sqC, sqB]); refine gU 2 (oi := ⟨some 211, .move (.tmp 210), _, _, _, none⟩) (v := ?_) rfl (Or.inl ⟨by rfl, ?_⟩) (by assumption) ?_; rotate_left
                                · (intro w' hSw; go_simp) <;> (with_reducible rfl)
                                (try simp only [Act.put, sqA, sqC, sqB]); refine gU 3 (oi := ⟨some 212, .move (.tmp 12), _, _, _, some (2, true)⟩) (v := undef) rfl (Or.inr ⟨by rfl, rfl⟩) (by assumption) ?_; (try simp only [Act.put, sqA, sqC, sqB]); refine gU 4 (oi := ⟨some 213, _, _, _, _, some (2, true)⟩) (v := undef) rfl (Or.inr ⟨by rfl, rfl⟩) (by assumption) ?_; (try simp only [Act.put, sqA, sqC, sqB]); refine gU 5 (oi := ⟨some 214, _, _, _, _, some (2, true)⟩) (v := undef) rfl (Or.inr ⟨by rfl, rfl⟩) (by assumption) ?_; (try simp only [Act.put, sqA, sqC, sqB]); refine gU 6 (oi := ⟨some 215, .binOp _ _ _ _ _, _, _, _, some (2, true)⟩) (v := undef) rfl (Or.inr ⟨by rfl, rfl⟩) (by assumption) ?_; (try simp only [Act.put, sqA, sqC, sqB]); refine gU 7 (oi := ⟨some 216, .pick _ _ _, _, _, _, none⟩) (v := ?_) rfl (Or.inl ⟨by rfl, ?_⟩) (by assumption) ?_; rotate_left
                                · (intro w' hSw; go_simp) <;> (with_reducible rfl)
                                (try simp only [Act.put, sqA, sqC, sqB]); refine gU 8 (oi := ⟨some 217, .move (.tmp 216), _, _, _, none⟩) (v := ?_) rfl (Or.inl ⟨by rfl, ?_⟩) (by assumption) ?_; rotate_left
                                · (intro w' hSw; go_simp) <;> (with_reducible rfl)
                                try simp only [Act.put, sqA, sqC, sqB]
                                as_aux_lemma =>
                                  refine gU 9 (oi := ⟨some 218, .move (.tmp 25), _, _, _, some (8, false)⟩) (v := ?_) rfl (Or.inl ⟨by rfl, ?_⟩) (by assumption) ?_; rotate_left
                                  · (intro w' hSw; go_simp) <;> (with_reducible rfl)
                                  (try simp only [Act.put, sqA, sqC, sqB]); refine gU 10 (oi := ⟨some 219, .binOp _ _ _ _ _, _, _, _, some (8, false)⟩) (v := ?_) rfl (Or.inl ⟨by rfl, ?_⟩) (by assumption) ?_; rotate_left
                                  · (intro w' hSw; go_simp) <;> (with_reducible rfl)
                                  (try simp only [Act.put, sqA, sqC, sqB]); refine gU 11 (oi := ⟨some 220, .move (.tmp 219), _, _, _, some (8, false)⟩) (v := ?_) rfl (Or.inl ⟨by rfl, ?_⟩) (by assumption) ?_; rotate_left
                                  · (intro w' hSw; go_simp) <;> (with_reducible rfl)
                                  (try simp only [Act.put, sqA, sqC, sqB]); refine gU 12 (oi := ⟨some 221, .move (.tmp 12), _, _, _, some (11, true)⟩) (v := ?_) rfl (Or.inl ⟨by rfl, ?_⟩) (by assumption) ?_; rotate_left
                                  · (intro w' hSw; go_simp) <;> (with_reducible rfl)
                                  (try simp only [Act.put, sqA, sqC, sqB]); refine gU 14 (oi := ⟨some 223, _, _, _, _, some (11, true)⟩) rfl (yieldsIf_buildM (by rfl) 39 _ rfl ([]) (by simp [Act.eval]) (rs0.cells) HB0) (by assumption) ?_; (try simp only [Act.put, sqA, sqC, sqB]); refine gR 13 rfl (fun K hK => ?_); go_simp; refine (er_ResultQ HR2d.out.et HX.out).mono ?_; rintro e wr1 ⟨rfl, kR⟩; have MR1 := Lib.hid (HR2d.out.keep0 kR); clear kR; (try go_simp); refine hK.out _ _ (MR1.out) (fun hHeld => ?_); clear hK K; (try simp only [Act.put, sqA, sqC, sqB]); refine gU 15 (oi := ⟨some 224, .binOp _ _ _ _ _, _, _, _, some (11, true)⟩) (v := ?_) rfl (Or.inl ⟨by rfl, ?_⟩) (by assumption) ?_; rotate_left
                                  · (intro w' hSw; go_simp) <;> (with_reducible rfl)
                                  (try simp only [Act.put, sqA, sqC, sqB]); refine gU 16 (oi := ⟨some 225, .pick _ _ _, _, _, _, some (8, false)⟩) (v := ?_) rfl (Or.inl ⟨by rfl, ?_⟩) (by assumption) ?_; rotate_left
                                  · (intro w' hSw; go_simp) <;> (with_reducible rfl)
                                  (try simp only [Act.put, sqA, sqC, sqB]); refine gU 17 (oi := ⟨some 226, .pick _ _ _, _, _, _, none⟩) (v := ?_) rfl (Or.inl ⟨by rfl, ?_⟩) (by assumption) ?_; rotate_left
                                  · (intro w' hSw; go_simp) <;> (with_reducible rfl)
                                  try simp only [Act.put, sqA, sqC, sqB]
                                  as_aux_lemma =>
                                    refine gU 18 (oi := ⟨some 227, .move (.tmp 226), _, _, _, none⟩) (v := ?_) rfl (Or.inl ⟨by rfl, ?_⟩) (by assumption) ?_; rotate_left
                                    · (intro w' hSw; go_simp) <;> (with_reducible rfl)
                                    (try simp only [Act.put, sqA, sqC, sqB]); refine gU 19 (oi := ⟨some 228, .move (.tmp 12), _, _, _, some (18, false)⟩) (v := ?_) rfl (Or.inl ⟨by rfl, ?_⟩) (by assumption) ?_; rotate_left
                                    · (intro w' hSw; go_simp) <;> (with_reducible rfl)
                                    (try simp only [Act.put, sqA, sqC, sqB]); refine gU 21 (oi := ⟨some 230, .fieldAddr _ (.tmp 11) 5, _, _, _, some (18, false)⟩) (v := ?_) rfl (Or.inl ⟨by rfl, ?_⟩) (by assumption) ?_; rotate_left
                                    · (intro w' hSw; go_simp) <;> (with_reducible rfl)
                                    (try simp only [Act.put, sqA, sqC, sqB]); refine gU 22 (oi := ⟨some 231, .load _ (.tmp 230), _, _, _, some (18, false)⟩) (v := ?_) rfl (Or.inl ⟨by rfl, ?_⟩) (by assumption) ?_; rotate_left
                                    · (intro w' hSw; have y0 := hSw.me.get 1 rfl 0 rfl; have y1 := hSw.me.get 2 rfl 5 rfl; go_simp) <;> (with_reducible rfl)
                                    (try simp only [Act.put, sqA, sqC, sqB]); refine gU 23 (oi := ⟨some 232, .binOp _ _ _ _ _, _, _, _, some (18, false)⟩) (v := ?_) rfl (Or.inl ⟨by rfl, ?_⟩) (by assumption) ?_; rotate_left
                                    · (intro w' hSw; go_simp) <;> (with_reducible rfl)
                                    (try simp only [Act.put, sqA, sqC, sqB]); refine gR 20 rfl (fun K hK => ?_); go_simp; refine (er_TriesQ MR1.out.et rfl).mono ?_; rintro e wr2 ⟨rfl, kR⟩; have MR2 := Lib.hid (MR1.out.keep0 kR); clear kR; (try go_simp); refine hK.out _ _ (MR2.out) (fun hHeld => ?_); clear hK K; (try simp only [Act.put, sqA, sqC, sqB]); refine gU 24 (oi := ⟨some 233, .binOp _ _ _ _ _, _, _, _, some (18, false)⟩) (v := ?_) rfl (Or.inl ⟨by rfl, ?_⟩) (by assumption) ?_; rotate_left
                                    · (intro w' hSw; go_simp) <;> (with_reducible rfl)
                                    (try simp only [Act.put, sqA, sqC, sqB]); refine gU 25 (oi := ⟨some 234, .pick _ _ _, _, _, _, none⟩) (v := ?_) rfl (Or.inl ⟨by rfl, ?_⟩) (by assumption) ?_; rotate_left
                                    · (intro w' hSw; go_simp) <;> (with_reducible rfl)
                                    (try simp only [Act.put, sqA, sqC, sqB]); refine gU 26 (oi := ⟨some 235, .move (.tmp 234), _, _, _, none⟩) (v := ?_) rfl (Or.inl ⟨by rfl, ?_⟩) (by assumption) ?_; rotate_left
                                    · (intro w' hSw; go_simp) <;> (with_reducible rfl)
                                    try simp only [Act.put, sqA, sqC, sqB]
                                    as_aux_lemma =>
                                      refine gU 27 (oi := ⟨some 236, .move (.tmp 12), _, _, _, some (26, false)⟩) (v := ?_) rfl (Or.inl ⟨by rfl, ?_⟩) (by assumption) ?_; rotate_left
                                      · (intro w' hSw; go_simp) <;> (with_reducible rfl)
                                      (try simp only [Act.put, sqA, sqC, sqB]); refine gU 29 (oi := ⟨some 238, .move (.tmp 12), _, _, _, some (26, false)⟩) (v := ?_) rfl (Or.inl ⟨by rfl, ?_⟩) (by assumption) ?_; rotate_left
                                      · (intro w' hSw; go_simp) <;> (with_reducible rfl)
                                      (try simp only [Act.put, sqA, sqC, sqB]); refine gR 28 rfl (fun K hK => ?_); go_simp; refine (er_MissesQ MR2.out.et rfl).mono ?_; rintro e wr3 ⟨rfl, kR⟩; have MR3 := Lib.hid (MR2.out.keep0 kR); clear kR; (try go_simp); refine hK.out _ _ (MR3.out) (fun hHeld => ?_); clear hK K; (try simp only [Act.put, sqA, sqC, sqB]); refine gR 30 rfl (fun K hK => ?_); go_simp; refine (er_TriesQ MR3.out.et rfl).mono ?_; rintro e wr4 ⟨rfl, kR⟩; have MR4 := Lib.hid (MR3.out.keep0 kR); clear kR; (try go_simp); refine hK.out _ _ (MR4.out) (fun hHeld => ?_); clear hK K; (try simp only [Act.put, sqA, sqC, sqB]); refine gU 31 (oi := ⟨some 240, .binOp _ _ _ _ _, _, _, _, some (26, false)⟩) (v := ?_) rfl (Or.inl ⟨by rfl, ?_⟩) (by assumption) ?_; rotate_left
                                      · (intro w' hSw; go_simp) <;> (with_reducible rfl)
                                      (try simp only [Act.put, sqA, sqC, sqB]); refine gU 32 (oi := ⟨some 241, .pick _ _ _, _, _, _, none⟩) (v := ?_) rfl (Or.inl ⟨by rfl, ?_⟩) (by assumption) ?_; rotate_left
                                      · (intro w' hSw; go_simp) <;> (with_reducible rfl)
                                      (try simp only [Act.put, sqA, sqC, sqB]); refine gU 33 (oi := ⟨some 242, .move (.tmp 241), _, _, _, none⟩) (v := ?_) rfl (Or.inl ⟨by rfl, ?_⟩) (by assumption) ?_; rotate_left
                                      · (intro w' hSw; go_simp) <;> (with_reducible rfl)
                                      (try simp only [Act.put, sqA, sqC, sqB]); refine gU 34 (oi := ⟨some 243, .move (.tmp 12), _, _, _, some (33, false)⟩) (v := ?_) rfl (Or.inl ⟨by rfl, ?_⟩) (by assumption) ?_; rotate_left
                                      · (intro w' hSw; go_simp) <;> (with_reducible rfl)
                                      (try simp only [Act.put, sqA, sqC, sqB]); refine gU 36 (oi := ⟨some 245, .move (.tmp 12), _, _, _, some (33, false)⟩) (v := ?_) rfl (Or.inl ⟨by rfl, ?_⟩) (by assumption) ?_; rotate_left
                                      · (intro w' hSw; go_simp) <;> (with_reducible rfl)
                                      try simp only [Act.put, sqA, sqC, sqB]
                                      as_aux_lemma =>
                                        refine gR 35 rfl (fun K hK => ?_); go_simp; refine (er_SilentQ MR4.out.et rfl).mono ?_; rintro e wr5 ⟨rfl, kR⟩; have MR5 := Lib.hid (MR4.out.keep0 kR); clear kR; (try go_simp); refine hK.out _ _ (MR5.out) (fun hHeld => ?_); clear hK K; (try simp only [Act.put, sqA, sqC, sqB]); refine gR 37 rfl (fun K hK => ?_); go_simp; refine (er_MissesQ MR5.out.et rfl).mono ?_; rintro e wr6 ⟨rfl, kR⟩; have MR6 := Lib.hid (MR5.out.keep0 kR); clear kR; (try go_simp); refine hK.out _ _ (MR6.out) (fun hHeld => ?_); clear hK K; (try simp only [Act.put, sqA, sqC, sqB]); refine gU 38 (oi := ⟨some 247, .binOp _ _ _ _ _, _, _, _, some (33, false)⟩) (v := ?_) rfl (Or.inl ⟨by rfl, ?_⟩) (by assumption) ?_; rotate_left
                                        · (intro w' hSw; go_simp) <;> (with_reducible rfl)
                                        (try simp only [Act.put, sqA, sqC, sqB]); refine gU 39 (oi := ⟨some 248, .pick _ _ _, _, _, _, none⟩) (v := ?_) rfl (Or.inl ⟨by rfl, ?_⟩) (by assumption) ?_; rotate_left
                                        · (intro w' hSw; go_simp) <;> (with_reducible rfl)
                                        (try simp only [Act.put, sqA, sqC, sqB]); refine gU 40 (oi := ⟨some 249, .move (.tmp 248), _, _, _, none⟩) (v := ?_) rfl (Or.inl ⟨by rfl, ?_⟩) (by assumption) ?_; rotate_left
                                        · (intro w' hSw; go_simp) <;> (with_reducible rfl)
                                        (try simp only [Act.put, sqA, sqC, sqB]); refine gU 41 (oi := ⟨some 250, .move (.tmp 12), _, _, _, some (40, false)⟩) (v := ?_) rfl (Or.inl ⟨by rfl, ?_⟩) (by assumption) ?_; rotate_left
                                        · (intro w' hSw; go_simp) <;> (with_reducible rfl)
                                        (try simp only [Act.put, sqA, sqC, sqB]); refine gU 43 (oi := ⟨some 252, .move (.tmp 12), _, _, _, some (40, false)⟩) (v := ?_) rfl (Or.inl ⟨by rfl, ?_⟩) (by assumption) ?_; rotate_left
                                        · (intro w' hSw; go_simp) <;> (with_reducible rfl)
                                        (try simp only [Act.put, sqA, sqC, sqB]); refine gU 46 (oi := ⟨some 255, .move (.tmp 12), _, _, _, some (40, false)⟩) (v := ?_) rfl (Or.inl ⟨by rfl, ?_⟩) (by assumption) ?_; rotate_left
                                        · (intro w' hSw; go_simp) <;> (with_reducible rfl)
                                        (try simp only [Act.put, sqA, sqC, sqB]); refine gR 42 rfl (fun K hK => ?_); go_simp; refine (er_SilentQ MR6.out.et rfl).mono ?_; rintro e wr7 ⟨rfl, kR⟩; have MR7 := Lib.hid (MR6.out.keep0 kR); clear kR; (try go_simp); refine hK.out _ _ (MR7.out) (fun hHeld => ?_); clear hK K; (try simp only [Act.put, sqA, sqC, sqB]); refine gR 44 rfl (fun K hK => ?_); go_simp; refine (er_HeardQ MR7.out.et rfl).mono ?_; rintro e wr8 ⟨rfl, kR⟩; have MR8 := Lib.hid (MR7.out.keep0 kR); clear kR; (try go_simp); refine hK.out _ _ (MR8.out) (fun hHeld => ?_); clear hK K; (try simp only [Act.put, sqA, sqC, sqB]); refine gU 45 (oi := ⟨some 254, .binOp _ _ _ _ _, _, _, _, some (40, false)⟩) (v := ?_) rfl (Or.inl ⟨by rfl, ?_⟩) (by assumption) ?_; rotate_left
                                        · (intro w' hSw; go_simp) <;> (with_reducible rfl)
                                        (try simp only [Act.put, sqA, sqC, sqB]); refine gR 47 rfl (fun K hK => ?_); go_simp; refine (er_TriesQ MR8.out.et rfl).mono ?_; rintro e wr9 ⟨rfl, kR⟩; have MR9 := Lib.hid (MR8.out.keep0 kR); clear kR; (try go_simp); refine hK.out _ _ (MR9.out) (fun hHeld => ?_); clear hK K; (try simp only [Act.put, sqA, sqC, sqB]); refine gU 48 (oi := ⟨some 257, .binOp _ _ _ _ _, _, _, _, some (40, false)⟩) (v := ?_) rfl (Or.inl ⟨by rfl, ?_⟩) (by assumption) ?_; rotate_left
                                        · (intro w' hSw; go_simp) <;> (with_reducible rfl)
                                        (try simp only [Act.put, sqA, sqC, sqB]); refine gU 49 (oi := ⟨some 258, .pick _ _ _, _, _, _, none⟩) (v := ?_) rfl (Or.inl ⟨by rfl, ?_⟩) (by assumption) ?_; rotate_left
                                        · (intro w' hSw; go_simp) <;> (with_reducible rfl)
                                        (try simp only [Act.put, sqA, sqC, sqB]); refine gU 50 (oi := ⟨some 259, .move (.tmp 258), _, _, _, none⟩) (v := ?_) rfl (Or.inl ⟨by rfl, ?_⟩) (by assumption) ?_; rotate_left
                                        · (intro w' hSw; go_simp) <;> (with_reducible rfl)
                                        (try simp only [Act.put, sqA, sqC, sqB]); refine gU 51 (oi := ⟨some 260, .move (.tmp 25), _, _, _, some (50, false)⟩) (v := ?_) rfl (Or.inl ⟨by rfl, ?_⟩) (by assumption) ?_; rotate_left
                                        · (intro w' hSw; go_simp) <;> (with_reducible rfl)
                                        (try simp only [Act.put, sqA, sqC, sqB]); refine gU 52 (oi := ⟨some 261, .binOp _ _ _ _ _, _, _, _, some (50, false)⟩) (v := ?_) rfl (Or.inl ⟨by rfl, ?_⟩) (by assumption) ?_; rotate_left
                                        · (intro w' hSw; go_simp) <;> (with_reducible rfl)
                                        (try simp only [Act.put, sqA, sqC, sqB]); refine gU 53 (oi := ⟨some 262, .move (.tmp 261), _, _, _, some (50, false)⟩) (v := ?_) rfl (Or.inl ⟨by rfl, ?_⟩) (by assumption) ?_; rotate_left
                                        · (intro w' hSw; go_simp) <;> (with_reducible rfl)
                                        try simp only [Act.put, sqA, sqC, sqB]
                                        as_aux_lemma =>
                                          refine gU 54 (oi := ⟨some 263, .move (.tmp 12), _, _, _, some (53, true)⟩) (v := undef) rfl (Or.inr ⟨by rfl, rfl⟩) (by assumption) ?_; (try simp only [Act.put, sqA, sqC, sqB]); refine gU 55 (oi := ⟨some 264, _, _, _, _, some (53, true)⟩) (v := undef) rfl (Or.inr ⟨by rfl, rfl⟩) (by assumption) ?_; (try simp only [Act.put, sqA, sqC, sqB]); refine gU 56 (oi := ⟨some 265, .move (.tmp 12), _, _, _, some (53, true)⟩) (v := undef) rfl (Or.inr ⟨by rfl, rfl⟩) (by assumption) ?_; (try simp only [Act.put, sqA, sqC, sqB]); refine gU 57 (oi := ⟨some 266, _, _, _, _, some (53, true)⟩) (v := undef) rfl (Or.inr ⟨by rfl, rfl⟩) (by assumption) ?_; (try simp only [Act.put, sqA, sqC, sqB]); refine gU 58 (oi := ⟨some 267, .binOp _ _ _ _ _, _, _, _, some (53, true)⟩) (v := undef) rfl (Or.inr ⟨by rfl, rfl⟩) (by assumption) ?_; (try simp only [Act.put, sqA, sqC, sqB]); refine gU 59 (oi := ⟨some 268, .pick _ _ _, _, _, _, some (50, false)⟩) (v := ?_) rfl (Or.inl ⟨by rfl, ?_⟩) (by assumption) ?_; rotate_left
                                          · (intro w' hSw; go_simp) <;> (with_reducible rfl)
                                          (try simp only [Act.put, sqA, sqC, sqB]); refine gU 60 (oi := ⟨some 269, .pick _ _ _, _, _, _, none⟩) (v := ?_) rfl (Or.inl ⟨by rfl, ?_⟩) (by assumption) ?_; rotate_left
                                          · (intro w' hSw; go_simp) <;> (with_reducible rfl)
                                          (try simp only [Act.put, sqA, sqC, sqB]); refine wpAnyH_done (by kernel_rfl) ?_ _; refine NoPanic.normal ?_; (try go_wp2_with fail); go_meet; exact ⟨rfl, MR9⟩
                      case rest =>
                        obtain ⟨rfl, HR2⟩ := hcut; have HR3 := Lib.hid HR2.out.tail.tail; go_wp2_with fail
                        go_roundg (100 - (i + 1))
                        case measure => omega
                        case rel => exact ⟨i + 1, now', R, rp', vA', X', rfl, by go_num, by omega, rfl, HR3, TR2, GR2⟩
          · by_cases hl : i < Ls.length
            · have d1 : decide ((i : Int) < (Ls.length : Int)) = true := decide_eq_true (by omega); have d1' : decide (i < Ls.length) = true := decide_eq_true hl; have d2 : decide ((i : Int) < 100) = false := decide_eq_false (by omega); have d3 : decide (i < 100) = false := decide_eq_false (by omega); go_wp2_with fail; go_ret; exact ⟨rfl, HR.out.et.kp⟩
            · have d1 : decide ((i : Int) < (Ls.length : Int)) = false := decide_eq_false (by omega); have d1' : decide (i < Ls.length) = false := decide_eq_false hl; go_wp2_with fail; go_ret; exact ⟨rfl, HR.out.et.kp⟩
end Go.Proofs.YtlhnjkekjbbhcaaGreatDoor
