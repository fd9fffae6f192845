/- Parts of the proof of ErrandAsks, in order. No conditions but those that each theorem states. -/
import Derived.Test.YtlhnjkekjbbhcaaGreatDoorYErrandAsks0
import Derived.Lib.SlBytesConst
import Derived.Lib.LaidTab
import Derived.Lib.ItoaNum
import Derived.Lib.ItoaLen
import Derived.Sort.Grow
import Derived.DeepKeys4
import Derived.OpenShut
import Derived.Test.YtlhnjkekjbbhcaaGreatDoorYErrandAsks46
set_option linter.unusedSimpArgs false
set_option linter.unusedVariables false
namespace Go.Proofs.YtlhnjkekjbbhcaaGreatDoor
open Go.RowKit Go.Shelf
theorem Mem.up {w0 w6 w w' : World} {Q : List (Nat × TypeId × List Value)} {X : List Nat} (h6 : Mem w0 w6 Q) (h : Mem w0 w Q) (k : Keep X w w') (hX : ∀ x ∈ X, w6.heap.size ≤ x) : Mem w0 w' Q :=
  h.keep k (fun x hx => ⟨Nat.le_trans h6.kp.size (hX x hx), fun y hy hh => by have h1 := (h6.2.2 y hy).2.lt; have h2 := hX x hx; rw [hh] at h1; omega⟩)
theorem req_zeroM : ZeroIs Tryz.prog 73 reqZ := fun w => by simp [go_sem]; rfl
theorem req_sizeM (m t : List UInt8) (v : Value) (cl : Bool) : (Tryz.prog.info? 73).map (·.size) = some (reqC m t v cl).length := req_size
theorem asked_n {k : Ky} {host : List UInt8} {t : Tk} : getN (askF k host t) nHost = 1 ∧ getN (askF k host t) nCL = 0 ∧ getN (askF k host t) nTE = 0 ∧ getV (askF k host t) nHost = host ∧ getN (askF k host t) inmB = (if k.kind = 1 ∧ t.found = true then 1 else 0) := by
  unfold askF; by_cases hb : k.blob = true
  · rw [if_pos hb]; by_cases hf : k.kind = 1 ∧ t.found = true
    · rw [if_pos hf, if_pos hf]; refine ⟨?_, ?_, ?_, ?_, ?_⟩ <;> kernel_rfl
    · rw [if_neg hf, if_neg hf]; refine ⟨?_, ?_, ?_, ?_, ?_⟩ <;> kernel_rfl
  · rw [if_neg hb]; by_cases hf : k.kind = 1 ∧ t.found = true
    · rw [if_pos hf, if_pos hf]; refine ⟨?_, ?_, ?_, ?_, ?_⟩ <;> kernel_rfl
    · rw [if_neg hf, if_neg hf]; refine ⟨?_, ?_, ?_, ?_, ?_⟩ <;> kernel_rfl
theorem good_kind {k : Ky} (h : goodKyM k = true) : (k.kind = 1 ∧ k.blob = false) ∨ k.kind = 2 ∨ k.kind = 3 := by
  unfold goodKyM at h; rw [Bool.and_eq_true] at h; have h2 := h.2
  split at h2
  · rename_i h1; simp only [Bool.and_eq_true, Bool.not_eq_true'] at h2; exact .inl ⟨h1, h2.2.2⟩
  · simp only [Bool.and_eq_true, decide_eq_true_eq] at h2; rcases h2.1 with hh | hh
    · exact .inr (.inl hh)
    · exact .inr (.inr hh)
theorem route_kind (k : Ky) : (routeM k).kind ≠ 1 := by
  unfold routeM; dsimp only
  split
  · decide
  · split <;> decide
set_option maxRecDepth 100000 in
set_option maxHeartbeats 16000000 in
theorem errandAsks_walk (k : Ky) (t : Tk) (host : List UInt8) (w : World) (hm : ML w) (hk : goodKyIn k) (ht : goodTkIn t) (hh : host.length ≤ 140737488351232) :
    Calls Tryz.prog 6 #[.agg k.cells.toArray, .agg t.cells.toArray, .string (S host)] w fun e w' => e = .returned (.bool true) ∧ Keep [] w w' := by
  have M0 := Lib.hid (Mem.nil w); have HAw := Lib.hid (fun w' (kk : Keep [] w w') => errand_awake w' (hm.keep kk (by simp))); have HGr := Lib.hid (fun w' => law24_great k t ans0 nilS w' (anZ_ok w') hk.2.1 hk.2.2 ht.2.2.1); have HBA := Lib.hid bd_an0; have HM := Lib.hid hm; have HKI := Lib.hid hk; have hsz : (S host).size = host.length := S_size _; have hh' : host.length ≤ 9223372036854775807 := by omega
  have hbig := hm.lt; have HBG := Lib.hid hbig; clear hm hk ht hh hbig; go_enter Tryz.func6, Tryz.ntmps6
  go_wp2_with (first | ((with_reducible refine gX 3 ?_); refine wpList_boxM rfl 25 (.tmp 0) rfl (k.cells) (by rfl) M0 ?_; intro b3 w1 M1 _ _; try simp only [Act.put, sqA, sqB, sqC]) | ((with_reducible refine gX 4 ?_); refine wpList_boxM rfl 27 (.tmp 1) rfl (t.cells) (by rfl) M1 ?_; intro b4 w2 M2 _ _; try simp only [Act.put, sqA, sqB, sqC]) | fail); refine (HAw.out _ M2.out.kp).mono ?_; rintro e w4 ⟨rfl, k4⟩; have M4 := Lib.hid (M2.out.keep0 k4); clear k4 HAw
  go_wp2_with (first | ((with_reducible refine gL 21 3 ?_); refine wpList_loadM (by rfl) 25 (.tmp 3) rfl M4 1 rfl (by rfl) _ Tryz.underlying25 rfl (ky_size k) ?_; try simp only [Act.put, sqA, sqB, sqC]) | ((with_reducible refine gL 22 4 ?_); refine wpList_loadM (by rfl) 27 (.tmp 4) rfl M4 0 rfl (by rfl) _ Tryz.underlying27 rfl (tk_size t) ?_; try simp only [Act.put, sqA, sqB, sqC]) | ((with_reducible refine gB 23 ?_); refine wpList_buildM (by rfl) 30 _ rfl ([]) (by simp [Act.eval]) (ansZ) HBA ?_; try simp only [Act.put, sqA, sqB, sqC]) | fail); refine (HGr.out _).mono ?_; rintro e w5 ⟨v, rfl, hv, k5⟩; have M5 := Lib.hid (M4.out.keep0 k5); have HSm := Lib.hid hv; clear k5 HGr hv
  cases v with
  | true =>
    go_wp2_with fail; go_ret; exact ⟨rfl, M5.out.kp⟩
  | false =>
    have hsm := HSm.out rfl; have hok : okKy k := ⟨by have := hsm.1; omega, by have := hsm.1; omega, HKI.out.1⟩
    have hkl : k.repo.length + k.tag.length ≤ 1000 := by have := hsm.1; omega
    by_cases hbg : 500 < host.length
    · have d1 : decide ((500 : Int) < (host.length : Int)) = true := decide_eq_true (by omega); have d2 : decide (500 < host.length) = true := decide_eq_true hbg; clear hsm hok hkl; go_wp2_with fail; go_ret; exact ⟨rfl, M5.out.kp⟩
    have d1 : decide ((500 : Int) < (host.length : Int)) = false := decide_eq_false (by omega); have d2 : decide (500 < host.length) = false := decide_eq_false hbg; have HA1 := Lib.hid (fun w' (kk : Keep [] w w') => errand_Asked k host t w' (HM.out.keep kk (by simp)) hok (by omega)); unfold askedO at HA1; have HL := Lib.hid hkl; clear hsm HSm hok hkl
    go_wp2_with (first | ((with_reducible refine gL 31 3 ?_); refine wpList_loadM (by rfl) 25 (.tmp 3) rfl M5 1 rfl (by rfl) _ Tryz.underlying25 rfl (ky_size k) ?_; try simp only [Act.put, sqA, sqB, sqC]) | ((with_reducible refine gL 33 4 ?_); refine wpList_loadM (by rfl) 27 (.tmp 4) rfl M5 0 rfl (by rfl) _ Tryz.underlying27 rfl (tk_size t) ?_; try simp only [Act.put, sqA, sqB, sqC]) | fail); by_cases hE : askedE k host t = 0
    case neg =>
      have h1 : askedE k host t = 1 := by unfold askedE at hE ⊢; split at hE; exact absurd rfl hE; rename_i hn; rw [if_neg hn]
      have h2 : askedS k host t = [] := by unfold askedS; rw [if_neg hE]
      rw [h1, h2] at HA1; have hem : (S []).toList.isEmpty = true := by rw [S_toList]; rfl
      clear hE h1 h2; refine (HA1.out _ M5.out.kp).mono ?_; rintro e w6 ⟨rfl, k6⟩; have M6 := Lib.hid (M5.out.keep0 k6); clear k6; go_wp2_with fail; go_ret; exact ⟨rfl, M6.out.kp⟩
    have hgE : goodKyM k = true ∧ askE (methB k) (rtText (routeM k)) (askF k host t) = 0 := by
      unfold askedE at hE
      split at hE
      · rename_i h; exact h
      · omega
    obtain ⟨hg, hae⟩ := hgE; have hS := (asked_yes hg hae).2; rw [hE, hS] at HA1; obtain ⟨n1, n2, n3, n4, n5⟩ := asked_n (k := k) (host := host) (t := t); have hnx := ask_next hae n1 n2 n3; have hlen := (askE_read [] hae).2.1; have hrt := route_good hg; have hrl := rtText_len (routeM k); have hkd := good_kind hg; have hgn := askF_small (k := k) (t := t) (host := host) (by omega); obtain ⟨s, hs⟩ : ∃ s, askS (methB k) (rtText (routeM k)) (askF k host t) = s := ⟨_, rfl⟩
    rw [hs] at HA1 hnx hlen; have HPa := Lib.hid (fun w' => place_ParseOk (routeM k) hrt (route_kind k) (by have := HL.out; have e1 : (routeM k).repo = k.repo := rfl; have e2 : (routeM k).tag = k.tag := rfl; rw [e1, e2] at hrl; omega) w')
    have hadd : inAdd in0 s = ({ in0 with inp := s }, 0) := by
      unfold inAdd; rw [if_neg (by decide), if_neg (by show ¬ ((16384 : Int) - ((0 : Nat) : Int) < (s.length : Int)); omega)]; rfl
    have hok1 := inAdd_ok in0_ok s; rw [hadd] at hok1; have HH := Lib.hid (And.intro hadd (And.intro hnx hok1)); have HLn := Lib.hid hlen; have HN := Lib.hid (And.intro n1 (And.intro n4 n5)); have HGN := Lib.hid hgn; have HKD := Lib.hid hkd; have tl := routeM k; clear tl hE hg hae hS n1 n2 n3 n4 n5 hnx hlen hrt hrl hkd hgn hs hadd hok1; obtain ⟨tx, htx⟩ : ∃ z, rtText (routeM k) = z := ⟨_, rfl⟩
    rw [htx] at HPa HH; obtain ⟨KF, hKF⟩ : ∃ z, askF k host t = z := ⟨_, rfl⟩
    rw [hKF] at HH HN HGN; clear htx hKF; refine (HA1.out _ M5.out.kp).mono ?_; rintro e w6 ⟨rfl, k6⟩; have M6 := Lib.hid (M5.out.keep0 k6); have HNw := Lib.hid (inlet_New w6.heap.size w6 (Nat.le_refl _)); clear k6 HA1; go_wp2_with fail; refine HNw.out.mono ?_; rintro e w7 ⟨pp, rfl, hp, hx, k7⟩; have M7 := Lib.hid (M6.out.keep0 k7); have B7 := Lib.hid (show w6.heap.size ≤ w7.heap.size from k7.size); have HA := Lib.hid (inlet_Add s hx (by decide) (by have := HLn.out; omega)); rw [HH.out.1] at HA; clear hx k7 HNw; go_wp2_with fail; refine HA.out.mono ?_; rintro e w8 ⟨rfl, hx, k8⟩; have M8 := Lib.hid (M6.out.up M7.out k8 (by intro y hy; have h9 : y = pp := (by simpa using hy); omega)); have B8 := Lib.hid (show w6.heap.size ≤ w8.heap.size from Nat.le_trans B7.out k8.size); have HB4 := Lib.hid (show 1 < w6.heap.size by have := M6.out.kp.size; have := HBG.out; omega); have HX := Lib.hid (inlet_Next hx (HM.out.keep M8.out.kp (by simp)) B8.out HB4.out HH.out.2.2); rw [HH.out.2.1] at HX; unfold NextOut at HX; dsimp only at HX; have P8 := Lib.hid hx; clear hx k8 HA M7 B7; go_wp2_with fail; refine HX.out.mono ?_; rintro e w9 ⟨v5, X5, R5, rfl, hx, k9, n9, r9, ho, hgo⟩; obtain ⟨sb, sd, rfl, _⟩ := ho.shape; have M9 : Hid (MemK w9 [] w w9 [(b4, 27, t.cells), (b3, 25, k.cells)]) := Lib.hid (MemK.of (M6.out.up M8.out k9 (fun y hh => (P8.out.lo y hh).1)) []); have I9 := Lib.hid hx; have O9 := Lib.hid ho; clear hx k9 n9 r9 ho hgo HX P8 M8 B8; obtain ⟨mb, hmb⟩ : ∃ z, methB k = z := ⟨_, rfl⟩
    have HMB := Lib.hid hmb; rw [hmb]; clear hmb
    go_wp2_with (first | ((with_reducible refine gA 10 ?_); refine wpList_allocK rfl 73 rfl (reqZ) (Lib.hid req_zeroM) M9 ?_; intro b10 wA MA hnewb10; try simp only [Act.put, sqA, sqB, sqC]) | ((with_reducible refine gS 10 48 ?_); refine wpList_storeK rfl 73 (.tmp 10) (.tmp 48) rfl MA 0 rfl (by rfl) (reqC mb tx (.slice sb KF.length sd) (closesM KF 1)) (by rfl) (req_sizeM _ _ _ _) rfl (reqC_one _ _ _ rfl) (fun hlt => absurd hnewb10.out (by omega)) ?_; intro wB MB; have r0 := MB.out.get 0 rfl 0 rfl; have r1 := MB.out.get 0 rfl 1 rfl; have r2 := MB.out.get 0 rfl 2 rfl; try simp only [Act.put, sqA, sqB, sqC]) | fail); refine (HPa.out _).mono ?_; rintro e wC ⟨rfl, kC⟩; have MC := Lib.hid (MB.out.keep0 kC); clear kC
    go_wp2_with (first | ((with_reducible refine gA 12 ?_); refine wpList_allocK rfl 77 rfl (rt0.cells) (Lib.hid rt_zero) MC ?_; intro b12 wD MD hnewb12; try simp only [Act.put, sqA, sqB, sqC]) | ((with_reducible refine gS 12 54 ?_); refine wpList_storeK rfl 77 (.tmp 12) (.tmp 54) rfl MD 0 rfl (by rfl) ((routeM k).cells) (by rfl) (rt_size _) (by rw [Rt.len, Rt.len]) (Rt.one _) (fun hlt => absurd hnewb12.out (by have := MC.out.2.size; omega)) ?_; intro wE ME; have r2 := ME.out.get 1 rfl 2 rfl; try simp only [Act.put, sqA, sqB, sqC]) | fail); have ho := (O9.out.keep0 ME.out.2).sl Fld.cells_length; have HG1 := Lib.hid (field_Get _ KF nHost wE ho (by intro y hy; have := HGN.out y hy; unfold maxLen; omega) (by decide)); unfold GetOut at HG1; rw [HN.out.1, HN.out.2.1] at HG1; clear ho; have hnh : S nHost = (⟨#[72, 111, 115, 116]⟩ : ByteArray) := rfl; rw [hnh] at HG1; go_wp2_with fail; refine HG1.out.mono ?_; rintro e wF ⟨rfl, kF⟩; have MF := Lib.hid (ME.out.keep0 kF); clear kF HG1 hnh; have r2 := MF.out.get 1 rfl 2 rfl; have ho := (O9.out.keep0 MF.out.2).sl Fld.cells_length; have HG2 := Lib.hid (field_Get _ KF inmB wF ho (by intro y hy; have := HGN.out y hy; unfold maxLen; omega) (by decide)); unfold GetOut at HG2; obtain ⟨cn, hcn⟩ : ∃ z, getN KF inmB = z := ⟨_, rfl⟩
    rw [hcn] at HG2; have HCN := Lib.hid (hcn.symm.trans HN.out.2.2); clear ho hcn; have hnh : S inmB = (⟨#[73, 102, 45, 78, 111, 110, 101, 45, 77, 97, 116, 99, 104]⟩ : ByteArray) := rfl; rw [hnh] at HG2; obtain ⟨iv, hiv⟩ : ∃ z, getV KF inmB = z := ⟨_, rfl⟩
    rw [hiv] at HG2; clear hiv hnh; go_wp2_with fail; refine HG2.out.mono ?_; rintro e wG ⟨rfl, kG⟩; have MG := Lib.hid (MF.out.keep0 kG); clear kG HG2; have hlf := inlet_Left (I9.out.keep0 MG.out.2) (by decide); rw [show ((in0.left : Nat) : Int) = 0 from rfl] at hlf; have HLf := Lib.hid hlf; clear hlf; have q1 : wG.cell? ⟨b12, 1, Option.none⟩ = some (.string (S k.repo)) := MG.out.get 0 rfl 1 rfl; have q2 : wG.cell? ⟨b12, 2, Option.none⟩ = some (.string (S k.tag)) := MG.out.get 0 rfl 2 rfl; have y1 := MG.out.get 3 rfl 1 rfl; have y2 := MG.out.get 3 rfl 2 rfl; have th := S_toList host; have tr := S_toList k.repo; have tt := S_toList k.tag; go_wp2_with fail; refine HLf.out.mono ?_; rintro e wH ⟨rfl, kH⟩; have MH := Lib.hid (MG.out.keep0 kH); clear kH HLf q1 q2 y1 y2; have r0 := MH.out.get 1 rfl 0 rfl; have y0 := MH.out.get 3 rfl 0 rfl; have y4 := MH.out.get 3 rfl 35 k.at_blob; have z2 := MH.out.get 2 rfl 2 (tk_found t); have heq := fun w' => eqDg k.dig k.dig w'
    rw [decide_eq_true rfl] at heq; rcases HKD.out with ⟨hk1, hkb⟩ | hk1 | hk1
    · as_aux_lemma =>
        cases hf : t.found with
        | true =>
          have hmb : mb = methHead := by rw [← HMB.out]; unfold methB; rw [if_neg (by omega)]
          subst hmb; replace r0 : wH.cell? ⟨b10, 0, Option.none⟩ = some (.string ⟨#[72, 69, 65, 68]⟩) := r0; have hrk : (routeM k).kind = 2 := by unfold routeM; dsimp only; rw [if_pos hk1]
          have q0 : wH.cell? ⟨b12, 0, Option.none⟩ = some (.int .i64 2) := by rw [← hrk]; exact MH.out.get 0 rfl 0 rfl
          have hcn : cn = 1 := by rw [HCN.out, if_pos ⟨hk1, hf⟩]
          subst hcn; rw [hk1] at y0; rw [hf] at z2; rw [hkb] at y4; clear hrk hk1 hf hkb
          go_wp2_with (first | fail); go_ret; exact ⟨rfl, MH.out.1.kp⟩
        | false =>
          have hmb : mb = methHead := by rw [← HMB.out]; unfold methB; rw [if_neg (by omega)]
          subst hmb; replace r0 : wH.cell? ⟨b10, 0, Option.none⟩ = some (.string ⟨#[72, 69, 65, 68]⟩) := r0; have hrk : (routeM k).kind = 2 := by unfold routeM; dsimp only; rw [if_pos hk1]
          have q0 : wH.cell? ⟨b12, 0, Option.none⟩ = some (.int .i64 2) := by rw [← hrk]; exact MH.out.get 0 rfl 0 rfl
          have hcn : cn = 0 := by rw [HCN.out, if_neg (fun hh => by rw [hf] at hh; exact absurd hh.2 (by decide))]
          subst hcn; rw [hk1] at y0; rw [hf] at z2; rw [hkb] at y4; clear hrk hk1 hf hkb
          go_wp2_with (first | fail); go_ret; exact ⟨rfl, MH.out.1.kp⟩
    · as_aux_lemma =>
        cases hb : k.blob with
        | true =>
          have hmb : mb = methGet := by rw [← HMB.out]; unfold methB; rw [if_pos hk1]
          subst hmb; replace r0 : wH.cell? ⟨b10, 0, Option.none⟩ = some (.string ⟨#[71, 69, 84]⟩) := r0; have hrk : (routeM k).kind = 4 := by unfold routeM; dsimp only; rw [if_neg (by omega), if_pos hb]
          have q0 : wH.cell? ⟨b12, 0, Option.none⟩ = some (.int .i64 4) := by rw [← hrk]; exact MH.out.get 0 rfl 0 rfl
          have hcn : cn = 0 := by rw [HCN.out, if_neg (fun hh => by have := hh.1; omega)]
          subst hcn; rw [hk1] at y0; rw [hb] at y4; clear hrk hk1 hb
          go_wp2_with (first | ((with_reducible refine gL 117 116 ?_); refine wpList_loadPartK (by rfl) 23 (.tmp 116) rfl MH 0 rfl 3 (by rfl) (digC k.dig) (fun j v hv => (routeM k).at_dig j v hv) _ Tryz.underlying23 rfl (dig_size _) ?_; try simp only [Act.put, sqA, sqB, sqC]) | ((with_reducible refine gL 119 118 ?_); refine wpList_loadPartK (by rfl) 23 (.tmp 118) rfl MH 3 rfl 3 (by rfl) (digC k.dig) (fun j v hv => k.at_dig j v hv) _ Tryz.underlying23 rfl (dig_size _) ?_; try simp only [Act.put, sqA, sqB, sqC]) | fail); go_ret; exact ⟨rfl, MH.out.1.kp⟩
        | false =>
          have hmb : mb = methGet := by rw [← HMB.out]; unfold methB; rw [if_pos hk1]
          subst hmb; replace r0 : wH.cell? ⟨b10, 0, Option.none⟩ = some (.string ⟨#[71, 69, 84]⟩) := r0; have hrk : (routeM k).kind = 3 := by unfold routeM; dsimp only; rw [if_neg (by omega), if_neg (by rw [hb]; decide)]
          have q0 : wH.cell? ⟨b12, 0, Option.none⟩ = some (.int .i64 3) := by rw [← hrk]; exact MH.out.get 0 rfl 0 rfl
          have hcn : cn = 0 := by rw [HCN.out, if_neg (fun hh => by have := hh.1; omega)]
          subst hcn; rw [hk1] at y0; rw [hb] at y4; clear hrk hk1 hb
          go_wp2_with (first | ((with_reducible refine gL 117 116 ?_); refine wpList_loadPartK (by rfl) 23 (.tmp 116) rfl MH 0 rfl 3 (by rfl) (digC k.dig) (fun j v hv => (routeM k).at_dig j v hv) _ Tryz.underlying23 rfl (dig_size _) ?_; try simp only [Act.put, sqA, sqB, sqC]) | ((with_reducible refine gL 119 118 ?_); refine wpList_loadPartK (by rfl) 23 (.tmp 118) rfl MH 3 rfl 3 (by rfl) (digC k.dig) (fun j v hv => k.at_dig j v hv) _ Tryz.underlying23 rfl (dig_size _) ?_; try simp only [Act.put, sqA, sqB, sqC]) | fail); go_ret; exact ⟨rfl, MH.out.1.kp⟩
    · as_aux_lemma =>
        cases hb : k.blob with
        | true =>
          have hmb : mb = methHead := by rw [← HMB.out]; unfold methB; rw [if_neg (by omega)]
          subst hmb; replace r0 : wH.cell? ⟨b10, 0, Option.none⟩ = some (.string ⟨#[72, 69, 65, 68]⟩) := r0; have hrk : (routeM k).kind = 4 := by unfold routeM; dsimp only; rw [if_neg (by omega), if_pos hb]
          have q0 : wH.cell? ⟨b12, 0, Option.none⟩ = some (.int .i64 4) := by rw [← hrk]; exact MH.out.get 0 rfl 0 rfl
          have hcn : cn = 0 := by rw [HCN.out, if_neg (fun hh => by have := hh.1; omega)]
          subst hcn; rw [hk1] at y0; rw [hb] at y4; clear hrk hk1 hb
          go_wp2_with (first | ((with_reducible refine gL 117 116 ?_); refine wpList_loadPartK (by rfl) 23 (.tmp 116) rfl MH 0 rfl 3 (by rfl) (digC k.dig) (fun j v hv => (routeM k).at_dig j v hv) _ Tryz.underlying23 rfl (dig_size _) ?_; try simp only [Act.put, sqA, sqB, sqC]) | ((with_reducible refine gL 119 118 ?_); refine wpList_loadPartK (by rfl) 23 (.tmp 118) rfl MH 3 rfl 3 (by rfl) (digC k.dig) (fun j v hv => k.at_dig j v hv) _ Tryz.underlying23 rfl (dig_size _) ?_; try simp only [Act.put, sqA, sqB, sqC]) | fail); go_ret; exact ⟨rfl, MH.out.1.kp⟩
        | false =>
          have hmb : mb = methHead := by rw [← HMB.out]; unfold methB; rw [if_neg (by omega)]
          subst hmb; replace r0 : wH.cell? ⟨b10, 0, Option.none⟩ = some (.string ⟨#[72, 69, 65, 68]⟩) := r0; have hrk : (routeM k).kind = 3 := by unfold routeM; dsimp only; rw [if_neg (by omega), if_neg (by rw [hb]; decide)]
          have q0 : wH.cell? ⟨b12, 0, Option.none⟩ = some (.int .i64 3) := by rw [← hrk]; exact MH.out.get 0 rfl 0 rfl
          have hcn : cn = 0 := by rw [HCN.out, if_neg (fun hh => by have := hh.1; omega)]
          subst hcn; rw [hk1] at y0; rw [hb] at y4; clear hrk hk1 hb
          go_wp2_with (first | ((with_reducible refine gL 117 116 ?_); refine wpList_loadPartK (by rfl) 23 (.tmp 116) rfl MH 0 rfl 3 (by rfl) (digC k.dig) (fun j v hv => (routeM k).at_dig j v hv) _ Tryz.underlying23 rfl (dig_size _) ?_; try simp only [Act.put, sqA, sqB, sqC]) | ((with_reducible refine gL 119 118 ?_); refine wpList_loadPartK (by rfl) 23 (.tmp 118) rfl MH 3 rfl 3 (by rfl) (digC k.dig) (fun j v hv => k.at_dig j v hv) _ Tryz.underlying23 rfl (dig_size _) ?_; try simp only [Act.put, sqA, sqB, sqC]) | fail); go_ret; exact ⟨rfl, MH.out.1.kp⟩
end Go.Proofs.YtlhnjkekjbbhcaaGreatDoor
