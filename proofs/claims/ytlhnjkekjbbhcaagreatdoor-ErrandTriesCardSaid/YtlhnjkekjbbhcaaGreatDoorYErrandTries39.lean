/- Parts of the proof of ErrandTries, in order. No conditions but those that each theorem states. -/
import Derived.Test.YtlhnjkekjbbhcaaGreatDoorYErrandTries0
import Derived.Lib.SlBytesConst
import Derived.Lib.LaidTab
import Derived.Lib.ItoaNum
import Derived.Lib.ItoaLen
import Derived.Sort.Grow
import Derived.DeepKeys4
import Derived.Deep.MidRow
import Derived.Test.YtlhnjkekjbbhcaaGreatDoorYErrandTries38
set_option linter.unusedSimpArgs false
set_option linter.unusedVariables false
namespace Go.Proofs.YtlhnjkekjbbhcaaGreatDoor
open Go.RowKit Go.Shelf
section
variable {w0 w w' : World} {b n : Nat} {rp va : Value} {X X' L : List Nat} {E E' : ErS}
theorem Et.mono {n' : Nat} (h : Et w0 w b rp va X E n L) (hn : n ≤ n') : Et w0 w b rp va X E n' L := by
  refine ⟨h.blk, ?_, h.hd, h.sm, h.kp, h.lo, h.ne, h.ap⟩; have hr := h.rep
  cases hP : E.rep with
  | none => rw [hP] at hr; exact hr
  | some P =>
    obtain ⟨p, hp, hR⟩ := h.reply hP; exact ⟨p, hp, hR.re, ok_mono hR.ok hn, hR.kp, hR.ap⟩
theorem reAdd_ans {P : ReS} (h : P.ans = none) (s : List UInt8) : (reAdd P s).1.ans = none := by
  unfold reAdd
  split
  · exact h
  · split
    · exact h
    · exact h
theorem Et.okR (h : Et w0 w b rp va X E n L) : E.okR n := fun P hP => by
  obtain ⟨p, hp, hR⟩ := h.reply hP; exact hR.ok
set_option maxRecDepth 100000 in
set_option maxHeartbeats 8000000 in
theorem er_Hear {c : Nat} {R : ErS} (h : Et w0 w b rp va X E n L) (hm : ML w0) (s : List UInt8) (cut : Bool) (now : Int) (hnow : 0 ≤ now ∧ now ≤ 1152921504606846976) (hn : n + 2 * s.length ≤ 400000) (hE : erHear E s cut now = some R) (hc : E.cnt c) (hcN : c + 5 * (s.length + 1) + 5 ≤ 1000000) (ht : E.told) :
    Calls Tryz.prog 23 #[.pointer (some ⟨b, 0, Option.none⟩), .string (S s), .bool cut, .int .i64 now] w fun e w' => e = .returned (.tuple #[]) ∧ EtFin w0 w b rp X R (n + 2 * s.length) L w' := by
  have HS := er_State h; by_cases h2 : E.state = 2
  rotate_left
  · have HR := Lib.hid (hear_no h2 hE); have H := Lib.hid (h.mono (n' := n + 2 * s.length) (by omega)); have e1 := (int_ne h2).2; generalize E.state = st at *; clear h hm hE hc ht h2 hnow; go_enter Tryz.func23, Tryz.ntmps23; go_wp2_with (first | (go_at_call 18; refine HS.mono ?_; rintro e w' ⟨rfl, rfl⟩) | fail)
    first | go_end0 | refine bodyPost_ret (results_none rfl _ _ _) rfl ?_
    rw [← HR.out]; exact ⟨rfl, EtFin.same H.out⟩
  obtain ⟨F, t, G, hL, hS, rfl⟩ := hear_yes h2 hE; rw [h2] at HS; have HL := Lib.hid hL; have HSh := Lib.hid hS; have H := Lib.hid h; have HML := Lib.hid hm; have HC := Lib.hid hc; have HT := Lib.hid ht; have HN := Lib.hid hn; have HCN := Lib.hid hcN; have Hnow := Lib.hid hnow; have M0 : Hid (MemK w [b] w0 w [(b, 106, E.cells rp va)]) := Lib.hid (MemK.of h.mem.1 [b]); have hstate := h2; clear h hm hE hc ht hL hS h2 hnow hn hcN; have HST := Lib.hid hstate; clear hstate; go_enter Tryz.func23, Tryz.ntmps23
  go_upto_region 1 with (first | (go_at_call 18; refine HS.mono ?_; rintro e w' ⟨rfl, rfl⟩) | fail)
  go_upto_if 17 with fail
  go_cut [] (fun wx => Hid (MemK w [b] w0 wx [(b, 106, (erHeard E s now).cells rp va)]))
  case first =>
    by_cases hs0 : s = []
    · have te : (S s).toList.isEmpty = true := by rw [S_toList, hs0]; rfl
      have hE0 : erHeard E s now = E := by unfold erHeard; rw [if_pos hs0]
      have HE0 := Lib.hid hE0; clear hE0 hs0; simp only [te, Bool.not_true]; go_wp2_with fail; go_meet; rw [HE0.out]; exact M0
    · have te : (S s).toList.isEmpty = false := by rw [S_toList]; simpa [List.isEmpty_iff] using hs0
      have hE0 : erHeard E s now = { E with last := now } := by unfold erHeard; rw [if_neg hs0]
      have HE0 := Lib.hid hE0; clear hE0 hs0; simp only [te, Bool.not_false]
      go_wp2_with (first | ((with_reducible refine gT 22 ?_); refine wpList_store1K rfl 3 (.tmp 22) _ rfl M0 0 rfl 2 (by rfl) (.int .i64 now) (by rfl) rfl rfl (by kernel_rfl) (by rw [ErS.len]; omega) (fun _ => by simp) ?_; intro w1 M1; have hR := M1.out; simp only [sqC, s_last] at hR; clear M1; have M1 := Lib.hid hR; clear hR; try simp only [Act.put]) | fail); go_meet; rw [HE0.out]; exact M1
  have M1 := hcut; clear hcut M0; have H1 : Hid (Et w0 wc b rp va X (erHeard E s now) n L) := Lib.hid (H.out.own M1.out.2 (M1.out.1.blk 0 rfl) rfl rfl); have C1 : Hid ((erHeard E s now).cnt c) := Lib.hid HC.out; have T1 : Hid (erHeard E s now).told := Lib.hid HT.out; have K1 : Hid (Keep (b :: X) w wc) := Lib.hid (M1.out.2.mono (by simp)); clear M1 H HC HT
  go_upto_block 0 with fail
  go_cut [1] (fun sv wx => sv = .string (S t) ∧ ∃ va1 X1, Hid (Et w0 wx b rp va1 X1 F (n + 2 * s.length) L) ∧ Hid (Keep (b :: X) w wx) ∧ Hid (∀ x ∈ X1, x ∈ X ∨ w.heap.size ≤ x) ∧ Hid (F.cnt (c + 5 * (s.length + 1))) ∧ Hid F.told)
  case first =>
    go_wp2_with fail
    go_loopg [1] (s.length + 1) (fun g sv wr => ∃ (E1 : ErS) (va1 : Value) (X1 : List Nat) (s1 : List UInt8) (n1 c1 : Nat), sv = .string (S s1) ∧ Hid (Et w0 wr b rp va1 X1 E1 n1 L) ∧ Hid (Keep (b :: X) w wr) ∧ Hid (∀ x ∈ X1, x ∈ X ∨ w.heap.size ≤ x) ∧ Hid (erHearL g E1 s1 now = some (F, t)) ∧ Hid (E1.cnt c1) ∧ Hid (c1 + 5 * g ≤ c + 5 * (s.length + 1)) ∧ Hid E1.told ∧ Hid (n1 + 2 * s1.length ≤ n + 2 * s.length))
    case atStart => exact ⟨_, va, X, s, n, c, rfl, H1, K1, Lib.hid (fun x hx => .inl hx), HL, C1, Lib.hid (Nat.le_refl _), T1, Lib.hid (Nat.le_refl _)⟩
    case round =>
      obtain ⟨E1, va1, X1, s1, n1, c1, rfl, H2, K2, S2, L2, C2, B2, D2, N2⟩ := hrel; clear H1 C1 T1 K1 HL; by_cases hs0 : s1 = []
      · have te : (S s1).toList.isEmpty = true := by rw [S_toList, hs0]; rfl
        have hst := Lib.hid (hearL_stop (.inl hs0) L2.out); clear hs0; go_wp2_with fail; go_meet; obtain ⟨rfl, rfl⟩ := hst.out; exact ⟨rfl, va1, X1, Lib.hid (H2.out.mono (by have := N2.out; omega)), K2, S2, Lib.hid (C2.out.mono (by have := B2.out; omega)), D2⟩
      have te : (S s1).toList.isEmpty = false := by rw [S_toList]; simpa [List.isEmpty_iff] using hs0
      have c100 := H2.out.blk.get (g_state _ _ _); by_cases h2 : E1.state = 2
      rotate_left
      · have e2 := (int_ne h2).1; have hst := Lib.hid (hearL_stop (.inr h2) L2.out); generalize E1.state = st at *; clear hs0 h2; go_wp2_with fail; go_meet; obtain ⟨rfl, rfl⟩ := hst.out; exact ⟨rfl, va1, X1, Lib.hid (H2.out.mono (by have := N2.out; omega)), K2, S2, Lib.hid (C2.out.mono (by have := B2.out; omega)), D2⟩
      obtain ⟨m, P, G1, rfl, hP, hT, hmore⟩ := hearL_more hs0 h2 L2.out; have e2 := (int_eq h2).1; have HP := Lib.hid hP; have HTk := Lib.hid hT; have HMo := Lib.hid hmore; obtain ⟨k, hk⟩ : ∃ k, min s1.length 4096 = k := ⟨_, rfl⟩
      have hmin : min (s1.length : Int) 4096 = (k : Int) := by omega
      have hkl : k ≤ s1.length := by omega
      have hsz : (S s1).size = s1.length := rfl; have hx1 : (S s1).extract 0 k = S (s1.take 4096) := by rw [S_extract, List.drop_zero, ← hk, (take_min s1).1]
      have hx2 : (S s1).extract k s1.length = S (s1.drop 4096) := by rw [S_extract, List.take_length, ← hk, (take_min s1).2]
      have HX1 := Lib.hid hx1; have hpos := Lib.hid (List.length_pos_iff.2 hs0); have HK := Lib.hid hk; have htl : (s1.take 4096).length = k := by rw [← hk, ← (take_min s1).1, List.length_take]; omega
      obtain ⟨p, hrp, hR⟩ := H2.out.reply hP; have hle := N2.out; have hn := HN.out; have hAd := fun w' (kk : Keep [] wr w') => rp_add (s1.take 4096) (hR.keep0 kk) (by omega) (by rw [htl]; omega)
      rw [htl] at hAd; have HAd := Lib.hid hAd; clear hAd; have HRP := Lib.hid hrp; have M2 : Hid (MemK wr [] w0 wr [(b, 106, E1.cells rp va1)]) := Lib.hid (MemK.of H2.out.mem.1 []); have hlen : s1.length ≤ 4611686018427387904 := by omega
      clear hs0 h2 hP hT hmore hk hrp hR htl hle hn
      go_upto_region 5 with fail
      refine wp_region_noPanic ?_; refine wp_region_held_drew (S := fun w' => w'.cell? ⟨b, 0, Option.none⟩ = some rp) (by kernel_rfl) ((Lib.hid (M2.out.keep0 ((Keep.refl _ _).drew))).out.get 0 rfl 0 (g_rep _ _ _)) (fun hHeld => ?_); have M2d := Lib.hid (M2.out.keep0 ((Keep.refl _ _).drew)); refine gU 0 (oi := ⟨some 35, .move (.tmp 0), _, _, _, none⟩) (v := ?_) rfl (Or.inl ⟨by rfl, ?_⟩) (by assumption) ?_; rotate_left
      · (intro w' hSw; go_simp) <;> (with_reducible rfl)
      (try simp only [Act.put, sqA, sqC, sqB]); refine gU 1 (oi := ⟨some 36, .nilCheck (.tmp 35), _, _, _, none⟩) (v := ?_) rfl (Or.inl ⟨by rfl, ?_⟩) (by assumption) ?_; rotate_left
      · (intro w' hSw; go_simp) <;> (with_reducible rfl)
      (try simp only [Act.put, sqA, sqC, sqB]); refine gU 2 (oi := ⟨some 37, .fieldAddr _ (.tmp 36) 0, _, _, _, none⟩) (v := ?_) rfl (Or.inl ⟨by rfl, ?_⟩) (by assumption) ?_; rotate_left
      · (intro w' hSw; go_simp) <;> (with_reducible rfl)
      (try simp only [Act.put, sqA, sqC, sqB]); refine gU 3 (oi := ⟨some 38, .fieldAddr _ (.tmp 37) 0, _, _, _, none⟩) (v := ?_) rfl (Or.inl ⟨by rfl, ?_⟩) (by assumption) ?_; rotate_left
      · (intro w' hSw; go_simp) <;> (with_reducible rfl)
      (try simp only [Act.put, sqA, sqC, sqB]); refine gU 4 (oi := ⟨some 39, .load _ (.tmp 38), _, _, _, none⟩) (v := ?_) rfl (Or.inl ⟨by rfl, ?_⟩) (by assumption) ?_; rotate_left
      · (intro w' hSw; have hy0 := hSw; rw [HRP.out] at hy0; clear hSw; go_simp) <;> (with_reducible rfl)
      (try simp only [Act.put, sqA, sqC, sqB]); refine gU 5 (oi := ⟨some 40, .move (.tmp 1), _, _, _, none⟩) (v := ?_) rfl (Or.inl ⟨by rfl, ?_⟩) (by assumption) ?_; rotate_left
      · (intro w' hSw; go_simp) <;> (with_reducible rfl)
      (try simp only [Act.put, sqA, sqC, sqB]); refine gU 6 (oi := ⟨some 41, .move (.tmp 8), _, _, _, none⟩) (v := ?_) rfl (Or.inl ⟨by rfl, ?_⟩) (by assumption) ?_; rotate_left
      · (intro w' hSw; go_simp) <;> (with_reducible rfl)
      (try simp only [Act.put, sqA, sqC, sqB]); refine gU 7 (oi := ⟨some 42, _, _, _, _, none⟩) (v := ?_) rfl (Or.inl ⟨by rfl, ?_⟩) (by assumption) ?_; rotate_left
      · (intro w' hSw; go_simp) <;> (with_reducible rfl)
      (try simp only [Act.put, sqA, sqC, sqB]); refine gR 8 rfl (fun K hK => ?_); go_simp; refine (HAd.out _ M2d.out.2).mono ?_; rintro e wr1 ⟨rfl, hR1, kA⟩; have H3' := (H2.out.keep0 M2d.out.2).called HP.out HRP.out hR1 (kA.mono (fun x hx _ => by have h9 : x = p := (by simpa using hx); rw [h9]; exact hR1.re.mem)); have H3 := Lib.hid H3'; have KA : Hid (Keep (b :: X1) wr wr1) := Lib.hid ((M2d.out.2.mono (S' := b :: X1) (by simp)).trans' kA (fun x hx _ => by have h9 : x = p := (by simpa using hx); rw [h9]; exact List.mem_cons_of_mem _ hR1.re.mem)); have MR1 : Hid (MemK wr1 [] w0 wr1 [(b, 106, E1.cells rp va1)]) := Lib.hid (MemK.of H3'.mem.1 []); clear hR1 kA H3'; (try go_simp); refine hK.out _ _ (MR1.out.get 0 rfl 0 (g_rep _ _ _)) (fun hHeld => ?_); clear hK K; (try simp only [Act.put, sqA, sqC, sqB]); refine wpAnyH_done (by kernel_rfl) ?_ _; refine NoPanic.normal ?_; clear c100; have HTA := Lib.hid (er_take H3.out HML.out (by have := HN.out; have := N2.out; have := HK.out; omega) now Hnow.out HTk.out C2.out (by have := HCN.out; have := B2.out; omega) (fun Q hQ => by cases hQ; exact reAdd_ans (D2.out P HP.out) _)); go_wp2_with (first | (go_at_call 62; refine HTA.out.mono ?_; rintro e w6 ⟨rfl, h6⟩; have H6 := Lib.hid h6; clear h6) | fail)
      go_roundg m
      case rel =>
        obtain ⟨va6, X6, h6, k6, s6⟩ := H6.out; obtain ⟨r1, r2, r3⟩ := took (by have := HN.out; have := N2.out; have := HK.out; omega) now 5 c1 _ _ HTk.out (H3.out.okR) (fun Q hQ => by cases hQ; exact reAdd_ans (D2.out P HP.out) _) C2.out; obtain ⟨va7, X7, h7, k7, s7⟩ := EtFin.step (va1 := va1) K2.out S2.out h6 (KA.out.trans k6) (fun x hx => (s6 x hx).imp id (fun hh => Nat.le_trans KA.out.size hh)) rfl; exact ⟨G1, va7, X7, s1.drop 4096, _, c1 + 5, rfl, Lib.hid h7, Lib.hid k7, Lib.hid s7, HMo, Lib.hid r3, Lib.hid (by have := B2.out; omega), Lib.hid r2, Lib.hid (by have := HN.out; have := N2.out; have := HK.out; rw [List.length_drop]; omega)⟩
      case measure => omega
  obtain ⟨rfl, va1, X1, H2, K2, S2, C2, D2⟩ := hcut; clear H1 C1 T1 K1 HL; have c100 := H2.out.blk.get (g_state _ _ _); by_cases hsh : cut = true ∧ F.state = 2
  rotate_left
  · have hFG := shut_no hsh HSh.out; subst hFG; have H3 := H2
    cases cut with
    | false =>
      clear hsh c100; have c12 := H3.out.blk.get (g_reuse _ _ _); have M5 := Lib.hid (MemK.of H3.out.mem.1 [b]); obtain ⟨v, hv⟩ : ∃ v, (F.reuse && t.isEmpty) = v := ⟨_, rfl⟩
      have HV : Hid ((F.reuse && decide (t = [])) = v) := Lib.hid (by rw [clean_str]; exact hv)
      cases hgr : F.reuse with
      | false =>
        rw [hgr] at c12 hv; obtain rfl : false = v := by simpa using hv
        clear hv hgr; go_wp2_with (first | ((with_reducible refine gT 79 ?_); refine wpList_store1K rfl 4 (.tmp 79) _ rfl M5 0 rfl 12 (by rfl) (.bool false) (by rfl) rfl rfl (by kernel_rfl) (by rw [ErS.len]; omega) (fun _ => by simp) ?_; intro w8 M8; have hR := M8.out; simp only [sqC, s_reuse] at hR; clear M8; have M8 := Lib.hid hR; clear hR; try simp only [Act.put]) | fail)
        first | go_end0 | refine bodyPost_ret (results_none rfl _ _ _) rfl ?_
        rw [HV.out]; exact ⟨rfl, EtFin.step (va1 := va) K2.out S2.out (H3.out.own M8.out.2 (M8.out.1.blk 0 rfl) rfl rfl) (M8.out.2.mono (by simp)) (fun x hx => .inl hx) rfl⟩
      | true =>
        rw [hgr] at c12 hv
        cases hte : t.isEmpty with
        | true =>
          have te : (S t).toList.isEmpty = true := by rw [S_toList]; exact hte
          obtain rfl : true = v := by simpa [hte] using hv
          clear hv hte hgr; go_wp2_with (first | ((with_reducible refine gT 79 ?_); refine wpList_store1K rfl 4 (.tmp 79) _ rfl M5 0 rfl 12 (by rfl) (.bool true) (by rfl) rfl rfl (by kernel_rfl) (by rw [ErS.len]; omega) (fun _ => by simp) ?_; intro w8 M8; have hR := M8.out; simp only [sqC, s_reuse] at hR; clear M8; have M8 := Lib.hid hR; clear hR; try simp only [Act.put]) | fail)
          first | go_end0 | refine bodyPost_ret (results_none rfl _ _ _) rfl ?_
          rw [HV.out]; exact ⟨rfl, EtFin.step (va1 := va) K2.out S2.out (H3.out.own M8.out.2 (M8.out.1.blk 0 rfl) rfl rfl) (M8.out.2.mono (by simp)) (fun x hx => .inl hx) rfl⟩
        | false =>
          have te : (S t).toList.isEmpty = false := by rw [S_toList]; exact hte
          obtain rfl : false = v := by simpa [hte] using hv
          clear hv hte hgr; go_wp2_with (first | ((with_reducible refine gT 79 ?_); refine wpList_store1K rfl 4 (.tmp 79) _ rfl M5 0 rfl 12 (by rfl) (.bool false) (by rfl) rfl rfl (by kernel_rfl) (by rw [ErS.len]; omega) (fun _ => by simp) ?_; intro w8 M8; have hR := M8.out; simp only [sqC, s_reuse] at hR; clear M8; have M8 := Lib.hid hR; clear hR; try simp only [Act.put]) | fail)
          first | go_end0 | refine bodyPost_ret (results_none rfl _ _ _) rfl ?_
          rw [HV.out]; exact ⟨rfl, EtFin.step (va1 := va) K2.out S2.out (H3.out.own M8.out.2 (M8.out.1.blk 0 rfl) rfl rfl) (M8.out.2.mono (by simp)) (fun x hx => .inl hx) rfl⟩
    | true =>
      have e2 := (int_ne (show F.state ≠ 2 from fun hh => hsh ⟨rfl, hh⟩)).1; generalize F.state = st at *; clear hsh; have c12 := H3.out.blk.get (g_reuse _ _ _); have M5 := Lib.hid (MemK.of H3.out.mem.1 [b]); obtain ⟨v, hv⟩ : ∃ v, (F.reuse && t.isEmpty) = v := ⟨_, rfl⟩
      have HV : Hid ((F.reuse && decide (t = [])) = v) := Lib.hid (by rw [clean_str]; exact hv)
      cases hgr : F.reuse with
      | false =>
        rw [hgr] at c12 hv; obtain rfl : false = v := by simpa using hv
        clear hv hgr; go_wp2_with (first | ((with_reducible refine gT 79 ?_); refine wpList_store1K rfl 4 (.tmp 79) _ rfl M5 0 rfl 12 (by rfl) (.bool false) (by rfl) rfl rfl (by kernel_rfl) (by rw [ErS.len]; omega) (fun _ => by simp) ?_; intro w8 M8; have hR := M8.out; simp only [sqC, s_reuse] at hR; clear M8; have M8 := Lib.hid hR; clear hR; try simp only [Act.put]) | fail)
        first | go_end0 | refine bodyPost_ret (results_none rfl _ _ _) rfl ?_
        rw [HV.out]; exact ⟨rfl, EtFin.step (va1 := va) K2.out S2.out (H3.out.own M8.out.2 (M8.out.1.blk 0 rfl) rfl rfl) (M8.out.2.mono (by simp)) (fun x hx => .inl hx) rfl⟩
      | true =>
        rw [hgr] at c12 hv
        cases hte : t.isEmpty with
        | true =>
          have te : (S t).toList.isEmpty = true := by rw [S_toList]; exact hte
          obtain rfl : true = v := by simpa [hte] using hv
          clear hv hte hgr; go_wp2_with (first | ((with_reducible refine gT 79 ?_); refine wpList_store1K rfl 4 (.tmp 79) _ rfl M5 0 rfl 12 (by rfl) (.bool true) (by rfl) rfl rfl (by kernel_rfl) (by rw [ErS.len]; omega) (fun _ => by simp) ?_; intro w8 M8; have hR := M8.out; simp only [sqC, s_reuse] at hR; clear M8; have M8 := Lib.hid hR; clear hR; try simp only [Act.put]) | fail)
          first | go_end0 | refine bodyPost_ret (results_none rfl _ _ _) rfl ?_
          rw [HV.out]; exact ⟨rfl, EtFin.step (va1 := va) K2.out S2.out (H3.out.own M8.out.2 (M8.out.1.blk 0 rfl) rfl rfl) (M8.out.2.mono (by simp)) (fun x hx => .inl hx) rfl⟩
        | false =>
          have te : (S t).toList.isEmpty = false := by rw [S_toList]; exact hte
          obtain rfl : false = v := by simpa [hte] using hv
          clear hv hte hgr; go_wp2_with (first | ((with_reducible refine gT 79 ?_); refine wpList_store1K rfl 4 (.tmp 79) _ rfl M5 0 rfl 12 (by rfl) (.bool false) (by rfl) rfl rfl (by kernel_rfl) (by rw [ErS.len]; omega) (fun _ => by simp) ?_; intro w8 M8; have hR := M8.out; simp only [sqC, s_reuse] at hR; clear M8; have M8 := Lib.hid hR; clear hR; try simp only [Act.put]) | fail)
          first | go_end0 | refine bodyPost_ret (results_none rfl _ _ _) rfl ?_
          rw [HV.out]; exact ⟨rfl, EtFin.step (va1 := va) K2.out S2.out (H3.out.own M8.out.2 (M8.out.1.blk 0 rfl) rfl rfl) (M8.out.2.mono (by simp)) (fun x hx => .inl hx) rfl⟩
  obtain ⟨P, hP, hT⟩ := shut_yes hsh HSh.out; obtain ⟨rfl, h2⟩ := hsh; have e2 := (int_eq h2).1; obtain ⟨p, hrp, hR⟩ := H2.out.reply hP; have HSS := Lib.hid (rp_shut hR); have c0 := H2.out.blk.get (g_rep _ _ _); rw [hrp] at c0; have HP := Lib.hid hP; have HRP := Lib.hid hrp; have HTk := Lib.hid hT; clear hP hrp hR hT h2; go_wp2_with fail; refine HSS.out.mono ?_; rintro e w5 ⟨rfl, hR5, k5⟩; have H4 := Lib.hid (H2.out.called HP.out HRP.out hR5 k5); have K4 : Hid (Keep (b :: X1) wc w5) := Lib.hid (k5.mono (fun x hx _ => List.mem_cons_of_mem _ hx)); have HTA := Lib.hid (er_take H4.out HML.out HN.out now Hnow.out HTk.out C2.out (by have := HCN.out; omega) (fun Q hQ => by cases hQ; exact D2.out P HP.out)); clear hR5 k5 c0 c100 HSS
  go_upto_region 11 with (first | (go_at_call 62; refine HTA.out.mono ?_; rintro e w6 ⟨rfl, h6⟩; have H6 := Lib.hid h6; clear h6) | fail)
  obtain ⟨va6, X6, h6, k6, s6⟩ := H6.out; obtain ⟨va7, X7, h7, k7, s7⟩ := EtFin.step (va1 := va1) K2.out S2.out h6 (K4.out.trans k6) (fun x hx => (s6 x hx).imp id (fun hh => Nat.le_trans K4.out.size hh)) rfl; have H7 := Lib.hid h7; have K7 := Lib.hid k7; have S7 := Lib.hid s7; clear h6 k6 s6 h7 k7 s7 H6; have c12 := H7.out.blk.get (g_reuse _ _ _); have M5 := Lib.hid (MemK.of H7.out.mem.1 [b]); obtain ⟨v, hv⟩ : ∃ v, (G.reuse && t.isEmpty) = v := ⟨_, rfl⟩
  have HV : Hid ((G.reuse && decide (t = [])) = v) := Lib.hid (by rw [clean_str]; exact hv)
  cases hgr : G.reuse with
  | false =>
    rw [hgr] at c12 hv; obtain rfl : false = v := by simpa using hv
    clear hv hgr; go_wp2_with (first | ((with_reducible refine gT 79 ?_); refine wpList_store1K rfl 4 (.tmp 79) _ rfl M5 0 rfl 12 (by rfl) (.bool false) (by rfl) rfl rfl (by kernel_rfl) (by rw [ErS.len]; omega) (fun _ => by simp) ?_; intro w8 M8; have hR := M8.out; simp only [sqC, s_reuse] at hR; clear M8; have M8 := Lib.hid hR; clear hR; try simp only [Act.put]) | fail)
    first | go_end0 | refine bodyPost_ret (results_none rfl _ _ _) rfl ?_
    rw [HV.out]; exact ⟨rfl, EtFin.step (va1 := va) K7.out S7.out (H7.out.own M8.out.2 (M8.out.1.blk 0 rfl) rfl rfl) (M8.out.2.mono (by simp)) (fun x hx => .inl hx) rfl⟩
  | true =>
    rw [hgr] at c12 hv
    cases hte : t.isEmpty with
    | true =>
      have te : (S t).toList.isEmpty = true := by rw [S_toList]; exact hte
      obtain rfl : true = v := by simpa [hte] using hv
      clear hv hte hgr; go_wp2_with (first | ((with_reducible refine gT 79 ?_); refine wpList_store1K rfl 4 (.tmp 79) _ rfl M5 0 rfl 12 (by rfl) (.bool true) (by rfl) rfl rfl (by kernel_rfl) (by rw [ErS.len]; omega) (fun _ => by simp) ?_; intro w8 M8; have hR := M8.out; simp only [sqC, s_reuse] at hR; clear M8; have M8 := Lib.hid hR; clear hR; try simp only [Act.put]) | fail)
      first | go_end0 | refine bodyPost_ret (results_none rfl _ _ _) rfl ?_
      rw [HV.out]; exact ⟨rfl, EtFin.step (va1 := va) K7.out S7.out (H7.out.own M8.out.2 (M8.out.1.blk 0 rfl) rfl rfl) (M8.out.2.mono (by simp)) (fun x hx => .inl hx) rfl⟩
    | false =>
      have te : (S t).toList.isEmpty = false := by rw [S_toList]; exact hte
      obtain rfl : false = v := by simpa [hte] using hv
      clear hv hte hgr; go_wp2_with (first | ((with_reducible refine gT 79 ?_); refine wpList_store1K rfl 4 (.tmp 79) _ rfl M5 0 rfl 12 (by rfl) (.bool false) (by rfl) rfl rfl (by kernel_rfl) (by rw [ErS.len]; omega) (fun _ => by simp) ?_; intro w8 M8; have hR := M8.out; simp only [sqC, s_reuse] at hR; clear M8; have M8 := Lib.hid hR; clear hR; try simp only [Act.put]) | fail)
      first | go_end0 | refine bodyPost_ret (results_none rfl _ _ _) rfl ?_
      rw [HV.out]; exact ⟨rfl, EtFin.step (va1 := va) K7.out S7.out (H7.out.own M8.out.2 (M8.out.1.blk 0 rfl) rfl rfl) (M8.out.2.mono (by simp)) (fun x hx => .inl hx) rfl⟩
end
end Go.Proofs.YtlhnjkekjbbhcaaGreatDoor
