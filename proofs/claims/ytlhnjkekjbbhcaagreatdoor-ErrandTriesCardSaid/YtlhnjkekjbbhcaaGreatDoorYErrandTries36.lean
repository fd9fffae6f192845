/- Parts of the proof of ErrandTries, in order. No conditions but those that each theorem states. -/
import Derived.Test.YtlhnjkekjbbhcaaGreatDoorYErrandTries0
import Derived.Lib.SlBytesConst
import Derived.Lib.LaidTab
import Derived.Lib.ItoaNum
import Derived.Lib.ItoaLen
import Derived.Sort.Grow
import Derived.DeepKeys4
import Derived.Deep.MidRow
import Derived.Test.YtlhnjkekjbbhcaaGreatDoorYErrandTries35
set_option linter.unusedSimpArgs false
set_option linter.unusedVariables false
namespace Go.Proofs.YtlhnjkekjbbhcaaGreatDoor
open Go.RowKit Go.Shelf
theorem judge_404 {k : Ky} {t : Tk} {a : Ans} {x : Int} (h : a.st = 404) : judgeV k a = 1 ∧ judgeR k t a x = ⟨404, zeroD, [], 0, x⟩ := by unfold judgeV judgeR; rw [if_pos h, if_pos h]; exact ⟨rfl, rfl⟩
theorem judge_again {k : Ky} {t : Tk} {a : Ans} {x : Int} (h : a.st = 429 ∨ (500 ≤ a.st ∧ a.st ≤ 599)) : judgeV k a = 2 ∧ judgeR k t a x = rs0 := by
  have h4 : ¬ a.st = 404 := by omega
  unfold judgeV judgeR; rw [if_neg h4, if_neg h4, if_pos h, if_pos h]; exact ⟨rfl, rfl⟩
theorem judge_body {k : Ky} {t : Tk} {a : Ans} {x : Int} (h : a.st = 200) (h2 : k.kind = 2) : judgeV k a = 3 ∧ judgeR k t a x = rs0 := by
  have h4 : ¬ a.st = 404 := by omega
  have h5 : ¬ (a.st = 429 ∨ (500 ≤ a.st ∧ a.st ≤ 599)) := by omega
  have h6 : a.st = 200 ∧ k.kind = 2 := ⟨h, h2⟩
  unfold judgeV judgeR; rw [if_neg h4, if_neg h4, if_neg h5, if_neg h5, if_pos h6, if_pos h, if_pos h2]; exact ⟨rfl, rfl⟩
theorem judge_found {k : Ky} {t : Tk} {a : Ans} {x : Int} (h : a.st = 200) (h2 : k.kind ≠ 2) : judgeV k a = 1 ∧ judgeR k t a x = foundM k a x := by
  have h4 : ¬ a.st = 404 := by omega
  have h5 : ¬ (a.st = 429 ∨ (500 ≤ a.st ∧ a.st ≤ 599)) := by omega
  have h6 : ¬ (a.st = 200 ∧ k.kind = 2) := fun hh => h2 hh.2
  unfold judgeV judgeR; rw [if_neg h4, if_neg h4, if_neg h5, if_neg h5, if_neg h6, if_pos h, if_neg h2]; exact ⟨rfl, rfl⟩
theorem judge_304 {k : Ky} {t : Tk} {a : Ans} {x : Int} (h : a.st = 304) (h2 : k.kind = 1) (h3 : t.found = true) : judgeV k a = 1 ∧ judgeR k t a x = ⟨304, t.dig, t.typ, t.size, x⟩ := by
  have h4 : ¬ a.st = 404 := by omega
  have h5 : ¬ (a.st = 429 ∨ (500 ≤ a.st ∧ a.st ≤ 599)) := by omega
  have h6 : ¬ a.st = 200 := by omega
  have h7 : ¬ (a.st = 200 ∧ k.kind = 2) := fun hh => h6 hh.1
  have h8 : a.st = 304 ∧ k.kind = 1 ∧ t.found = true := ⟨h, h2, h3⟩
  unfold judgeV judgeR; rw [if_neg h4, if_neg h4, if_neg h5, if_neg h5, if_neg h7, if_neg h6, if_pos h8]; exact ⟨rfl, rfl⟩
theorem judge_bad {k : Ky} {t : Tk} {a : Ans} {x : Int} (h1 : a.st ≠ 404) (h2 : ¬ (a.st = 429 ∨ (500 ≤ a.st ∧ a.st ≤ 599))) (h3 : a.st ≠ 200) (h4 : ¬ (a.st = 304 ∧ k.kind = 1 ∧ t.found = true)) : judgeV k a = 1 ∧ judgeR k t a x = rsBad := by
  have h7 : ¬ (a.st = 200 ∧ k.kind = 2) := fun hh => h3 hh.1
  unfold judgeV judgeR; rw [if_neg h1, if_neg h1, if_neg h2, if_neg h2, if_neg h7, if_neg h3, if_neg h4]; exact ⟨rfl, rfl⟩
def judgeO (k : Ky) (t : Tk) (a : Ans) (x : Int) : Ending := .returned (.tuple #[.int .i64 (judgeV k a), .agg (judgeR k t a x).cells.toArray])
theorem judgeO_of {k : Ky} {t : Tk} {a : Ans} {x v : Int} {r : Rs} (h : judgeV k a = v ∧ judgeR k t a x = r) : judgeO k t a x = .returned (.tuple #[.int .i64 v, .agg r.cells.toArray]) := by unfold judgeO; rw [h.1, h.2]
set_option maxRecDepth 100000 in
set_option maxHeartbeats 4000000 in
theorem errand_Judge (k : Ky) (t : Tk) (a : Ans) (va : Value) (x : Int) (w : World) (hm : ML w) (ha : AnIn w va a.F) :
    Calls Tryz.prog 12 #[.agg k.cells.toArray, .agg t.cells.toArray, .agg (ansC a.st va a.len a.ch a.cl).toArray, .int .i64 x] w fun e w' => e = judgeO k t a x ∧ Keep [] w w' := by
  have M0 := Lib.hid (Mem.nil w); have HBB := Lib.hid bd_rsBad; have HB0 := Lib.hid bd_rs0; have HB4 := Lib.hid (bd_rs404 x); have HB3 := Lib.hid (bd_rs 304 t.dig t.typ t.size x); have HFo := Lib.hid (fun w' (kk : Keep [] w w') => errand_found k a va x w' (hm.keep kk (by simp)) (ha.keep kk)); clear ha hm; have hac0 : (ansC a.st va a.len a.ch a.cl)[0]? = some (.int .i64 a.st) := rfl; have hacs := an_size a.st va a.len a.ch a.cl; generalize ansC a.st va a.len a.ch a.cl = ac at *; have HAS := Lib.hid hacs; have HA0 := Lib.hid hac0; clear hacs hac0; go_enter Tryz.func12, Tryz.ntmps12
  go_upto_region 1 with (first | ((with_reducible refine gX 4 ?_); refine wpList_boxM rfl 25 (.tmp 0) rfl (k.cells) (by rfl) M0 ?_; intro b4 w1 M1 _ _; try simp only [Act.put, sqA, sqB, sqC]) | ((with_reducible refine gX 5 ?_); refine wpList_boxM rfl 27 (.tmp 1) rfl (t.cells) (by rfl) M1 ?_; intro b5 w2 M2 _ _; try simp only [Act.put, sqA, sqB, sqC]) | ((with_reducible refine gX 6 ?_); refine wpList_boxM rfl 30 (.tmp 2) rfl (ac) (by rfl) M2 ?_; intro b6 w3 M3 _ _; try simp only [Act.put, sqA, sqB, sqC]) | ((with_reducible refine gA 9 ?_); refine wpList_allocM rfl 39 rfl (rs0.cells) (Lib.hid rs_zero) M3 ?_; intro b9 w4 M4 _ _; try simp only [Act.put, sqA, sqB, sqC]) | fail)
  have c0 := M4.out.get 1 rfl 0 HA0.out; have g0 := M4.out.get 3 rfl 0 rfl; have g2 := M4.out.get 2 rfl 2 (tk_found t); by_cases hs : a.st = 404
  · skip; have s404 := (int_eq hs).1; have s429 := (int_ne (show a.st ≠ 429 by omega)).1; have s200 := (int_ne (show a.st ≠ 200 by omega)).1; have s304 := (int_ne (show a.st ≠ 304 by omega)).1; have s5 : ¬ 500 ≤ a.st := by omega
    have HR := Lib.hid (judgeO_of (k := k) (t := t) (a := a) (x := x) (judge_404 hs)); clear hs
    go_wp2_with (first | ((with_reducible refine gB 17 ?_); refine wpList_buildM (by rfl) 39 _ rfl ([(0, .int .i64 404), (4, .int .i64 x)]) (by simp [Act.eval]) ((⟨404, zeroD, [], 0, x⟩ : Rs).cells) HB4 ?_; try simp only [Act.put, sqA, sqB, sqC]) | ((with_reducible refine gS 9 17 ?_); refine wpList_storeM rfl 39 (.tmp 9) (.tmp 17) rfl M4 0 rfl (by rfl) ((⟨404, zeroD, [], 0, x⟩ : Rs).cells) (by rfl) (rs_size _) (by rw [Rs.len, Rs.len]) (Rs.one _) ?_; intro w5 M5 _; try simp only [Act.put]) | fail); have hload := rs_end M5.out 0 rfl; rw [HR.out]; refine bodyPost_ret (v := .tuple #[.int .i64 1, .agg (⟨404, zeroD, [], 0, x⟩ : Rs).cells.toArray]) (by simp [results, Tryz.results12, asAddr, Result.andThen, hload]) rfl ⟨rfl, M5.out.kp⟩
  · by_cases hs4 : a.st = 429
    · have hs := hs4; have s404 := (int_ne (show a.st ≠ 404 by omega)).1; have s429 := (int_eq hs).1; have s200 := (int_ne (show a.st ≠ 200 by omega)).1; have s304 := (int_ne (show a.st ≠ 304 by omega)).1; have s5 : ¬ 500 ≤ a.st := by omega
      have HR := Lib.hid (judgeO_of (k := k) (t := t) (a := a) (x := x) (judge_again (.inl hs))); clear hs hs4
      go_wp2_with (first | ((with_reducible refine gB 29 ?_); refine wpList_buildM (by rfl) 39 _ rfl ([]) (by simp [Act.eval]) (rs0.cells) HB0 ?_; try simp only [Act.put, sqA, sqB, sqC]) | ((with_reducible refine gS 9 29 ?_); refine wpList_storeM rfl 39 (.tmp 9) (.tmp 29) rfl M4 0 rfl (by rfl) (rs0.cells) (by rfl) (rs_size _) rfl (Rs.one _) ?_; intro w5 M5 _; try simp only [Act.put]) | fail); have hload := rs_end M5.out 0 rfl; rw [HR.out]; refine bodyPost_ret (v := .tuple #[.int .i64 2, .agg (rs0).cells.toArray]) (by simp [results, Tryz.results12, asAddr, Result.andThen, hload]) rfl ⟨rfl, M5.out.kp⟩
    · by_cases hs5 : 500 ≤ a.st ∧ a.st ≤ 599
      · skip; have s404 := (int_ne (show a.st ≠ 404 by omega)).1; have s429 := (int_ne (show a.st ≠ 429 by omega)).1; have s200 := (int_ne (show a.st ≠ 200 by omega)).1; have s304 := (int_ne (show a.st ≠ 304 by omega)).1; have s5 : 500 ≤ a.st := by omega
        have s6 : a.st ≤ 599 := by omega
        have HR := Lib.hid (judgeO_of (k := k) (t := t) (a := a) (x := x) (judge_again (.inr hs5))); clear hs hs4 hs5
        go_wp2_with (first | ((with_reducible refine gB 29 ?_); refine wpList_buildM (by rfl) 39 _ rfl ([]) (by simp [Act.eval]) (rs0.cells) HB0 ?_; try simp only [Act.put, sqA, sqB, sqC]) | ((with_reducible refine gS 9 29 ?_); refine wpList_storeM rfl 39 (.tmp 9) (.tmp 29) rfl M4 0 rfl (by rfl) (rs0.cells) (by rfl) (rs_size _) rfl (Rs.one _) ?_; intro w5 M5 _; try simp only [Act.put]) | fail); have hload := rs_end M5.out 0 rfl; rw [HR.out]; refine bodyPost_ret (v := .tuple #[.int .i64 2, .agg (rs0).cells.toArray]) (by simp [results, Tryz.results12, asAddr, Result.andThen, hload]) rfl ⟨rfl, M5.out.kp⟩
      · by_cases hs2 : a.st = 200
        · have hs := hs2; by_cases k2 : k.kind = 2
          · have q2 := (int_eq k2).1; have q1 := (int_ne (show k.kind ≠ 1 by omega)).1; have q3 := (int_ne (show k.kind ≠ 3 by omega)).1; have s404 := (int_ne (show a.st ≠ 404 by omega)).1; have s429 := (int_ne (show a.st ≠ 429 by omega)).1; have s200 := (int_eq hs).1; have s304 := (int_ne (show a.st ≠ 304 by omega)).1; have s5 : ¬ 500 ≤ a.st := by omega
            have HR := Lib.hid (judgeO_of (k := k) (t := t) (a := a) (x := x) (judge_body hs k2)); clear hs hs2 hs4 hs5 k2
            go_wp2_with (first | ((with_reducible refine gB 38 ?_); refine wpList_buildM (by rfl) 39 _ rfl ([]) (by simp [Act.eval]) (rs0.cells) HB0 ?_; try simp only [Act.put, sqA, sqB, sqC]) | ((with_reducible refine gS 9 38 ?_); refine wpList_storeM rfl 39 (.tmp 9) (.tmp 38) rfl M4 0 rfl (by rfl) (rs0.cells) (by rfl) (rs_size _) rfl (Rs.one _) ?_; intro w5 M5 _; try simp only [Act.put]) | fail); have hload := rs_end M5.out 0 rfl; rw [HR.out]; refine bodyPost_ret (v := .tuple #[.int .i64 3, .agg (rs0).cells.toArray]) (by simp [results, Tryz.results12, asAddr, Result.andThen, hload]) rfl ⟨rfl, M5.out.kp⟩
          · have q2 := (int_ne k2).1; have s404 := (int_ne (show a.st ≠ 404 by omega)).1; have s429 := (int_ne (show a.st ≠ 429 by omega)).1; have s200 := (int_eq hs).1; have s304 := (int_ne (show a.st ≠ 304 by omega)).1; have s5 : ¬ 500 ≤ a.st := by omega
            have HR := Lib.hid (judgeO_of (k := k) (t := t) (a := a) (x := x) (judge_found hs k2)); clear hs hs2 hs4 hs5 k2
            go_wp2_with (first | ((with_reducible refine gL 42 4 ?_); refine wpList_loadM (by rfl) 25 (.tmp 4) rfl M4 3 rfl (by rfl) _ Tryz.underlying25 rfl (ky_size k) ?_; try simp only [Act.put, sqA, sqB, sqC]) | ((with_reducible refine gL 43 6 ?_); refine wpList_loadM (by rfl) 30 (.tmp 6) rfl M4 1 rfl (by rfl) _ Tryz.underlying30 rfl HAS.out ?_; try simp only [Act.put, sqA, sqB, sqC]) | fail); refine (HFo.out _ M4.out.kp).mono ?_; rintro e w6 ⟨rfl, k6⟩; have M6 := Lib.hid (M4.out.keep0 k6); clear k6
            go_wp2_with (first | ((with_reducible refine gS 9 45 ?_); refine wpList_storeM rfl 39 (.tmp 9) (.tmp 45) rfl M6 0 rfl (by rfl) ((foundM k a x).cells) (by rfl) (rs_size _) (by rw [Rs.len, Rs.len]) (Rs.one _) ?_; intro w5 M5 _; try simp only [Act.put]) | fail); have hload := rs_end M5.out 0 rfl; rw [HR.out]; refine bodyPost_ret (v := .tuple #[.int .i64 1, .agg (foundM k a x).cells.toArray]) (by simp [results, Tryz.results12, asAddr, Result.andThen, hload]) rfl ⟨rfl, M5.out.kp⟩
        · by_cases hs3 : a.st = 304
          · have hs := hs3; by_cases k1 : k.kind = 1
            · have q1 := (int_eq k1).1; by_cases hf : t.found = true
              · skip; have s404 := (int_ne (show a.st ≠ 404 by omega)).1; have s429 := (int_ne (show a.st ≠ 429 by omega)).1; have s200 := (int_ne (show a.st ≠ 200 by omega)).1; have s304 := (int_eq hs).1; have s5 : ¬ 500 ≤ a.st := by omega
                have HR := Lib.hid (judgeO_of (k := k) (t := t) (a := a) (x := x) (judge_304 hs k1 hf)); clear hs hs2 hs3 hs4 hs5 k1; go_wp2_with fail; refine wp_region_noPanic ?_; refine wp_region_held_drew (S := fun w' => ∃ cs, Mem w w' [(b9, 39, cs), (b6, 30, ac), (b5, 27, t.cells), (b4, 25, k.cells)]) (by kernel_rfl) (⟨_, (Lib.hid (M4.out.keep0 ((Keep.refl _ _).drew))).out⟩) (fun hHeld => ?_); have M4d := Lib.hid (M4.out.keep0 ((Keep.refl _ _).drew)); refine gU 8 (oi := ⟨some 8, .assign _, _, _, _, none⟩) (v := ?_) rfl (Or.inl ⟨by rfl, ?_⟩) (by assumption) ?_; rotate_left
                · (intro w' hSw; go_simp) <;> (with_reducible rfl)
                (try simp only [Act.put, sqA, sqC, sqB]); refine gU 0 (oi := ⟨some 58, .fieldAddr _ (.tmp 5) 3, _, _, _, none⟩) (v := ?_) rfl (Or.inl ⟨by rfl, ?_⟩) (by assumption) ?_; rotate_left
                · (intro w' hSw; go_simp) <;> (with_reducible rfl)
                (try simp only [Act.put, sqA, sqC, sqB]); refine gU 1 (oi := ⟨some 59, .load _ (.tmp 58), _, _, _, none⟩) rfl (yieldsIf_load_mid (by rfl) 23 (.tmp 58) rfl _ 3 (by rfl) (digC t.dig) _ (fun w' hSw => fun j v hj => ((hSw.choose_spec).blk 2 (by rfl)).get ((t.at_dig) j v hj)) Tryz.underlying23 rfl (dig_size _)) (by assumption) ?_; (try simp only [Act.put, sqA, sqC, sqB]); refine gU 2 (oi := ⟨some 60, .fieldAddr _ (.tmp 5) 4, _, _, _, none⟩) (v := ?_) rfl (Or.inl ⟨by rfl, ?_⟩) (by assumption) ?_; rotate_left
                · (intro w' hSw; go_simp) <;> (with_reducible rfl)
                (try simp only [Act.put, sqA, sqC, sqB]); refine gU 3 (oi := ⟨some 61, .load _ (.tmp 60), _, _, _, none⟩) (v := ?_) rfl (Or.inl ⟨by rfl, ?_⟩) (by assumption) ?_; rotate_left
                · (intro w' hSw; have hy4 := hSw.choose_spec.get 2 rfl 35 t.at_typ; have hy5 := hSw.choose_spec.get 2 rfl 36 t.at_size; clear hSw; go_simp) <;> (with_reducible rfl)
                (try simp only [Act.put, sqA, sqC, sqB]); refine gU 4 (oi := ⟨some 62, .fieldAddr _ (.tmp 5) 5, _, _, _, none⟩) (v := ?_) rfl (Or.inl ⟨by rfl, ?_⟩) (by assumption) ?_; rotate_left
                · (intro w' hSw; go_simp) <;> (with_reducible rfl)
                (try simp only [Act.put, sqA, sqC, sqB]); refine gU 5 (oi := ⟨some 63, .load _ (.tmp 62), _, _, _, none⟩) (v := ?_) rfl (Or.inl ⟨by rfl, ?_⟩) (by assumption) ?_; rotate_left
                · (intro w' hSw; have hy4 := hSw.choose_spec.get 2 rfl 35 t.at_typ; have hy5 := hSw.choose_spec.get 2 rfl 36 t.at_size; clear hSw; go_simp) <;> (with_reducible rfl)
                (try simp only [Act.put, sqA, sqC, sqB]); refine gU 6 (oi := ⟨some 64, .move (.tmp 3), _, _, _, none⟩) (v := ?_) rfl (Or.inl ⟨by rfl, ?_⟩) (by assumption) ?_; rotate_left
                · (intro w' hSw; go_simp) <;> (with_reducible rfl)
                (try simp only [Act.put, sqA, sqC, sqB]); refine gU 7 (oi := ⟨some 65, _, _, _, _, none⟩) rfl (yieldsIf_buildM (by rfl) 39 _ rfl ([(0, .int .i64 304), (1, .agg (digC t.dig).toArray), (2, .string (S t.typ)), (3, .int .i64 t.size), (4, .int .i64 x)]) (by simp [Act.eval]) ((⟨304, t.dig, t.typ, t.size, x⟩ : Rs).cells) HB3) (by assumption) ?_; (try simp only [Act.put, sqA, sqC, sqB]); refine gR 9 rfl (fun K hK => ?_); rw [if_pos (by rfl)]; refine wp_storeM 39 (.tmp 9) (.tmp 65) rfl M4d 0 rfl (by rfl) ((⟨304, t.dig, t.typ, t.size, x⟩ : Rs).cells) (by rfl) (rs_size _) (by rw [Rs.len, Rs.len]) (Rs.one _) ?_; intro wr1 MR1; refine hK.out _ _ (⟨_, MR1.out⟩) (fun hHeld => ?_); clear hK K; (try simp only [Act.put, sqA]); refine wpAnyH_done (by kernel_rfl) ?_ _; refine NoPanic.normal ?_; go_wp2_with fail; have hload := rs_end MR1.out 0 rfl; rw [HR.out]; refine bodyPost_ret (v := .tuple #[.int .i64 1, .agg (⟨304, t.dig, t.typ, t.size, x⟩ : Rs).cells.toArray]) (by simp [results, Tryz.results12, asAddr, Result.andThen, hload]) rfl ⟨rfl, MR1.out.kp⟩
              · have hf2 : t.found = false := by simpa using hf
                have s404 := (int_ne (show a.st ≠ 404 by omega)).1; have s429 := (int_ne (show a.st ≠ 429 by omega)).1; have s200 := (int_ne (show a.st ≠ 200 by omega)).1; have s304 := (int_eq hs).1; have s5 : ¬ 500 ≤ a.st := by omega
                have HR := Lib.hid (judgeO_of (k := k) (t := t) (a := a) (x := x) (judge_bad (by omega) (by omega) (by omega) (fun h => hf h.2.2))); clear hs hs2 hs3 hs4 hs5 k1 hf
                go_wp2_with (first | ((with_reducible refine gB 66 ?_); refine wpList_buildM (by rfl) 39 _ rfl ([(0, .int .i64 502)]) (by simp [Act.eval]) (rsBad.cells) HBB ?_; try simp only [Act.put, sqA, sqB, sqC]) | ((with_reducible refine gS 9 66 ?_); refine wpList_storeM rfl 39 (.tmp 9) (.tmp 66) rfl M4 0 rfl (by rfl) (rsBad.cells) (by rfl) (rs_size _) (by rw [Rs.len, Rs.len]) (Rs.one _) ?_; intro w5 M5 _; try simp only [Act.put]) | fail); have hload := rs_end M5.out 0 rfl; rw [HR.out]; refine bodyPost_ret (v := .tuple #[.int .i64 1, .agg (rsBad).cells.toArray]) (by simp [results, Tryz.results12, asAddr, Result.andThen, hload]) rfl ⟨rfl, M5.out.kp⟩
            · have q1 := (int_ne k1).1; have s404 := (int_ne (show a.st ≠ 404 by omega)).1; have s429 := (int_ne (show a.st ≠ 429 by omega)).1; have s200 := (int_ne (show a.st ≠ 200 by omega)).1; have s304 := (int_eq hs).1; have s5 : ¬ 500 ≤ a.st := by omega
              have HR := Lib.hid (judgeO_of (k := k) (t := t) (a := a) (x := x) (judge_bad (by omega) (by omega) (by omega) (fun h => k1 h.2.1))); clear hs hs2 hs3 hs4 hs5 k1
              go_wp2_with (first | ((with_reducible refine gB 66 ?_); refine wpList_buildM (by rfl) 39 _ rfl ([(0, .int .i64 502)]) (by simp [Act.eval]) (rsBad.cells) HBB ?_; try simp only [Act.put, sqA, sqB, sqC]) | ((with_reducible refine gS 9 66 ?_); refine wpList_storeM rfl 39 (.tmp 9) (.tmp 66) rfl M4 0 rfl (by rfl) (rsBad.cells) (by rfl) (rs_size _) (by rw [Rs.len, Rs.len]) (Rs.one _) ?_; intro w5 M5 _; try simp only [Act.put]) | fail); have hload := rs_end M5.out 0 rfl; rw [HR.out]; refine bodyPost_ret (v := .tuple #[.int .i64 1, .agg (rsBad).cells.toArray]) (by simp [results, Tryz.results12, asAddr, Result.andThen, hload]) rfl ⟨rfl, M5.out.kp⟩
          · by_cases hlo : a.st < 500
            · skip; have s404 := (int_ne (show a.st ≠ 404 by omega)).1; have s429 := (int_ne (show a.st ≠ 429 by omega)).1; have s200 := (int_ne (show a.st ≠ 200 by omega)).1; have s304 := (int_ne (show a.st ≠ 304 by omega)).1; have s5 : ¬ 500 ≤ a.st := by omega
              have HR := Lib.hid (judgeO_of (k := k) (t := t) (a := a) (x := x) (judge_bad hs (by omega) hs2 (fun h => hs3 h.1))); clear hs hs2 hs3 hs4 hs5 hlo
              go_wp2_with (first | ((with_reducible refine gB 66 ?_); refine wpList_buildM (by rfl) 39 _ rfl ([(0, .int .i64 502)]) (by simp [Act.eval]) (rsBad.cells) HBB ?_; try simp only [Act.put, sqA, sqB, sqC]) | ((with_reducible refine gS 9 66 ?_); refine wpList_storeM rfl 39 (.tmp 9) (.tmp 66) rfl M4 0 rfl (by rfl) (rsBad.cells) (by rfl) (rs_size _) (by rw [Rs.len, Rs.len]) (Rs.one _) ?_; intro w5 M5 _; try simp only [Act.put]) | fail); have hload := rs_end M5.out 0 rfl; rw [HR.out]; refine bodyPost_ret (v := .tuple #[.int .i64 1, .agg (rsBad).cells.toArray]) (by simp [results, Tryz.results12, asAddr, Result.andThen, hload]) rfl ⟨rfl, M5.out.kp⟩
            · skip; have s404 := (int_ne (show a.st ≠ 404 by omega)).1; have s429 := (int_ne (show a.st ≠ 429 by omega)).1; have s200 := (int_ne (show a.st ≠ 200 by omega)).1; have s304 := (int_ne (show a.st ≠ 304 by omega)).1; have s5 : 500 ≤ a.st := by omega
              have s6 : ¬ a.st ≤ 599 := by omega
              have HR := Lib.hid (judgeO_of (k := k) (t := t) (a := a) (x := x) (judge_bad hs (by omega) hs2 (fun h => hs3 h.1))); clear hs hs2 hs3 hs4 hs5 hlo
              go_wp2_with (first | ((with_reducible refine gB 66 ?_); refine wpList_buildM (by rfl) 39 _ rfl ([(0, .int .i64 502)]) (by simp [Act.eval]) (rsBad.cells) HBB ?_; try simp only [Act.put, sqA, sqB, sqC]) | ((with_reducible refine gS 9 66 ?_); refine wpList_storeM rfl 39 (.tmp 9) (.tmp 66) rfl M4 0 rfl (by rfl) (rsBad.cells) (by rfl) (rs_size _) (by rw [Rs.len, Rs.len]) (Rs.one _) ?_; intro w5 M5 _; try simp only [Act.put]) | fail); have hload := rs_end M5.out 0 rfl; rw [HR.out]; refine bodyPost_ret (v := .tuple #[.int .i64 1, .agg (rsBad).cells.toArray]) (by simp [results, Tryz.results12, asAddr, Result.andThen, hload]) rfl ⟨rfl, M5.out.kp⟩
theorem an_zero : ZeroIs Tryz.prog 30 ansZ := fun w => by simp [go_sem]; rfl
section
variable {w0 w : World} {b n : Nat} {rp va : Value} {X L : List Nat} {E : ErS}
def EtOut (w0 w : World) (b : Nat) (rp va : Value) (X : List Nat) (E' : ErS) (n : Nat) (L : List Nat) (w' : World) : Prop := ∃ X', Et w0 w' b rp va X' E' n L ∧ Keep X w w' ∧ ∀ x ∈ X', x ∈ X ∨ w.heap.size ≤ x
theorem clean_is {E : ErS} {P : ReS} {r : NrR} {v : Bool} (hr : nextR P = r) (hv : (decide (r.k = 3) && ((reRest r.p).isEmpty && !E.head.cl)) = v) : erClean E P = v := by
  unfold erClean; rw [hr, clean_str]; exact hv
set_option maxRecDepth 100000 in
set_option maxHeartbeats 3200000 in
theorem er_isClean (h : Et w0 w b rp va X E n L) (hm : ML w0) (hn : n ≤ 400000) {P : ReS} (hP : E.rep = some P) : Calls Tryz.prog 155 #[.pointer (some ⟨b, 0, Option.none⟩)] w fun e w' => e = .returned (.bool (erClean E P)) ∧ EtOut w0 w b rp va X { E with rep := some (nextR P).p } n L w' := by
  have c0 := h.blk.get (g_rep E rp va); obtain ⟨p, hrp, hR⟩ := h.reply hP; obtain ⟨⟨P1, k1, ⟨st1, F1, len1, ch1, cl1⟩, s1⟩, hr⟩ : ∃ r, nextR P = r := ⟨_, rfl⟩
  have HX := Lib.hid (rp_next hR hm hn hr); unfold NpOut at HX; dsimp only at HX; obtain ⟨v, hv⟩ : ∃ v, (decide (k1 = 3) && ((reRest P1).isEmpty && !E.head.cl)) = v := ⟨_, rfl⟩
  have HV := Lib.hid (clean_is (E := E) hr hv); have H := Lib.hid h; have HP := Lib.hid hP; have HRP := Lib.hid hrp; have HPE := Lib.hid hr; rw [hrp] at c0; clear h hP hR hrp hr hm; rw [HV.out, HPE.out]; clear HV; dsimp only; go_enter Tryz.func155, Tryz.ntmps155; go_wp2_with fail; refine HX.out.mono ?_; rintro e w1 ⟨sa1, sl1, sc1, X1, rfl, hR1, kX, hsub, _, _⟩; have H1 := Lib.hid (H.out.called HP.out HRP.out hR1 kX); have M1 : Hid (MemK w1 [] w0 w1 [(b, 106, ({ E with rep := some P1 } : ErS).cells rp va)]) := Lib.hid (MemK.of H1.out.mem.1 []); have HO := Lib.hid (ansC_one st1 (v := .slice sa1 sl1 sc1) len1 ch1 cl1 rfl); have KX := Lib.hid kX; have HSub := Lib.hid hsub; clear hR1 kX hsub c0 HX
  go_upto_region 2 with (first | ((with_reducible refine gA 4 ?_); refine wpList_allocK rfl 30 rfl (ansZ) (Lib.hid an_zero) M1 ?_; intro c w2 M2 hnewc; try simp only [Act.put, sqA, sqB, sqC]) | ((with_reducible refine gS 4 14 ?_); refine wpList_storeK rfl 30 (.tmp 4) (.tmp 14) rfl M2 0 rfl (by rfl) (ansC st1 (.slice sa1 sl1 sc1) len1 ch1 cl1) (by rfl) ans_size rfl HO.out (fun hlt => absurd hnewc.out (by omega)) ?_; intro w3 M3; try simp only [Act.put]) | fail)
  have H3 := Lib.hid (H1.out.keep0 M3.out.2); have c0 := M3.out.get 1 rfl 0 (g_rep _ _ _); have c7 := M3.out.get 1 rfl 7 (g_cl _ _ _); have hcl : ({ E with rep := some P1 } : ErS).head.cl = E.head.cl := rfl; rw [HRP.out] at c0; rw [hcl] at c7; clear hcl; obtain ⟨p', hp', hR'⟩ := H3.out.reply (P := P1) rfl; obtain rfl : p' = p := by simpa using hp'.symm.trans HRP.out
  have HQ := Lib.hid (rp_rest hR'); have HE : Hid (EtOut w0 w b rp va X { E with rep := some P1 } n L w3) := Lib.hid ⟨X1, H3.out, KX.out.trans' M3.out.2 (by simp), HSub.out⟩; clear hp' hR' H1 M1 H M2; generalize reRest P1 = l at *; generalize E.head.cl = cl at *; by_cases hk : k1 = 3
  · have e1 := (int_eq hk).1; rw [decide_eq_true hk] at hv; clear hk
    cases hl : l.isEmpty with
    | true =>
      have te : (S l).toList.isEmpty = true := by rw [S_toList]; exact hl
      obtain rfl : (!cl) = v := by simpa [hl] using hv
      clear hv hl; go_wp2_with (first | (go_at_call 156; refine HQ.out.mono ?_; rintro e w' ⟨rfl, rfl⟩) | fail); go_ret; exact ⟨rfl, HE.out⟩
    | false =>
      have te : (S l).toList.isEmpty = false := by rw [S_toList]; exact hl
      obtain rfl : false = v := by simpa [hl] using hv
      clear hv hl; go_wp2_with (first | (go_at_call 156; refine HQ.out.mono ?_; rintro e w' ⟨rfl, rfl⟩) | fail); go_ret; exact ⟨rfl, HE.out⟩
  · have e1 := (int_ne hk).1; obtain rfl : false = v := by simpa [hk] using hv
    clear hv hk; go_wp2_with fail; go_ret; exact ⟨rfl, HE.out⟩
end
end Go.Proofs.YtlhnjkekjbbhcaaGreatDoor
