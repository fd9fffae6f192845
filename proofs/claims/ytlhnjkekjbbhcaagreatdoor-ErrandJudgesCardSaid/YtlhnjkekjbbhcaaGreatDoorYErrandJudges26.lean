/- Parts of the proof of ErrandJudges, in order. No conditions but those that each theorem states. -/
import Derived.Test.YtlhnjkekjbbhcaaGreatDoorYErrandJudges0
import Derived.Lib.SlBytesConst
import Derived.Lib.LaidTab
import Derived.Lib.ItoaNum
import Derived.Lib.ItoaLen
import Derived.Sort.Grow
import Derived.Deep.MidRow
import Derived.DeepKeys4
import Derived.Test.YtlhnjkekjbbhcaaGreatDoorYErrandJudges21
namespace Go.Proofs.YtlhnjkekjbbhcaaGreatDoor
open Go.RowKit Go.Shelf
set_option maxRecDepth 100000 in
set_option maxHeartbeats 4000000 in
theorem ref24_Judge (k : Ky) (t : Tk) (a : Ans) (va : Value) (x : Int) (w : World) (ha : AnIn w va a.F) :
    Calls Tryz.prog 13 #[.agg k.cells.toArray, .agg t.cells.toArray, .agg (ansC a.st va a.len a.ch a.cl).toArray, .int .i64 x] w fun e w' => e = judgeO k t a x ∧ Keep [] w w' := by
  have M0 := Lib.hid (Mem.nil w); have HBB := Lib.hid bd_rsBad; have HB0 := Lib.hid bd_rs0; have HB4 := Lib.hid (bd_rs404 x); have HB3 := Lib.hid (bd_rs 304 t.dig t.typ t.size x); have HTy := Lib.hid (fun w' (kk : Keep [] w w') => ref24_Type a.st va a.F a.len a.ch a.cl w' (ha.keep kk)); have hdc : getV a.F dcdL = getV a.F dcdB ∧ getN a.F dcdL = getN a.F dcdB := getS_low (n := dcdL) (m := dcdB) (by decide) a.F; have hGt := fun w' (kk : Keep [] w w') => show Calls Tryz.prog 52 #[va, .string ⟨#[100, 111, 99, 107, 101, 114, 45, 99, 111, 110, 116, 101, 110, 116, 45, 100, 105, 103, 101, 115, 116]⟩] w' (GetOut w' a.F dcdL) from (ha.keep kk).ref (n := dcdL) (by decide)
  have hvl := getV_le (n := dcdB) ha.vl; obtain ⟨od, hod⟩ : ∃ z, shownM a = z := ⟨_, rfl⟩
  obtain ⟨n, hn⟩ : ∃ z, getN a.F dcdB = z := ⟨_, rfl⟩
  obtain ⟨d, hd⟩ : ∃ z, od.getD zeroD = z := ⟨_, rfl⟩
  obtain ⟨dv, hdv⟩ : ∃ z, getV a.F dcdB = z := ⟨_, rfl⟩
  have hBh := fun w' => refBehind_is (s := getV a.F dcdB) rfl hvl w'
  rw [show behindO (getV a.F dcdB) = od from hod, hd, hdv] at hBh; unfold GetOut at hGt; rw [hdc.1, hdc.2, hn, hdv] at hGt; have f1 := fun d h1 h2 h3 => @found_1 k a x d h1 h2 h3
  have f3 := @found_3 k a x; have fb := @found_bad k a x; rw [hn, hod] at f3 fb; simp only [hn, hod] at f1; have hsz : sizM a.len = if a.len < 0 ∨ 1048576 < a.len then 0 else a.len := rfl
  have HSZ := Lib.hid hsz; clear hn hod ha hdc hvl hdv hsz; generalize typM a.F = ty at *; have hac0 : (ansC a.st va a.len a.ch a.cl)[0]? = some (.int .i64 a.st) := rfl; have hac1 : (ansC a.st va a.len a.ch a.cl)[1]? = some va := rfl; have hac2 : (ansC a.st va a.len a.ch a.cl)[2]? = some (.int .i64 a.len) := rfl; have hacs := an_size a.st va a.len a.ch a.cl; generalize ansC a.st va a.len a.ch a.cl = ac at *; have HAS := Lib.hid hacs; have HA0 := Lib.hid hac0; have HA1 := Lib.hid hac1; have HA2 := Lib.hid hac2; have HGt := Lib.hid hGt; have HBh := Lib.hid hBh; obtain ⟨sz, hz⟩ : ∃ z, sizM a.len = z := ⟨_, rfl⟩
  rw [hz] at HSZ; simp only [hz] at f1 f3; have HB := Lib.hid (bd_rs 200 k.dig ty sz x); clear hacs hac0 hac1 hac2 hGt hBh hz; go_enter Tryz.func13, Tryz.ntmps13
  go_upto_region 2 with (first | ((with_reducible refine gX 4 ?_); refine wpList_boxM rfl 25 (.tmp 0) rfl (k.cells) (by rfl) M0 ?_; intro b4 w1 M1 _ _; try simp only [Act.put, sqA, sqB, sqC]) | ((with_reducible refine gX 5 ?_); refine wpList_boxM rfl 27 (.tmp 1) rfl (t.cells) (by rfl) M1 ?_; intro b5 w2 M2 _ _; try simp only [Act.put, sqA, sqB, sqC]) | ((with_reducible refine gX 6 ?_); refine wpList_boxM rfl 30 (.tmp 2) rfl (ac) (by rfl) M2 ?_; intro b6 w3 M3 _ _; try simp only [Act.put, sqA, sqB, sqC]) | ((with_reducible refine gA 9 ?_); refine wpList_allocM rfl 39 rfl (rs0.cells) (Lib.hid rs_zero) M3 ?_; intro b9 w4 M4 _ _; have e2 := M4.out.get 1 rfl 2 HA2.out; try simp only [Act.put, sqA, sqB, sqC]) | fail)
  clear e2; obtain ⟨bad, hbad⟩ : ∃ z, decide (a.len < 0 ∨ 1048576 < a.len) = z := ⟨_, rfl⟩
  have HBD := Lib.hid hbad; clear hbad
  go_cut [23] (fun v wx => v = .bool bad ∧ w4 = wx)
  case first =>
    by_cases l1 : a.len < 0
    · go_wp2_with fail; go_meet; exact ⟨by rw [← HBD.out, decide_eq_true (.inl l1)], rfl⟩
    · by_cases l2 : 1048576 < a.len
      · go_wp2_with fail; go_meet; exact ⟨by rw [← HBD.out, decide_eq_true (.inr l2)], rfl⟩
      · go_wp2_with fail; go_meet; exact ⟨by rw [← HBD.out, decide_eq_false (by omega)], rfl⟩
  case rest =>
   obtain ⟨rfl, rfl⟩ := hcut
   go_upto_if 23 with fail
   go_cut [10] (fun v wx => v = .int .i64 sz ∧ w4 = wx)
   case first =>
    have hz := HSZ.out
    cases bad with
    | true =>
      rw [if_pos (by simpa using HBD.out)] at hz; have HZ := Lib.hid hz; clear hz; go_wp2_with fail; go_meet; exact ⟨by rw [HZ.out], rfl⟩
    | false =>
      rw [if_neg (by have := of_decide_eq_false HBD.out; exact this)] at hz; have HZ := Lib.hid hz; clear hz; go_wp2_with fail; go_meet; exact ⟨by rw [HZ.out], rfl⟩
   case rest =>
    obtain ⟨rfl, rfl⟩ := hcut; have e1 := M4.out.get 1 rfl 1 HA1.out; go_wp2_with fail; refine (HGt.out _ M4.out.kp).mono ?_; rintro e w5 ⟨rfl, k5⟩; have M5 := Lib.hid (M4.out.keep0 k5); clear k5 e1; go_wp2_with fail; refine (HBh.out _).mono ?_; rintro e w6 ⟨rfl, k6⟩; have M6 := Lib.hid (M5.out.keep0 k6); clear k6
    go_upto_region 6 with (first | ((with_reducible refine gA 13 ?_); refine wpList_allocM rfl 23 rfl (digC zeroD) (Lib.hid dig_zero) M6 ?_; intro b13 w7 M7 _ _; try simp only [Act.put, sqA, sqB, sqC]) | ((with_reducible refine gS 13 33 ?_); refine wpList_storeM rfl 23 (.tmp 13) (.tmp 33) rfl M7 0 rfl (by rfl) (digC d) (by rfl) (dig_size _) (by rw [digC_length, digC_length]) (dig_one _) ?_; intro w8 M8 _; try simp only [Act.put]) | fail)
    have M8 : Hid (Mem w w8 [(b13, 23, digC d), (b9, 39, rs0.cells), (b6, 30, ac), (b5, 27, t.cells), (b4, 25, k.cells)]) := M8
    go_cut [15] (fun v wx => ∃ c, v = .pointer (some ⟨c, 0, none⟩) ∧ Hid (Mem w wx ((c, 39, (⟨200, k.dig, ty, sz, x⟩ : Rs).cells) :: [(b13, 23, digC d), (b9, 39, rs0.cells), (b6, 30, ac), (b5, 27, t.cells), (b4, 25, k.cells)])))
    case first =>
      refine wp_region_noPanic ?_; refine wp_region_held_drew (S := fun w' => Mem w w' [(b13, 23, digC d), (b9, 39, rs0.cells), (b6, 30, ac), (b5, 27, t.cells), (b4, 25, k.cells)]) (by kernel_rfl) ((Lib.hid (M8.out.keep0 ((Keep.refl _ _).drew))).out) (fun hHeld => ?_); have M8d := Lib.hid (M8.out.keep0 ((Keep.refl _ _).drew)); refine gU 0 (oi := ⟨some 35, .fieldAddr _ (.tmp 4) 3, _, _, _, none⟩) (v := ?_) rfl (Or.inl ⟨by rfl, ?_⟩) (by assumption) ?_; rotate_left
      · (intro w' hSw; go_simp) <;> (with_reducible rfl)
      (try simp only [Act.put, sqA, sqC, sqB]); refine gU 1 (oi := ⟨some 36, .load _ (.tmp 35), _, _, _, none⟩) rfl (yieldsIf_load_mid (by rfl) 23 (.tmp 35) rfl _ 3 (by rfl) (digC k.dig) _ (fun w' hSw => fun j v hj => ((hSw).blk 4 (by rfl)).get ((k.at_dig) j v hj)) Tryz.underlying23 rfl (dig_size _)) (by assumption) ?_; (try simp only [Act.put, sqA, sqC, sqB]); refine gU 2 (oi := ⟨some 37, .load _ (.tmp 6), _, _, _, none⟩) rfl (yieldsIf_load_mid (by rfl) 30 (.tmp 6) rfl _ 0 (by rfl) (ac) _ (fun w' hSw => ((hSw).blk 2 (by rfl)).range') Tryz.underlying30 rfl HAS.out) (by assumption) ?_; (try simp only [Act.put, sqA, sqC, sqB]); refine gU 4 (oi := ⟨some 39, .move (.tmp 10), _, _, _, none⟩) (v := ?_) rfl (Or.inl ⟨by rfl, ?_⟩) (by assumption) ?_; rotate_left
      · (intro w' hSw; go_simp) <;> (with_reducible rfl)
      (try simp only [Act.put, sqA, sqC, sqB]); refine gU 5 (oi := ⟨some 40, .move (.tmp 3), _, _, _, none⟩) (v := ?_) rfl (Or.inl ⟨by rfl, ?_⟩) (by assumption) ?_; rotate_left
      · (intro w' hSw; go_simp) <;> (with_reducible rfl)
      (try simp only [Act.put, sqA, sqC, sqB]); refine wpAnyH_ready (rs := [3, 7]) (by kernel_rfl) (by simp) (AllReadyH.cons rfl (fun K hK => ?_) (AllReadyH.cons rfl (fun K hK => ?_) AllReadyH.nil))
      · go_simp; refine (HTy.out _ M8d.out.kp).mono ?_; rintro e wr1 ⟨rfl, kR⟩; have MR1 := Lib.hid (M8d.out.keep0 kR); clear kR; (try go_simp); refine hK.out _ _ (MR1.out) (fun hHeld => ?_); clear hK K; (try simp only [Act.put, sqA, sqC, sqB]); refine gU 6 (oi := ⟨some 41, _, _, _, _, none⟩) rfl (yieldsIf_buildM (by rfl) 39 _ rfl ([(0, .int .i64 200), (1, .agg (digC k.dig).toArray), (2, .string (S ty)), (3, .int .i64 sz), (4, .int .i64 x)]) (by simp [Act.eval]) ((⟨200, k.dig, ty, sz, x⟩ : Rs).cells) HB) (by assumption) ?_; (try simp only [Act.put, sqA, sqC, sqB]); refine gR 7 rfl (fun K hK => ?_); rw [if_pos (by rfl)]; refine wp_allocM 39 rfl (rs0.cells) (Lib.hid rs_zero) MR1 ?_; intro c2 wr2 MR2; refine hK.out _ _ ((Mem.tail MR2.out)) (fun hHeld => ?_); clear hK K; (try simp only [Act.put, sqA]); refine gR 8 rfl (fun K hK => ?_); rw [if_pos (by rfl)]; refine wp_storeM 39 (.tmp 15) (.tmp 41) rfl MR2 0 rfl (by rfl) ((⟨200, k.dig, ty, sz, x⟩ : Rs).cells) (by rfl) (rs_size _) (by rw [Rs.len, Rs.len]) (Rs.one _) ?_; intro wr3 MR3; refine hK.out _ _ ((Mem.tail MR3.out)) (fun hHeld => ?_); clear hK K; (try simp only [Act.put]); refine wpAnyH_done (by kernel_rfl) ?_ _; refine NoPanic.normal ?_; go_simp; go_wp2_with fail; go_meet; exact ⟨c2, rfl, MR3⟩
      · rw [if_pos (by rfl)]; refine wp_allocM 39 rfl (rs0.cells) (Lib.hid rs_zero) M8d ?_; intro c4 wr4 MR4; refine hK.out _ _ ((Mem.tail MR4.out)) (fun hHeld => ?_); clear hK K; (try simp only [Act.put, sqA]); refine gR 3 rfl (fun K hK => ?_); go_simp; refine (HTy.out _ MR4.out.kp).mono ?_; rintro e wr5 ⟨rfl, kR⟩; have MR5 := Lib.hid (MR4.out.keep0 kR); clear kR; (try go_simp); refine hK.out _ _ ((Mem.tail MR5.out)) (fun hHeld => ?_); clear hK K; (try simp only [Act.put, sqA, sqC, sqB]); refine gU 6 (oi := ⟨some 41, _, _, _, _, none⟩) rfl (yieldsIf_buildM (by rfl) 39 _ rfl ([(0, .int .i64 200), (1, .agg (digC k.dig).toArray), (2, .string (S ty)), (3, .int .i64 sz), (4, .int .i64 x)]) (by simp [Act.eval]) ((⟨200, k.dig, ty, sz, x⟩ : Rs).cells) HB) (by assumption) ?_; (try simp only [Act.put, sqA, sqC, sqB]); refine gR 8 rfl (fun K hK => ?_); rw [if_pos (by rfl)]; refine wp_storeM 39 (.tmp 15) (.tmp 41) rfl MR5 0 rfl (by rfl) ((⟨200, k.dig, ty, sz, x⟩ : Rs).cells) (by rfl) (rs_size _) (by rw [Rs.len, Rs.len]) (Rs.one _) ?_; intro wr6 MR6; refine hK.out _ _ ((Mem.tail MR6.out)) (fun hHeld => ?_); clear hK K; (try simp only [Act.put, sqA]); refine wpAnyH_done (by kernel_rfl) ?_ _; refine NoPanic.normal ?_; go_simp; go_wp2_with fail; go_meet; exact ⟨c4, rfl, MR6⟩
    case rest =>
      obtain ⟨c, rfl, M9⟩ := hcut; clear HTy HGt HBh HSZ; have c0 := M9.out.get 3 rfl 0 HA0.out; have g0 := M9.out.get 5 rfl 0 rfl; have g2 := M9.out.get 4 rfl 2 (tk_found t); by_cases hs : a.st = 404
      · skip; have s404 := (int_eq hs).1; have s429 := (int_ne (show a.st ≠ 429 by omega)).1; have s200 := (int_ne (show a.st ≠ 200 by omega)).1; have s304 := (int_ne (show a.st ≠ 304 by omega)).1; have s5 : ¬ 500 ≤ a.st := by omega
        have HR := Lib.hid (judgeO_of (k := k) (t := t) (a := a) (x := x) (judge_404 hs)); clear hs
        go_wp2_with (first | ((with_reducible refine gB 47 ?_); refine wpList_buildM (by rfl) 39 _ rfl ([(0, .int .i64 404), (4, .int .i64 x)]) (by simp [Act.eval]) ((⟨404, zeroD, [], 0, x⟩ : Rs).cells) HB4 ?_; try simp only [Act.put, sqA, sqB, sqC]) | ((with_reducible refine gS 9 47 ?_); refine wpList_storeM rfl 39 (.tmp 9) (.tmp 47) rfl M9 2 rfl (by rfl) ((⟨404, zeroD, [], 0, x⟩ : Rs).cells) (by rfl) (rs_size _) (by rw [Rs.len, Rs.len]) (Rs.one _) ?_; intro wA MA _; try simp only [Act.put]) | fail); have hload := rs_end MA.out 2 rfl; rw [HR.out]; refine bodyPost_ret (v := .tuple #[.int .i64 1, .agg (⟨404, zeroD, [], 0, x⟩ : Rs).cells.toArray]) (by simp [results, Tryz.results13, asAddr, Result.andThen, hload]) rfl ⟨rfl, MA.out.kp⟩
      · by_cases hs4 : a.st = 429
        · have hs := hs4; have s404 := (int_ne (show a.st ≠ 404 by omega)).1; have s429 := (int_eq hs).1; have s200 := (int_ne (show a.st ≠ 200 by omega)).1; have s304 := (int_ne (show a.st ≠ 304 by omega)).1; have s5 : ¬ 500 ≤ a.st := by omega
          have HR := Lib.hid (judgeO_of (k := k) (t := t) (a := a) (x := x) (judge_again (.inl hs))); clear hs hs4
          go_wp2_with (first | ((with_reducible refine gB 62 ?_); refine wpList_buildM (by rfl) 39 _ rfl ([]) (by simp [Act.eval]) (rs0.cells) HB0 ?_; try simp only [Act.put, sqA, sqB, sqC]) | ((with_reducible refine gS 9 62 ?_); refine wpList_storeM rfl 39 (.tmp 9) (.tmp 62) rfl M9 2 rfl (by rfl) (rs0.cells) (by rfl) (rs_size _) rfl (Rs.one _) ?_; intro wA MA _; try simp only [Act.put]) | fail); have hload := rs_end MA.out 2 rfl; rw [HR.out]; refine bodyPost_ret (v := .tuple #[.int .i64 2, .agg (rs0).cells.toArray]) (by simp [results, Tryz.results13, asAddr, Result.andThen, hload]) rfl ⟨rfl, MA.out.kp⟩
        · by_cases hs5 : 500 ≤ a.st ∧ a.st ≤ 599
          · skip; have s404 := (int_ne (show a.st ≠ 404 by omega)).1; have s429 := (int_ne (show a.st ≠ 429 by omega)).1; have s200 := (int_ne (show a.st ≠ 200 by omega)).1; have s304 := (int_ne (show a.st ≠ 304 by omega)).1; have s5 : 500 ≤ a.st := by omega
            have s6 : a.st ≤ 599 := by omega
            have HR := Lib.hid (judgeO_of (k := k) (t := t) (a := a) (x := x) (judge_again (.inr hs5))); clear hs hs4 hs5
            go_wp2_with (first | ((with_reducible refine gB 62 ?_); refine wpList_buildM (by rfl) 39 _ rfl ([]) (by simp [Act.eval]) (rs0.cells) HB0 ?_; try simp only [Act.put, sqA, sqB, sqC]) | ((with_reducible refine gS 9 62 ?_); refine wpList_storeM rfl 39 (.tmp 9) (.tmp 62) rfl M9 2 rfl (by rfl) (rs0.cells) (by rfl) (rs_size _) rfl (Rs.one _) ?_; intro wA MA _; try simp only [Act.put]) | fail); have hload := rs_end MA.out 2 rfl; rw [HR.out]; refine bodyPost_ret (v := .tuple #[.int .i64 2, .agg (rs0).cells.toArray]) (by simp [results, Tryz.results13, asAddr, Result.andThen, hload]) rfl ⟨rfl, MA.out.kp⟩
          · by_cases hs2 : a.st = 200
            · have hs := hs2; by_cases k2 : k.kind = 2
              · have q2 := (int_eq k2).1; have q1 := (int_ne (show k.kind ≠ 1 by omega)).1; have q3 := (int_ne (show k.kind ≠ 3 by omega)).1; have s404 := (int_ne (show a.st ≠ 404 by omega)).1; have s429 := (int_ne (show a.st ≠ 429 by omega)).1; have s200 := (int_eq hs).1; have s304 := (int_ne (show a.st ≠ 304 by omega)).1; have s5 : ¬ 500 ≤ a.st := by omega
                have HR := Lib.hid (judgeO_of (k := k) (t := t) (a := a) (x := x) (judge_body hs k2)); clear hs hs2 hs4 hs5 k2
                go_wp2_with (first | ((with_reducible refine gB 72 ?_); refine wpList_buildM (by rfl) 39 _ rfl ([]) (by simp [Act.eval]) (rs0.cells) HB0 ?_; try simp only [Act.put, sqA, sqB, sqC]) | ((with_reducible refine gS 9 72 ?_); refine wpList_storeM rfl 39 (.tmp 9) (.tmp 72) rfl M9 2 rfl (by rfl) (rs0.cells) (by rfl) (rs_size _) rfl (Rs.one _) ?_; intro wA MA _; try simp only [Act.put]) | fail); have hload := rs_end MA.out 2 rfl; rw [HR.out]; refine bodyPost_ret (v := .tuple #[.int .i64 3, .agg (rs0).cells.toArray]) (by simp [results, Tryz.results13, asAddr, Result.andThen, hload]) rfl ⟨rfl, MA.out.kp⟩
              · have q2 := (int_ne k2).1; have s404 := (int_ne (show a.st ≠ 404 by omega)).1; have s429 := (int_ne (show a.st ≠ 429 by omega)).1; have s200 := (int_eq hs).1; have s304 := (int_ne (show a.st ≠ 304 by omega)).1; have s5 : ¬ 500 ≤ a.st := by omega
                have HJ := judge_found (t := t) (x := x) hs k2; clear hs hs2 hs4 hs5; by_cases k1 : k.kind = 1
                · have q1 := (int_eq k1).1; have q3 := (int_ne (show k.kind ≠ 3 by omega)).1; by_cases n1 : n = 1
                  · have r1 := (int_eq (show (n : Int) = 1 by omega)).1
                    cases od with
                    | some y =>
                      have hx : y = d := hd; have HR := Lib.hid (judgeO_of (x := x) (t := t) (show judgeV k a = 1 ∧ judgeR k t a x = _ from ⟨HJ.1, HJ.2.trans (show foundM k a x = ⟨200, d, ty, sz, x⟩ by rw [← hx]; exact f1 y k1 n1 rfl)⟩)); clear HJ f1 f3 fb k1 k2 n1 hd hx
                      go_wp2_with (first | ((with_reducible refine gL 89 13 ?_); refine wpList_loadM (by rfl) 23 (.tmp 13) rfl M9 1 rfl (by rfl) _ Tryz.underlying23 rfl (dig_size _) ?_; try simp only [Act.put, sqA, sqB, sqC]) | ((with_reducible refine gS 90 89 ?_); refine wpList_storePart rfl 23 (.tmp 90) (.tmp 89) rfl M9 0 rfl 1 (by rfl) (digC d) (by rfl) (dig_size _) ([.int .i64 200]) (digC k.dig) ([.string (S ty), .int .i64 sz, .int .i64 x]) rfl (by simp [digC_length]) (by rfl) (dig_one _) ?_; intro wA MA _; try simp only [Act.put]) | fail); refine wp_region_noPanic ?_; refine wp_region_held_drew (S := fun w' => ∃ cs, Mem w w' [(c, 39, (⟨200, d, ty, sz, x⟩ : Rs).cells), (b13, 23, digC d), (b9, 39, cs), (b6, 30, ac), (b5, 27, t.cells), (b4, 25, k.cells)]) (by kernel_rfl) (⟨_, (Lib.hid (MA.out.keep0 ((Keep.refl _ _).drew))).out⟩) (fun hHeld => ?_); have MAd := Lib.hid (MA.out.keep0 ((Keep.refl _ _).drew)); refine gU 1 (oi := ⟨some 8, .assign _, _, _, _, none⟩) (v := ?_) rfl (Or.inl ⟨by rfl, ?_⟩) (by assumption) ?_; rotate_left
                      · (intro w' hSw; go_simp) <;> (with_reducible rfl)
                      (try simp only [Act.put, sqA, sqC, sqB]); refine gU 0 (oi := ⟨some 91, .load _ (.tmp 15), _, _, _, none⟩) rfl (yieldsIf_load_mid (by rfl) 39 (.tmp 15) rfl _ 0 (by rfl) ((⟨200, d, ty, sz, x⟩ : Rs).cells) _ (fun w' hSw => ((hSw.choose_spec).blk 0 (by rfl)).range') Tryz.underlying39 rfl (rs_size (⟨200, d, ty, sz, x⟩ : Rs))) (by assumption) ?_; (try simp only [Act.put, sqA, sqC, sqB]); refine gR 2 rfl (fun K hK => ?_); rw [if_pos (by rfl)]; refine wp_storeM 39 (.tmp 9) (.tmp 91) rfl MAd 2 rfl (by rfl) ((⟨200, d, ty, sz, x⟩ : Rs).cells) (by rfl) (rs_size _) (by rw [Rs.len, Rs.len]) (Rs.one _) ?_; intro wr1 MR1; refine hK.out _ _ (⟨_, MR1.out⟩) (fun hHeld => ?_); clear hK K; (try simp only [Act.put, sqA]); refine wpAnyH_done (by kernel_rfl) ?_ _; refine NoPanic.normal ?_; go_wp2_with fail; have hload := rs_end MR1.out 2 rfl; rw [HR.out]; refine bodyPost_ret (v := .tuple #[.int .i64 1, .agg (⟨200, d, ty, sz, x⟩ : Rs).cells.toArray]) (by simp [results, Tryz.results13, asAddr, Result.andThen, hload]) rfl ⟨rfl, MR1.out.kp⟩
                    | none =>
                      have HR := Lib.hid (judgeO_of (x := x) (t := t) (show judgeV k a = 1 ∧ judgeR k t a x = _ from ⟨HJ.1, HJ.2.trans (fb (by simp) (by omega))⟩)); clear HJ f1 f3 fb k1 k2 n1 hd
                      go_wp2_with (first | ((with_reducible refine gL 107 13 ?_); refine wpList_loadM (by rfl) 23 (.tmp 13) rfl M9 1 rfl (by rfl) _ Tryz.underlying23 rfl (dig_size _) ?_; try simp only [Act.put, sqA, sqB, sqC]) | ((with_reducible refine gL 109 108 ?_); refine wpList_loadPart (by rfl) 23 (.tmp 108) rfl M9 5 rfl 3 (by rfl) (digC k.dig) k.at_dig _ Tryz.underlying23 rfl (dig_size _) ?_; try simp only [Act.put, sqA, sqB, sqC]) | ((with_reducible refine gB 136 ?_); refine wpList_buildM (by rfl) 39 _ rfl ([(0, .int .i64 502)]) (by simp [Act.eval]) (rsBad.cells) HBB ?_; try simp only [Act.put, sqA, sqB, sqC]) | ((with_reducible refine gS 9 136 ?_); refine wpList_storeM rfl 39 (.tmp 9) (.tmp 136) rfl M9 2 rfl (by rfl) (rsBad.cells) (by rfl) (rs_size _) (by rw [Rs.len, Rs.len]) (Rs.one _) ?_; intro wA MA _; try simp only [Act.put]) | fail); have hload := rs_end MA.out 2 rfl; rw [HR.out]; refine bodyPost_ret (v := .tuple #[.int .i64 1, .agg (rsBad).cells.toArray]) (by simp [results, Tryz.results13, asAddr, Result.andThen, hload]) rfl ⟨rfl, MA.out.kp⟩
                  · have r1 := (int_ne (show (n : Int) ≠ 1 by omega)).1; have HR := Lib.hid (judgeO_of (x := x) (t := t) (show judgeV k a = 1 ∧ judgeR k t a x = _ from ⟨HJ.1, HJ.2.trans (fb (by omega) (by omega))⟩)); clear HJ f1 f3 fb k1 k2 n1 hd
                    go_wp2_with (first | ((with_reducible refine gL 107 13 ?_); refine wpList_loadM (by rfl) 23 (.tmp 13) rfl M9 1 rfl (by rfl) _ Tryz.underlying23 rfl (dig_size _) ?_; try simp only [Act.put, sqA, sqB, sqC]) | ((with_reducible refine gL 109 108 ?_); refine wpList_loadPart (by rfl) 23 (.tmp 108) rfl M9 5 rfl 3 (by rfl) (digC k.dig) k.at_dig _ Tryz.underlying23 rfl (dig_size _) ?_; try simp only [Act.put, sqA, sqB, sqC]) | ((with_reducible refine gB 136 ?_); refine wpList_buildM (by rfl) 39 _ rfl ([(0, .int .i64 502)]) (by simp [Act.eval]) (rsBad.cells) HBB ?_; try simp only [Act.put, sqA, sqB, sqC]) | ((with_reducible refine gS 9 136 ?_); refine wpList_storeM rfl 39 (.tmp 9) (.tmp 136) rfl M9 2 rfl (by rfl) (rsBad.cells) (by rfl) (rs_size _) (by rw [Rs.len, Rs.len]) (Rs.one _) ?_; intro wA MA _; try simp only [Act.put]) | fail); have hload := rs_end MA.out 2 rfl; rw [HR.out]; refine bodyPost_ret (v := .tuple #[.int .i64 1, .agg (rsBad).cells.toArray]) (by simp [results, Tryz.results13, asAddr, Result.andThen, hload]) rfl ⟨rfl, MA.out.kp⟩
                · have q1 := (int_ne k1).1; by_cases k3 : k.kind = 3
                  · have q3 := (int_eq k3).1; by_cases n0 : n = 0
                    · have r0 := (int_eq (show (n : Int) = 0 by omega)).1; have HR := Lib.hid (judgeO_of (x := x) (t := t) (show judgeV k a = 1 ∧ judgeR k t a x = _ from ⟨HJ.1, HJ.2.trans (f3 k3 (.inl n0))⟩)); clear HJ f1 f3 fb k1 k2 k3 n0 hd
                      go_wp2_with (first | ((with_reducible refine gL 107 13 ?_); refine wpList_loadM (by rfl) 23 (.tmp 13) rfl M9 1 rfl (by rfl) _ Tryz.underlying23 rfl (dig_size _) ?_; try simp only [Act.put, sqA, sqB, sqC]) | ((with_reducible refine gL 109 108 ?_); refine wpList_loadPart (by rfl) 23 (.tmp 108) rfl M9 5 rfl 3 (by rfl) (digC k.dig) k.at_dig _ Tryz.underlying23 rfl (dig_size _) ?_; try simp only [Act.put, sqA, sqB, sqC]) | fail); refine wp_region_noPanic ?_; refine wp_region_held_drew (S := fun w' => ∃ cs, Mem w w' [(c, 39, (⟨200, k.dig, ty, sz, x⟩ : Rs).cells), (b13, 23, digC d), (b9, 39, cs), (b6, 30, ac), (b5, 27, t.cells), (b4, 25, k.cells)]) (by kernel_rfl) (⟨_, (Lib.hid (M9.out.keep0 ((Keep.refl _ _).drew))).out⟩) (fun hHeld => ?_); have M9d := Lib.hid (M9.out.keep0 ((Keep.refl _ _).drew)); refine gU 1 (oi := ⟨some 8, .assign _, _, _, _, none⟩) (v := ?_) rfl (Or.inl ⟨by rfl, ?_⟩) (by assumption) ?_; rotate_left
                      · (intro w' hSw; go_simp) <;> (with_reducible rfl)
                      (try simp only [Act.put, sqA, sqC, sqB]); refine gU 0 (oi := ⟨some 114, .load _ (.tmp 15), _, _, _, none⟩) rfl (yieldsIf_load_mid (by rfl) 39 (.tmp 15) rfl _ 0 (by rfl) ((⟨200, k.dig, ty, sz, x⟩ : Rs).cells) _ (fun w' hSw => ((hSw.choose_spec).blk 0 (by rfl)).range') Tryz.underlying39 rfl (rs_size (⟨200, k.dig, ty, sz, x⟩ : Rs))) (by assumption) ?_; (try simp only [Act.put, sqA, sqC, sqB]); refine gR 2 rfl (fun K hK => ?_); rw [if_pos (by rfl)]; refine wp_storeM 39 (.tmp 9) (.tmp 114) rfl M9d 2 rfl (by rfl) ((⟨200, k.dig, ty, sz, x⟩ : Rs).cells) (by rfl) (rs_size _) (by rw [Rs.len, Rs.len]) (Rs.one _) ?_; intro wr1 MR1; refine hK.out _ _ (⟨_, MR1.out⟩) (fun hHeld => ?_); clear hK K; (try simp only [Act.put, sqA]); refine wpAnyH_done (by kernel_rfl) ?_ _; refine NoPanic.normal ?_; go_wp2_with fail; have hload := rs_end MR1.out 2 rfl; rw [HR.out]; refine bodyPost_ret (v := .tuple #[.int .i64 1, .agg (⟨200, k.dig, ty, sz, x⟩ : Rs).cells.toArray]) (by simp [results, Tryz.results13, asAddr, Result.andThen, hload]) rfl ⟨rfl, MR1.out.kp⟩
                    · have r0 := (int_ne (show (n : Int) ≠ 0 by omega)).1
                      cases od with
                      | none =>
                        have HR := Lib.hid (judgeO_of (x := x) (t := t) (show judgeV k a = 1 ∧ judgeR k t a x = _ from ⟨HJ.1, HJ.2.trans (fb (by omega) (by simp [n0]))⟩)); clear HJ f1 f3 fb k1 k2 k3 n0 hd
                        go_wp2_with (first | ((with_reducible refine gL 107 13 ?_); refine wpList_loadM (by rfl) 23 (.tmp 13) rfl M9 1 rfl (by rfl) _ Tryz.underlying23 rfl (dig_size _) ?_; try simp only [Act.put, sqA, sqB, sqC]) | ((with_reducible refine gL 109 108 ?_); refine wpList_loadPart (by rfl) 23 (.tmp 108) rfl M9 5 rfl 3 (by rfl) (digC k.dig) k.at_dig _ Tryz.underlying23 rfl (dig_size _) ?_; try simp only [Act.put, sqA, sqB, sqC]) | ((with_reducible refine gB 136 ?_); refine wpList_buildM (by rfl) 39 _ rfl ([(0, .int .i64 502)]) (by simp [Act.eval]) (rsBad.cells) HBB ?_; try simp only [Act.put, sqA, sqB, sqC]) | ((with_reducible refine gS 9 136 ?_); refine wpList_storeM rfl 39 (.tmp 9) (.tmp 136) rfl M9 2 rfl (by rfl) (rsBad.cells) (by rfl) (rs_size _) (by rw [Rs.len, Rs.len]) (Rs.one _) ?_; intro wA MA _; try simp only [Act.put]) | fail); have hload := rs_end MA.out 2 rfl; rw [HR.out]; refine bodyPost_ret (v := .tuple #[.int .i64 1, .agg (rsBad).cells.toArray]) (by simp [results, Tryz.results13, asAddr, Result.andThen, hload]) rfl ⟨rfl, MA.out.kp⟩
                      | some y =>
                        have hx : y = d := hd; by_cases he : d = k.dig
                        · have heq := fun w' => eqDg d k.dig w'
                          rw [decide_eq_true he] at heq; have HR := Lib.hid (judgeO_of (x := x) (t := t) (show judgeV k a = 1 ∧ judgeR k t a x = _ from ⟨HJ.1, HJ.2.trans (f3 k3 (.inr ⟨y, rfl, by rw [hx]; exact he⟩))⟩)); clear HJ f1 f3 fb k1 k2 k3 n0 hd hx he
                          go_wp2_with (first | ((with_reducible refine gL 107 13 ?_); refine wpList_loadM (by rfl) 23 (.tmp 13) rfl M9 1 rfl (by rfl) _ Tryz.underlying23 rfl (dig_size _) ?_; try simp only [Act.put, sqA, sqB, sqC]) | ((with_reducible refine gL 109 108 ?_); refine wpList_loadPart (by rfl) 23 (.tmp 108) rfl M9 5 rfl 3 (by rfl) (digC k.dig) k.at_dig _ Tryz.underlying23 rfl (dig_size _) ?_; try simp only [Act.put, sqA, sqB, sqC]) | fail); refine wp_region_noPanic ?_; refine wp_region_held_drew (S := fun w' => ∃ cs, Mem w w' [(c, 39, (⟨200, k.dig, ty, sz, x⟩ : Rs).cells), (b13, 23, digC d), (b9, 39, cs), (b6, 30, ac), (b5, 27, t.cells), (b4, 25, k.cells)]) (by kernel_rfl) (⟨_, (Lib.hid (M9.out.keep0 ((Keep.refl _ _).drew))).out⟩) (fun hHeld => ?_); have M9d := Lib.hid (M9.out.keep0 ((Keep.refl _ _).drew)); refine gU 1 (oi := ⟨some 8, .assign _, _, _, _, none⟩) (v := ?_) rfl (Or.inl ⟨by rfl, ?_⟩) (by assumption) ?_; rotate_left
                          · (intro w' hSw; go_simp) <;> (with_reducible rfl)
                          (try simp only [Act.put, sqA, sqC, sqB]); refine gU 0 (oi := ⟨some 114, .load _ (.tmp 15), _, _, _, none⟩) rfl (yieldsIf_load_mid (by rfl) 39 (.tmp 15) rfl _ 0 (by rfl) ((⟨200, k.dig, ty, sz, x⟩ : Rs).cells) _ (fun w' hSw => ((hSw.choose_spec).blk 0 (by rfl)).range') Tryz.underlying39 rfl (rs_size (⟨200, k.dig, ty, sz, x⟩ : Rs))) (by assumption) ?_; (try simp only [Act.put, sqA, sqC, sqB]); refine gR 2 rfl (fun K hK => ?_); rw [if_pos (by rfl)]; refine wp_storeM 39 (.tmp 9) (.tmp 114) rfl M9d 2 rfl (by rfl) ((⟨200, k.dig, ty, sz, x⟩ : Rs).cells) (by rfl) (rs_size _) (by rw [Rs.len, Rs.len]) (Rs.one _) ?_; intro wr1 MR1; refine hK.out _ _ (⟨_, MR1.out⟩) (fun hHeld => ?_); clear hK K; (try simp only [Act.put, sqA]); refine wpAnyH_done (by kernel_rfl) ?_ _; refine NoPanic.normal ?_; go_wp2_with fail; have hload := rs_end MR1.out 2 rfl; rw [HR.out]; refine bodyPost_ret (v := .tuple #[.int .i64 1, .agg (⟨200, k.dig, ty, sz, x⟩ : Rs).cells.toArray]) (by simp [results, Tryz.results13, asAddr, Result.andThen, hload]) rfl ⟨rfl, MR1.out.kp⟩
                        · have heq := fun w' => eqDg d k.dig w'
                          rw [decide_eq_false he] at heq
                          have HR := Lib.hid (judgeO_of (x := x) (t := t) (show judgeV k a = 1 ∧ judgeR k t a x = _ from ⟨HJ.1, HJ.2.trans (fb (by omega) (by
                                                      rintro ⟨_, h | ⟨_, h⟩⟩
                                                      · exact n0 h
                                                      · exact he (hx ▸ h)))⟩))
                          clear HJ f1 f3 fb k1 k2 k3 n0 hd hx he; go_wp2_with (first | ((with_reducible refine gL 107 13 ?_); refine wpList_loadM (by rfl) 23 (.tmp 13) rfl M9 1 rfl (by rfl) _ Tryz.underlying23 rfl (dig_size _) ?_; try simp only [Act.put, sqA, sqB, sqC]) | ((with_reducible refine gL 109 108 ?_); refine wpList_loadPart (by rfl) 23 (.tmp 108) rfl M9 5 rfl 3 (by rfl) (digC k.dig) k.at_dig _ Tryz.underlying23 rfl (dig_size _) ?_; try simp only [Act.put, sqA, sqB, sqC]) | ((with_reducible refine gB 136 ?_); refine wpList_buildM (by rfl) 39 _ rfl ([(0, .int .i64 502)]) (by simp [Act.eval]) (rsBad.cells) HBB ?_; try simp only [Act.put, sqA, sqB, sqC]) | ((with_reducible refine gS 9 136 ?_); refine wpList_storeM rfl 39 (.tmp 9) (.tmp 136) rfl M9 2 rfl (by rfl) (rsBad.cells) (by rfl) (rs_size _) (by rw [Rs.len, Rs.len]) (Rs.one _) ?_; intro wA MA _; try simp only [Act.put]) | fail); have hload := rs_end MA.out 2 rfl; rw [HR.out]; refine bodyPost_ret (v := .tuple #[.int .i64 1, .agg (rsBad).cells.toArray]) (by simp [results, Tryz.results13, asAddr, Result.andThen, hload]) rfl ⟨rfl, MA.out.kp⟩
                  · have q3 := (int_ne k3).1; have HR := Lib.hid (judgeO_of (x := x) (t := t) (show judgeV k a = 1 ∧ judgeR k t a x = _ from ⟨HJ.1, HJ.2.trans (fb (by omega) (by omega))⟩)); clear HJ f1 f3 fb k1 k2 k3 hd
                    go_wp2_with (first | ((with_reducible refine gL 107 13 ?_); refine wpList_loadM (by rfl) 23 (.tmp 13) rfl M9 1 rfl (by rfl) _ Tryz.underlying23 rfl (dig_size _) ?_; try simp only [Act.put, sqA, sqB, sqC]) | ((with_reducible refine gL 109 108 ?_); refine wpList_loadPart (by rfl) 23 (.tmp 108) rfl M9 5 rfl 3 (by rfl) (digC k.dig) k.at_dig _ Tryz.underlying23 rfl (dig_size _) ?_; try simp only [Act.put, sqA, sqB, sqC]) | ((with_reducible refine gB 136 ?_); refine wpList_buildM (by rfl) 39 _ rfl ([(0, .int .i64 502)]) (by simp [Act.eval]) (rsBad.cells) HBB ?_; try simp only [Act.put, sqA, sqB, sqC]) | ((with_reducible refine gS 9 136 ?_); refine wpList_storeM rfl 39 (.tmp 9) (.tmp 136) rfl M9 2 rfl (by rfl) (rsBad.cells) (by rfl) (rs_size _) (by rw [Rs.len, Rs.len]) (Rs.one _) ?_; intro wA MA _; try simp only [Act.put]) | fail); have hload := rs_end MA.out 2 rfl; rw [HR.out]; refine bodyPost_ret (v := .tuple #[.int .i64 1, .agg (rsBad).cells.toArray]) (by simp [results, Tryz.results13, asAddr, Result.andThen, hload]) rfl ⟨rfl, MA.out.kp⟩
            · by_cases hs3 : a.st = 304
              · have hs := hs3; by_cases k1 : k.kind = 1
                · have q1 := (int_eq k1).1; by_cases hf : t.found = true
                  · skip; have s404 := (int_ne (show a.st ≠ 404 by omega)).1; have s429 := (int_ne (show a.st ≠ 429 by omega)).1; have s200 := (int_ne (show a.st ≠ 200 by omega)).1; have s304 := (int_eq hs).1; have s5 : ¬ 500 ≤ a.st := by omega
                    have HR := Lib.hid (judgeO_of (k := k) (t := t) (a := a) (x := x) (judge_304 hs k1 hf)); clear hs hs2 hs3 hs4 hs5 k1; go_wp2_with fail; refine wp_region_noPanic ?_; refine wp_region_held_drew (S := fun w' => ∃ cs, Mem w w' [(c, 39, (⟨200, k.dig, ty, sz, x⟩ : Rs).cells), (b13, 23, digC d), (b9, 39, cs), (b6, 30, ac), (b5, 27, t.cells), (b4, 25, k.cells)]) (by kernel_rfl) (⟨_, (Lib.hid (M9.out.keep0 ((Keep.refl _ _).drew))).out⟩) (fun hHeld => ?_); have M9d := Lib.hid (M9.out.keep0 ((Keep.refl _ _).drew)); refine gU 8 (oi := ⟨some 8, .assign _, _, _, _, none⟩) (v := ?_) rfl (Or.inl ⟨by rfl, ?_⟩) (by assumption) ?_; rotate_left
                    · (intro w' hSw; go_simp) <;> (with_reducible rfl)
                    (try simp only [Act.put, sqA, sqC, sqB]); refine gU 0 (oi := ⟨some 128, .fieldAddr _ (.tmp 5) 3, _, _, _, none⟩) (v := ?_) rfl (Or.inl ⟨by rfl, ?_⟩) (by assumption) ?_; rotate_left
                    · (intro w' hSw; go_simp) <;> (with_reducible rfl)
                    (try simp only [Act.put, sqA, sqC, sqB]); refine gU 1 (oi := ⟨some 129, .load _ (.tmp 128), _, _, _, none⟩) rfl (yieldsIf_load_mid (by rfl) 23 (.tmp 128) rfl _ 3 (by rfl) (digC t.dig) _ (fun w' hSw => fun j v hj => ((hSw.choose_spec).blk 4 (by rfl)).get ((t.at_dig) j v hj)) Tryz.underlying23 rfl (dig_size _)) (by assumption) ?_; (try simp only [Act.put, sqA, sqC, sqB]); refine gU 2 (oi := ⟨some 130, .fieldAddr _ (.tmp 5) 4, _, _, _, none⟩) (v := ?_) rfl (Or.inl ⟨by rfl, ?_⟩) (by assumption) ?_; rotate_left
                    · (intro w' hSw; go_simp) <;> (with_reducible rfl)
                    (try simp only [Act.put, sqA, sqC, sqB]); refine gU 3 (oi := ⟨some 131, .load _ (.tmp 130), _, _, _, none⟩) (v := ?_) rfl (Or.inl ⟨by rfl, ?_⟩) (by assumption) ?_; rotate_left
                    · (intro w' hSw; have hy4 := hSw.choose_spec.get 4 rfl 35 t.at_typ; have hy5 := hSw.choose_spec.get 4 rfl 36 t.at_size; clear hSw; go_simp) <;> (with_reducible rfl)
                    (try simp only [Act.put, sqA, sqC, sqB]); refine gU 4 (oi := ⟨some 132, .fieldAddr _ (.tmp 5) 5, _, _, _, none⟩) (v := ?_) rfl (Or.inl ⟨by rfl, ?_⟩) (by assumption) ?_; rotate_left
                    · (intro w' hSw; go_simp) <;> (with_reducible rfl)
                    (try simp only [Act.put, sqA, sqC, sqB]); refine gU 5 (oi := ⟨some 133, .load _ (.tmp 132), _, _, _, none⟩) (v := ?_) rfl (Or.inl ⟨by rfl, ?_⟩) (by assumption) ?_; rotate_left
                    · (intro w' hSw; have hy4 := hSw.choose_spec.get 4 rfl 35 t.at_typ; have hy5 := hSw.choose_spec.get 4 rfl 36 t.at_size; clear hSw; go_simp) <;> (with_reducible rfl)
                    (try simp only [Act.put, sqA, sqC, sqB]); refine gU 6 (oi := ⟨some 134, .move (.tmp 3), _, _, _, none⟩) (v := ?_) rfl (Or.inl ⟨by rfl, ?_⟩) (by assumption) ?_; rotate_left
                    · (intro w' hSw; go_simp) <;> (with_reducible rfl)
                    (try simp only [Act.put, sqA, sqC, sqB]); refine gU 7 (oi := ⟨some 135, _, _, _, _, none⟩) rfl (yieldsIf_buildM (by rfl) 39 _ rfl ([(0, .int .i64 304), (1, .agg (digC t.dig).toArray), (2, .string (S t.typ)), (3, .int .i64 t.size), (4, .int .i64 x)]) (by simp [Act.eval]) ((⟨304, t.dig, t.typ, t.size, x⟩ : Rs).cells) HB3) (by assumption) ?_; (try simp only [Act.put, sqA, sqC, sqB]); refine gR 9 rfl (fun K hK => ?_); rw [if_pos (by rfl)]; refine wp_storeM 39 (.tmp 9) (.tmp 135) rfl M9d 2 rfl (by rfl) ((⟨304, t.dig, t.typ, t.size, x⟩ : Rs).cells) (by rfl) (rs_size _) (by rw [Rs.len, Rs.len]) (Rs.one _) ?_; intro wr1 MR1; refine hK.out _ _ (⟨_, MR1.out⟩) (fun hHeld => ?_); clear hK K; (try simp only [Act.put, sqA]); refine wpAnyH_done (by kernel_rfl) ?_ _; refine NoPanic.normal ?_; go_wp2_with fail; have hload := rs_end MR1.out 2 rfl; rw [HR.out]; refine bodyPost_ret (v := .tuple #[.int .i64 1, .agg (⟨304, t.dig, t.typ, t.size, x⟩ : Rs).cells.toArray]) (by simp [results, Tryz.results13, asAddr, Result.andThen, hload]) rfl ⟨rfl, MR1.out.kp⟩
                  · have hf2 : t.found = false := by simpa using hf
                    have s404 := (int_ne (show a.st ≠ 404 by omega)).1; have s429 := (int_ne (show a.st ≠ 429 by omega)).1; have s200 := (int_ne (show a.st ≠ 200 by omega)).1; have s304 := (int_eq hs).1; have s5 : ¬ 500 ≤ a.st := by omega
                    have HR := Lib.hid (judgeO_of (k := k) (t := t) (a := a) (x := x) (judge_bad (by omega) (by omega) (by omega) (fun h => hf h.2.2))); clear hs hs2 hs3 hs4 hs5 k1 hf
                    go_wp2_with (first | ((with_reducible refine gL 107 13 ?_); refine wpList_loadM (by rfl) 23 (.tmp 13) rfl M9 1 rfl (by rfl) _ Tryz.underlying23 rfl (dig_size _) ?_; try simp only [Act.put, sqA, sqB, sqC]) | ((with_reducible refine gL 109 108 ?_); refine wpList_loadPart (by rfl) 23 (.tmp 108) rfl M9 5 rfl 3 (by rfl) (digC k.dig) k.at_dig _ Tryz.underlying23 rfl (dig_size _) ?_; try simp only [Act.put, sqA, sqB, sqC]) | ((with_reducible refine gB 136 ?_); refine wpList_buildM (by rfl) 39 _ rfl ([(0, .int .i64 502)]) (by simp [Act.eval]) (rsBad.cells) HBB ?_; try simp only [Act.put, sqA, sqB, sqC]) | ((with_reducible refine gS 9 136 ?_); refine wpList_storeM rfl 39 (.tmp 9) (.tmp 136) rfl M9 2 rfl (by rfl) (rsBad.cells) (by rfl) (rs_size _) (by rw [Rs.len, Rs.len]) (Rs.one _) ?_; intro wA MA _; try simp only [Act.put]) | fail); have hload := rs_end MA.out 2 rfl; rw [HR.out]; refine bodyPost_ret (v := .tuple #[.int .i64 1, .agg (rsBad).cells.toArray]) (by simp [results, Tryz.results13, asAddr, Result.andThen, hload]) rfl ⟨rfl, MA.out.kp⟩
                · have q1 := (int_ne k1).1; have s404 := (int_ne (show a.st ≠ 404 by omega)).1; have s429 := (int_ne (show a.st ≠ 429 by omega)).1; have s200 := (int_ne (show a.st ≠ 200 by omega)).1; have s304 := (int_eq hs).1; have s5 : ¬ 500 ≤ a.st := by omega
                  have HR := Lib.hid (judgeO_of (k := k) (t := t) (a := a) (x := x) (judge_bad (by omega) (by omega) (by omega) (fun h => k1 h.2.1))); clear hs hs2 hs3 hs4 hs5 k1
                  go_wp2_with (first | ((with_reducible refine gL 107 13 ?_); refine wpList_loadM (by rfl) 23 (.tmp 13) rfl M9 1 rfl (by rfl) _ Tryz.underlying23 rfl (dig_size _) ?_; try simp only [Act.put, sqA, sqB, sqC]) | ((with_reducible refine gL 109 108 ?_); refine wpList_loadPart (by rfl) 23 (.tmp 108) rfl M9 5 rfl 3 (by rfl) (digC k.dig) k.at_dig _ Tryz.underlying23 rfl (dig_size _) ?_; try simp only [Act.put, sqA, sqB, sqC]) | ((with_reducible refine gB 136 ?_); refine wpList_buildM (by rfl) 39 _ rfl ([(0, .int .i64 502)]) (by simp [Act.eval]) (rsBad.cells) HBB ?_; try simp only [Act.put, sqA, sqB, sqC]) | ((with_reducible refine gS 9 136 ?_); refine wpList_storeM rfl 39 (.tmp 9) (.tmp 136) rfl M9 2 rfl (by rfl) (rsBad.cells) (by rfl) (rs_size _) (by rw [Rs.len, Rs.len]) (Rs.one _) ?_; intro wA MA _; try simp only [Act.put]) | fail); have hload := rs_end MA.out 2 rfl; rw [HR.out]; refine bodyPost_ret (v := .tuple #[.int .i64 1, .agg (rsBad).cells.toArray]) (by simp [results, Tryz.results13, asAddr, Result.andThen, hload]) rfl ⟨rfl, MA.out.kp⟩
              · by_cases hlo : a.st < 500
                · skip; have s404 := (int_ne (show a.st ≠ 404 by omega)).1; have s429 := (int_ne (show a.st ≠ 429 by omega)).1; have s200 := (int_ne (show a.st ≠ 200 by omega)).1; have s304 := (int_ne (show a.st ≠ 304 by omega)).1; have s5 : ¬ 500 ≤ a.st := by omega
                  have HR := Lib.hid (judgeO_of (k := k) (t := t) (a := a) (x := x) (judge_bad hs (by omega) hs2 (fun h => hs3 h.1))); clear hs hs2 hs3 hs4 hs5 hlo
                  go_wp2_with (first | ((with_reducible refine gL 107 13 ?_); refine wpList_loadM (by rfl) 23 (.tmp 13) rfl M9 1 rfl (by rfl) _ Tryz.underlying23 rfl (dig_size _) ?_; try simp only [Act.put, sqA, sqB, sqC]) | ((with_reducible refine gL 109 108 ?_); refine wpList_loadPart (by rfl) 23 (.tmp 108) rfl M9 5 rfl 3 (by rfl) (digC k.dig) k.at_dig _ Tryz.underlying23 rfl (dig_size _) ?_; try simp only [Act.put, sqA, sqB, sqC]) | ((with_reducible refine gB 136 ?_); refine wpList_buildM (by rfl) 39 _ rfl ([(0, .int .i64 502)]) (by simp [Act.eval]) (rsBad.cells) HBB ?_; try simp only [Act.put, sqA, sqB, sqC]) | ((with_reducible refine gS 9 136 ?_); refine wpList_storeM rfl 39 (.tmp 9) (.tmp 136) rfl M9 2 rfl (by rfl) (rsBad.cells) (by rfl) (rs_size _) (by rw [Rs.len, Rs.len]) (Rs.one _) ?_; intro wA MA _; try simp only [Act.put]) | fail); have hload := rs_end MA.out 2 rfl; rw [HR.out]; refine bodyPost_ret (v := .tuple #[.int .i64 1, .agg (rsBad).cells.toArray]) (by simp [results, Tryz.results13, asAddr, Result.andThen, hload]) rfl ⟨rfl, MA.out.kp⟩
                · skip; have s404 := (int_ne (show a.st ≠ 404 by omega)).1; have s429 := (int_ne (show a.st ≠ 429 by omega)).1; have s200 := (int_ne (show a.st ≠ 200 by omega)).1; have s304 := (int_ne (show a.st ≠ 304 by omega)).1; have s5 : 500 ≤ a.st := by omega
                  have s6 : ¬ a.st ≤ 599 := by omega
                  have HR := Lib.hid (judgeO_of (k := k) (t := t) (a := a) (x := x) (judge_bad hs (by omega) hs2 (fun h => hs3 h.1))); clear hs hs2 hs3 hs4 hs5 hlo
                  go_wp2_with (first | ((with_reducible refine gL 107 13 ?_); refine wpList_loadM (by rfl) 23 (.tmp 13) rfl M9 1 rfl (by rfl) _ Tryz.underlying23 rfl (dig_size _) ?_; try simp only [Act.put, sqA, sqB, sqC]) | ((with_reducible refine gL 109 108 ?_); refine wpList_loadPart (by rfl) 23 (.tmp 108) rfl M9 5 rfl 3 (by rfl) (digC k.dig) k.at_dig _ Tryz.underlying23 rfl (dig_size _) ?_; try simp only [Act.put, sqA, sqB, sqC]) | ((with_reducible refine gB 136 ?_); refine wpList_buildM (by rfl) 39 _ rfl ([(0, .int .i64 502)]) (by simp [Act.eval]) (rsBad.cells) HBB ?_; try simp only [Act.put, sqA, sqB, sqC]) | ((with_reducible refine gS 9 136 ?_); refine wpList_storeM rfl 39 (.tmp 9) (.tmp 136) rfl M9 2 rfl (by rfl) (rsBad.cells) (by rfl) (rs_size _) (by rw [Rs.len, Rs.len]) (Rs.one _) ?_; intro wA MA _; try simp only [Act.put]) | fail); have hload := rs_end MA.out 2 rfl; rw [HR.out]; refine bodyPost_ret (v := .tuple #[.int .i64 1, .agg (rsBad).cells.toArray]) (by simp [results, Tryz.results13, asAddr, Result.andThen, hload]) rfl ⟨rfl, MA.out.kp⟩
end Go.Proofs.YtlhnjkekjbbhcaaGreatDoor
namespace Go.Proofs.YtlhnjkekjbbhcaaGreatDoor
open Go.ChangeShapes Go.WideShapes Go.ChangeAt Go.RowKit
def Fits {H : Type} (P : Program) (t : TypeId) (d : DataW H) : Prop := (d.weights P t).all (fun k => decide (k ≤ reachBytes)) = true
theorem fits_each {H : Type} {P : Program} : ∀ {ts : List TypeId} {ds : List (DataW H)}, (DataW.weightsEach P ts ds).all (fun k => decide (k ≤ reachBytes)) = true → ∀ (j : Nat) (t : TypeId) (d : DataW H), ts[j]? = some t → ds[j]? = some d → Fits P t d
  | [], _, _, _, _, _, h, _ => by simp at h
  | _ :: _, [], _, _, _, _, _, h => by simp at h
  | t :: ts, d :: ds, h, j, t', d', h1, h2 => by
    rw [DataW.weightsEach, List.all_append, Bool.and_eq_true] at h
    cases j with
    | zero =>
      simp at h1 h2; subst h1 h2; exact h.1
    | succ j => exact fits_each h.2 j t' d' (by simpa using h1) (by simpa using h2)
theorem fits_all {H : Type} {P : Program} {e : TypeId} : ∀ {ds : List (DataW H)}, (DataW.weightsAll P e ds).all (fun k => decide (k ≤ reachBytes)) = true → ∀ d ∈ ds, Fits P e d
  | [], _, _, h => by cases h
  | d :: ds, h, x, hx => by
    rw [DataW.weightsAll, List.all_append, Bool.and_eq_true] at h; rcases List.mem_cons.1 hx with rfl | hx
    · exact h.1
    · exact fits_all h.2 x hx
theorem fits_slice {H : Type} {P : Program} {t e : TypeId} {es rs : List (DataW H)} (ht : P.underlying t = some (.slice e)) (h : Fits P t (.slice es rs)) : ∀ d ∈ es, Fits P e d := by
  unfold Fits at h; rw [DataW.weights, ht] at h; simp only [List.all_cons, List.all_append, Bool.and_eq_true] at h; exact fits_all h.2.1
theorem fits_string {H : Type} {P : Program} {t : TypeId} {l : List UInt8} (h : Fits (H := H) P t (.lit (.string l))) : l.length ≤ 140737488351232 := by
  unfold Fits at h; rw [DataW.weights] at h; simp only [List.all_cons, List.all_nil, Bool.and_true, decide_eq_true_eq] at h; unfold reachBytes at h; omega
theorem read_sliceW {H : Type} {enc : TypeId × Value → H} {P : Program} {w : World} {base : Nat} {spare : Nat → Bool} {held : Bool} {α : Type} [Inhabited α] {en : α → List Value} {n : Nat} (hn : ∀ x, (en x).length = n) (h0 : 0 < n) (good : α → Prop)
    {t e : TypeId} {v : Value} {d : DataW H} {ps : List MemPlace} (ht : P.underlying t = some (.slice e)) (hc : P.cellsOf e = n) (hfit : Fits P t d)
    (one : ∀ (m : Nat) (cs : List Value) (x : DataW H × List MemPlace), DataW.trod enc P w base spare held m e cs = some x → Fits P e x.1 → ∃ a, cs = en a ∧ good a)
    (h : DataW.Trod enc P w base spare held t v d ps) (hv : ∃ a len cap, v = .slice a len cap) : ∃ L : List α, Sl en n w v L ∧ ∀ x ∈ L, good x := by
  obtain ⟨fuel, hf⟩ := h; obtain ⟨a', len', cap', rfl⟩ := hv; rcases Deep.open_slice ht hf with ⟨hcs, _⟩ | ⟨a, len, cap, m, q, D, Pl, hcs, _, hl, hm, hmm, hdx, hx⟩
  · simp [Value.cells] at hcs; obtain ⟨rfl, rfl, rfl⟩ := hcs; exact ⟨[], .inl ⟨Option.none, 0, rfl, Nat.zero_le _, rfl⟩, by simp⟩
  · simp [Value.cells] at hcs; obtain ⟨rfl, rfl, rfl⟩ := hcs; have hlm : len' ≤ m := by rw [hmm]; split <;> omega
    have hd : d = .slice ((List.range len').map D) ((List.range (m - len')).map fun j => D (len' + j)) := by
      have := congrArg Prod.fst hdx; exact this
    rw [hd] at hfit; have hfe := fits_slice ht hfit
    obtain ⟨f, hfx⟩ := Deep.choose_lt (α := α) (n := len') (p := fun i y => good y ∧ ∀ k, k < n → w.cell? ((a.add (i * n)).add k) = (en y)[k]?) (fun i hi => by
      obtain ⟨cs', h1, h2⟩ := hx i (by omega); rw [hc] at h1; obtain ⟨y, rfl, hg⟩ := one _ _ _ h2 (hfe (D i) (List.mem_map.2 ⟨i, List.mem_range.2 hi, rfl⟩)); exact ⟨y, hg, (World.cells?_some h1).2.2⟩)
    by_cases hz : len' = 0
    · subst hz; exact ⟨[], .inl ⟨_, _, rfl, hm, rfl⟩, by simp⟩
    · obtain ⟨b, off, spot⟩ := a
      have hs : spot = Option.none := by
        have h1 := (hfx 0 (by omega)).2 0 h0; simp only [Nat.zero_mul, Addr.add, if_true] at h1
        cases spot with
        | none => rfl
        | some s =>
          have hlt : 0 < (en (f 0)).length := by rw [hn]; exact h0
          rw [List.getElem?_eq_getElem hlt] at h1; unfold World.cell? at h1
          split at h1 <;> simp at h1
      subst hs; refine ⟨(List.range len').map f, .inr ⟨b, off, cap', by simp, by simpa using hl, hm, ?_⟩, ?_⟩
      · intro i x hi k hk; simp [List.getElem?_map] at hi; obtain ⟨j, hj, rfl⟩ := hi; have hj' := List.getElem?_eq_some_iff.1 hj; obtain ⟨hlt, he⟩ := hj'; simp at hlt he; subst he; have := (hfx i hlt).2 k hk; rw [Deep.add_add] at this; rw [← this]; unfold Addr.add
        split
        · rename_i hzz; rw [Nat.add_assoc, hzz]; rfl
        · simp [Nat.add_assoc]
      · intro x hx'; simp at hx'; obtain ⟨i, hi, rfl⟩ := hx'; exact (hfx i hi).1
def Fld.near (f : Fld) : Prop := f.name.length ≤ 140737488351232 ∧ f.value.length ≤ 140737488351232
set_option maxRecDepth 100000 in
theorem read_fldW {H : Type} {enc : TypeId × Value → H} {w : World} {base : Nat} {spare : Nat → Bool} {held : Bool} (m : Nat) (cs : List Value) (x : DataW H × List MemPlace)
    (h : DataW.trod enc Tryz.prog w base spare held m 89 cs = some x) (hf : Fits Tryz.prog 89 x.1) : ∃ a : Fld, cs = a.cells ∧ a.near := by
  obtain ⟨a, h1, _⟩ := read_fld m cs x h; refine ⟨a, h1, ?_⟩; obtain ⟨xs, n, _, rfl, hl, hlen, hx⟩ := DataW.trod_struct Tryz.underlying89 h; have hx0 := hx 0 _ rfl; have hx1 := hx 1 _ rfl
  have hw : (DataW.weightsEach Tryz.prog [9, 9] (xs.map (·.1))).all (fun k => decide (k ≤ reachBytes)) = true := by
    unfold Fits at hf; dsimp only at hf; rw [DataW.weights, Tryz.underlying89] at hf; exact hf
  have hl2 : xs.length = 2 := hlen; obtain ⟨y0, e0⟩ : ∃ y, xs[0]? = some y := ⟨_, List.getElem?_eq_getElem (by omega)⟩
  obtain ⟨y1, e1⟩ : ∃ y, xs[1]? = some y := ⟨_, List.getElem?_eq_getElem (by omega)⟩
  rw [e0] at hx0; rw [e1] at hx1; obtain ⟨s0, c0, d0, _⟩ := DataW.trod_string Tryz.underlying9 hx0; obtain ⟨s1, c1, d1, _⟩ := DataW.trod_string Tryz.underlying9 hx1; have f0 := fits_each hw 0 9 y0.1 rfl (by rw [List.getElem?_map, e0]; rfl); have f1 := fits_each hw 1 9 y1.1 rfl (by rw [List.getElem?_map, e1]; rfl); rw [d0] at f0; rw [d1] at f1; have g0 := fits_string f0; have g1 := fits_string f1; rw [h1] at c0 c1
  have k0 : Value.string (S a.name) = .string s0 := by
    have := take_drop_one c0; simpa [Fld.cells] using this
  have k1 : Value.string (S a.value) = .string s1 := by
    have := take_drop_one c1; simpa [Fld.cells] using this
  have m0 : S a.name = s0 := by injection k0
  have m1 : S a.value = s1 := by injection k1
  refine ⟨?_, ?_⟩
  · rw [← m0] at g0; have e : (S a.name).data.toList = a.name := S_list a.name; rw [e] at g0; exact g0
  · rw [← m1] at g1; have e : (S a.value).data.toList = a.value := S_list a.value; rw [e] at g1; exact g1
section
variable {H : Type} {enc : TypeId × Value → H} {w : World} {base : Nat} {spare : Nat → Bool} {held : Bool}
theorem take_oneK {cs : List Value} {i : Nat} {v : Value} (h : (cs.drop i).take 1 = [v]) : cs[i]? = some v := by
  have := congrArg (fun l => l[0]?) h; simpa [List.getElem?_drop] using this
theorem int_cells : Tryz.prog.cellsOf 3 = 1 := by kernel_rfl
theorem bool_cells : Tryz.prog.cellsOf 4 = 1 := by kernel_rfl
theorem dig_cells : Tryz.prog.cellsOf 23 = 32 := by kernel_rfl
theorem read_digK (fuel : Nat) (cs : List Value) (x : DataW H × List MemPlace) (h : DataW.trod enc Tryz.prog w base spare held fuel 23 cs = some x) : ∃ d : Dig, cs = digC d := by
  obtain ⟨xs, m, _, _, hl, hn, hx⟩ := DataW.trod_array Tryz.underlying23 h; have h1 : Tryz.prog.cellsOf 5 = 1 := by kernel_rfl
  rw [dig_cells] at hl; rw [h1] at hx
  have hb : ∀ i, i < 32 → ∃ b : UInt8, cs[i]? = some (.int .u8 (b.toNat : Nat)) := fun i hi => by
    have := hx i hi; rw [Nat.mul_one] at this; obtain ⟨y, hy⟩ : ∃ y, xs[i]? = some y := ⟨_, List.getElem?_eq_getElem (by omega)⟩
    rw [hy] at this; obtain ⟨n, hn, _, hw⟩ := DataW.trod_int Tryz.underlying5 this; have hw' : 0 ≤ n ∧ n < 256 := by simp [Lit.wf, IntKind.min, IntKind.max, IntKind.signed, IntKind.bits] at hw; omega
    refine ⟨UInt8.ofNat n.toNat, ?_⟩; rw [take_oneK hn]; have : ((UInt8.ofNat n.toNat).toNat : Int) = n := by rw [UInt8.toNat_ofNat']; omega
    rw [this]
  let f : Nat → UInt8 := fun i => if h : i < 32 then (hb i h).choose else 0
  refine ⟨⟨(List.range 32).map f, by simp⟩, ?_⟩; apply List.ext_getElem?; intro i; by_cases hi : i < 32
  · have := (hb i hi).choose_spec; rw [this]; simp [digC, hi, f]
  · rw [List.getElem?_eq_none (by omega), List.getElem?_eq_none (by rw [digC_length]; omega)]
theorem trod_fieldsW {P : Program} {t : TypeId} {fs : Array Field} {fuel : Nat} {cs : List Value} {x : DataW H × List MemPlace} (ht : P.underlying t = some (.struct fs)) (h : DataW.trod enc P w base spare held fuel t cs = some x) (hf : Fits P t x.1) :
    cs.length = P.cellsOf t ∧ ∃ n, ∀ (i : Nat) (f : Field), fs[i]? = some f → ∃ y, DataW.trod enc P w base spare held n f.type ((cs.drop f.offset).take (P.cellsOf f.type)) = some y ∧ Fits P f.type y.1 := by
  obtain ⟨xs, n, _, rfl, hl, hlen, hx⟩ := DataW.trod_struct ht h; refine ⟨hl, n, fun i f hi => ?_⟩
  have hlt : i < xs.length := by
    rw [hlen]; rcases Nat.lt_or_ge i fs.size with h' | h'
    · exact h'
    · simp [Array.getElem?_eq_none h'] at hi
  refine ⟨xs[i], (hx i f hi).trans (List.getElem?_eq_getElem hlt), ?_⟩
  have hw : (DataW.weightsEach P (fs.toList.map (·.type)) (xs.map (·.1))).all (fun k => decide (k ≤ reachBytes)) = true := by
    unfold Fits at hf; dsimp only at hf; rw [DataW.weights, ht] at hf; exact hf
  exact fits_each hw i f.type xs[i].1 (by rw [List.getElem?_map, Array.getElem?_toList, hi]; rfl) (by rw [List.getElem?_map, List.getElem?_eq_getElem hlt]; rfl)
theorem field_stringW {P : Program} {t : TypeId} {n o : Nat} {cs : List Value} {y : DataW H × List MemPlace} (ht : P.underlying t = some .string) (hc : P.cellsOf t = 1) (h : DataW.trod enc P w base spare held n t ((cs.drop o).take (P.cellsOf t)) = some y ∧ Fits P t y.1) :
    ∃ v, cs[o]? = some (.string v) ∧ v.data.toList.length ≤ 140737488351232 := by
  obtain ⟨v, hv, hd, hm⟩ := DataW.trod_string ht h.1; have hf := h.2; rw [hd] at hf; rw [hc] at hv; exact ⟨v, take_drop_one hv, fits_string hf⟩
theorem read_aggW {P : Program} {α : Type} {en : α → List Value} {good : α → Prop}
    {t : TypeId} {v : Value} {d : DataW H} {ps : List MemPlace} (hfit : Fits P t d) (one : ∀ (m : Nat) (cs : List Value) (x : DataW H × List MemPlace), DataW.trod enc P w base spare held m t cs = some x → Fits P t x.1 → ∃ a, cs = en a ∧ good a)
    (h : DataW.Trod enc P w base spare held t v d ps) (hv : ∃ cs, v = .agg cs ∧ cs.size = P.cellsOf t) : ∃ a, v = .agg (en a).toArray ∧ good a := by
  obtain ⟨fuel, hf⟩ := h; obtain ⟨cs, rfl, _⟩ := hv; obtain ⟨a, ha, hg⟩ := one _ _ _ hf hfit; exact ⟨a, by rw [← ha]; simp [Value.cells], hg⟩
def goodKyIn (k : Ky) : Prop := in64 k.kind ∧ k.repo.length ≤ 140737488351232 ∧ k.tag.length ≤ 140737488351232
def goodTkIn (t : Tk) : Prop := t.repo.length ≤ 140737488351232 ∧ t.tag.length ≤ 140737488351232 ∧ t.typ.length ≤ 140737488351232 ∧ in64 t.size ∧ in64 t.at_
theorem dig_part {cs : List Value} {o : Nat} {d : Dig} (h : (cs.drop o).take (Tryz.prog.cellsOf 23) = digC d) {i : Nat} (hi : i < 32) : cs[o + i]? = (digC d)[i]? := by
  rw [dig_cells] at h; rw [← h, List.getElem?_take_of_lt hi, List.getElem?_drop]
theorem read_ky (m : Nat) (cs : List Value) (x : DataW H × List MemPlace) (h : DataW.trod enc Tryz.prog w base spare held m 25 cs = some x) (hfit : Fits Tryz.prog 25 x.1) : ∃ k : Ky, cs = k.cells ∧ goodKyIn k := by
  obtain ⟨hl, n, hf⟩ := trod_fieldsW Tryz.underlying25 h hfit; have hc : Tryz.prog.cellsOf 25 = 36 := by kernel_rfl
  rw [hc] at hl; obtain ⟨y0, h0⟩ := hf 0 _ rfl; obtain ⟨y1, h1⟩ := hf 1 _ rfl; obtain ⟨y2, h2⟩ := hf 2 _ rfl; obtain ⟨y3, h3⟩ := hf 3 _ rfl; obtain ⟨y4, h4⟩ := hf 4 _ rfl; obtain ⟨v0, c0, w0⟩ := field_int Tryz.underlying3 int_cells h0.1; obtain ⟨v1, c1, w1⟩ := field_stringW Tryz.underlying9 str_cells h1; obtain ⟨v2, c2, w2⟩ := field_stringW Tryz.underlying9 str_cells h2; have h3' : DataW.trod enc Tryz.prog w base spare held n 23 ((cs.drop 3).take (Tryz.prog.cellsOf 23)) = some y3 := h3.1; obtain ⟨d, hd⟩ := read_digK _ _ _ h3'; obtain ⟨v4, c4⟩ := field_bool Tryz.underlying4 bool_cells h4.1; refine ⟨⟨v0, v1.data.toList, v2.data.toList, d, v4⟩, list_eq_of hl (Ky.len _) ?_, in64_of w0, w1, w2⟩; intro i hi; have e : ∀ k : Ky, k.cells = [.int .i64 k.kind, .string (S k.repo), .string (S k.tag)] ++ (digC k.dig ++ [.bool k.blob]) := fun k => by simp [Ky.cells]
  rw [e]; simp only [S_of]; by_cases h3 : i < 3
  · rw [List.getElem?_append_left (by simpa using h3)]
    match i, h3 with
    | 0, _ => exact c0
    | 1, _ => exact c1
    | 2, _ => exact c2
  · rw [List.getElem?_append_right (by simp; omega)]; show cs[i]? = _; simp only [List.length_cons, List.length_nil]; by_cases h35 : i < 35
    · rw [List.getElem?_append_left (by rw [digC_length]; omega)]; have := dig_part hd (i := i - 3) (by omega); rw [show 3 + (i - 3) = i by omega] at this; exact this
    · rw [List.getElem?_append_right (by rw [digC_length]; omega), digC_length]; obtain rfl : i = 35 := by omega
      have c4' : cs[35]? = some (.bool v4) := c4; rw [c4']; rfl
theorem read_tk (m : Nat) (cs : List Value) (x : DataW H × List MemPlace) (h : DataW.trod enc Tryz.prog w base spare held m 27 cs = some x) (hfit : Fits Tryz.prog 27 x.1) : ∃ k : Tk, cs = k.cells ∧ goodTkIn k := by
  obtain ⟨hl, n, hf⟩ := trod_fieldsW Tryz.underlying27 h hfit; have hc : Tryz.prog.cellsOf 27 = 38 := by kernel_rfl
  rw [hc] at hl; obtain ⟨y0, h0⟩ := hf 0 _ rfl; obtain ⟨y1, h1⟩ := hf 1 _ rfl; obtain ⟨y2, h2⟩ := hf 2 _ rfl; obtain ⟨y3, h3⟩ := hf 3 _ rfl; obtain ⟨y4, h4⟩ := hf 4 _ rfl; obtain ⟨y5, h5⟩ := hf 5 _ rfl; obtain ⟨y6, h6⟩ := hf 6 _ rfl; obtain ⟨v0, c0, w0⟩ := field_stringW Tryz.underlying9 str_cells h0; obtain ⟨v1, c1, w1⟩ := field_stringW Tryz.underlying9 str_cells h1; obtain ⟨v2, c2⟩ := field_bool Tryz.underlying4 bool_cells h2.1; have h3' : DataW.trod enc Tryz.prog w base spare held n 23 ((cs.drop 3).take (Tryz.prog.cellsOf 23)) = some y3 := h3.1; obtain ⟨d, hd⟩ := read_digK _ _ _ h3'; obtain ⟨v4, c4, w4⟩ := field_stringW Tryz.underlying9 str_cells h4; obtain ⟨v5, c5, w5⟩ := field_int Tryz.underlying3 int_cells h5.1; obtain ⟨v6, c6, w6⟩ := field_int Tryz.underlying3 int_cells h6.1; refine ⟨⟨v0.data.toList, v1.data.toList, v2, d, v4.data.toList, v5, v6⟩, list_eq_of hl (Tk.len _) ?_, w0, w1, w4, in64_of w5, in64_of w6⟩; intro i hi; have e : ∀ k : Tk, k.cells = [.string (S k.repo), .string (S k.tag), .bool k.found] ++ (digC k.dig ++ [.string (S k.typ), .int .i64 k.size, .int .i64 k.at_]) := fun k => by simp [Tk.cells]
  rw [e]; simp only [S_of]; by_cases h3 : i < 3
  · rw [List.getElem?_append_left (by simpa using h3)]
    match i, h3 with
    | 0, _ => exact c0
    | 1, _ => exact c1
    | 2, _ => exact c2
  · rw [List.getElem?_append_right (by simp; omega)]; show cs[i]? = _; simp only [List.length_cons, List.length_nil]; by_cases h35 : i < 35
    · rw [List.getElem?_append_left (by rw [digC_length]; omega)]; have := dig_part hd (i := i - 3) (by omega); rw [show 3 + (i - 3) = i by omega] at this; exact this
    · rw [List.getElem?_append_right (by rw [digC_length]; omega), digC_length]; have h9 : i = 35 ∨ i = 36 ∨ i = 37 := by omega
      have c4' : cs[35]? = some (.string v4) := c4; have c5' : cs[36]? = some (.int .i64 v5) := c5; have c6' : cs[37]? = some (.int .i64 v6) := c6; rcases h9 with rfl | rfl | rfl
      · rw [c4']; rfl
      · rw [c5']; rfl
      · rw [c6']; rfl
structure AnOk (w : World) (a : Ans) (va : Value) : Prop where
  sl : Sl Fld.cells 2 w va a.F
  gf : ∀ x ∈ a.F, x.near
  st : in64 a.st
  len : in64 a.len
theorem read_an (m : Nat) (cs : List Value) (x : DataW H × List MemPlace) (h : DataW.trod enc Tryz.prog w base spare held m 30 cs = some x) (hfit : Fits Tryz.prog 30 x.1) : ∃ p : Ans × Value, cs = ansC p.1.st p.2 p.1.len p.1.ch p.1.cl ∧ AnOk w p.1 p.2 := by
  obtain ⟨hl, n, hf⟩ := trod_fieldsW Tryz.underlying30 h hfit; have hc : Tryz.prog.cellsOf 30 = 5 := by kernel_rfl
  rw [hc] at hl; obtain ⟨y0, h0⟩ := hf 0 _ rfl; obtain ⟨y1, h1⟩ := hf 1 _ rfl; obtain ⟨y2, h2⟩ := hf 2 _ rfl; obtain ⟨y3, h3⟩ := hf 3 _ rfl; obtain ⟨y4, h4⟩ := hf 4 _ rfl; obtain ⟨v0, c0, w0⟩ := field_int Tryz.underlying3 int_cells h0.1; obtain ⟨v2, c2, w2⟩ := field_int Tryz.underlying3 int_cells h2.1; obtain ⟨v3, c3⟩ := field_bool Tryz.underlying4 bool_cells h3.1; obtain ⟨v4, c4⟩ := field_bool Tryz.underlying4 bool_cells h4.1; have hc1 : Tryz.prog.cellsOf 28 = 1 := by kernel_rfl
  have hv : ∃ a len cap, cs[1]? = some (.slice a len cap) ∧ ∃ L : List Fld, Sl Fld.cells 2 w (.slice a len cap) L ∧ ∀ x ∈ L, x.near := by
    have key : ∃ a len cap, (cs.drop 1).take (Tryz.prog.cellsOf 28) = [.slice a len cap] := by
      rcases Deep.open_slice Tryz.underlying28 h1.1 with ⟨hcs, _⟩ | ⟨a, len, cap, m, q, D, Pl, hcs, _⟩
      · exact ⟨_, _, _, hcs⟩
      · exact ⟨_, _, _, hcs⟩
    obtain ⟨a, len, cap, hk⟩ := key; refine ⟨a, len, cap, take_oneK (by rw [hc1] at hk; exact hk), ?_⟩; refine read_sliceW (P := Tryz.prog) (enc := enc) (base := base) (spare := spare) (held := held) Fld.cells_length (by omega) Fld.near (t := 28) (d := y1.1) (ps := y1.2) Tryz.underlying28 fld_cells h1.2 (fun m cs x h hf => read_fldW m cs x h hf) ⟨n, ?_⟩ ⟨_, _, _, rfl⟩; have h1' : DataW.trod enc Tryz.prog w base spare held n 28 ((cs.drop 1).take (Tryz.prog.cellsOf 28)) = some y1 := h1.1; rw [hk] at h1'; exact h1'
  obtain ⟨sa, sl, sc, c1, L, hL, hg⟩ := hv; refine ⟨(⟨v0, L, v2, v3, v4⟩, .slice sa sl sc), list_eq_of hl rfl ?_, hL, hg, in64_of w0, in64_of w2⟩; intro i hi
  match i, hi with
  | 0, _ => exact c0
  | 1, _ => exact c1
  | 2, _ => exact c2
  | 3, _ => exact c3
  | 4, _ => exact c4
end
end Go.Proofs.YtlhnjkekjbbhcaaGreatDoor
