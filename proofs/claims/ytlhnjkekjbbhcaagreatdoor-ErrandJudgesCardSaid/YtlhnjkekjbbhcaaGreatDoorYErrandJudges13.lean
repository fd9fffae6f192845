/- Parts of the proof of ErrandJudges, in order. No conditions but those that each theorem states. -/
import Derived.Test.YtlhnjkekjbbhcaaGreatDoorYErrandJudges0
import Derived.Test.YtlhnjkekjbbhcaaGreatDoorYErrandJudges12
namespace Go.Proofs.YtlhnjkekjbbhcaaGreatDoor
open Go.RowKit Go.Shelf
theorem text_none {r : Rt} (h1 : r.kind ≠ 1) (h2 : r.kind ≠ 2) (h3 : r.kind ≠ 3) (h4 : r.kind ≠ 4) : goodRtM r = false := by
  unfold goodRtM; rw [if_neg h1, if_neg h2, if_neg (by omega)]
theorem parse_goodRt {t : List UInt8} (ht : t.length ≤ 1048576) : goodRt (parseP t).1 := by
  have h0 : goodRt rt0 := by unfold goodRt rt0 maxLen; simp
  have hx : ∀ (l : List UInt8), l.length ≤ 1048576 → l.length ≤ maxLen := fun l h => by show _ ≤ 9223372036854775807; omega
  unfold parseP
  split
  · split
    · exact goodRt1
    · unfold parseR
      cases h1 : cutL (t.drop 4) with
      | none => exact h0
      | some x =>
        obtain ⟨a, ref⟩ := x; have e1 := congrArg List.length (cutL_back h1); simp at e1; simp only
        cases h2 : cutL a with
        | none => exact h0
        | some y =>
          obtain ⟨repo, word⟩ := y; have e2 := congrArg List.length (cutL_back h2); simp at e2; simp only
          split
          · exact h0
          · split
            · unfold referM
              split
              · split
                · exact ⟨hx _ (by show repo.length ≤ _; omega), hx _ (by show ref.length ≤ _; omega), by simp, by simp⟩
                · exact h0
              · split
                · exact h0
                · refine ⟨hx _ (by show repo.length ≤ _; omega), by simp [maxLen], ?_, ?_⟩ <;> (simp only; split <;> omega)
            · exact h0
  · exact h0
set_option maxRecDepth 100000 in
set_option maxHeartbeats 4000000 in
theorem ref15_Print (r : Rt) (w : World) (hr : goodRt r) (hl : r.repo.length + r.tag.length ≤ 1048000) :
    Calls Tryz.prog 48 #[.agg r.cells.toArray] w fun e w' => e = printO r ∧ Keep [] w w' := by
  have M0 := Lib.hid (Mem.nil w); have hlaw := print_law r; have htl := rtText_len r; have hgr := parse_goodRt (t := rtText r) (by omega); have hPa := fun w' => ref15_Parse (rtText r) w' (by omega)
  obtain ⟨⟨x, er⟩, hpx⟩ : ∃ y, parseP (rtText r) = y := ⟨_, rfl⟩
  rw [hpx] at hlaw hgr; dsimp only at hlaw hgr; rw [parseO_of hpx] at hPa; have HPa := Lib.hid hPa; have hbad : goodRtM r = false → printO r = .returned (.tuple #[.string (S []), .int .i64 1]) := fun h => by unfold printO; rw [h]; rfl
  have hgd : goodRtM r = true → printO r = .returned (.tuple #[.string (S (rtText r)), .int .i64 0]) := fun h => by unfold printO; rw [h]; rfl
  have zr := S_size r.repo; have zt := S_size r.tag; have lr : r.repo.length ≤ 1048000 := by omega
  have lt : r.tag.length ≤ 1048000 := by omega
  clear hPa; have e0 : (⟨#[]⟩ : ByteArray) = S [] := rfl; by_cases k1 : r.kind = 1
  · have q1 := (int_eq k1).1; have HX : rtText r = rootB := by unfold rtText; rw [if_pos k1]
    rw [HX] at HPa; have hgd2 := hgd; rw [HX] at hgd2; have eX : (⟨#[47, 118, 50, 47]⟩ : ByteArray) = S rootB := rfl; clear k1 hpx HX; by_cases he : er = 0
    · by_cases hx : x = r
      · skip; subst he; have HR := Lib.hid (hgd2 (hlaw.1 ⟨rfl, hx⟩)); have heq := fun w' => eqRt x r hgr hr w'
        rw [decide_eq_true hx] at heq; clear hlaw hgr hr hl hbad hgd hgd2 htl hx; go_enter Tryz.func48, Tryz.ntmps48
        go_wp2_with (first | ((with_reducible refine gX 1 ?_); refine wpList_boxM rfl 77 (.tmp 0) rfl (r.cells) (by rfl) M0 ?_; intro b w1 M1 _ _; have c0 := M1.out.get 0 rfl 0 rfl; have c1 := M1.out.get 0 rfl 1 rfl; have c2 := M1.out.get 0 rfl 2 rfl; try simp only [Act.put, sqA, sqB, sqC]) | fail); refine (HPa.out _).mono ?_; rintro e w4 ⟨rfl, k4⟩; have M4 := Lib.hid (M1.out.keep0 k4); clear k4
        go_wp2_with (first | ((with_reducible refine gA 5 ?_); refine wpList_allocM rfl 77 rfl (rt0.cells) (Lib.hid rt_zero) M4 ?_; intro b5 w5 M5 _ _; try simp only [Act.put, sqA, sqB, sqC]) | ((with_reducible refine gS 5 43 ?_); refine wpList_storeM rfl 77 (.tmp 5) (.tmp 43) rfl M5 0 rfl (by rfl) (x.cells) (by rfl) (rt_size x) (by rw [Rt.len, Rt.len]) x.one ?_; intro w6 M6 _; try simp only [Act.put]) | ((with_reducible refine gL 48 5 ?_); refine wpList_loadM (by rfl) 77 (.tmp 5) rfl M6 0 rfl (by rfl) _ Tryz.underlying77 rfl (rt_size x) ?_; try simp only [Act.put, sqA, sqB, sqC]) | ((with_reducible refine gL 49 1 ?_); refine wpList_loadM (by rfl) 77 (.tmp 1) rfl M6 1 rfl (by rfl) _ Tryz.underlying77 rfl (rt_size r) ?_; try simp only [Act.put, sqA, sqB, sqC]) | fail); rw [HR.out]; refine bodyPost_ret (v := .tuple #[.string (S rootB), .int .i64 0]) (by simp [results, Tryz.results48, go_sem, S]) rfl ⟨rfl, M6.out.kp⟩
      · skip; subst he; have HR := Lib.hid (hbad (by rw [Bool.eq_false_iff]; exact fun h => hx (hlaw.2 h).2)); have heq := fun w' => eqRt x r hgr hr w'
        rw [decide_eq_false hx] at heq; clear hlaw hgr hr hl hbad hgd hgd2 htl hx; go_enter Tryz.func48, Tryz.ntmps48
        go_wp2_with (first | ((with_reducible refine gX 1 ?_); refine wpList_boxM rfl 77 (.tmp 0) rfl (r.cells) (by rfl) M0 ?_; intro b w1 M1 _ _; have c0 := M1.out.get 0 rfl 0 rfl; have c1 := M1.out.get 0 rfl 1 rfl; have c2 := M1.out.get 0 rfl 2 rfl; try simp only [Act.put, sqA, sqB, sqC]) | fail); refine (HPa.out _).mono ?_; rintro e w4 ⟨rfl, k4⟩; have M4 := Lib.hid (M1.out.keep0 k4); clear k4
        go_wp2_with (first | ((with_reducible refine gA 5 ?_); refine wpList_allocM rfl 77 rfl (rt0.cells) (Lib.hid rt_zero) M4 ?_; intro b5 w5 M5 _ _; try simp only [Act.put, sqA, sqB, sqC]) | ((with_reducible refine gS 5 43 ?_); refine wpList_storeM rfl 77 (.tmp 5) (.tmp 43) rfl M5 0 rfl (by rfl) (x.cells) (by rfl) (rt_size x) (by rw [Rt.len, Rt.len]) x.one ?_; intro w6 M6 _; try simp only [Act.put]) | ((with_reducible refine gL 48 5 ?_); refine wpList_loadM (by rfl) 77 (.tmp 5) rfl M6 0 rfl (by rfl) _ Tryz.underlying77 rfl (rt_size x) ?_; try simp only [Act.put, sqA, sqB, sqC]) | ((with_reducible refine gL 49 1 ?_); refine wpList_loadM (by rfl) 77 (.tmp 1) rfl M6 1 rfl (by rfl) _ Tryz.underlying77 rfl (rt_size r) ?_; try simp only [Act.put, sqA, sqB, sqC]) | fail); rw [HR.out]; refine bodyPost_ret (v := .tuple #[.string (S []), .int .i64 1]) (by simp [results, Tryz.results48, go_sem, S]) rfl ⟨rfl, M6.out.kp⟩
    · skip; have q7 := (int_ne he).1; have q8 := (int_ne he).2; have HR := Lib.hid (hbad (by rw [Bool.eq_false_iff]; exact fun h => he (hlaw.2 h).1)); clear hlaw hgr hr hl hbad hgd hgd2 htl he; go_enter Tryz.func48, Tryz.ntmps48
      go_wp2_with (first | ((with_reducible refine gX 1 ?_); refine wpList_boxM rfl 77 (.tmp 0) rfl (r.cells) (by rfl) M0 ?_; intro b w1 M1 _ _; have c0 := M1.out.get 0 rfl 0 rfl; have c1 := M1.out.get 0 rfl 1 rfl; have c2 := M1.out.get 0 rfl 2 rfl; try simp only [Act.put, sqA, sqB, sqC]) | fail); refine (HPa.out _).mono ?_; rintro e w4 ⟨rfl, k4⟩; have M4 := Lib.hid (M1.out.keep0 k4); clear k4
      go_wp2_with (first | ((with_reducible refine gA 5 ?_); refine wpList_allocM rfl 77 rfl (rt0.cells) (Lib.hid rt_zero) M4 ?_; intro b5 w5 M5 _ _; try simp only [Act.put, sqA, sqB, sqC]) | ((with_reducible refine gS 5 43 ?_); refine wpList_storeM rfl 77 (.tmp 5) (.tmp 43) rfl M5 0 rfl (by rfl) (x.cells) (by rfl) (rt_size x) (by rw [Rt.len, Rt.len]) x.one ?_; intro w6 M6 _; try simp only [Act.put]) | fail); rw [HR.out]; refine bodyPost_ret (v := .tuple #[.string (S []), .int .i64 1]) (by simp [results, Tryz.results48, go_sem, S]) rfl ⟨rfl, M6.out.kp⟩
  · have q1 := (int_ne k1).1; by_cases k2 : r.kind = 2
    · have q2 := (int_eq k2).1; obtain ⟨t1, h1⟩ : ∃ t, rootB ++ r.repo = t := ⟨_, rfl⟩
      obtain ⟨t2, h2⟩ : ∃ t, t1 ++ [47, 109, 97, 110, 105, 102, 101, 115, 116, 115, 47] = t := ⟨_, rfl⟩
      obtain ⟨t3, h3⟩ : ∃ t, t2 ++ r.tag = t := ⟨_, rfl⟩
      have HX : rtText r = t3 := by rw [← h3, ← h2, ← h1]; unfold rtText rtWord rtRef; rw [if_neg k1, if_neg (by omega), if_pos k2]; simp [maniB]
      have e1 : (⟨#[47, 118, 50, 47]⟩ : ByteArray) ++ S r.repo = S t1 := by rw [← h1]; exact S_append rootB _
      have e2 : S t1 ++ (⟨#[47, 109, 97, 110, 105, 102, 101, 115, 116, 115, 47]⟩ : ByteArray) = S t2 := by rw [← h2]; exact S_append _ [47, 109, 97, 110, 105, 102, 101, 115, 116, 115, 47]
      have e3 : S t2 ++ S (r.tag) = S t3 := by rw [← h3]; exact S_append _ _
      have z1 := S_size t1; have z2 := S_size t2; have y1 : t1.length ≤ 1048010 := by rw [← h1, List.length_append]; have : rootB.length = 4 := rfl; omega
      have y2 : t2.length ≤ 1048100 := by rw [← h2, List.length_append]; have : ([47, 109, 97, 110, 105, 102, 101, 115, 116, 115, 47] : List UInt8).length ≤ 20 := by decide
                                          omega
      rw [HX] at HPa; have hgd2 := hgd; rw [HX] at hgd2; clear h1 h2 h3 k1 k2 hpx HX; by_cases he : er = 0
      · by_cases hx : x = r
        · skip; subst he; have HR := Lib.hid (hgd2 (hlaw.1 ⟨rfl, hx⟩)); have heq := fun w' => eqRt x r hgr hr w'
          rw [decide_eq_true hx] at heq; clear hlaw hgr hr hl hbad hgd hgd2 htl hx; go_enter Tryz.func48, Tryz.ntmps48
          go_wp2_with (first | ((with_reducible refine gX 1 ?_); refine wpList_boxM rfl 77 (.tmp 0) rfl (r.cells) (by rfl) M0 ?_; intro b w1 M1 _ _; have c0 := M1.out.get 0 rfl 0 rfl; have c1 := M1.out.get 0 rfl 1 rfl; have c2 := M1.out.get 0 rfl 2 rfl; try simp only [Act.put, sqA, sqB, sqC]) | fail); refine (HPa.out _).mono ?_; rintro e w4 ⟨rfl, k4⟩; have M4 := Lib.hid (M1.out.keep0 k4); clear k4
          go_wp2_with (first | ((with_reducible refine gA 5 ?_); refine wpList_allocM rfl 77 rfl (rt0.cells) (Lib.hid rt_zero) M4 ?_; intro b5 w5 M5 _ _; try simp only [Act.put, sqA, sqB, sqC]) | ((with_reducible refine gS 5 43 ?_); refine wpList_storeM rfl 77 (.tmp 5) (.tmp 43) rfl M5 0 rfl (by rfl) (x.cells) (by rfl) (rt_size x) (by rw [Rt.len, Rt.len]) x.one ?_; intro w6 M6 _; try simp only [Act.put]) | ((with_reducible refine gL 48 5 ?_); refine wpList_loadM (by rfl) 77 (.tmp 5) rfl M6 0 rfl (by rfl) _ Tryz.underlying77 rfl (rt_size x) ?_; try simp only [Act.put, sqA, sqB, sqC]) | ((with_reducible refine gL 49 1 ?_); refine wpList_loadM (by rfl) 77 (.tmp 1) rfl M6 1 rfl (by rfl) _ Tryz.underlying77 rfl (rt_size r) ?_; try simp only [Act.put, sqA, sqB, sqC]) | fail); rw [HR.out]; refine bodyPost_ret (v := .tuple #[.string (S t3), .int .i64 0]) (by simp [results, Tryz.results48, go_sem, S]) rfl ⟨rfl, M6.out.kp⟩
        · skip; subst he; have HR := Lib.hid (hbad (by rw [Bool.eq_false_iff]; exact fun h => hx (hlaw.2 h).2)); have heq := fun w' => eqRt x r hgr hr w'
          rw [decide_eq_false hx] at heq; clear hlaw hgr hr hl hbad hgd hgd2 htl hx; go_enter Tryz.func48, Tryz.ntmps48
          go_wp2_with (first | ((with_reducible refine gX 1 ?_); refine wpList_boxM rfl 77 (.tmp 0) rfl (r.cells) (by rfl) M0 ?_; intro b w1 M1 _ _; have c0 := M1.out.get 0 rfl 0 rfl; have c1 := M1.out.get 0 rfl 1 rfl; have c2 := M1.out.get 0 rfl 2 rfl; try simp only [Act.put, sqA, sqB, sqC]) | fail); refine (HPa.out _).mono ?_; rintro e w4 ⟨rfl, k4⟩; have M4 := Lib.hid (M1.out.keep0 k4); clear k4
          go_wp2_with (first | ((with_reducible refine gA 5 ?_); refine wpList_allocM rfl 77 rfl (rt0.cells) (Lib.hid rt_zero) M4 ?_; intro b5 w5 M5 _ _; try simp only [Act.put, sqA, sqB, sqC]) | ((with_reducible refine gS 5 43 ?_); refine wpList_storeM rfl 77 (.tmp 5) (.tmp 43) rfl M5 0 rfl (by rfl) (x.cells) (by rfl) (rt_size x) (by rw [Rt.len, Rt.len]) x.one ?_; intro w6 M6 _; try simp only [Act.put]) | ((with_reducible refine gL 48 5 ?_); refine wpList_loadM (by rfl) 77 (.tmp 5) rfl M6 0 rfl (by rfl) _ Tryz.underlying77 rfl (rt_size x) ?_; try simp only [Act.put, sqA, sqB, sqC]) | ((with_reducible refine gL 49 1 ?_); refine wpList_loadM (by rfl) 77 (.tmp 1) rfl M6 1 rfl (by rfl) _ Tryz.underlying77 rfl (rt_size r) ?_; try simp only [Act.put, sqA, sqB, sqC]) | fail); rw [HR.out]; refine bodyPost_ret (v := .tuple #[.string (S []), .int .i64 1]) (by simp [results, Tryz.results48, go_sem, S]) rfl ⟨rfl, M6.out.kp⟩
      · skip; have q7 := (int_ne he).1; have q8 := (int_ne he).2; have HR := Lib.hid (hbad (by rw [Bool.eq_false_iff]; exact fun h => he (hlaw.2 h).1)); clear hlaw hgr hr hl hbad hgd hgd2 htl he; go_enter Tryz.func48, Tryz.ntmps48
        go_wp2_with (first | ((with_reducible refine gX 1 ?_); refine wpList_boxM rfl 77 (.tmp 0) rfl (r.cells) (by rfl) M0 ?_; intro b w1 M1 _ _; have c0 := M1.out.get 0 rfl 0 rfl; have c1 := M1.out.get 0 rfl 1 rfl; have c2 := M1.out.get 0 rfl 2 rfl; try simp only [Act.put, sqA, sqB, sqC]) | fail); refine (HPa.out _).mono ?_; rintro e w4 ⟨rfl, k4⟩; have M4 := Lib.hid (M1.out.keep0 k4); clear k4
        go_wp2_with (first | ((with_reducible refine gA 5 ?_); refine wpList_allocM rfl 77 rfl (rt0.cells) (Lib.hid rt_zero) M4 ?_; intro b5 w5 M5 _ _; try simp only [Act.put, sqA, sqB, sqC]) | ((with_reducible refine gS 5 43 ?_); refine wpList_storeM rfl 77 (.tmp 5) (.tmp 43) rfl M5 0 rfl (by rfl) (x.cells) (by rfl) (rt_size x) (by rw [Rt.len, Rt.len]) x.one ?_; intro w6 M6 _; try simp only [Act.put]) | fail); rw [HR.out]; refine bodyPost_ret (v := .tuple #[.string (S []), .int .i64 1]) (by simp [results, Tryz.results48, go_sem, S]) rfl ⟨rfl, M6.out.kp⟩
    · have q2 := (int_ne k2).1; have HS := Lib.hid (fun w' => ref04_Print r.dig w'); have hst := stampM_len r.dig; by_cases k3 : r.kind = 3
      · have q3 := (int_eq k3).1; obtain ⟨t1, h1⟩ : ∃ t, rootB ++ r.repo = t := ⟨_, rfl⟩
        obtain ⟨t2, h2⟩ : ∃ t, t1 ++ [47, 109, 97, 110, 105, 102, 101, 115, 116, 115, 47] = t := ⟨_, rfl⟩
        obtain ⟨t3, h3⟩ : ∃ t, t2 ++ stampM r.dig.1 = t := ⟨_, rfl⟩
        have HX : rtText r = t3 := by rw [← h3, ← h2, ← h1]; unfold rtText rtWord rtRef; rw [if_neg k1, if_neg (by omega), if_neg k2]; simp [maniB]
        have e1 : (⟨#[47, 118, 50, 47]⟩ : ByteArray) ++ S r.repo = S t1 := by rw [← h1]; exact S_append rootB _
        have e2 : S t1 ++ (⟨#[47, 109, 97, 110, 105, 102, 101, 115, 116, 115, 47]⟩ : ByteArray) = S t2 := by rw [← h2]; exact S_append _ [47, 109, 97, 110, 105, 102, 101, 115, 116, 115, 47]
        have e3 : S t2 ++ S (stampM r.dig.1) = S t3 := by rw [← h3]; exact S_append _ _
        have z1 := S_size t1; have z2 := S_size t2; have y1 : t1.length ≤ 1048010 := by rw [← h1, List.length_append]; have : rootB.length = 4 := rfl; omega
        have y2 : t2.length ≤ 1048100 := by rw [← h2, List.length_append]; have : ([47, 109, 97, 110, 105, 102, 101, 115, 116, 115, 47] : List UInt8).length ≤ 20 := by decide
                                            omega
        rw [HX] at HPa; have hgd2 := hgd; rw [HX] at hgd2; have zs := S_size (stampM r.dig.1); rw [hst] at zs; clear h1 h2 h3 k1 k2 k3 hpx HX hst; generalize stampM r.dig.1 = sp at *; by_cases he : er = 0
        · by_cases hx : x = r
          · skip; subst he; have HR := Lib.hid (hgd2 (hlaw.1 ⟨rfl, hx⟩)); have heq := fun w' => eqRt x r hgr hr w'
            rw [decide_eq_true hx] at heq; clear hlaw hgr hr hl hbad hgd hgd2 htl hx; go_enter Tryz.func48, Tryz.ntmps48
            go_wp2_with (first | ((with_reducible refine gX 1 ?_); refine wpList_boxM rfl 77 (.tmp 0) rfl (r.cells) (by rfl) M0 ?_; intro b w1 M1 _ _; have c0 := M1.out.get 0 rfl 0 rfl; have c1 := M1.out.get 0 rfl 1 rfl; have c2 := M1.out.get 0 rfl 2 rfl; try simp only [Act.put, sqA, sqB, sqC]) | fail); have RG := Lib.hid (fun w' (hw' : ∃ n, w' = ext w1 n) => show w'.rangeAt b 3 (digC r.dig) from fun j v hj => by obtain ⟨n, rfl⟩ := hw'; exact ((M1.out.keep0 (ext_keep _ n)).blk 0 rfl).get (r.at_dig j v hj)); have A1 : ∀ n, (ext w1 n).cell? ⟨b, 1, none⟩ = some (.string (S r.repo)) := fun n => ((ext_keep _ n).blk (M1.out.blk 0 rfl) (by simp)).get rfl
            refine wp_region_ext_lit (by kernel_rfl) (by kernel_rfl) ?_
            repeat (go_big_quiet_step (fail))
            refine wpQuiet_loadP (by rfl) 23 (.tmp 26) rfl b 3 (by rfl) (digC r.dig) _ RG.out Tryz.underlying23 rfl (dig_size _) ?_; simp only [Act.put, sqA, sqB, sqC]
            repeat (go_big_quiet_step ((go_at_call 49; exact Calls.quiet_ext (HS.out _))))
            refine wpQuiet_nil ?_; intro _ hw'; obtain ⟨nq, hw''⟩ := hw'; subst hw''; have M2 := Lib.hid (M1.out.keep0 (ext_keep _ nq)); clear c1 c2 RG A1; go_wp2_with fail; refine (HPa.out _).mono ?_; rintro e w4 ⟨rfl, k4⟩; have M4 := Lib.hid (M2.out.keep0 k4); clear k4
            go_wp2_with (first | ((with_reducible refine gA 5 ?_); refine wpList_allocM rfl 77 rfl (rt0.cells) (Lib.hid rt_zero) M4 ?_; intro b5 w5 M5 _ _; try simp only [Act.put, sqA, sqB, sqC]) | ((with_reducible refine gS 5 43 ?_); refine wpList_storeM rfl 77 (.tmp 5) (.tmp 43) rfl M5 0 rfl (by rfl) (x.cells) (by rfl) (rt_size x) (by rw [Rt.len, Rt.len]) x.one ?_; intro w6 M6 _; try simp only [Act.put]) | ((with_reducible refine gL 48 5 ?_); refine wpList_loadM (by rfl) 77 (.tmp 5) rfl M6 0 rfl (by rfl) _ Tryz.underlying77 rfl (rt_size x) ?_; try simp only [Act.put, sqA, sqB, sqC]) | ((with_reducible refine gL 49 1 ?_); refine wpList_loadM (by rfl) 77 (.tmp 1) rfl M6 1 rfl (by rfl) _ Tryz.underlying77 rfl (rt_size r) ?_; try simp only [Act.put, sqA, sqB, sqC]) | fail); rw [HR.out]; refine bodyPost_ret (v := .tuple #[.string (S t3), .int .i64 0]) (by simp [results, Tryz.results48, go_sem, S]) rfl ⟨rfl, M6.out.kp⟩
          · skip; subst he; have HR := Lib.hid (hbad (by rw [Bool.eq_false_iff]; exact fun h => hx (hlaw.2 h).2)); have heq := fun w' => eqRt x r hgr hr w'
            rw [decide_eq_false hx] at heq; clear hlaw hgr hr hl hbad hgd hgd2 htl hx; go_enter Tryz.func48, Tryz.ntmps48
            go_wp2_with (first | ((with_reducible refine gX 1 ?_); refine wpList_boxM rfl 77 (.tmp 0) rfl (r.cells) (by rfl) M0 ?_; intro b w1 M1 _ _; have c0 := M1.out.get 0 rfl 0 rfl; have c1 := M1.out.get 0 rfl 1 rfl; have c2 := M1.out.get 0 rfl 2 rfl; try simp only [Act.put, sqA, sqB, sqC]) | fail); have RG := Lib.hid (fun w' (hw' : ∃ n, w' = ext w1 n) => show w'.rangeAt b 3 (digC r.dig) from fun j v hj => by obtain ⟨n, rfl⟩ := hw'; exact ((M1.out.keep0 (ext_keep _ n)).blk 0 rfl).get (r.at_dig j v hj)); have A1 : ∀ n, (ext w1 n).cell? ⟨b, 1, none⟩ = some (.string (S r.repo)) := fun n => ((ext_keep _ n).blk (M1.out.blk 0 rfl) (by simp)).get rfl
            refine wp_region_ext_lit (by kernel_rfl) (by kernel_rfl) ?_
            repeat (go_big_quiet_step (fail))
            refine wpQuiet_loadP (by rfl) 23 (.tmp 26) rfl b 3 (by rfl) (digC r.dig) _ RG.out Tryz.underlying23 rfl (dig_size _) ?_; simp only [Act.put, sqA, sqB, sqC]
            repeat (go_big_quiet_step ((go_at_call 49; exact Calls.quiet_ext (HS.out _))))
            refine wpQuiet_nil ?_; intro _ hw'; obtain ⟨nq, hw''⟩ := hw'; subst hw''; have M2 := Lib.hid (M1.out.keep0 (ext_keep _ nq)); clear c1 c2 RG A1; go_wp2_with fail; refine (HPa.out _).mono ?_; rintro e w4 ⟨rfl, k4⟩; have M4 := Lib.hid (M2.out.keep0 k4); clear k4
            go_wp2_with (first | ((with_reducible refine gA 5 ?_); refine wpList_allocM rfl 77 rfl (rt0.cells) (Lib.hid rt_zero) M4 ?_; intro b5 w5 M5 _ _; try simp only [Act.put, sqA, sqB, sqC]) | ((with_reducible refine gS 5 43 ?_); refine wpList_storeM rfl 77 (.tmp 5) (.tmp 43) rfl M5 0 rfl (by rfl) (x.cells) (by rfl) (rt_size x) (by rw [Rt.len, Rt.len]) x.one ?_; intro w6 M6 _; try simp only [Act.put]) | ((with_reducible refine gL 48 5 ?_); refine wpList_loadM (by rfl) 77 (.tmp 5) rfl M6 0 rfl (by rfl) _ Tryz.underlying77 rfl (rt_size x) ?_; try simp only [Act.put, sqA, sqB, sqC]) | ((with_reducible refine gL 49 1 ?_); refine wpList_loadM (by rfl) 77 (.tmp 1) rfl M6 1 rfl (by rfl) _ Tryz.underlying77 rfl (rt_size r) ?_; try simp only [Act.put, sqA, sqB, sqC]) | fail); rw [HR.out]; refine bodyPost_ret (v := .tuple #[.string (S []), .int .i64 1]) (by simp [results, Tryz.results48, go_sem, S]) rfl ⟨rfl, M6.out.kp⟩
        · skip; have q7 := (int_ne he).1; have q8 := (int_ne he).2; have HR := Lib.hid (hbad (by rw [Bool.eq_false_iff]; exact fun h => he (hlaw.2 h).1)); clear hlaw hgr hr hl hbad hgd hgd2 htl he; go_enter Tryz.func48, Tryz.ntmps48
          go_wp2_with (first | ((with_reducible refine gX 1 ?_); refine wpList_boxM rfl 77 (.tmp 0) rfl (r.cells) (by rfl) M0 ?_; intro b w1 M1 _ _; have c0 := M1.out.get 0 rfl 0 rfl; have c1 := M1.out.get 0 rfl 1 rfl; have c2 := M1.out.get 0 rfl 2 rfl; try simp only [Act.put, sqA, sqB, sqC]) | fail); have RG := Lib.hid (fun w' (hw' : ∃ n, w' = ext w1 n) => show w'.rangeAt b 3 (digC r.dig) from fun j v hj => by obtain ⟨n, rfl⟩ := hw'; exact ((M1.out.keep0 (ext_keep _ n)).blk 0 rfl).get (r.at_dig j v hj)); have A1 : ∀ n, (ext w1 n).cell? ⟨b, 1, none⟩ = some (.string (S r.repo)) := fun n => ((ext_keep _ n).blk (M1.out.blk 0 rfl) (by simp)).get rfl
          refine wp_region_ext_lit (by kernel_rfl) (by kernel_rfl) ?_
          repeat (go_big_quiet_step (fail))
          refine wpQuiet_loadP (by rfl) 23 (.tmp 26) rfl b 3 (by rfl) (digC r.dig) _ RG.out Tryz.underlying23 rfl (dig_size _) ?_; simp only [Act.put, sqA, sqB, sqC]
          repeat (go_big_quiet_step ((go_at_call 49; exact Calls.quiet_ext (HS.out _))))
          refine wpQuiet_nil ?_; intro _ hw'; obtain ⟨nq, hw''⟩ := hw'; subst hw''; have M2 := Lib.hid (M1.out.keep0 (ext_keep _ nq)); clear c1 c2 RG A1; go_wp2_with fail; refine (HPa.out _).mono ?_; rintro e w4 ⟨rfl, k4⟩; have M4 := Lib.hid (M2.out.keep0 k4); clear k4
          go_wp2_with (first | ((with_reducible refine gA 5 ?_); refine wpList_allocM rfl 77 rfl (rt0.cells) (Lib.hid rt_zero) M4 ?_; intro b5 w5 M5 _ _; try simp only [Act.put, sqA, sqB, sqC]) | ((with_reducible refine gS 5 43 ?_); refine wpList_storeM rfl 77 (.tmp 5) (.tmp 43) rfl M5 0 rfl (by rfl) (x.cells) (by rfl) (rt_size x) (by rw [Rt.len, Rt.len]) x.one ?_; intro w6 M6 _; try simp only [Act.put]) | fail); rw [HR.out]; refine bodyPost_ret (v := .tuple #[.string (S []), .int .i64 1]) (by simp [results, Tryz.results48, go_sem, S]) rfl ⟨rfl, M6.out.kp⟩
      · have q3 := (int_ne k3).1; by_cases k4 : r.kind = 4
        · have q4 := (int_eq k4).1; obtain ⟨t1, h1⟩ : ∃ t, rootB ++ r.repo = t := ⟨_, rfl⟩
          obtain ⟨t2, h2⟩ : ∃ t, t1 ++ [47, 98, 108, 111, 98, 115, 47] = t := ⟨_, rfl⟩
          obtain ⟨t3, h3⟩ : ∃ t, t2 ++ stampM r.dig.1 = t := ⟨_, rfl⟩
          have HX : rtText r = t3 := by rw [← h3, ← h2, ← h1]; unfold rtText rtWord rtRef; rw [if_neg k1, if_pos k4, if_neg k2]; simp [blobB]
          have e1 : (⟨#[47, 118, 50, 47]⟩ : ByteArray) ++ S r.repo = S t1 := by rw [← h1]; exact S_append rootB _
          have e2 : S t1 ++ (⟨#[47, 98, 108, 111, 98, 115, 47]⟩ : ByteArray) = S t2 := by rw [← h2]; exact S_append _ [47, 98, 108, 111, 98, 115, 47]
          have e3 : S t2 ++ S (stampM r.dig.1) = S t3 := by rw [← h3]; exact S_append _ _
          have z1 := S_size t1; have z2 := S_size t2; have y1 : t1.length ≤ 1048010 := by rw [← h1, List.length_append]; have : rootB.length = 4 := rfl; omega
          have y2 : t2.length ≤ 1048100 := by rw [← h2, List.length_append]; have : ([47, 98, 108, 111, 98, 115, 47] : List UInt8).length ≤ 20 := by decide
                                              omega
          rw [HX] at HPa; have hgd2 := hgd; rw [HX] at hgd2; have zs := S_size (stampM r.dig.1); rw [hst] at zs; clear h1 h2 h3 k1 k2 k3 k4 hpx HX hst; generalize stampM r.dig.1 = sp at *; by_cases he : er = 0
          · by_cases hx : x = r
            · skip; subst he; have HR := Lib.hid (hgd2 (hlaw.1 ⟨rfl, hx⟩)); have heq := fun w' => eqRt x r hgr hr w'
              rw [decide_eq_true hx] at heq; clear hlaw hgr hr hl hbad hgd hgd2 htl hx; go_enter Tryz.func48, Tryz.ntmps48
              go_wp2_with (first | ((with_reducible refine gX 1 ?_); refine wpList_boxM rfl 77 (.tmp 0) rfl (r.cells) (by rfl) M0 ?_; intro b w1 M1 _ _; have c0 := M1.out.get 0 rfl 0 rfl; have c1 := M1.out.get 0 rfl 1 rfl; have c2 := M1.out.get 0 rfl 2 rfl; try simp only [Act.put, sqA, sqB, sqC]) | fail); have RG := Lib.hid (fun w' (hw' : ∃ n, w' = ext w1 n) => show w'.rangeAt b 3 (digC r.dig) from fun j v hj => by obtain ⟨n, rfl⟩ := hw'; exact ((M1.out.keep0 (ext_keep _ n)).blk 0 rfl).get (r.at_dig j v hj)); have A1 : ∀ n, (ext w1 n).cell? ⟨b, 1, none⟩ = some (.string (S r.repo)) := fun n => ((ext_keep _ n).blk (M1.out.blk 0 rfl) (by simp)).get rfl
              refine wp_region_ext_lit (by kernel_rfl) (by kernel_rfl) ?_
              repeat (go_big_quiet_step (fail))
              refine wpQuiet_loadP (by rfl) 23 (.tmp 36) rfl b 3 (by rfl) (digC r.dig) _ RG.out Tryz.underlying23 rfl (dig_size _) ?_; simp only [Act.put, sqA, sqB, sqC]
              repeat (go_big_quiet_step ((go_at_call 49; exact Calls.quiet_ext (HS.out _))))
              refine wpQuiet_nil ?_; intro _ hw'; obtain ⟨nq, hw''⟩ := hw'; subst hw''; have M2 := Lib.hid (M1.out.keep0 (ext_keep _ nq)); clear c1 c2 RG A1; go_wp2_with fail; refine (HPa.out _).mono ?_; rintro e w4 ⟨rfl, k4⟩; have M4 := Lib.hid (M2.out.keep0 k4); clear k4
              go_wp2_with (first | ((with_reducible refine gA 5 ?_); refine wpList_allocM rfl 77 rfl (rt0.cells) (Lib.hid rt_zero) M4 ?_; intro b5 w5 M5 _ _; try simp only [Act.put, sqA, sqB, sqC]) | ((with_reducible refine gS 5 43 ?_); refine wpList_storeM rfl 77 (.tmp 5) (.tmp 43) rfl M5 0 rfl (by rfl) (x.cells) (by rfl) (rt_size x) (by rw [Rt.len, Rt.len]) x.one ?_; intro w6 M6 _; try simp only [Act.put]) | ((with_reducible refine gL 48 5 ?_); refine wpList_loadM (by rfl) 77 (.tmp 5) rfl M6 0 rfl (by rfl) _ Tryz.underlying77 rfl (rt_size x) ?_; try simp only [Act.put, sqA, sqB, sqC]) | ((with_reducible refine gL 49 1 ?_); refine wpList_loadM (by rfl) 77 (.tmp 1) rfl M6 1 rfl (by rfl) _ Tryz.underlying77 rfl (rt_size r) ?_; try simp only [Act.put, sqA, sqB, sqC]) | fail); rw [HR.out]; refine bodyPost_ret (v := .tuple #[.string (S t3), .int .i64 0]) (by simp [results, Tryz.results48, go_sem, S]) rfl ⟨rfl, M6.out.kp⟩
            · skip; subst he; have HR := Lib.hid (hbad (by rw [Bool.eq_false_iff]; exact fun h => hx (hlaw.2 h).2)); have heq := fun w' => eqRt x r hgr hr w'
              rw [decide_eq_false hx] at heq; clear hlaw hgr hr hl hbad hgd hgd2 htl hx; go_enter Tryz.func48, Tryz.ntmps48
              go_wp2_with (first | ((with_reducible refine gX 1 ?_); refine wpList_boxM rfl 77 (.tmp 0) rfl (r.cells) (by rfl) M0 ?_; intro b w1 M1 _ _; have c0 := M1.out.get 0 rfl 0 rfl; have c1 := M1.out.get 0 rfl 1 rfl; have c2 := M1.out.get 0 rfl 2 rfl; try simp only [Act.put, sqA, sqB, sqC]) | fail); have RG := Lib.hid (fun w' (hw' : ∃ n, w' = ext w1 n) => show w'.rangeAt b 3 (digC r.dig) from fun j v hj => by obtain ⟨n, rfl⟩ := hw'; exact ((M1.out.keep0 (ext_keep _ n)).blk 0 rfl).get (r.at_dig j v hj)); have A1 : ∀ n, (ext w1 n).cell? ⟨b, 1, none⟩ = some (.string (S r.repo)) := fun n => ((ext_keep _ n).blk (M1.out.blk 0 rfl) (by simp)).get rfl
              refine wp_region_ext_lit (by kernel_rfl) (by kernel_rfl) ?_
              repeat (go_big_quiet_step (fail))
              refine wpQuiet_loadP (by rfl) 23 (.tmp 36) rfl b 3 (by rfl) (digC r.dig) _ RG.out Tryz.underlying23 rfl (dig_size _) ?_; simp only [Act.put, sqA, sqB, sqC]
              repeat (go_big_quiet_step ((go_at_call 49; exact Calls.quiet_ext (HS.out _))))
              refine wpQuiet_nil ?_; intro _ hw'; obtain ⟨nq, hw''⟩ := hw'; subst hw''; have M2 := Lib.hid (M1.out.keep0 (ext_keep _ nq)); clear c1 c2 RG A1; go_wp2_with fail; refine (HPa.out _).mono ?_; rintro e w4 ⟨rfl, k4⟩; have M4 := Lib.hid (M2.out.keep0 k4); clear k4
              go_wp2_with (first | ((with_reducible refine gA 5 ?_); refine wpList_allocM rfl 77 rfl (rt0.cells) (Lib.hid rt_zero) M4 ?_; intro b5 w5 M5 _ _; try simp only [Act.put, sqA, sqB, sqC]) | ((with_reducible refine gS 5 43 ?_); refine wpList_storeM rfl 77 (.tmp 5) (.tmp 43) rfl M5 0 rfl (by rfl) (x.cells) (by rfl) (rt_size x) (by rw [Rt.len, Rt.len]) x.one ?_; intro w6 M6 _; try simp only [Act.put]) | ((with_reducible refine gL 48 5 ?_); refine wpList_loadM (by rfl) 77 (.tmp 5) rfl M6 0 rfl (by rfl) _ Tryz.underlying77 rfl (rt_size x) ?_; try simp only [Act.put, sqA, sqB, sqC]) | ((with_reducible refine gL 49 1 ?_); refine wpList_loadM (by rfl) 77 (.tmp 1) rfl M6 1 rfl (by rfl) _ Tryz.underlying77 rfl (rt_size r) ?_; try simp only [Act.put, sqA, sqB, sqC]) | fail); rw [HR.out]; refine bodyPost_ret (v := .tuple #[.string (S []), .int .i64 1]) (by simp [results, Tryz.results48, go_sem, S]) rfl ⟨rfl, M6.out.kp⟩
          · skip; have q7 := (int_ne he).1; have q8 := (int_ne he).2; have HR := Lib.hid (hbad (by rw [Bool.eq_false_iff]; exact fun h => he (hlaw.2 h).1)); clear hlaw hgr hr hl hbad hgd hgd2 htl he; go_enter Tryz.func48, Tryz.ntmps48
            go_wp2_with (first | ((with_reducible refine gX 1 ?_); refine wpList_boxM rfl 77 (.tmp 0) rfl (r.cells) (by rfl) M0 ?_; intro b w1 M1 _ _; have c0 := M1.out.get 0 rfl 0 rfl; have c1 := M1.out.get 0 rfl 1 rfl; have c2 := M1.out.get 0 rfl 2 rfl; try simp only [Act.put, sqA, sqB, sqC]) | fail); have RG := Lib.hid (fun w' (hw' : ∃ n, w' = ext w1 n) => show w'.rangeAt b 3 (digC r.dig) from fun j v hj => by obtain ⟨n, rfl⟩ := hw'; exact ((M1.out.keep0 (ext_keep _ n)).blk 0 rfl).get (r.at_dig j v hj)); have A1 : ∀ n, (ext w1 n).cell? ⟨b, 1, none⟩ = some (.string (S r.repo)) := fun n => ((ext_keep _ n).blk (M1.out.blk 0 rfl) (by simp)).get rfl
            refine wp_region_ext_lit (by kernel_rfl) (by kernel_rfl) ?_
            repeat (go_big_quiet_step (fail))
            refine wpQuiet_loadP (by rfl) 23 (.tmp 36) rfl b 3 (by rfl) (digC r.dig) _ RG.out Tryz.underlying23 rfl (dig_size _) ?_; simp only [Act.put, sqA, sqB, sqC]
            repeat (go_big_quiet_step ((go_at_call 49; exact Calls.quiet_ext (HS.out _))))
            refine wpQuiet_nil ?_; intro _ hw'; obtain ⟨nq, hw''⟩ := hw'; subst hw''; have M2 := Lib.hid (M1.out.keep0 (ext_keep _ nq)); clear c1 c2 RG A1; go_wp2_with fail; refine (HPa.out _).mono ?_; rintro e w4 ⟨rfl, k4⟩; have M4 := Lib.hid (M2.out.keep0 k4); clear k4
            go_wp2_with (first | ((with_reducible refine gA 5 ?_); refine wpList_allocM rfl 77 rfl (rt0.cells) (Lib.hid rt_zero) M4 ?_; intro b5 w5 M5 _ _; try simp only [Act.put, sqA, sqB, sqC]) | ((with_reducible refine gS 5 43 ?_); refine wpList_storeM rfl 77 (.tmp 5) (.tmp 43) rfl M5 0 rfl (by rfl) (x.cells) (by rfl) (rt_size x) (by rw [Rt.len, Rt.len]) x.one ?_; intro w6 M6 _; try simp only [Act.put]) | fail); rw [HR.out]; refine bodyPost_ret (v := .tuple #[.string (S []), .int .i64 1]) (by simp [results, Tryz.results48, go_sem, S]) rfl ⟨rfl, M6.out.kp⟩
        · have q4 := (int_ne k4).1; have hng := text_none k1 k2 k3 k4; have hng2 : goodRtM r ≠ true := by rw [hng]; simp
          have HR := Lib.hid (hbad hng); have HPa := Lib.hid (fun w' => ref15_Parse [] w' (by simp)); rw [parseO_of (show parseP [] = (rt0, 7) from rfl)] at HPa; clear hlaw hgr hr hl hbad hgd htl k1 k2 k3 k4 hpx hng hng2 hst; go_enter Tryz.func48, Tryz.ntmps48
          go_wp2_with (first | ((with_reducible refine gX 1 ?_); refine wpList_boxM rfl 77 (.tmp 0) rfl (r.cells) (by rfl) M0 ?_; intro b w1 M1 _ _; have c0 := M1.out.get 0 rfl 0 rfl; try simp only [Act.put, sqA, sqB, sqC]) | fail); refine (HPa.out _).mono ?_; rintro e w4 ⟨rfl, k4⟩; have M4 := Lib.hid (M1.out.keep0 k4); clear k4
          go_wp2_with (first | ((with_reducible refine gA 5 ?_); refine wpList_allocM rfl 77 rfl (rt0.cells) (Lib.hid rt_zero) M4 ?_; intro b5 w5 M5 _ _; try simp only [Act.put, sqA, sqB, sqC]) | ((with_reducible refine gS 5 43 ?_); refine wpList_storeM rfl 77 (.tmp 5) (.tmp 43) rfl M5 0 rfl (by rfl) (rt0.cells) (by rfl) (rt_size rt0) rfl rt0.one ?_; intro w6 M6 _; try simp only [Act.put]) | fail); rw [HR.out]; refine bodyPost_ret (v := .tuple #[.string (S []), .int .i64 1]) (by simp [results, Tryz.results48, go_sem, S]) rfl ⟨rfl, M6.out.kp⟩
set_option maxRecDepth 100000 in
set_option maxHeartbeats 400000 in
theorem taste_low (l : List UInt8) (w : World) (hs : l.length ≤ maxLen) :
    Calls Tryz.prog 208 #[.string (S l)] w fun e w' => e = .returned (.string (S (lowW l))) ∧ Keep [] w w' := by
  have hs' : l.length ≤ 9223372036854775807 := hs; have hcv := conv_run w (S l); have hby := Bytes.conv w 5 l; have hkp := conv_keep w 5 (S l); have hsz := S_size l; generalize Lib.bytesWorld w 5 (S l) = wb at hcv hby hkp; generalize hX : w.heap.size = X at hcv hby; have HX := Lib.hid hX; clear hs hX; go_enter Tryz.func208, Tryz.ntmps208; go_wp2_with fail
  go_loopg [10] l.length (fun g i wr => ∃ k : Nat, i = .int .i64 k ∧ k ≤ l.length ∧ g = l.length - k ∧ Bytes wr X (lowTo l k) ∧ Keep [] w wr)
  case atStart => exact ⟨0, rfl, Nat.zero_le _, by omega, by simpa [lowTo] using hby, hkp⟩
  case round =>
    obtain ⟨k, rfl, hk, hgk, hbr, hkr⟩ := hrel; by_cases hlt : k < l.length
    · obtain ⟨c, hg⟩ : ∃ c, l[k]? = some c := ⟨_, List.getElem?_eq_getElem hlt⟩
      have hc := hbr.1 k c (lowTo_at hg); have hf := hbr.2 k (by rw [lowTo_length]; exact hlt); have hc8 := u8_nat c; have HG := Lib.hid hg; have HB := Lib.hid hbr; clear hg hbr hby hkp; by_cases ht : 65 ≤ c.toNat ∧ c.toNat ≤ 90
      · obtain ⟨h1, h2⟩ := ht
        have hl : (lowB c).toNat = c.toNat + 32 := by
          unfold lowB; rw [if_pos ⟨h1, h2⟩, UInt8.toNat_add]; have : (32 : UInt8).toNat = 32 := rfl; omega
        have HL := Lib.hid hl; clear hl; go_wp2_with fail
        go_roundg (l.length - (k + 1))
        case measure => omega
        case rel =>
          refine ⟨k + 1, by go_num, by omega, rfl, ?_, hkr.setCell _ _ (by have := HX.out; simp; omega)⟩; rw [lowTo_succ HG.out]; exact HB.out.set k (by rw [lowTo_length]; exact hlt) _ _ (by rw [HL.out]; omega)
      · have hl : lowB c = c := by unfold lowB; rw [if_neg ht]
        have HL := Lib.hid hl; have HT := Lib.hid ht
        have hend : Bytes wr X (lowTo l (k + 1)) := by
          rw [lowTo_succ HG.out, hl, list_set_self _ _ _ (lowTo_at HG.out)]; exact HB.out
        clear hl; by_cases h1 : 65 ≤ c.toNat
        · have h2 : 90 < c.toNat := by omega
          clear ht; go_wp2_with fail
          go_roundg (l.length - (k + 1))
          case measure => omega
          case rel => exact ⟨k + 1, by go_num, by omega, rfl, hend, hkr⟩
        · clear ht; go_wp2_with fail
          go_roundg (l.length - (k + 1))
          case measure => omega
          case rel => exact ⟨k + 1, by go_num, by omega, rfl, hend, hkr⟩
    · have hke : k = l.length := by omega
      rw [hke, lowTo_end] at hbr; have hback := hbr.back (P := Tryz.prog) 143 9 5 l.length (grownCap w l.length 0 5) (by simp [lowW]) Tryz.underlying143 Tryz.underlying5 Tryz.underlying9; have HKE := Lib.hid hke; clear hke hbr hby; go_wp2_with fail; go_ret; exact ⟨rfl, hkr⟩
def splO (l : List UInt8) : Ending := if isTypeM l then .returned (.tuple #[.string (S (lowW (typA l))), .string (S (lowW (typB l))), .bool true]) else .returned (.tuple #[.string (S []), .string (S []), .bool false])
theorem splO_no {l : List UInt8} (h : isTypeM l = false) : splO l = .returned (.tuple #[.string (S []), .string (S []), .bool false]) := by unfold splO; rw [h]; rfl
theorem splO_yes {l : List UInt8} (h : isTypeM l = true) : splO l = .returned (.tuple #[.string (S (lowW (typA l))), .string (S (lowW (typB l))), .bool true]) := by unfold splO; rw [h]; rfl
set_option maxRecDepth 100000 in
set_option maxHeartbeats 1000000 in
theorem taste_split (l : List UInt8) (w : World) (hm : ML w) (hl : l.length ≤ 1048576) :
    Calls Tryz.prog 172 #[.string (S l)] w fun e w' => e = splO l ∧ Keep [] w w' := by
  have HL := Lib.hid (taste_low l w (show l.length ≤ 9223372036854775807 by omega)); have HC := Lib.hid (fun w1 (k : Keep [] w w1) => strings_Cut (lowW l) ⟨#[47]⟩ w1 (hm.keep k (by simp)) (by rw [low_len]; omega)); have hsz := S_size l; have hT := isType_cut l; have hcv := low_cut l; have lA : (typA l).length ≤ l.length := by unfold typA; rw [List.length_take]; omega
  have lB : (typB l).length ≤ l.length := by unfold typB; rw [List.length_drop]; omega
  have hTA := fun w' => field_IsToken (lowW (typA l)) w' (show (lowW (typA l)).length ≤ 9223372036854775807 by rw [low_len]; omega)
  have hTB := fun w' => field_IsToken (lowW (typB l)) w' (show (lowW (typB l)).length ≤ 9223372036854775807 by rw [low_len]; omega)
  rw [hcv] at hT; by_cases hp : 0 ≤ Lib.indexByte l 47
  · rw [if_pos hp] at hT hcv; have HC2 := Lib.hid (fun w1 (k : Keep [] w w1) => show Calls Tryz.prog 130 #[.string (S (lowW l)), .string ⟨#[47]⟩] w1 fun e w' => e = .returned (.tuple #[.string (S (lowW (typA l))), .string (S (lowW (typB l))), .bool true]) ∧ Keep [] w1 w' by have := HC.out w1 k; simp only [hcv] at this; exact this); simp only [Bool.true_and] at hT; clear hcv hp HC lA lB; have hYES : isTypeM l = true → splO l = .returned (.tuple #[.string (S (lowW (typA l))), .string (S (lowW (typB l))), .bool true]) := splO_yes; generalize lowW (typA l) = a at *; generalize lowW (typB l) = b at *; have HY := Lib.hid hYES; clear hYES
    cases ha : isTok a with
    | false =>
      rw [ha] at hT hTA; have HR := Lib.hid (splO_no (show isTypeM l = false by rw [hT]; rfl)); have HTA := Lib.hid hTA; clear hT hTA hTB ha; go_enter Tryz.func172, Tryz.ntmps172; go_wp2_with fail; refine HL.out.mono ?_; rintro e w1 ⟨rfl, k1⟩; have K1 := Lib.hid k1; clear k1; go_wp2_with fail; refine (HC2.out _ K1.out).mono ?_; rintro e w2 ⟨rfl, k2⟩; have K2 := Lib.hid (K1.out.trans k2); clear k2; go_wp2_with fail; refine (HTA.out _).mono ?_; rintro e w3 ⟨rfl, k3⟩; have K3 := Lib.hid (K2.out.trans k3); clear k3; go_wp2_with fail; rw [HR.out]; refine bodyPost_ret (v := .tuple #[.string (S []), .string (S []), .bool false]) (by simp [results, Tryz.results172, go_sem, S]) rfl ⟨rfl, K3.out⟩
    | true =>
      rw [ha] at hT hTA; have HTA := Lib.hid hTA
      cases hb : isTok b with
      | false =>
        rw [hb] at hT hTB; have HR := Lib.hid (splO_no (show isTypeM l = false by rw [hT]; rfl)); have HTB := Lib.hid hTB; clear hT hTA hTB ha hb; go_enter Tryz.func172, Tryz.ntmps172; go_wp2_with fail; refine HL.out.mono ?_; rintro e w1 ⟨rfl, k1⟩; have K1 := Lib.hid k1; clear k1; go_wp2_with fail; refine (HC2.out _ K1.out).mono ?_; rintro e w2 ⟨rfl, k2⟩; have K2 := Lib.hid (K1.out.trans k2); clear k2; go_wp2_with fail; refine (HTA.out _).mono ?_; rintro e w3 ⟨rfl, k3⟩; have K3 := Lib.hid (K2.out.trans k3); clear k3; go_wp2_with fail; refine (HTB.out _).mono ?_; rintro e w4 ⟨rfl, k4⟩; have K4 := Lib.hid (K3.out.trans k4); clear k4; go_wp2_with fail; rw [HR.out]; refine bodyPost_ret (v := .tuple #[.string (S []), .string (S []), .bool false]) (by simp [results, Tryz.results172, go_sem, S]) rfl ⟨rfl, K4.out⟩
      | true =>
        rw [hb] at hT hTB; have HTB := Lib.hid hTB; by_cases h100 : l.length ≤ 100
        · have q : decide ((l.length : Int) > 100) = false := by simp; omega
          rw [decide_eq_true h100] at hT; have HR := Lib.hid (HY.out (show isTypeM l = true by rw [hT]; rfl)); clear hT hTA hTB ha hb; go_enter Tryz.func172, Tryz.ntmps172; go_wp2_with fail; refine HL.out.mono ?_; rintro e w1 ⟨rfl, k1⟩; have K1 := Lib.hid k1; clear k1; go_wp2_with fail; refine (HC2.out _ K1.out).mono ?_; rintro e w2 ⟨rfl, k2⟩; have K2 := Lib.hid (K1.out.trans k2); clear k2; go_wp2_with fail; refine (HTA.out _).mono ?_; rintro e w3 ⟨rfl, k3⟩; have K3 := Lib.hid (K2.out.trans k3); clear k3; go_wp2_with fail; refine (HTB.out _).mono ?_; rintro e w4 ⟨rfl, k4⟩; have K4 := Lib.hid (K3.out.trans k4); clear k4; go_wp2_with fail; rw [HR.out]; refine bodyPost_ret (v := .tuple #[.string (S a), .string (S b), .bool true]) (by simp [results, Tryz.results172, go_sem]) rfl ⟨rfl, K4.out⟩
        · have q : decide ((l.length : Int) > 100) = true := by simp; omega
          rw [decide_eq_false h100] at hT; have HR := Lib.hid (splO_no (show isTypeM l = false by rw [hT]; rfl)); clear hT hTA hTB ha hb; go_enter Tryz.func172, Tryz.ntmps172; go_wp2_with fail; refine HL.out.mono ?_; rintro e w1 ⟨rfl, k1⟩; have K1 := Lib.hid k1; clear k1; go_wp2_with fail; refine (HC2.out _ K1.out).mono ?_; rintro e w2 ⟨rfl, k2⟩; have K2 := Lib.hid (K1.out.trans k2); clear k2; go_wp2_with fail; refine (HTA.out _).mono ?_; rintro e w3 ⟨rfl, k3⟩; have K3 := Lib.hid (K2.out.trans k3); clear k3; go_wp2_with fail; refine (HTB.out _).mono ?_; rintro e w4 ⟨rfl, k4⟩; have K4 := Lib.hid (K3.out.trans k4); clear k4; go_wp2_with fail; rw [HR.out]; refine bodyPost_ret (v := .tuple #[.string (S []), .string (S []), .bool false]) (by simp [results, Tryz.results172, go_sem, S]) rfl ⟨rfl, K4.out⟩
  · rw [if_neg hp] at hT hcv; have HC2 := Lib.hid (fun w1 (k : Keep [] w w1) => show Calls Tryz.prog 130 #[.string (S (lowW l)), .string ⟨#[47]⟩] w1 fun e w' => e = .returned (.tuple #[.string (S (lowW l)), .string (S []), .bool false]) ∧ Keep [] w1 w' by have := HC.out w1 k; simp only [hcv] at this; exact this); have HR := Lib.hid (splO_no (show isTypeM l = false by rw [hT]; rfl)); clear hT hTA hTB hcv hp HC lA lB; go_enter Tryz.func172, Tryz.ntmps172; go_wp2_with fail; refine HL.out.mono ?_; rintro e w1 ⟨rfl, k1⟩; have K1 := Lib.hid k1; clear k1; go_wp2_with fail; refine (HC2.out _ K1.out).mono ?_; rintro e w2 ⟨rfl, k2⟩; have K2 := Lib.hid (K1.out.trans k2); clear k2; go_wp2_with fail; rw [HR.out]; refine bodyPost_ret (v := .tuple #[.string (S []), .string (S []), .bool false]) (by simp [results, Tryz.results172, go_sem, S]) rfl ⟨rfl, K2.out⟩
theorem isType_same {l : List UInt8} {v : Bool} (h : isTypeM l = v) : splO l = .returned (.tuple #[.string (S (if v then lowW (typA l) else [])), .string (S (if v then lowW (typB l) else [])), .bool v]) := by
  unfold splO; rw [h]; cases v <;> rfl
set_option maxRecDepth 100000 in
set_option maxHeartbeats 1000000 in
theorem taste_IsType (l : List UInt8) (w : World) (hm : ML w) (hl : l.length ≤ 1048576) :
    Calls Tryz.prog 128 #[.string (S l)] w fun e w' => e = .returned (.bool (isTypeM l)) ∧ Keep [] w w' := by
  have HS := Lib.hid (taste_split l w hm hl); have HE := Lib.hid (isType_same (l := l) rfl); generalize isTypeM l = v at *; cases v
  all_goals
    go_enter Tryz.func128, Tryz.ntmps128; go_wp2_with fail; refine HS.out.mono ?_; rw [HE.out]; rintro e w1 ⟨rfl, k1⟩; have K1 := Lib.hid k1; clear k1; go_wp2_with fail; go_ret; exact ⟨rfl, K1.out⟩
def tagM (d : Dig) : List UInt8 := [34] ++ stampM d.1 ++ [34]
theorem dig_sz (d : Dig) : (Tryz.prog.info? 23).map (·.size) = some (digC d).length := by rw [digC_length]; kernel_rfl
set_option maxRecDepth 100000 in
set_option maxHeartbeats 1000000 in
theorem taste_Tag (d : Dig) (w : World) :
    Calls Tryz.prog 46 #[.agg (digC d).toArray] w fun e w' => e = .returned (.string (S (tagM d))) ∧ Keep [] w w' := by
  have M0 := Lib.hid (Mem.nil w); have HS := Lib.hid (fun w' => stamp_Print d w'); have hl := stampM_len d; have HT := Lib.hid (show tagM d = [34] ++ stampM d.1 ++ [34] from rfl); generalize stampM d.1 = s at *; obtain ⟨t1, h1⟩ : ∃ t, [34] ++ s = t := ⟨_, rfl⟩
  obtain ⟨t2, h2⟩ : ∃ t, t1 ++ [34] = t := ⟨_, rfl⟩
  rw [h1, h2] at HT; have e1 : (⟨#[34]⟩ : ByteArray) ++ S s = S t1 := by rw [← h1]; exact S_append [34] _
  have e2 : S t1 ++ (⟨#[34]⟩ : ByteArray) = S t2 := by rw [← h2]; exact S_append _ [34]
  have z0 := S_size s; have z1 := S_size t1; have y1 : t1.length = 72 := by rw [← h1, List.length_append, hl]; rfl
  rw [y1] at z1; rw [hl] at z0; clear h1 h2 hl y1; go_enter Tryz.func46, Tryz.ntmps46
  go_wp2_with (first | ((with_reducible refine gX 1 ?_); refine wpList_boxM rfl 23 (.tmp 0) rfl (digC d) (by rfl) M0 ?_; intro b w1 M1 _ _; try simp only [Act.put, sqA, sqB, sqC]) | ((with_reducible refine gL 3 1 ?_); refine wpList_loadM (by rfl) 23 (.tmp 1) rfl M1 0 rfl (by rfl) _ Tryz.underlying23 rfl (dig_sz d) ?_; try simp only [Act.put, sqA, sqB, sqC]) | fail); refine (HS.out _).mono ?_; rintro e w2 ⟨rfl, k2⟩; have M2 := Lib.hid (M1.out.keep0 k2); clear k2; go_wp2_with fail; go_ret; exact ⟨by rw [HT.out]; rfl, M2.out.kp⟩
set_option maxRecDepth 100000 in
set_option maxHeartbeats 2000000 in
theorem ref17_IsType (l : List UInt8) (w : World) (hl : l.length ≤ 1048576) :
    Calls Tryz.prog 94 #[.string (S l)] w fun e w' => e = .returned (.bool (isTypeM l)) ∧ Keep [] w w' := by
  have HF := Lib.hid (show Calls Tryz.prog 140 #[.string (S l), .int .u8 47] w fun e w' => e = .returned (.int .i64 (Lib.indexByte l 47)) ∧ w = w' from ref_Find l 47 w (show l.length ≤ 9223372036854775807 by omega)); have hT : isTypeM l = (decide (0 ≤ Lib.indexByte l 47) && isTok (typA l) && isTok (typB l) && decide (l.length ≤ 100)) := rfl; have hz := S_size l; have hge := Lib.indexByte_ge l 47; by_cases hp : 0 ≤ Lib.indexByte l 47
  · obtain ⟨q, hq⟩ : ∃ q : Nat, Lib.indexByte l 47 = q := ⟨(Lib.indexByte l 47).toNat, by omega⟩
    have hql := (List.getElem?_eq_some_iff.1 (Lib.indexByte_some hq).1).1; rw [decide_eq_true hp, Bool.true_and] at hT; have hA : typA l = l.take q := by unfold typA; rw [hq]; rfl
    have hB : typB l = l.drop (q + 1) := by unfold typB; rw [hq]; rfl
    rw [hA, hB] at hT; rw [hq] at HF; have TA := fun w' => ref_IsToken (l.take q) w' (show (l.take q).length ≤ 9223372036854775807 by rw [List.length_take]; omega)
    have TB := fun w' => ref_IsToken (l.drop (q + 1)) w' (show (l.drop (q + 1)).length ≤ 9223372036854775807 by rw [List.length_drop]; omega)
    have x1 : (S l).extract 0 q = S (l.take q) := by rw [S_extract]; simp
    have x2 : (S l).extract (q + 1) l.length = S (l.drop (q + 1)) := by rw [S_extract, List.take_length]
    have wk := IntWalk.i64_in ((q : Int) + 1) (by omega); have n1 : ((q : Int) + 1).toNat = q + 1 := by omega
    have i0 : (0 : Int) ≤ (q : Int) := by omega
    have i1 : (q : Int) ≤ (l.length : Int) := by omega
    have i2 : (q : Int) + 1 ≤ (l.length : Int) := by omega
    have i3 : (0 : Int) ≤ (q : Int) + 1 := by omega
    clear hA hB hq hp hge hl
    cases ha : isTok (l.take q) with
    | false =>
      rw [ha] at hT TA; have HT := Lib.hid (show isTypeM l = false by rw [hT]; rfl); have HA := Lib.hid TA; clear hT TA TB ha; go_enter Tryz.func94, Tryz.ntmps94; go_wp2_with fail; refine HF.out.mono ?_; rintro e w1 ⟨rfl, rfl⟩; go_wp2_with (go_at_call 141; refine (HA.out _).mono ?_; rintro e w1 ⟨rfl, rfl⟩); go_ret; exact ⟨ret_bool HT.out.symm, Keep.refl _ _⟩
    | true =>
      rw [ha, Bool.true_and] at hT; rw [ha] at TA; have HA := Lib.hid TA
      cases hb : isTok (l.drop (q + 1)) with
      | false =>
        rw [hb] at hT TB; have HT := Lib.hid (show isTypeM l = false by rw [hT]; rfl); have HB := Lib.hid TB; clear hT TA TB ha hb; go_enter Tryz.func94, Tryz.ntmps94; go_wp2_with fail; refine HF.out.mono ?_; rintro e w1 ⟨rfl, rfl⟩; go_wp2_with (go_at_call 141; first | ((with_reducible refine (HA.out _).mono ?_); rintro e w1 ⟨rfl, rfl⟩) | ((with_reducible refine (HB.out _).mono ?_); rintro e w1 ⟨rfl, rfl⟩)); go_ret; exact ⟨ret_bool HT.out.symm, Keep.refl _ _⟩
      | true =>
        rw [hb, Bool.true_and] at hT; rw [hb] at TB; have HB := Lib.hid TB; have HT := Lib.hid hT; clear hT TA TB ha hb; by_cases h100 : l.length ≤ 100
        all_goals
          have hd := h100; go_enter Tryz.func94, Tryz.ntmps94; go_wp2_with fail; refine HF.out.mono ?_; rintro e w1 ⟨rfl, rfl⟩; go_wp2_with (go_at_call 141; first | ((with_reducible refine (HA.out _).mono ?_); rintro e w1 ⟨rfl, rfl⟩) | ((with_reducible refine (HB.out _).mono ?_); rintro e w1 ⟨rfl, rfl⟩)); go_ret; exact ⟨ret_bool (by rw [HT.out]; simp [hd]; omega), Keep.refl _ _⟩
  · have HT := Lib.hid (show isTypeM l = false by rw [hT, decide_eq_false hp]; rfl); have hq : Lib.indexByte l 47 = -1 := by omega
    rw [hq] at HF; clear hT hp hge hl hq; go_enter Tryz.func94, Tryz.ntmps94; go_wp2_with fail; refine HF.out.mono ?_; rintro e w1 ⟨rfl, rfl⟩; go_wp2_with fail; go_ret; exact ⟨ret_bool HT.out.symm, Keep.refl _ _⟩
end Go.Proofs.YtlhnjkekjbbhcaaGreatDoor
