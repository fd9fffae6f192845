/- Parts of the proof of ErrandAsks, in order. No conditions but those that each theorem states. -/
import Derived.Test.YtlhnjkekjbbhcaaGreatDoorYErrandAsks0
import Derived.Lib.SlBytesConst
import Derived.Lib.LaidTab
import Derived.Lib.ItoaNum
import Derived.Lib.ItoaLen
import Derived.Sort.Grow
import Derived.Test.YtlhnjkekjbbhcaaGreatDoorYErrandAsks25
set_option linter.unusedSimpArgs false
set_option linter.unusedVariables false
namespace Go.Proofs.YtlhnjkekjbbhcaaGreatDoor
open Go.RowKit Go.Shelf
def okKy (k : Ky) : Prop := k.repo.length ≤ 1048576 ∧ k.tag.length ≤ 1048576 ∧ in64 k.kind
theorem goodKy_no {k : Ky} (h : isRepoM k.repo = false) : goodKyM k = false := by unfold goodKyM; rw [h]; rfl
theorem goodKy_1 {k : Ky} (h : isRepoM k.repo = true) (h1 : k.kind = 1) : goodKyM k = (isTagM k.tag && (decide (k.dig = zeroD) && !k.blob)) := by unfold goodKyM; rw [h, if_pos h1]; rfl
theorem goodKy_23 {k : Ky} (h : isRepoM k.repo = true) (h1 : k.kind = 2 ∨ k.kind = 3) : goodKyM k = k.tag.isEmpty := by unfold goodKyM; rw [h, if_neg (by omega), decide_eq_true h1]; rfl
theorem goodKy_x {k : Ky} (h : isRepoM k.repo = true) (h1 : k.kind ≠ 1) (h2 : k.kind ≠ 2) (h3 : k.kind ≠ 3) : goodKyM k = false := by unfold goodKyM; rw [h, if_neg h1, decide_eq_false (by omega)]; rfl
set_option maxRecDepth 100000 in
set_option maxHeartbeats 2000000 in
theorem errand_Good (k : Ky) (w : World) (hk : okKy k) :
    Calls Tryz.prog 14 #[.agg k.cells.toArray] w fun e w' => e = .returned (.bool (goodKyM k)) ∧ Keep [] w w' := by
  have M0 := Lib.hid (Mem.nil w); obtain ⟨l1, l2, _⟩ := hk; have m1 : k.repo.length ≤ maxLen := (show k.repo.length ≤ 9223372036854775807 by omega)
  have m2 : k.tag.length ≤ maxLen := (show k.tag.length ≤ 9223372036854775807 by omega)
  have st := S_toList k.tag
  cases hi : isRepoM k.repo with
  | false =>
    have HR := Lib.hid (isRepo_is hi m1); have HE := Lib.hid (goodKy_no hi); clear hi l1 l2 m1 m2; go_enter Tryz.func14, Tryz.ntmps14
    go_wp2_with (first | ((with_reducible refine gX 1 ?_); refine wpList_boxM rfl 25 (.tmp 0) rfl (k.cells) (by rfl) M0 ?_; intro b w1 M1 _ _; have c0 := M1.out.get 0 rfl 0 rfl; have c1 := M1.out.get 0 rfl 1 rfl; try simp only [Act.put, sqA, sqB, sqC]) | fail); refine (HR.out _).mono ?_; rintro e w2 ⟨rfl, k2⟩; have M2 := Lib.hid (M1.out.keep0 k2); have d0 := M2.out.get 0 rfl 0 rfl; have d2 := M2.out.get 0 rfl 2 rfl; clear k2; go_wp2_with fail; go_ret; exact ⟨ret_bool HE.out.symm, M2.out.kp⟩
  | true =>
    have HR := Lib.hid (isRepo_is hi m1); by_cases k1 : k.kind = 1
    · have q1 := (int_eq k1).1; have hE := goodKy_1 hi k1
      cases ht : isTagM k.tag with
      | false =>
        have HT := Lib.hid (isTag_is ht m2); have HE := Lib.hid (show goodKyM k = false by rw [hE, ht]; rfl); clear hi ht hE k1 l1 l2 m1 m2; go_enter Tryz.func14, Tryz.ntmps14
        go_wp2_with (first | ((with_reducible refine gX 1 ?_); refine wpList_boxM rfl 25 (.tmp 0) rfl (k.cells) (by rfl) M0 ?_; intro b w1 M1 _ _; have c0 := M1.out.get 0 rfl 0 rfl; have c1 := M1.out.get 0 rfl 1 rfl; try simp only [Act.put, sqA, sqB, sqC]) | fail); refine (HR.out _).mono ?_; rintro e w2 ⟨rfl, k2⟩; have M2 := Lib.hid (M1.out.keep0 k2); have d0 := M2.out.get 0 rfl 0 rfl; have d2 := M2.out.get 0 rfl 2 rfl; clear k2; go_wp2_with fail; refine (HT.out _).mono ?_; rintro e w3 ⟨rfl, k3⟩; have M3 := Lib.hid (M2.out.keep0 k3); clear k3; go_wp2_with fail; go_ret; exact ⟨ret_bool HE.out.symm, M3.out.kp⟩
      | true =>
        have HT := Lib.hid (isTag_is ht m2); have BZ := Lib.hid bd_dig0; have heq := fun w' => eqDg k.dig zeroD w'
        by_cases hd : k.dig = zeroD
        · have HE := Lib.hid (show goodKyM k = !k.blob by rw [hE, ht, decide_eq_true hd]; simp); rw [decide_eq_true hd] at heq; clear hi ht hE k1 l1 l2 m1 m2 hd; go_enter Tryz.func14, Tryz.ntmps14
          go_wp2_with (first | ((with_reducible refine gX 1 ?_); refine wpList_boxM rfl 25 (.tmp 0) rfl (k.cells) (by rfl) M0 ?_; intro b w1 M1 _ _; have c0 := M1.out.get 0 rfl 0 rfl; have c1 := M1.out.get 0 rfl 1 rfl; try simp only [Act.put, sqA, sqB, sqC]) | fail); refine (HR.out _).mono ?_; rintro e w2 ⟨rfl, k2⟩; have M2 := Lib.hid (M1.out.keep0 k2); have d0 := M2.out.get 0 rfl 0 rfl; have d2 := M2.out.get 0 rfl 2 rfl; clear k2; go_wp2_with fail; refine (HT.out _).mono ?_; rintro e w3 ⟨rfl, k3⟩; have M3 := Lib.hid (M2.out.keep0 k3); have e4 := M3.out.get 0 rfl 35 k.at_blob; clear k3
          go_wp2_with (first | ((with_reducible refine gL 16 15 ?_); refine wpList_loadPart (by rfl) 23 (.tmp 15) rfl M3 0 rfl 3 (by rfl) (digC k.dig) k.at_dig _ Tryz.underlying23 rfl (dig_size _) ?_; try simp only [Act.put, sqA, sqB, sqC]) | ((with_reducible refine gB 17 ?_); refine wpList_buildM (by rfl) 23 _ rfl ([]) (by simp [Act.eval]) (digC zeroD) BZ ?_; try simp only [Act.put, sqA, sqB, sqC]) | fail); go_ret; exact ⟨ret_bool HE.out.symm, M3.out.kp⟩
        · have HE := Lib.hid (show goodKyM k = false by rw [hE, ht, decide_eq_false hd]; simp); rw [decide_eq_false hd] at heq; clear hi ht hE k1 l1 l2 m1 m2 hd; go_enter Tryz.func14, Tryz.ntmps14
          go_wp2_with (first | ((with_reducible refine gX 1 ?_); refine wpList_boxM rfl 25 (.tmp 0) rfl (k.cells) (by rfl) M0 ?_; intro b w1 M1 _ _; have c0 := M1.out.get 0 rfl 0 rfl; have c1 := M1.out.get 0 rfl 1 rfl; try simp only [Act.put, sqA, sqB, sqC]) | fail); refine (HR.out _).mono ?_; rintro e w2 ⟨rfl, k2⟩; have M2 := Lib.hid (M1.out.keep0 k2); have d0 := M2.out.get 0 rfl 0 rfl; have d2 := M2.out.get 0 rfl 2 rfl; clear k2; go_wp2_with fail; refine (HT.out _).mono ?_; rintro e w3 ⟨rfl, k3⟩; have M3 := Lib.hid (M2.out.keep0 k3); have e4 := M3.out.get 0 rfl 35 k.at_blob; clear k3
          go_wp2_with (first | ((with_reducible refine gL 16 15 ?_); refine wpList_loadPart (by rfl) 23 (.tmp 15) rfl M3 0 rfl 3 (by rfl) (digC k.dig) k.at_dig _ Tryz.underlying23 rfl (dig_size _) ?_; try simp only [Act.put, sqA, sqB, sqC]) | ((with_reducible refine gB 17 ?_); refine wpList_buildM (by rfl) 23 _ rfl ([]) (by simp [Act.eval]) (digC zeroD) BZ ?_; try simp only [Act.put, sqA, sqB, sqC]) | fail); go_ret; exact ⟨ret_bool HE.out.symm, M3.out.kp⟩
    · have q1 := (int_ne k1).1; by_cases k2 : k.kind = 2
      · have q2 := (int_eq k2).1; have HE := Lib.hid (goodKy_23 hi (.inl k2)); clear hi k1 k2 l1 l2 m1 m2; go_enter Tryz.func14, Tryz.ntmps14
        go_wp2_with (first | ((with_reducible refine gX 1 ?_); refine wpList_boxM rfl 25 (.tmp 0) rfl (k.cells) (by rfl) M0 ?_; intro b w1 M1 _ _; have c0 := M1.out.get 0 rfl 0 rfl; have c1 := M1.out.get 0 rfl 1 rfl; try simp only [Act.put, sqA, sqB, sqC]) | fail); refine (HR.out _).mono ?_; rintro e w2 ⟨rfl, k2⟩; have M2 := Lib.hid (M1.out.keep0 k2); have d0 := M2.out.get 0 rfl 0 rfl; have d2 := M2.out.get 0 rfl 2 rfl; clear k2; go_wp2_with fail; go_ret; exact ⟨ret_bool HE.out.symm, M2.out.kp⟩
      · have q2 := (int_ne k2).1; by_cases k3 : k.kind = 3
        · have q3 := (int_eq k3).1; have HE := Lib.hid (goodKy_23 hi (.inr k3)); clear hi k1 k2 k3 l1 l2 m1 m2; go_enter Tryz.func14, Tryz.ntmps14
          go_wp2_with (first | ((with_reducible refine gX 1 ?_); refine wpList_boxM rfl 25 (.tmp 0) rfl (k.cells) (by rfl) M0 ?_; intro b w1 M1 _ _; have c0 := M1.out.get 0 rfl 0 rfl; have c1 := M1.out.get 0 rfl 1 rfl; try simp only [Act.put, sqA, sqB, sqC]) | fail); refine (HR.out _).mono ?_; rintro e w2 ⟨rfl, k2⟩; have M2 := Lib.hid (M1.out.keep0 k2); have d0 := M2.out.get 0 rfl 0 rfl; have d2 := M2.out.get 0 rfl 2 rfl; clear k2; go_wp2_with fail; go_ret; exact ⟨ret_bool HE.out.symm, M2.out.kp⟩
        · have q3 := (int_ne k3).1; have HE := Lib.hid (goodKy_x hi k1 k2 k3); clear hi k1 k2 k3 l1 l2 m1 m2; go_enter Tryz.func14, Tryz.ntmps14
          go_wp2_with (first | ((with_reducible refine gX 1 ?_); refine wpList_boxM rfl 25 (.tmp 0) rfl (k.cells) (by rfl) M0 ?_; intro b w1 M1 _ _; have c0 := M1.out.get 0 rfl 0 rfl; have c1 := M1.out.get 0 rfl 1 rfl; try simp only [Act.put, sqA, sqB, sqC]) | fail); refine (HR.out _).mono ?_; rintro e w2 ⟨rfl, k2⟩; have M2 := Lib.hid (M1.out.keep0 k2); have d0 := M2.out.get 0 rfl 0 rfl; have d2 := M2.out.get 0 rfl 2 rfl; clear k2; go_wp2_with fail; go_ret; exact ⟨ret_bool HE.out.symm, M2.out.kp⟩
theorem list32 (l : List UInt8) (h : l.length = 32) : ∃ b0 b1 b2 b3 b4 b5 b6 b7 b8 b9 b10 b11 b12 b13 b14 b15 b16 b17 b18 b19 b20 b21 b22 b23 b24 b25 b26 b27 b28 b29 b30 b31, l = [b0, b1, b2, b3, b4, b5, b6, b7, b8, b9, b10, b11, b12, b13, b14, b15, b16, b17, b18, b19, b20, b21, b22, b23, b24, b25, b26, b27, b28, b29, b30, b31] := by
  match l, h with
  | [b0, b1, b2, b3, b4, b5, b6, b7, b8, b9, b10, b11, b12, b13, b14, b15, b16, b17, b18, b19, b20, b21, b22, b23, b24, b25, b26, b27, b28, b29, b30, b31], _ => exact ⟨b0, b1, b2, b3, b4, b5, b6, b7, b8, b9, b10, b11, b12, b13, b14, b15, b16, b17, b18, b19, b20, b21, b22, b23, b24, b25, b26, b27, b28, b29, b30, b31, rfl⟩
theorem bd_route (k : Ky) : Tryz.prog.built 77 [(0, .int .i64 3), (1, .string (S k.repo)), (2, .string (S k.tag)), (3, .agg (digC k.dig).toArray)] = some (⟨3, k.repo, k.tag, k.dig⟩ : Rt).cells.toArray := by
  obtain ⟨kd, repo, tag, ⟨l, hl⟩, bl⟩ := k; obtain ⟨b0, b1, b2, b3, b4, b5, b6, b7, b8, b9, b10, b11, b12, b13, b14, b15, b16, b17, b18, b19, b20, b21, b22, b23, b24, b25, b26, b27, b28, b29, b30, b31, rfl⟩ := list32 l hl; kernel_rfl
set_option maxRecDepth 100000 in
set_option maxHeartbeats 2000000 in
theorem errand_route (k : Ky) (w : World) :
    Calls Tryz.prog 45 #[.agg k.cells.toArray] w fun e w' => e = .returned (.agg (routeM k).cells.toArray) ∧ Keep [] w w' := by
  have M0 := Lib.hid (Mem.nil w); have HB := Lib.hid (bd_route k); have hR : routeM k = ⟨if k.kind = 1 then 2 else if k.blob = true then 4 else 3, k.repo, k.tag, k.dig⟩ := rfl; by_cases k1 : k.kind = 1
  · have q1 := (int_eq k1).1; rw [if_pos k1] at hR; have HR := Lib.hid hR; clear hR k1; go_enter Tryz.func45, Tryz.ntmps45
    go_wp2_with (first | ((with_reducible refine gX 1 ?_); refine wpList_boxM rfl 25 (.tmp 0) rfl (k.cells) (by rfl) M0 ?_; intro b w1 M1 _ _; try simp only [Act.put, sqA, sqB, sqC]) | ((with_reducible refine gA 2 ?_); refine wpList_allocM rfl 77 rfl (rt0.cells) (Lib.hid rt_zero) M1 ?_; intro b2 w2 M2 _ _; have c0 := M2.out.get 1 rfl 0 rfl; have c1 := M2.out.get 1 rfl 1 rfl; have c2 := M2.out.get 1 rfl 2 rfl; try simp only [Act.put, sqA, sqB, sqC]) | ((with_reducible refine gL 9 8 ?_); refine wpList_loadPart (by rfl) 23 (.tmp 8) rfl M2 1 rfl 3 (by rfl) (digC k.dig) k.at_dig _ Tryz.underlying23 rfl (dig_size _) ?_; try simp only [Act.put, sqA, sqB, sqC]) | ((with_reducible refine gB 10 ?_); refine wpList_buildM (by rfl) 77 _ rfl ([(0, .int .i64 3), (1, .string (S k.repo)), (2, .string (S k.tag)), (3, .agg (digC k.dig).toArray)]) (by simp [Act.eval]) ((⟨3, k.repo, k.tag, k.dig⟩ : Rt).cells) HB ?_; try simp only [Act.put, sqA, sqB, sqC]) | ((with_reducible refine gA 3 ?_); refine wpList_allocM rfl 77 rfl (rt0.cells) (Lib.hid rt_zero) M2 ?_; intro b3 w3 M3 _ _; try simp only [Act.put, sqA, sqB, sqC]) | ((with_reducible refine gS 3 10 ?_); refine wpList_storeM rfl 77 (.tmp 3) (.tmp 10) rfl M3 0 rfl (by rfl) ((⟨3, k.repo, k.tag, k.dig⟩ : Rt).cells) (by rfl) (rt_size _) (by rw [Rt.len, Rt.len]) (Rt.one _) ?_; intro w4 M4 _; have d0 := M4.out.get 2 rfl 0 rfl; have d4 := M4.out.get 2 rfl 35 k.at_blob; have r0 := M4.out.get 0 rfl 0 rfl; have f0 := M4.out.fz 0 rfl 0; try simp only [Act.put]) | ((with_reducible refine gL 20 3 ?_); refine wpList_loadM (by rfl) 77 (.tmp 3) rfl (Lib.hid (M4.out.setCell 0 rfl 0 (.int .i64 2))) 0 rfl (by rfl) _ Tryz.underlying77 rfl (rt_size (⟨2, k.repo, k.tag, k.dig⟩ : Rt)) ?_; try simp only [Act.put, sqA, sqB, sqC]) | ((with_reducible refine gS 2 20 ?_); refine wpList_storeM rfl 77 (.tmp 2) (.tmp 20) rfl (Lib.hid (M4.out.setCell 0 rfl 0 (.int .i64 2))) 1 rfl (by rfl) ((⟨2, k.repo, k.tag, k.dig⟩ : Rt).cells) (by rfl) (rt_size _) (by rw [Rt.len, Rt.len]) (Rt.one _) ?_; intro w5 M5 _; try simp only [Act.put]) | fail); have hload := rt_end M5.out 1 rfl; rw [HR.out]; refine bodyPost_ret (v := .agg (⟨2, k.repo, k.tag, k.dig⟩ : Rt).cells.toArray) (by simp [results, Tryz.results45, asAddr, hload]) rfl ⟨rfl, M5.out.kp⟩
  · have q1 := (int_ne k1).1; rw [if_neg k1] at hR; by_cases hb : k.blob = true
    · rw [if_pos hb] at hR; have HR := Lib.hid hR; clear hR k1; go_enter Tryz.func45, Tryz.ntmps45
      go_wp2_with (first | ((with_reducible refine gX 1 ?_); refine wpList_boxM rfl 25 (.tmp 0) rfl (k.cells) (by rfl) M0 ?_; intro b w1 M1 _ _; try simp only [Act.put, sqA, sqB, sqC]) | ((with_reducible refine gA 2 ?_); refine wpList_allocM rfl 77 rfl (rt0.cells) (Lib.hid rt_zero) M1 ?_; intro b2 w2 M2 _ _; have c0 := M2.out.get 1 rfl 0 rfl; have c1 := M2.out.get 1 rfl 1 rfl; have c2 := M2.out.get 1 rfl 2 rfl; try simp only [Act.put, sqA, sqB, sqC]) | ((with_reducible refine gL 9 8 ?_); refine wpList_loadPart (by rfl) 23 (.tmp 8) rfl M2 1 rfl 3 (by rfl) (digC k.dig) k.at_dig _ Tryz.underlying23 rfl (dig_size _) ?_; try simp only [Act.put, sqA, sqB, sqC]) | ((with_reducible refine gB 10 ?_); refine wpList_buildM (by rfl) 77 _ rfl ([(0, .int .i64 3), (1, .string (S k.repo)), (2, .string (S k.tag)), (3, .agg (digC k.dig).toArray)]) (by simp [Act.eval]) ((⟨3, k.repo, k.tag, k.dig⟩ : Rt).cells) HB ?_; try simp only [Act.put, sqA, sqB, sqC]) | ((with_reducible refine gA 3 ?_); refine wpList_allocM rfl 77 rfl (rt0.cells) (Lib.hid rt_zero) M2 ?_; intro b3 w3 M3 _ _; try simp only [Act.put, sqA, sqB, sqC]) | ((with_reducible refine gS 3 10 ?_); refine wpList_storeM rfl 77 (.tmp 3) (.tmp 10) rfl M3 0 rfl (by rfl) ((⟨3, k.repo, k.tag, k.dig⟩ : Rt).cells) (by rfl) (rt_size _) (by rw [Rt.len, Rt.len]) (Rt.one _) ?_; intro w4 M4 _; have d0 := M4.out.get 2 rfl 0 rfl; have d4 := M4.out.get 2 rfl 35 k.at_blob; have r0 := M4.out.get 0 rfl 0 rfl; have f0 := M4.out.fz 0 rfl 0; try simp only [Act.put]) | ((with_reducible refine gL 20 3 ?_); refine wpList_loadM (by rfl) 77 (.tmp 3) rfl (Lib.hid (M4.out.setCell 0 rfl 0 (.int .i64 4))) 0 rfl (by rfl) _ Tryz.underlying77 rfl (rt_size (⟨4, k.repo, k.tag, k.dig⟩ : Rt)) ?_; try simp only [Act.put, sqA, sqB, sqC]) | ((with_reducible refine gS 2 20 ?_); refine wpList_storeM rfl 77 (.tmp 2) (.tmp 20) rfl (Lib.hid (M4.out.setCell 0 rfl 0 (.int .i64 4))) 1 rfl (by rfl) ((⟨4, k.repo, k.tag, k.dig⟩ : Rt).cells) (by rfl) (rt_size _) (by rw [Rt.len, Rt.len]) (Rt.one _) ?_; intro w5 M5 _; try simp only [Act.put]) | fail); have hload := rt_end M5.out 1 rfl; rw [HR.out]; refine bodyPost_ret (v := .agg (⟨4, k.repo, k.tag, k.dig⟩ : Rt).cells.toArray) (by simp [results, Tryz.results45, asAddr, hload]) rfl ⟨rfl, M5.out.kp⟩
    · rw [if_neg hb] at hR; have hb2 : k.blob = false := by simpa using hb
      have HR := Lib.hid hR; clear hR k1 hb; go_enter Tryz.func45, Tryz.ntmps45
      go_wp2_with (first | ((with_reducible refine gX 1 ?_); refine wpList_boxM rfl 25 (.tmp 0) rfl (k.cells) (by rfl) M0 ?_; intro b w1 M1 _ _; try simp only [Act.put, sqA, sqB, sqC]) | ((with_reducible refine gA 2 ?_); refine wpList_allocM rfl 77 rfl (rt0.cells) (Lib.hid rt_zero) M1 ?_; intro b2 w2 M2 _ _; have c0 := M2.out.get 1 rfl 0 rfl; have c1 := M2.out.get 1 rfl 1 rfl; have c2 := M2.out.get 1 rfl 2 rfl; try simp only [Act.put, sqA, sqB, sqC]) | ((with_reducible refine gL 9 8 ?_); refine wpList_loadPart (by rfl) 23 (.tmp 8) rfl M2 1 rfl 3 (by rfl) (digC k.dig) k.at_dig _ Tryz.underlying23 rfl (dig_size _) ?_; try simp only [Act.put, sqA, sqB, sqC]) | ((with_reducible refine gB 10 ?_); refine wpList_buildM (by rfl) 77 _ rfl ([(0, .int .i64 3), (1, .string (S k.repo)), (2, .string (S k.tag)), (3, .agg (digC k.dig).toArray)]) (by simp [Act.eval]) ((⟨3, k.repo, k.tag, k.dig⟩ : Rt).cells) HB ?_; try simp only [Act.put, sqA, sqB, sqC]) | ((with_reducible refine gA 3 ?_); refine wpList_allocM rfl 77 rfl (rt0.cells) (Lib.hid rt_zero) M2 ?_; intro b3 w3 M3 _ _; try simp only [Act.put, sqA, sqB, sqC]) | ((with_reducible refine gS 3 10 ?_); refine wpList_storeM rfl 77 (.tmp 3) (.tmp 10) rfl M3 0 rfl (by rfl) ((⟨3, k.repo, k.tag, k.dig⟩ : Rt).cells) (by rfl) (rt_size _) (by rw [Rt.len, Rt.len]) (Rt.one _) ?_; intro w4 M4 _; have d0 := M4.out.get 2 rfl 0 rfl; have d4 := M4.out.get 2 rfl 35 k.at_blob; have r0 := M4.out.get 0 rfl 0 rfl; have f0 := M4.out.fz 0 rfl 0; try simp only [Act.put]) | ((with_reducible refine gL 20 3 ?_); refine wpList_loadM (by rfl) 77 (.tmp 3) rfl M4 0 rfl (by rfl) _ Tryz.underlying77 rfl (rt_size (⟨3, k.repo, k.tag, k.dig⟩ : Rt)) ?_; try simp only [Act.put, sqA, sqB, sqC]) | ((with_reducible refine gS 2 20 ?_); refine wpList_storeM rfl 77 (.tmp 2) (.tmp 20) rfl M4 1 rfl (by rfl) ((⟨3, k.repo, k.tag, k.dig⟩ : Rt).cells) (by rfl) (rt_size _) (by rw [Rt.len, Rt.len]) (Rt.one _) ?_; intro w5 M5 _; try simp only [Act.put]) | fail); have hload := rt_end M5.out 1 rfl; rw [HR.out]; refine bodyPost_ret (v := .agg (⟨3, k.repo, k.tag, k.dig⟩ : Rt).cells.toArray) (by simp [results, Tryz.results45, asAddr, hload]) rfl ⟨rfl, M5.out.kp⟩
def ansC (st : Int) (v : Value) (len : Int) (ch cl : Bool) : List Value := [.int .i64 st, v, .int .i64 len, .bool ch, .bool cl]
def reC (P : ReS) (cv av : Value) : List Value := [.bool P.head, .int .i64 (P.most : Nat), .int .i64 (P.st : Nat), .string (S P.inp), .string (S P.dat), .int .i64 (P.left : Nat), .int .i64 (P.size : Nat), .int .i64 (P.passed : Nat), cv, av, .bool P.shut, .bool P.ended]
def AnsAt (B : Nat) (w : World) (R : List Nat) (av : Value) (o : Option Ans) : Prop :=
  match o with
  | none => av = .pointer none
  | some a => ∃ b v, av = .pointer (some ⟨b, 0, none⟩) ∧ b ∈ R ∧ Blk w b 30 (ansC a.st v a.len a.ch a.cl) ∧ Own Fld.cells 2 B 89 w v a.F ∧ ∀ g, v.ownBlock = some g → g ∈ R
def RckAt (B : Nat) (w : World) (p : Nat) (X : List Nat) (cv : Value) (o : Option Ck) : Prop :=
  match o with
  | none => cv = .pointer none
  | some c => ∃ b v, cv = .pointer (some ⟨b, 0, none⟩) ∧ b ≠ p ∧ b ∈ X ∧ Ct B w b c.dat c v ∧ ∀ g, v.ownBlock = some g → g ∈ X ∧ g ≠ p
theorem RckAt.keep {B p : Nat} {w w' : World} {X T : List Nat} {cv : Value} {o : Option Ck} (h : RckAt B w p X cv o) (k : Keep T w w') (hX : ∀ x ∈ X, x ≠ p → x ∉ T) : RckAt B w' p X cv o := by
  cases o with
  | none => exact h
  | some c =>
    obtain ⟨b, v, h1, h2, h3, h4, h5⟩ := h; exact ⟨b, v, h1, h2, h3, h4.keep k (hX b h3 h2) (fun g hg => hX g (h5 g hg).1 (h5 g hg).2), h5⟩
structure Re (B : Nat) (w : World) (p : Nat) (X R : List Nat) (P : ReS) : Prop where
  at' : ∃ cv av, Blk w p 150 (reC P cv av) ∧ RckAt B w p X cv P.chk ∧ AnsAt B w R av P.ans
  mem : p ∈ X
  lo : ∀ x ∈ X, B ≤ x ∧ x < w.heap.size
  ro : ∀ x ∈ R, B ≤ x ∧ x < w.heap.size ∧ x ∉ X
theorem AnsAt.keep {B : Nat} {w w' : World} {R T : List Nat} {av : Value} {o : Option Ans} (h : AnsAt B w R av o) (k : Keep T w w') (hR : ∀ x ∈ R, x ∉ T) : AnsAt B w' R av o := by
  cases o with
  | none => exact h
  | some a =>
    obtain ⟨b, v, h1, h2, h3, h4, h5⟩ := h; exact ⟨b, v, h1, h2, k.blk h3 (hR b h2), h4.keep k (fun g hg => hR g (h5 g hg)), h5⟩
theorem Re.keep {B p : Nat} {w w' : World} {X R T : List Nat} {P : ReS} (h : Re B w p X R P) (k : Keep T w w') (hX : ∀ x ∈ X, x ∉ T) (hR : ∀ x ∈ R, x ∉ T) : Re B w' p X R P := by
  obtain ⟨⟨cv, av, h1, h2, h3⟩, h4, h5, h6⟩ := h; exact ⟨⟨cv, av, k.blk h1 (hX p h4), h2.keep k (fun x hx _ => hX x hx), h3.keep k hR⟩, h4, fun x hx => ⟨(h5 x hx).1, Nat.lt_of_lt_of_le (h5 x hx).2 k.size⟩, fun x hx => ⟨(h6 x hx).1, Nat.lt_of_lt_of_le (h6 x hx).2.1 k.size, (h6 x hx).2.2⟩⟩
theorem Re.keep0 {B p : Nat} {w w' : World} {X R : List Nat} {P : ReS} (h : Re B w p X R P) (k : Keep [] w w') : Re B w' p X R P := h.keep k (by simp) (by simp)
theorem Re.lt {B p : Nat} {w : World} {X R : List Nat} {P : ReS} (h : Re B w p X R P) : p < w.heap.size := (h.lo p h.mem).2
theorem Re.base {B p : Nat} {w : World} {X R : List Nat} {P : ReS} (h : Re B w p X R P) : B ≤ p := (h.lo p h.mem).1
theorem Re.set {B p : Nat} {w : World} {X R : List Nat} {P P' : ReS} (h : Re B w p X R P) (k : Nat) (x : Value) (hc : ∀ cv av, (reC P cv av).set k x = reC P' cv av) (h1 : P'.ans = P.ans) (h2 : P'.chk = P.chk) : Re B (w.setCell ⟨p, k, none⟩ x) p X R P' := by
  obtain ⟨⟨cv, av, b1, b2, b3⟩, h4, h5, h6⟩ := h; have hk : Keep [p] w (w.setCell ⟨p, k, none⟩ x) := (Keep.refl _ _).setCell _ _ (by simp); refine ⟨⟨cv, av, ?_, ?_, ?_⟩, h4, fun y hy => ⟨(h5 y hy).1, Nat.lt_of_lt_of_le (h5 y hy).2 hk.size⟩, fun y hy => ⟨(h6 y hy).1, Nat.lt_of_lt_of_le (h6 y hy).2.1 hk.size, (h6 y hy).2.2⟩⟩
  · rw [← hc]; exact b1.set k x
  · rw [h2]; exact b2.keep hk (fun y _ hy => by simpa using hy)
  · rw [h1]; exact b3.keep hk (fun y hy => by simp only [List.mem_singleton]; rintro rfl; exact (h6 _ hy).2.2 h4)
theorem Re.at_ {B p : Nat} {w : World} {X R : List Nat} {P : ReS} (h : Re B w p X R P) : w.cell? ⟨p, 0, Option.none⟩ = some (.bool P.head) ∧ w.cell? ⟨p, 1, Option.none⟩ = some (.int .i64 (P.most : Nat)) ∧ w.cell? ⟨p, 2, Option.none⟩ = some (.int .i64 (P.st : Nat)) ∧ w.cell? ⟨p, 3, Option.none⟩ = some (.string (S P.inp)) ∧ w.cell? ⟨p, 4, Option.none⟩ = some (.string (S P.dat)) ∧
    w.cell? ⟨p, 5, Option.none⟩ = some (.int .i64 (P.left : Nat)) ∧ w.cell? ⟨p, 6, Option.none⟩ = some (.int .i64 (P.size : Nat)) ∧ w.cell? ⟨p, 7, Option.none⟩ = some (.int .i64 (P.passed : Nat)) ∧ w.cell? ⟨p, 10, Option.none⟩ = some (.bool P.shut) ∧ w.cell? ⟨p, 11, Option.none⟩ = some (.bool P.ended) := by
  obtain ⟨⟨cv, av, b1, _⟩, _⟩ := h; exact ⟨b1.get (k := 0) rfl, b1.get (k := 1) rfl, b1.get (k := 2) rfl, b1.get (k := 3) rfl, b1.get (k := 4) rfl, b1.get (k := 5) rfl, b1.get (k := 6) rfl, b1.get (k := 7) rfl, b1.get (k := 10) rfl, b1.get (k := 11) rfl⟩
theorem Re.free {B p : Nat} {w : World} {X R : List Nat} {P : ReS} (h : Re B w p X R P) (k : Nat) : w.frozen? ⟨p, k, Option.none⟩ = false := let ⟨⟨_, _, b1, _⟩, _, _, _⟩ := h; b1.frozen k
theorem Re.keepX {B p : Nat} {w w' : World} {X R : List Nat} {P : ReS} (h : Re B w p X R P) (k : Keep [p] w w') : Keep X w w' := k.mono (fun x hx _ => by simp at hx; subst hx; exact h.mem)
set_option maxHeartbeats 1000000 in
set_option maxRecDepth 100000 in
theorem reply_New (B : Nat) (hd : Bool) (most : Int) (w : World) (hB : B ≤ w.heap.size) :
    Calls Tryz.prog 60 #[.bool hd, .int .i64 most] w fun e w' => ∃ p, e = .returned (.pointer (some ⟨p, 0, Option.none⟩)) ∧ w.heap.size ≤ p ∧ Re B w' p [p] [] (reNew hd most) ∧ Keep [] w w' := by
  obtain ⟨m, hm⟩ : ∃ m : Nat, (max most 0).toNat = m := ⟨_, rfl⟩
  have hmx : max most 0 = (m : Int) := by omega
  have HE := Lib.hid (show reNew hd most = ⟨hd, m, 0, [], [], 0, 0, 0, none, none, false, false⟩ by unfold reNew; rw [hm]); have H := Lib.hid (Blk.newA w (reC ⟨hd, m, 0, [], [], 0, 0, 0, none, none, false, false⟩ (.pointer Option.none) (.pointer Option.none)).toArray 150); clear hm; go_enter Tryz.func60, Tryz.ntmps60; go_wp2_with fail; go_ret; rw [HE.out]; exact ⟨w.heap.size, rfl, Nat.le_refl _, ⟨⟨.pointer Option.none, .pointer Option.none, H.out, rfl, rfl⟩, by simp, fun x hx => by simp at hx; subst hx; simp; omega, by simp⟩, (Keep.refl [] w).alloc _⟩
set_option maxHeartbeats 1000000 in
set_option maxRecDepth 100000 in
theorem reply_fail {B p : Nat} {X R : List Nat} {P : ReS} {w : World} (h : Re B w p X R P) :
    Calls Tryz.prog 218 #[.pointer (some ⟨p, 0, Option.none⟩)] w fun e w' => e = .returned (.bool true) ∧ Re B w' p X R (reFail P) ∧ Keep [p] w w' := by
  obtain ⟨c0, c1, c2, c3, c4, c5, c6, c7, c10, c11⟩ := h.at_; have f2 := h.free 2; have H := Lib.hid h; clear h; go_enter Tryz.func218, Tryz.ntmps218; go_wp2_with fail; go_ret; exact ⟨rfl, H.out.set 2 (.int .i64 5) (fun _ _ => rfl) rfl rfl, (Keep.refl _ _).setCell _ _ (by simp)⟩
set_option maxHeartbeats 1000000 in
set_option maxRecDepth 100000 in
theorem reply_Rest {B p : Nat} {X R : List Nat} {P : ReS} {w : World} (h : Re B w p X R P) :
    Calls Tryz.prog 156 #[.pointer (some ⟨p, 0, Option.none⟩)] w fun e w' => e = .returned (.string (S (reRest P))) ∧ w = w' := by
  obtain ⟨c0, c1, c2, c3, c4, c5, c6, c7, c10, c11⟩ := h.at_; have HE : reRest P = if P.ended then P.inp else [] := rfl
  clear h
  cases he : P.ended with
  | false =>
    rw [he] at c11 HE; have HR := Lib.hid HE; clear HE he; go_enter Tryz.func156, Tryz.ntmps156; go_wp2_with fail; go_ret; rw [HR.out]; exact ⟨rfl, rfl⟩
  | true =>
    rw [he] at c11 HE; have HR := Lib.hid HE; clear HE he; go_enter Tryz.func156, Tryz.ntmps156; go_wp2_with fail; go_ret; rw [HR.out]; exact ⟨rfl, rfl⟩
set_option maxHeartbeats 1000000 in
set_option maxRecDepth 100000 in
theorem reply_finish {B p : Nat} {X R : List Nat} {P : ReS} {w : World} (h : Re B w p X R P) (_hs : P.st ≤ 5) :
    Calls Tryz.prog 153 #[.pointer (some ⟨p, 0, Option.none⟩)] w fun e w' => e = .returned (.int .i64 (reFinish P).2) ∧ Re B w' p X R (reFinish P).1 ∧ Keep [p] w w' := by
  obtain ⟨c0, c1, c2, c3, c4, c5, c6, c7, c10, c11⟩ := h.at_; have f11 := h.free 11; have f2 := h.free 2; have hE : reFinish P = if P.st = 4 then ({ P with ended := true }, 3) else if P.st == 5 || P.shut then (reFail P, 4) else (P, 0) := rfl
  have H := Lib.hid h; clear h; by_cases h4 : P.st = 4
  · rw [if_pos h4] at hE; have HE := Lib.hid hE; rw [h4] at c2; clear hE h4; go_enter Tryz.func153, Tryz.ntmps153; go_wp2_with fail; go_ret; rw [HE.out]; exact ⟨rfl, H.out.set 11 (.bool true) (fun _ _ => rfl) rfl rfl, (Keep.refl _ _).setCell _ _ (by simp)⟩
  rw [if_neg h4] at hE; by_cases h5 : P.st = 5
  · rw [h5] at hE; have HE := Lib.hid (show reFinish P = (reFail P, 4) from hE); rw [h5] at c2; clear hE h4 h5; go_enter Tryz.func153, Tryz.ntmps153; go_wp2_with fail; go_ret; rw [HE.out]; exact ⟨rfl, H.out.set 2 (.int .i64 5) (fun _ _ => rfl) rfl rfl, (Keep.refl _ _).setCell _ _ (by simp)⟩
  have q1 : (((P.st : Nat) : Int) == 4) = false := by simp; omega
  have q2 : (((P.st : Nat) : Int) == 5) = false := by simp; omega
  have q3 : (P.st == 5) = false := by simpa using h5
  rw [q3] at hE
  cases hsh : P.shut with
  | true =>
    rw [hsh] at hE c10; have HE := Lib.hid (show reFinish P = (reFail P, 4) from hE); clear hE h4 h5 q3 hsh; go_enter Tryz.func153, Tryz.ntmps153; go_wp2_with fail; go_ret; rw [HE.out]; exact ⟨rfl, H.out.set 2 (.int .i64 5) (fun _ _ => rfl) rfl rfl, (Keep.refl _ _).setCell _ _ (by simp)⟩
  | false =>
    rw [hsh] at hE c10; have HE := Lib.hid (show reFinish P = (P, 0) from hE); clear hE h4 h5 q3 hsh; go_enter Tryz.func153, Tryz.ntmps153; go_wp2_with fail; go_ret; rw [HE.out]; exact ⟨rfl, H.out, Keep.refl _ _⟩
set_option maxHeartbeats 2000000 in
set_option maxRecDepth 100000 in
theorem reply_Add {B p : Nat} {X R : List Nat} {P : ReS} {w : World} (s : List UInt8) (h : Re B w p X R P) (hl : P.inp.length + P.dat.length ≤ 1048576) (hs : s.length ≤ 1048576) :
    Calls Tryz.prog 61 #[.pointer (some ⟨p, 0, Option.none⟩), .string (S s)] w fun e w' => e = .returned (.int .i64 (reAdd P s).2) ∧ Re B w' p X R (reAdd P s).1 ∧ Keep [p] w w' := by
  obtain ⟨c0, c1, c2, c3, c4, c5, c6, c7, c10, c11⟩ := h.at_; have f3 := h.free 3; have sz := S_size s; have sz2 := S_size P.inp; have sz3 := S_size P.dat; have hA : reAdd P s = if (16384 : Int) - P.inp.length - P.dat.length < s.length then (P, 6) else if P.shut || P.st == 5 then (P, 0) else ({ P with inp := P.inp ++ s }, 0) := rfl
  have H := Lib.hid h; have w1 := IntWalk.i64_in ((16384 : Int) - (P.inp.length : Int)) (by omega); have w2 := IntWalk.i64_in ((16384 : Int) - (P.inp.length : Int) - (P.dat.length : Int)) (by omega); have q3 := S_append P.inp s; have hov : ¬ 9223372036854775807 < P.inp.length + s.length := by omega
  clear h; by_cases h6 : (16384 : Int) - P.inp.length - P.dat.length < s.length
  · rw [if_pos h6] at hA; have HA := Lib.hid hA; have q2 : decide ((s.length : Int) > (16384 : Int) - P.inp.length - P.dat.length) = true := by simp; omega
    clear hA; go_enter Tryz.func61, Tryz.ntmps61; go_wp2_with fail
    go_region_with fail
    all_goals
      go_wp2_with fail; go_ret; rw [HA.out]; exact ⟨rfl, by repeat (first | exact H.out | apply Re.keep0 _ (Keep.drew (Keep.refl _ _))), by repeat (first | exact Keep.refl _ _ | apply Keep.drew)⟩
  rw [if_neg h6] at hA; have q2 : decide ((s.length : Int) > (16384 : Int) - P.inp.length - P.dat.length) = false := by simp; omega
  clear h6
  cases hsh : P.shut with
  | true =>
    rw [hsh] at c10; have HA := Lib.hid (show reAdd P s = (P, 0) by rw [hA, if_pos (by simp [hsh])]); clear hA hsh; go_enter Tryz.func61, Tryz.ntmps61; go_wp2_with fail
    go_region_with fail
    all_goals
      go_wp2_with fail; go_ret; rw [HA.out]; exact ⟨rfl, H.out.keep0 ((Keep.refl _ _).drew), (Keep.refl _ _).drew⟩
  | false =>
    rw [hsh] at c10; by_cases h5 : P.st = 5
    · have HA := Lib.hid (show reAdd P s = (P, 0) by rw [hA, if_pos (by simp [h5])]); rw [h5] at c2; clear hA hsh h5; go_enter Tryz.func61, Tryz.ntmps61; go_wp2_with fail
      go_region_with fail
      all_goals
        go_wp2_with fail; go_ret; rw [HA.out]; exact ⟨rfl, H.out.keep0 ((Keep.refl _ _).drew), (Keep.refl _ _).drew⟩
    · have HA := Lib.hid (show reAdd P s = ({ P with inp := P.inp ++ s }, 0) by rw [hA, if_neg (by simp [hsh, h5])]); have q4 : (((P.st : Nat) : Int) == 5) = false := by simp; omega
      clear hA hsh h5; go_enter Tryz.func61, Tryz.ntmps61; go_wp2_with fail
      go_region_with fail
      all_goals
        go_wp2_with fail; go_ret; rw [HA.out]; exact ⟨rfl, (H.out.keep0 ((Keep.refl _ _).drew)).set 3 (.string (S (P.inp ++ s))) (fun _ _ => rfl) rfl rfl, ((Keep.refl _ _).drew).setCell _ _ (by simp)⟩
end Go.Proofs.YtlhnjkekjbbhcaaGreatDoor
