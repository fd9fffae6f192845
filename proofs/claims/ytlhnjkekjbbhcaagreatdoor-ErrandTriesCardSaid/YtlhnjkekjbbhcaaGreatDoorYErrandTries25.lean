/- Parts of the proof of ErrandTries, in order. No conditions but those that each theorem states. -/
import Derived.Test.YtlhnjkekjbbhcaaGreatDoorYErrandTries0
import Derived.Lib.SlBytesConst
import Derived.Lib.LaidTab
import Derived.Lib.ItoaNum
import Derived.Lib.ItoaLen
import Derived.Sort.Grow
import Derived.Deep.RegionHeld3
import Derived.Test.YtlhnjkekjbbhcaaGreatDoorYErrandTries15
import Derived.Test.YtlhnjkekjbbhcaaGreatDoorYErrandTries24
set_option linter.unusedSimpArgs false
set_option linter.unusedVariables false
namespace Go.Proofs.YtlhnjkekjbbhcaaGreatDoor
open Go.RowKit Go.Shelf
def okKy (k : Ky) : Prop := k.repo.length ≤ 1048576 ∧ k.tag.length ≤ 1048576 ∧ in64 k.kind
theorem goodKy_no {k : Ky} (h : isRepoM k.repo = false) : goodKyM k = false := by unfold goodKyM; rw [h]; rfl
theorem goodKy_1 {k : Ky} (h : isRepoM k.repo = true) (h1 : k.kind = 1) : goodKyM k = (isTagM k.tag && (decide (k.dig = zeroD) && !k.blob)) := by unfold goodKyM; rw [h, if_pos h1]; rfl
theorem goodKy_23 {k : Ky} (h : isRepoM k.repo = true) (h1 : k.kind = 2 ∨ k.kind = 3) : goodKyM k = k.tag.isEmpty := by unfold goodKyM; rw [h, if_neg (by omega), decide_eq_true h1]; rfl
theorem goodKy_x {k : Ky} (h : isRepoM k.repo = true) (h1 : k.kind ≠ 1) (h2 : k.kind ≠ 2) (h3 : k.kind ≠ 3) : goodKyM k = false := by unfold goodKyM; rw [h, if_neg h1, decide_eq_false (by omega)]; rfl
set_option maxRecDepth 100000 in
set_option maxHeartbeats 2000000 in
theorem errand_Good (k : Ky) (w : World) (hk : okKy k) :
    Calls Tryz.prog 14 #[.agg k.cells.toArray] w fun e w' => e = .returned (.bool (goodKyM k)) ∧ Keep [] w w' := by
  have M0 := Lib.hid (Mem.nil w); obtain ⟨l1, l2, _⟩ := hk; have m1 : k.repo.length ≤ maxLen := (show k.repo.length ≤ 9223372036854775807 by omega)
  have m2 : k.tag.length ≤ maxLen := (show k.tag.length ≤ 9223372036854775807 by omega)
  have st := S_toList k.tag
  cases hi : isRepoM k.repo with
  | false =>
    have HR := Lib.hid (isRepo_is hi m1); have HE := Lib.hid (goodKy_no hi); clear hi l1 l2 m1 m2; go_enter Tryz.func14, Tryz.ntmps14
    go_wp2_with (first | ((with_reducible refine gX 1 ?_); refine wpList_boxM rfl 25 (.tmp 0) rfl (k.cells) (by rfl) M0 ?_; intro b w1 M1 _ _; have c0 := M1.out.get 0 rfl 0 rfl; have c1 := M1.out.get 0 rfl 1 rfl; try simp only [Act.put, sqA, sqB, sqC]) | fail); refine (HR.out _).mono ?_; rintro e w2 ⟨rfl, k2⟩; have M2 := Lib.hid (M1.out.keep0 k2); have d0 := M2.out.get 0 rfl 0 rfl; have d2 := M2.out.get 0 rfl 2 rfl; clear k2; go_wp2_with fail; go_ret; exact ⟨ret_bool HE.out.symm, M2.out.kp⟩
  | true =>
    have HR := Lib.hid (isRepo_is hi m1); by_cases k1 : k.kind = 1
    · have q1 := (int_eq k1).1; have hE := goodKy_1 hi k1
      cases ht : isTagM k.tag with
      | false =>
        have HT := Lib.hid (isTag_is ht m2); have HE := Lib.hid (show goodKyM k = false by rw [hE, ht]; rfl); clear hi ht hE k1 l1 l2 m1 m2; go_enter Tryz.func14, Tryz.ntmps14
        go_wp2_with (first | ((with_reducible refine gX 1 ?_); refine wpList_boxM rfl 25 (.tmp 0) rfl (k.cells) (by rfl) M0 ?_; intro b w1 M1 _ _; have c0 := M1.out.get 0 rfl 0 rfl; have c1 := M1.out.get 0 rfl 1 rfl; try simp only [Act.put, sqA, sqB, sqC]) | fail); refine (HR.out _).mono ?_; rintro e w2 ⟨rfl, k2⟩; have M2 := Lib.hid (M1.out.keep0 k2); have d0 := M2.out.get 0 rfl 0 rfl; have d2 := M2.out.get 0 rfl 2 rfl; clear k2; go_wp2_with fail; refine (HT.out _).mono ?_; rintro e w3 ⟨rfl, k3⟩; have M3 := Lib.hid (M2.out.keep0 k3); clear k3; go_wp2_with fail; go_ret; exact ⟨ret_bool HE.out.symm, M3.out.kp⟩
      | true =>
        have HT := Lib.hid (isTag_is ht m2); have BZ := Lib.hid bd_dig0; have heq := fun w' => eqDg k.dig zeroD w'
        by_cases hd : k.dig = zeroD
        · have HE := Lib.hid (show goodKyM k = !k.blob by rw [hE, ht, decide_eq_true hd]; simp); rw [decide_eq_true hd] at heq; clear hi ht hE k1 l1 l2 m1 m2 hd; go_enter Tryz.func14, Tryz.ntmps14
          go_wp2_with (first | ((with_reducible refine gX 1 ?_); refine wpList_boxM rfl 25 (.tmp 0) rfl (k.cells) (by rfl) M0 ?_; intro b w1 M1 _ _; have c0 := M1.out.get 0 rfl 0 rfl; have c1 := M1.out.get 0 rfl 1 rfl; try simp only [Act.put, sqA, sqB, sqC]) | fail); refine (HR.out _).mono ?_; rintro e w2 ⟨rfl, k2⟩; have M2 := Lib.hid (M1.out.keep0 k2); have d0 := M2.out.get 0 rfl 0 rfl; have d2 := M2.out.get 0 rfl 2 rfl; clear k2; go_wp2_with fail; refine (HT.out _).mono ?_; rintro e w3 ⟨rfl, k3⟩; have M3 := Lib.hid (M2.out.keep0 k3); have e4 := M3.out.get 0 rfl 35 k.at_blob; clear k3
          go_wp2_with (first | ((with_reducible refine gL 16 15 ?_); refine wpList_loadPart (by rfl) 23 (.tmp 15) rfl M3 0 rfl 3 (by rfl) (digC k.dig) k.at_dig _ Tryz.underlying23 rfl (dig_size _) ?_; try simp only [Act.put, sqA, sqB, sqC]) | ((with_reducible refine gB 17 ?_); refine wpList_buildM (by rfl) 23 _ rfl ([]) (by simp [Act.eval]) (digC zeroD) BZ ?_; try simp only [Act.put, sqA, sqB, sqC]) | fail); go_ret; exact ⟨ret_bool HE.out.symm, M3.out.kp⟩
        · have HE := Lib.hid (show goodKyM k = false by rw [hE, ht, decide_eq_false hd]; simp); rw [decide_eq_false hd] at heq; clear hi ht hE k1 l1 l2 m1 m2 hd; go_enter Tryz.func14, Tryz.ntmps14
          go_wp2_with (first | ((with_reducible refine gX 1 ?_); refine wpList_boxM rfl 25 (.tmp 0) rfl (k.cells) (by rfl) M0 ?_; intro b w1 M1 _ _; have c0 := M1.out.get 0 rfl 0 rfl; have c1 := M1.out.get 0 rfl 1 rfl; try simp only [Act.put, sqA, sqB, sqC]) | fail); refine (HR.out _).mono ?_; rintro e w2 ⟨rfl, k2⟩; have M2 := Lib.hid (M1.out.keep0 k2); have d0 := M2.out.get 0 rfl 0 rfl; have d2 := M2.out.get 0 rfl 2 rfl; clear k2; go_wp2_with fail; refine (HT.out _).mono ?_; rintro e w3 ⟨rfl, k3⟩; have M3 := Lib.hid (M2.out.keep0 k3); have e4 := M3.out.get 0 rfl 35 k.at_blob; clear k3
          go_wp2_with (first | ((with_reducible refine gL 16 15 ?_); refine wpList_loadPart (by rfl) 23 (.tmp 15) rfl M3 0 rfl 3 (by rfl) (digC k.dig) k.at_dig _ Tryz.underlying23 rfl (dig_size _) ?_; try simp only [Act.put, sqA, sqB, sqC]) | ((with_reducible refine gB 17 ?_); refine wpList_buildM (by rfl) 23 _ rfl ([]) (by simp [Act.eval]) (digC zeroD) BZ ?_; try simp only [Act.put, sqA, sqB, sqC]) | fail); go_ret; exact ⟨ret_bool HE.out.symm, M3.out.kp⟩
    · have q1 := (int_ne k1).1; by_cases k2 : k.kind = 2
      · have q2 := (int_eq k2).1; have HE := Lib.hid (goodKy_23 hi (.inl k2)); clear hi k1 k2 l1 l2 m1 m2; go_enter Tryz.func14, Tryz.ntmps14
        go_wp2_with (first | ((with_reducible refine gX 1 ?_); refine wpList_boxM rfl 25 (.tmp 0) rfl (k.cells) (by rfl) M0 ?_; intro b w1 M1 _ _; have c0 := M1.out.get 0 rfl 0 rfl; have c1 := M1.out.get 0 rfl 1 rfl; try simp only [Act.put, sqA, sqB, sqC]) | fail); refine (HR.out _).mono ?_; rintro e w2 ⟨rfl, k2⟩; have M2 := Lib.hid (M1.out.keep0 k2); have d0 := M2.out.get 0 rfl 0 rfl; have d2 := M2.out.get 0 rfl 2 rfl; clear k2; go_wp2_with fail; go_ret; exact ⟨ret_bool HE.out.symm, M2.out.kp⟩
      · have q2 := (int_ne k2).1; by_cases k3 : k.kind = 3
        · have q3 := (int_eq k3).1; have HE := Lib.hid (goodKy_23 hi (.inr k3)); clear hi k1 k2 k3 l1 l2 m1 m2; go_enter Tryz.func14, Tryz.ntmps14
          go_wp2_with (first | ((with_reducible refine gX 1 ?_); refine wpList_boxM rfl 25 (.tmp 0) rfl (k.cells) (by rfl) M0 ?_; intro b w1 M1 _ _; have c0 := M1.out.get 0 rfl 0 rfl; have c1 := M1.out.get 0 rfl 1 rfl; try simp only [Act.put, sqA, sqB, sqC]) | fail); refine (HR.out _).mono ?_; rintro e w2 ⟨rfl, k2⟩; have M2 := Lib.hid (M1.out.keep0 k2); have d0 := M2.out.get 0 rfl 0 rfl; have d2 := M2.out.get 0 rfl 2 rfl; clear k2; go_wp2_with fail; go_ret; exact ⟨ret_bool HE.out.symm, M2.out.kp⟩
        · have q3 := (int_ne k3).1; have HE := Lib.hid (goodKy_x hi k1 k2 k3); clear hi k1 k2 k3 l1 l2 m1 m2; go_enter Tryz.func14, Tryz.ntmps14
          go_wp2_with (first | ((with_reducible refine gX 1 ?_); refine wpList_boxM rfl 25 (.tmp 0) rfl (k.cells) (by rfl) M0 ?_; intro b w1 M1 _ _; have c0 := M1.out.get 0 rfl 0 rfl; have c1 := M1.out.get 0 rfl 1 rfl; try simp only [Act.put, sqA, sqB, sqC]) | fail); refine (HR.out _).mono ?_; rintro e w2 ⟨rfl, k2⟩; have M2 := Lib.hid (M1.out.keep0 k2); have d0 := M2.out.get 0 rfl 0 rfl; have d2 := M2.out.get 0 rfl 2 rfl; clear k2; go_wp2_with fail; go_ret; exact ⟨ret_bool HE.out.symm, M2.out.kp⟩
theorem list32 (l : List UInt8) (h : l.length = 32) : ∃ b0 b1 b2 b3 b4 b5 b6 b7 b8 b9 b10 b11 b12 b13 b14 b15 b16 b17 b18 b19 b20 b21 b22 b23 b24 b25 b26 b27 b28 b29 b30 b31, l = [b0, b1, b2, b3, b4, b5, b6, b7, b8, b9, b10, b11, b12, b13, b14, b15, b16, b17, b18, b19, b20, b21, b22, b23, b24, b25, b26, b27, b28, b29, b30, b31] := by
  match l, h with
  | [b0, b1, b2, b3, b4, b5, b6, b7, b8, b9, b10, b11, b12, b13, b14, b15, b16, b17, b18, b19, b20, b21, b22, b23, b24, b25, b26, b27, b28, b29, b30, b31], _ => exact ⟨b0, b1, b2, b3, b4, b5, b6, b7, b8, b9, b10, b11, b12, b13, b14, b15, b16, b17, b18, b19, b20, b21, b22, b23, b24, b25, b26, b27, b28, b29, b30, b31, rfl⟩
theorem bd_route (k : Ky) : Tryz.prog.built 77 [(0, .int .i64 3), (1, .string (S k.repo)), (2, .string (S k.tag)), (3, .agg (digC k.dig).toArray)] = some (⟨3, k.repo, k.tag, k.dig⟩ : Rt).cells.toArray := by
  obtain ⟨kd, repo, tag, ⟨l, hl⟩, bl⟩ := k; obtain ⟨b0, b1, b2, b3, b4, b5, b6, b7, b8, b9, b10, b11, b12, b13, b14, b15, b16, b17, b18, b19, b20, b21, b22, b23, b24, b25, b26, b27, b28, b29, b30, b31, rfl⟩ := list32 l hl; kernel_rfl
set_option maxRecDepth 100000 in
set_option maxHeartbeats 2000000 in
theorem errand_route (k : Ky) (w : World) :
    Calls Tryz.prog 45 #[.agg k.cells.toArray] w fun e w' => e = .returned (.agg (routeM k).cells.toArray) ∧ Keep [] w w' := by
  have M0 := Lib.hid (Mem.nil w); have HB := Lib.hid (bd_route k); have hR : routeM k = ⟨if k.kind = 1 then 2 else if k.blob = true then 4 else 3, k.repo, k.tag, k.dig⟩ := rfl; by_cases k1 : k.kind = 1
  · have q1 := (int_eq k1).1; rw [if_pos k1] at hR; have HR := Lib.hid hR; clear hR k1; go_enter Tryz.func45, Tryz.ntmps45
    go_wp2_with (first | ((with_reducible refine gX 1 ?_); refine wpList_boxM rfl 25 (.tmp 0) rfl (k.cells) (by rfl) M0 ?_; intro b w1 M1 _ _; try simp only [Act.put, sqA, sqB, sqC]) | ((with_reducible refine gA 2 ?_); refine wpList_allocM rfl 77 rfl (rt0.cells) (Lib.hid rt_zero) M1 ?_; intro b2 w2 M2 _ _; have c0 := M2.out.get 1 rfl 0 rfl; have c1 := M2.out.get 1 rfl 1 rfl; have c2 := M2.out.get 1 rfl 2 rfl; try simp only [Act.put, sqA, sqB, sqC]) | ((with_reducible refine gL 9 8 ?_); refine wpList_loadPart (by rfl) 23 (.tmp 8) rfl M2 1 rfl 3 (by rfl) (digC k.dig) k.at_dig _ Tryz.underlying23 rfl (dig_size _) ?_; try simp only [Act.put, sqA, sqB, sqC]) | ((with_reducible refine gB 10 ?_); refine wpList_buildM (by rfl) 77 _ rfl ([(0, .int .i64 3), (1, .string (S k.repo)), (2, .string (S k.tag)), (3, .agg (digC k.dig).toArray)]) (by simp [Act.eval]) ((⟨3, k.repo, k.tag, k.dig⟩ : Rt).cells) HB ?_; try simp only [Act.put, sqA, sqB, sqC]) | ((with_reducible refine gA 3 ?_); refine wpList_allocM rfl 77 rfl (rt0.cells) (Lib.hid rt_zero) M2 ?_; intro b3 w3 M3 _ _; try simp only [Act.put, sqA, sqB, sqC]) | ((with_reducible refine gS 3 10 ?_); refine wpList_storeM rfl 77 (.tmp 3) (.tmp 10) rfl M3 0 rfl (by rfl) ((⟨3, k.repo, k.tag, k.dig⟩ : Rt).cells) (by rfl) (rt_size _) (by rw [Rt.len, Rt.len]) (Rt.one _) ?_; intro w4 M4 _; have d0 := M4.out.get 2 rfl 0 rfl; have d4 := M4.out.get 2 rfl 35 k.at_blob; have r0 := M4.out.get 0 rfl 0 rfl; have f0 := M4.out.fz 0 rfl 0; try simp only [Act.put]) | ((with_reducible refine gL 20 3 ?_); refine wpList_loadM (by rfl) 77 (.tmp 3) rfl (Lib.hid (M4.out.setCell 0 rfl 0 (.int .i64 2))) 0 rfl (by rfl) _ Tryz.underlying77 rfl (rt_size (⟨2, k.repo, k.tag, k.dig⟩ : Rt)) ?_; try simp only [Act.put, sqA, sqB, sqC]) | ((with_reducible refine gS 2 20 ?_); refine wpList_storeM rfl 77 (.tmp 2) (.tmp 20) rfl (Lib.hid (M4.out.setCell 0 rfl 0 (.int .i64 2))) 1 rfl (by rfl) ((⟨2, k.repo, k.tag, k.dig⟩ : Rt).cells) (by rfl) (rt_size _) (by rw [Rt.len, Rt.len]) (Rt.one _) ?_; intro w5 M5 _; try simp only [Act.put]) | fail); have hload := rt_end M5.out 1 rfl; rw [HR.out]; refine bodyPost_ret (v := .agg (⟨2, k.repo, k.tag, k.dig⟩ : Rt).cells.toArray) (by simp [results, Tryz.results45, asAddr, hload]) rfl ⟨rfl, M5.out.kp⟩
  · have q1 := (int_ne k1).1; rw [if_neg k1] at hR; by_cases hb : k.blob = true
    · rw [if_pos hb] at hR; have HR := Lib.hid hR; clear hR k1; go_enter Tryz.func45, Tryz.ntmps45
      go_wp2_with (first | ((with_reducible refine gX 1 ?_); refine wpList_boxM rfl 25 (.tmp 0) rfl (k.cells) (by rfl) M0 ?_; intro b w1 M1 _ _; try simp only [Act.put, sqA, sqB, sqC]) | ((with_reducible refine gA 2 ?_); refine wpList_allocM rfl 77 rfl (rt0.cells) (Lib.hid rt_zero) M1 ?_; intro b2 w2 M2 _ _; have c0 := M2.out.get 1 rfl 0 rfl; have c1 := M2.out.get 1 rfl 1 rfl; have c2 := M2.out.get 1 rfl 2 rfl; try simp only [Act.put, sqA, sqB, sqC]) | ((with_reducible refine gL 9 8 ?_); refine wpList_loadPart (by rfl) 23 (.tmp 8) rfl M2 1 rfl 3 (by rfl) (digC k.dig) k.at_dig _ Tryz.underlying23 rfl (dig_size _) ?_; try simp only [Act.put, sqA, sqB, sqC]) | ((with_reducible refine gB 10 ?_); refine wpList_buildM (by rfl) 77 _ rfl ([(0, .int .i64 3), (1, .string (S k.repo)), (2, .string (S k.tag)), (3, .agg (digC k.dig).toArray)]) (by simp [Act.eval]) ((⟨3, k.repo, k.tag, k.dig⟩ : Rt).cells) HB ?_; try simp only [Act.put, sqA, sqB, sqC]) | ((with_reducible refine gA 3 ?_); refine wpList_allocM rfl 77 rfl (rt0.cells) (Lib.hid rt_zero) M2 ?_; intro b3 w3 M3 _ _; try simp only [Act.put, sqA, sqB, sqC]) | ((with_reducible refine gS 3 10 ?_); refine wpList_storeM rfl 77 (.tmp 3) (.tmp 10) rfl M3 0 rfl (by rfl) ((⟨3, k.repo, k.tag, k.dig⟩ : Rt).cells) (by rfl) (rt_size _) (by rw [Rt.len, Rt.len]) (Rt.one _) ?_; intro w4 M4 _; have d0 := M4.out.get 2 rfl 0 rfl; have d4 := M4.out.get 2 rfl 35 k.at_blob; have r0 := M4.out.get 0 rfl 0 rfl; have f0 := M4.out.fz 0 rfl 0; try simp only [Act.put]) | ((with_reducible refine gL 20 3 ?_); refine wpList_loadM (by rfl) 77 (.tmp 3) rfl (Lib.hid (M4.out.setCell 0 rfl 0 (.int .i64 4))) 0 rfl (by rfl) _ Tryz.underlying77 rfl (rt_size (⟨4, k.repo, k.tag, k.dig⟩ : Rt)) ?_; try simp only [Act.put, sqA, sqB, sqC]) | ((with_reducible refine gS 2 20 ?_); refine wpList_storeM rfl 77 (.tmp 2) (.tmp 20) rfl (Lib.hid (M4.out.setCell 0 rfl 0 (.int .i64 4))) 1 rfl (by rfl) ((⟨4, k.repo, k.tag, k.dig⟩ : Rt).cells) (by rfl) (rt_size _) (by rw [Rt.len, Rt.len]) (Rt.one _) ?_; intro w5 M5 _; try simp only [Act.put]) | fail); have hload := rt_end M5.out 1 rfl; rw [HR.out]; refine bodyPost_ret (v := .agg (⟨4, k.repo, k.tag, k.dig⟩ : Rt).cells.toArray) (by simp [results, Tryz.results45, asAddr, hload]) rfl ⟨rfl, M5.out.kp⟩
    · rw [if_neg hb] at hR; have hb2 : k.blob = false := by simpa using hb
      have HR := Lib.hid hR; clear hR k1 hb; go_enter Tryz.func45, Tryz.ntmps45
      go_wp2_with (first | ((with_reducible refine gX 1 ?_); refine wpList_boxM rfl 25 (.tmp 0) rfl (k.cells) (by rfl) M0 ?_; intro b w1 M1 _ _; try simp only [Act.put, sqA, sqB, sqC]) | ((with_reducible refine gA 2 ?_); refine wpList_allocM rfl 77 rfl (rt0.cells) (Lib.hid rt_zero) M1 ?_; intro b2 w2 M2 _ _; have c0 := M2.out.get 1 rfl 0 rfl; have c1 := M2.out.get 1 rfl 1 rfl; have c2 := M2.out.get 1 rfl 2 rfl; try simp only [Act.put, sqA, sqB, sqC]) | ((with_reducible refine gL 9 8 ?_); refine wpList_loadPart (by rfl) 23 (.tmp 8) rfl M2 1 rfl 3 (by rfl) (digC k.dig) k.at_dig _ Tryz.underlying23 rfl (dig_size _) ?_; try simp only [Act.put, sqA, sqB, sqC]) | ((with_reducible refine gB 10 ?_); refine wpList_buildM (by rfl) 77 _ rfl ([(0, .int .i64 3), (1, .string (S k.repo)), (2, .string (S k.tag)), (3, .agg (digC k.dig).toArray)]) (by simp [Act.eval]) ((⟨3, k.repo, k.tag, k.dig⟩ : Rt).cells) HB ?_; try simp only [Act.put, sqA, sqB, sqC]) | ((with_reducible refine gA 3 ?_); refine wpList_allocM rfl 77 rfl (rt0.cells) (Lib.hid rt_zero) M2 ?_; intro b3 w3 M3 _ _; try simp only [Act.put, sqA, sqB, sqC]) | ((with_reducible refine gS 3 10 ?_); refine wpList_storeM rfl 77 (.tmp 3) (.tmp 10) rfl M3 0 rfl (by rfl) ((⟨3, k.repo, k.tag, k.dig⟩ : Rt).cells) (by rfl) (rt_size _) (by rw [Rt.len, Rt.len]) (Rt.one _) ?_; intro w4 M4 _; have d0 := M4.out.get 2 rfl 0 rfl; have d4 := M4.out.get 2 rfl 35 k.at_blob; have r0 := M4.out.get 0 rfl 0 rfl; have f0 := M4.out.fz 0 rfl 0; try simp only [Act.put]) | ((with_reducible refine gL 20 3 ?_); refine wpList_loadM (by rfl) 77 (.tmp 3) rfl M4 0 rfl (by rfl) _ Tryz.underlying77 rfl (rt_size (⟨3, k.repo, k.tag, k.dig⟩ : Rt)) ?_; try simp only [Act.put, sqA, sqB, sqC]) | ((with_reducible refine gS 2 20 ?_); refine wpList_storeM rfl 77 (.tmp 2) (.tmp 20) rfl M4 1 rfl (by rfl) ((⟨3, k.repo, k.tag, k.dig⟩ : Rt).cells) (by rfl) (rt_size _) (by rw [Rt.len, Rt.len]) (Rt.one _) ?_; intro w5 M5 _; try simp only [Act.put]) | fail); have hload := rt_end M5.out 1 rfl; rw [HR.out]; refine bodyPost_ret (v := .agg (⟨3, k.repo, k.tag, k.dig⟩ : Rt).cells.toArray) (by simp [results, Tryz.results45, asAddr, hload]) rfl ⟨rfl, M5.out.kp⟩
end Go.Proofs.YtlhnjkekjbbhcaaGreatDoor
namespace Go.Proofs.YtlhnjkekjbbhcaaGreatDoor
open Go.RowKit
def Off (v : Value) (L : List (Nat × TypeId × List Value)) : Prop := ∀ x ∈ L, v.ownBlock ≠ some x.1
section
variable {P : Program} {ops : Array Oper} {rest : List Oper} {o : Oper} {a : Act} {w w0 : World} {Q : Exit → Act → World → Prop} {M : List (Nat × TypeId × List Value)}
theorem Off.fresh {w0 w : World} {L : List (Nat × TypeId × List Value)} (h : Mem w0 w L) {b : Nat} (hb : w.heap.size ≤ b) (l c : Nat) : Off (.slice (some ⟨b, 0, none⟩) l c) L := fun x hx hh => by
  have := (h.2.2 x hx).2.lt; simp [Value.ownBlock] at hh; omega
theorem Mem.grown {w0 w w' : World} {L : List (Nat × TypeId × List Value)} {v : Value} (h : Mem w0 w L) (k : Keep [] w0 w') (hg : w.grownBy w' v.ownBlock) (hv : Off v L) : Mem w0 w' L :=
  ⟨k, h.2.1, fun x hx => ⟨(h.2.2 x hx).1, by
    have hb := (h.2.2 x hx).2; have : w'.heap[x.1]? = w.heap[x.1]? := hg.block x.1 hb.lt (fun hh => hv x hx hh.symm); unfold Blk at hb ⊢; rw [this]
    exact hb⟩⟩
theorem wpList_appendM (hgd : o.guard = none) (s x : Operand) (t : TypeId)
    (ho : o.op = .call { callee := .builtin .append, args := #[s, x], argTypes := #[t, t] })
    {α : Type} {enc : α → List Value} {n base : Nat} {E : TypeId} {L : List α} {v : Value}
    (i : TypeInfo) (z : Value) (bytes : Nat) (ht : P.underlying t = some (.slice E)) (HI : Hid (P.info? E = some i ∧ i.zero = some z ∧ i.size = n ∧ i.bytes = bytes)) (hzs : z.cells.size = n) (hn0 : 0 < n)
    (hn : ∀ x, (enc x).length = n) (h1 : ∀ x, ∀ u ∈ enc x, u.oneCell' = true)
    (HM : Hid (Mem w0 w M)) (hb0 : base = w0.heap.size) (hs : a.eval s = v) (HO : Hid (Own enc n base E w v L)) (HF : Hid (Off v M)) (y : α) (cs : List Value) (hcs : cs = enc y) (c : Nat) (hx : a.eval x = .slice (some ⟨w.heap.size, 0, none⟩) 1 c)
    (h63 : L.length + 1 ≤ maxLen) (hbytes : (L.length + 1) * bytes ≤ 140737488355328)
    (h : ∀ v' w', Hid (Own enc n base E w' v' (L ++ [y])) → Hid (Mem w0 w' M) → Hid (Off v' M) → Hid (∃ a c, v' = .slice a (L.length + 1) c) → wpList P ops Q rest (a.put o.dst v') w') : wpList P ops Q (o :: rest) a (w.alloc (.cells cs.toArray E)) := by
  subst hcs hb0; have hown := HO.out; refine wpList_append_own_at _ hgd s x t ho w0.heap.size E i z n bytes ht HI.out.1 HI.out.2.1 HI.out.2.2.1 HI.out.2.2.2 hzs hn0 v L.length (rows enc L) hs (hown.alloc _) ⟨w.heap.size, 0, none⟩ 1 c (enc y) hx (by rw [hn]; omega) ?_ (h1 y) h63 hbytes (by have := HM.out.kp.size; simp; omega) ?_
  · intro j u hj; have hA := Blk.new w (enc y) E; have : (⟨w.heap.size, 0, none⟩ : Addr).add j = ⟨w.heap.size, j, none⟩ := by unfold Addr.add; split <;> simp_all
    rw [this, hA.cell j]; exact hj
  · intro v' w' hown' hg _ hat
    have hg' : w.grownBy w' v.ownBlock := by
      have h0 := World.grownBy_alloc w (.cells (enc y).toArray E) v.ownBlock; exact ⟨hg.os.trans h0.os, hg.tape.trans h0.tape, hg.output.trans h0.output, Nat.le_trans h0.size hg.size, fun k hk hne => (hg.block k (Nat.lt_of_lt_of_le hk h0.size) hne).trans (h0.block k hk hne)⟩
    have kw : Keep [] w0 w' := HM.out.kp.grown hg' fun k hk1 hk2 => absurd (hown.lt k hk1).1 (by omega)
    have ho' : Own enc n w0.heap.size E w' v' (L ++ [y]) := by
      have : rows enc (L ++ [y]) = rows enc L ++ enc y := by simp [rows]
      unfold Own; rw [this, List.length_append]; exact hown'
    refine h v' w' (Lib.hid ho') (Lib.hid (HM.out.grown kw hg' HF.out)) (Lib.hid fun x hx hh => ?_) (Lib.hid ?_)
    · rcases hat with h5 | h5
      · exact HF.out x hx (h5 ▸ hh)
      · have h6 := (HM.out.2.2 x hx).2.lt; rw [hh] at h5; simp at h5; omega
    · obtain ⟨sa, sc, hv, _⟩ := ho'.shape; exact ⟨sa, sc, by rw [hv]; simp⟩
end
theorem own_fld {base : Nat} (w : World) (f : Fld) (hb : base ≤ w.heap.size) : Own Fld.cells 2 base 89 (w.alloc (.cells f.cells.toArray 89)) (.slice (some ⟨w.heap.size, 0, none⟩) 1 1) [f] :=
  ⟨rfl, .inr ⟨w.heap.size, 1, #[.string (S f.name), .string (S f.value)], rfl, hb, heap_alloc_new w _, Nat.le_refl _, by decide, rfl, rfl⟩⟩
end Go.Proofs.YtlhnjkekjbbhcaaGreatDoor
namespace Go.Proofs.YtlhnjkekjbbhcaaGreatDoor
open Go.RowKit
section
variable {P : Program} {ops : Array Oper} {o : Oper} {a : Act} {w w0 : World} {Q : Exit → Act → World → Prop} {L : List (Nat × TypeId × List Value)} {K : Act → World → Prop} {Sx : World → Prop}
theorem wp_allocM (ty : TypeId) (ho : o.op = .alloc ty) (Z : List Value) (HZ : Hid (ZeroIs P ty Z)) (HM : Hid (Mem w0 w L))
    (h : ∀ b w', Hid (Mem w0 w' ((b, ty, Z) :: L)) → K (a.put o.dst (.pointer (some ⟨b, 0, none⟩))) w') : o.wp P a w K Q := by
  unfold Oper.wp execOp; simp only [ho]; have hz := HZ.out w; simp only [Sem.run_bind, hz, Result.andThen_ok, Sem.run_pure]; exact h _ _ (Lib.hid (HM.out.alloc Z ty))
theorem wp_storeM (ty : TypeId) (x y : Operand) (ho : o.op = .store ty x y) (HM : Hid (Mem w0 w L)) (i : Nat) {b : Nat} {T : TypeId} {cs : List Value} (hi : L[i]? = some (b, T, cs)) (hx : a.eval x = .pointer (some ⟨b, 0, none⟩)) (vs : List Value) (hy : a.eval y = .agg vs.toArray)
    (hs : (P.info? ty).map (·.size) = some vs.length) (hl : cs.length = vs.length) (h1 : ∀ v ∈ vs, v.oneCell' = true)
    (h : ∀ w', Hid (Mem w0 w' (L.set i (b, T, vs))) → K (a.put o.dst undef) w') : o.wp P a w K Q :=
  wp_store_mid ty x y ho b 0 vs.toArray hx hy ((HM.out.blk i hi).there' 0 _ (by simp [hl])) (by simpa using hs) (all_oneCell_toArray h1)
    (h _ (Lib.hid (HM.out.setAll i hi vs hl)))
theorem yieldsIf_buildM (hw : Region.wanted o (yielded ops a.tmps) = true) (ty : TypeId) (ps : Array (Nat × Operand)) (ho : o.op = .build ty ps) (us : List (Nat × Value)) (hps : (ps.map fun (i, x) => (i, a.eval x)).toList = us) (cs : List Value) (HB : Hid (P.built ty us = some cs.toArray)) : YieldsIf P ops Sx o (.agg cs.toArray) a :=
  .inl ⟨hw, fun w _ => by
    subst hps; unfold execOp; simp only [ho]
    simp only [Sem.run_bind, run_build w ty _ cs.toArray HB.out, Result.andThen_ok, Sem.run_pure]⟩
end
end Go.Proofs.YtlhnjkekjbbhcaaGreatDoor
namespace Go.Proofs.YtlhnjkekjbbhcaaGreatDoor
open Go.RowKit Go.Shelf
def digOutE (o : Option Dig) : Ending := .returned (.tuple #[.agg (digC (o.getD zeroD)).toArray, .int .i64 (if o.isSome then 0 else 3)])
set_option maxRecDepth 100000 in
set_option maxHeartbeats 2000000 in
theorem stamp_Parse (s : List UInt8) (w : World) (hs : s.length ≤ 1048576) :
    Calls Tryz.prog 124 #[.string (S s)] w fun e w' => e = digOutE (behindO s) ∧ Keep [] w w' := by
  have kA := (Keep.refl [] w).alloc (.cells (digC zeroD).toArray 23); have bA := Blk.newA w (digC zeroD).toArray 23; rw [digC_zero] at kA bA; generalize hwA : w.alloc (.cells [.int .u8 0, .int .u8 0, .int .u8 0, .int .u8 0, .int .u8 0, .int .u8 0, .int .u8 0, .int .u8 0, .int .u8 0, .int .u8 0, .int .u8 0, .int .u8 0, .int .u8 0, .int .u8 0, .int .u8 0, .int .u8 0, .int .u8 0, .int .u8 0, .int .u8 0, .int .u8 0, .int .u8 0, .int .u8 0, .int .u8 0, .int .u8 0, .int .u8 0, .int .u8 0, .int .u8 0, .int .u8 0, .int .u8 0, .int .u8 0, .int .u8 0, .int .u8 0].toArray 23) = wA at kA bA; have bA : Blk wA w.heap.size 23 (digC zeroD) := bA; have KA := Lib.hid kA; have BA := Lib.hid bA; have hwA2 : w.alloc (.cells #[.int .u8 0, .int .u8 0, .int .u8 0, .int .u8 0, .int .u8 0, .int .u8 0, .int .u8 0, .int .u8 0, .int .u8 0, .int .u8 0, .int .u8 0, .int .u8 0, .int .u8 0, .int .u8 0, .int .u8 0, .int .u8 0, .int .u8 0, .int .u8 0, .int .u8 0, .int .u8 0, .int .u8 0, .int .u8 0, .int .u8 0, .int .u8 0, .int .u8 0, .int .u8 0, .int .u8 0, .int .u8 0, .int .u8 0, .int .u8 0, .int .u8 0, .int .u8 0] 23) = wA := hwA; clear kA bA hwA; have HB := Lib.hid (stamp_behind s wA hs); go_enter Tryz.func124, Tryz.ntmps124; go_wp2_with fail; refine HB.out.mono ?_; rintro e w2 ⟨rfl, k2⟩; obtain ⟨d, hd⟩ : ∃ d, (behindO s).getD zeroD = d := ⟨_, rfl⟩
  obtain ⟨is, hi⟩ : ∃ i, (behindO s).isSome = i := ⟨_, rfl⟩
  have HR := Lib.hid (show digOutE (behindO s) = .returned (.tuple #[.agg (digC d).toArray, .int .i64 (if is then 0 else 3)]) by unfold digOutE; rw [hd, hi]); have HC := Lib.hid (show digOut (behindO s) = .returned (.tuple #[.agg (digC d).toArray, .bool is]) by unfold digOut; rw [hd, hi]); rw [HC.out]; have K2 := Lib.hid (KA.out.trans k2); have BA2 := Lib.hid (k2.blk BA.out (by simp)); have hkB := K2.out.alloc (.cells (digC d).toArray 23); have hbB := Blk.newA w2 (digC d).toArray 23; have hbA := BA2.out.alloc (.cells (digC d).toArray 23); have hne : w.heap.size < w2.heap.size := BA2.out.lt; generalize hwB : w2.alloc (.cells (digC d).toArray 23) = wB at hkB hbB hbA; have hbB : Blk wB w2.heap.size 23 (digC d) := hbB; have KB := Lib.hid hkB; have BB := Lib.hid hbB; have BAB := Lib.hid hbA; have HWB := Lib.hid hwB; have HSd := Lib.hid (dig_st d); have KZ := Lib.hid (show Keep [] w (wB.setCells w.heap.size 0 (digC d)) from Keep.setCells' _ (fun hh => absurd hh (by omega)) _ _ _ KB.out); have hload := Lib.hid (dig_load (World.rangeAt_setCells_same wB w.heap.size 0 (digC d) (by rw [digC_length]; exact BAB.out.there' 0 32 (by rw [digC_length]; exact Nat.le_refl _)))); clear k2 hwA2 hkB hbB hbA hwB hd hi
  cases is with
  | true =>
    go_wp2_with (first | ((with_reducible refine gS 4 9 ?_); refine wpList_store_new rfl 23 (.tmp 4) (.tmp 9) rfl _ (digC d) (by rfl) (by rfl) (dig_size d) (by rw [digC_length]; rfl) (dig_one d) ?_; rw [HWB.out]; try simp only [Act.put]) | ((with_reducible refine gM 4 ?_); refine wpList_load_mid rfl 23 (.tmp 4) rfl w2.heap.size 0 (by rfl) (digC d) _ BB.out.range' Tryz.underlying23 rfl (dig_size _) ?_; try simp only [Act.put, sqA, sqB, sqC]) | ((with_reducible refine gS 2 14 ?_); refine wpList_store_mid rfl 23 (.tmp 2) (.tmp 14) rfl w.heap.size 0 (digC d).toArray (by rfl) (by first | rfl | kernel_rfl) (BAB.out.there' 0 _ (by simp [digC_length])) HSd.out.1 HSd.out.2 ?_; try simp only [Act.put]) | fail); rw [HR.out]; refine bodyPost_ret (v := .tuple #[.agg (digC d).toArray, .int .i64 0]) (by simp [results, Tryz.results124, asAddr, Result.andThen, hload.out]) rfl ⟨rfl, KZ.out⟩
  | false =>
    go_wp2_with (first | ((with_reducible refine gS 4 9 ?_); refine wpList_store_new rfl 23 (.tmp 4) (.tmp 9) rfl _ (digC d) (by rfl) (by rfl) (dig_size d) (by rw [digC_length]; rfl) (dig_one d) ?_; rw [HWB.out]; try simp only [Act.put]) | ((with_reducible refine gM 4 ?_); refine wpList_load_mid rfl 23 (.tmp 4) rfl w2.heap.size 0 (by rfl) (digC d) _ BB.out.range' Tryz.underlying23 rfl (dig_size _) ?_; try simp only [Act.put, sqA, sqB, sqC]) | ((with_reducible refine gS 2 13 ?_); refine wpList_store_mid rfl 23 (.tmp 2) (.tmp 13) rfl w.heap.size 0 (digC d).toArray (by rfl) (by first | rfl | kernel_rfl) (BAB.out.there' 0 _ (by simp [digC_length])) HSd.out.1 HSd.out.2 ?_; try simp only [Act.put]) | fail); rw [HR.out]; refine bodyPost_ret (v := .tuple #[.agg (digC d).toArray, .int .i64 3]) (by simp [results, Tryz.results124, asAddr, Result.andThen, hload.out]) rfl ⟨rfl, KZ.out⟩
end Go.Proofs.YtlhnjkekjbbhcaaGreatDoor
