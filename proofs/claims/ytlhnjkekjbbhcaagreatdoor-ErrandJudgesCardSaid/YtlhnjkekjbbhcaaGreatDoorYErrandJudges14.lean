/- Parts of the proof of ErrandJudges, in order. No conditions but those that each theorem states. -/
import Derived.Test.YtlhnjkekjbbhcaaGreatDoorYErrandJudges0
import Derived.Lib.SlBytesConst
import Derived.Lib.LaidTab
import Derived.Lib.ItoaNum
import Derived.Lib.ItoaLen
import Derived.Sort.Grow
import Derived.Deep.RegionHeld3
import Derived.Test.YtlhnjkekjbbhcaaGreatDoorYErrandJudges13
namespace Go.Proofs.YtlhnjkekjbbhcaaGreatDoor
open Go.RowKit Go.Shelf
def okKy (k : Ky) : Prop := k.repo.length ≤ 1048576 ∧ k.tag.length ≤ 1048576 ∧ in64 k.kind
theorem goodKy_no {k : Ky} (h : isRepoM k.repo = false) : goodKyM k = false := by unfold goodKyM; rw [h]; rfl
theorem goodKy_1 {k : Ky} (h : isRepoM k.repo = true) (h1 : k.kind = 1) : goodKyM k = (isTagM k.tag && (decide (k.dig = zeroD) && !k.blob)) := by unfold goodKyM; rw [h, if_pos h1]; rfl
theorem goodKy_23 {k : Ky} (h : isRepoM k.repo = true) (h1 : k.kind = 2 ∨ k.kind = 3) : goodKyM k = k.tag.isEmpty := by unfold goodKyM; rw [h, if_neg (by omega), decide_eq_true h1]; rfl
theorem goodKy_x {k : Ky} (h : isRepoM k.repo = true) (h1 : k.kind ≠ 1) (h2 : k.kind ≠ 2) (h3 : k.kind ≠ 3) : goodKyM k = false := by unfold goodKyM; rw [h, if_neg h1, decide_eq_false (by omega)]; rfl
set_option maxRecDepth 100000 in
set_option maxHeartbeats 2000000 in
theorem errand_Good (k : Ky) (w : World) (hk : okKy k) :
    Calls Tryz.prog 14 #[.agg k.cells.toArray] w fun e w' => e = .returned (.bool (goodKyM k)) ∧ Keep [] w w' := by
  have M0 := Lib.hid (Mem.nil w); obtain ⟨l1, l2, _⟩ := hk; have m1 : k.repo.length ≤ maxLen := (show k.repo.length ≤ 9223372036854775807 by omega)
  have m2 : k.tag.length ≤ maxLen := (show k.tag.length ≤ 9223372036854775807 by omega)
  have st := S_toList k.tag
  cases hi : isRepoM k.repo with
  | false =>
    have HR := Lib.hid (isRepo_is hi m1); have HE := Lib.hid (goodKy_no hi); clear hi l1 l2 m1 m2; go_enter Tryz.func14, Tryz.ntmps14
    go_wp2_with (first | ((with_reducible refine gX 1 ?_); refine wpList_boxM rfl 25 (.tmp 0) rfl (k.cells) (by rfl) M0 ?_; intro b w1 M1 _ _; have c0 := M1.out.get 0 rfl 0 rfl; have c1 := M1.out.get 0 rfl 1 rfl; try simp only [Act.put, sqA, sqB, sqC]) | fail); refine (HR.out _).mono ?_; rintro e w2 ⟨rfl, k2⟩; have M2 := Lib.hid (M1.out.keep0 k2); have d0 := M2.out.get 0 rfl 0 rfl; have d2 := M2.out.get 0 rfl 2 rfl; clear k2; go_wp2_with fail; go_ret; exact ⟨ret_bool HE.out.symm, M2.out.kp⟩
  | true =>
    have HR := Lib.hid (isRepo_is hi m1); by_cases k1 : k.kind = 1
    · have q1 := (int_eq k1).1; have hE := goodKy_1 hi k1
      cases ht : isTagM k.tag with
      | false =>
        have HT := Lib.hid (isTag_is ht m2); have HE := Lib.hid (show goodKyM k = false by rw [hE, ht]; rfl); clear hi ht hE k1 l1 l2 m1 m2; go_enter Tryz.func14, Tryz.ntmps14
        go_wp2_with (first | ((with_reducible refine gX 1 ?_); refine wpList_boxM rfl 25 (.tmp 0) rfl (k.cells) (by rfl) M0 ?_; intro b w1 M1 _ _; have c0 := M1.out.get 0 rfl 0 rfl; have c1 := M1.out.get 0 rfl 1 rfl; try simp only [Act.put, sqA, sqB, sqC]) | fail); refine (HR.out _).mono ?_; rintro e w2 ⟨rfl, k2⟩; have M2 := Lib.hid (M1.out.keep0 k2); have d0 := M2.out.get 0 rfl 0 rfl; have d2 := M2.out.get 0 rfl 2 rfl; clear k2; go_wp2_with fail; refine (HT.out _).mono ?_; rintro e w3 ⟨rfl, k3⟩; have M3 := Lib.hid (M2.out.keep0 k3); clear k3; go_wp2_with fail; go_ret; exact ⟨ret_bool HE.out.symm, M3.out.kp⟩
      | true =>
        have HT := Lib.hid (isTag_is ht m2); have BZ := Lib.hid bd_dig0; have heq := fun w' => eqDg k.dig zeroD w'
        by_cases hd : k.dig = zeroD
        · have HE := Lib.hid (show goodKyM k = !k.blob by rw [hE, ht, decide_eq_true hd]; simp); rw [decide_eq_true hd] at heq; clear hi ht hE k1 l1 l2 m1 m2 hd; go_enter Tryz.func14, Tryz.ntmps14
          go_wp2_with (first | ((with_reducible refine gX 1 ?_); refine wpList_boxM rfl 25 (.tmp 0) rfl (k.cells) (by rfl) M0 ?_; intro b w1 M1 _ _; have c0 := M1.out.get 0 rfl 0 rfl; have c1 := M1.out.get 0 rfl 1 rfl; try simp only [Act.put, sqA, sqB, sqC]) | fail); refine (HR.out _).mono ?_; rintro e w2 ⟨rfl, k2⟩; have M2 := Lib.hid (M1.out.keep0 k2); have d0 := M2.out.get 0 rfl 0 rfl; have d2 := M2.out.get 0 rfl 2 rfl; clear k2; go_wp2_with fail; refine (HT.out _).mono ?_; rintro e w3 ⟨rfl, k3⟩; have M3 := Lib.hid (M2.out.keep0 k3); have e4 := M3.out.get 0 rfl 35 k.at_blob; clear k3
          go_wp2_with (first | ((with_reducible refine gL 16 15 ?_); refine wpList_loadPart (by rfl) 23 (.tmp 15) rfl M3 0 rfl 3 (by rfl) (digC k.dig) k.at_dig _ Tryz.underlying23 rfl (dig_size _) ?_; try simp only [Act.put, sqA, sqB, sqC]) | ((with_reducible refine gB 17 ?_); refine wpList_buildM (by rfl) 23 _ rfl ([]) (by simp [Act.eval]) (digC zeroD) BZ ?_; try simp only [Act.put, sqA, sqB, sqC]) | fail); go_ret; exact ⟨ret_bool HE.out.symm, M3.out.kp⟩
        · have HE := Lib.hid (show goodKyM k = false by rw [hE, ht, decide_eq_false hd]; simp); rw [decide_eq_false hd] at heq; clear hi ht hE k1 l1 l2 m1 m2 hd; go_enter Tryz.func14, Tryz.ntmps14
          go_wp2_with (first | ((with_reducible refine gX 1 ?_); refine wpList_boxM rfl 25 (.tmp 0) rfl (k.cells) (by rfl) M0 ?_; intro b w1 M1 _ _; have c0 := M1.out.get 0 rfl 0 rfl; have c1 := M1.out.get 0 rfl 1 rfl; try simp only [Act.put, sqA, sqB, sqC]) | fail); refine (HR.out _).mono ?_; rintro e w2 ⟨rfl, k2⟩; have M2 := Lib.hid (M1.out.keep0 k2); have d0 := M2.out.get 0 rfl 0 rfl; have d2 := M2.out.get 0 rfl 2 rfl; clear k2; go_wp2_with fail; refine (HT.out _).mono ?_; rintro e w3 ⟨rfl, k3⟩; have M3 := Lib.hid (M2.out.keep0 k3); have e4 := M3.out.get 0 rfl 35 k.at_blob; clear k3
          go_wp2_with (first | ((with_reducible refine gL 16 15 ?_); refine wpList_loadPart (by rfl) 23 (.tmp 15) rfl M3 0 rfl 3 (by rfl) (digC k.dig) k.at_dig _ Tryz.underlying23 rfl (dig_size _) ?_; try simp only [Act.put, sqA, sqB, sqC]) | ((with_reducible refine gB 17 ?_); refine wpList_buildM (by rfl) 23 _ rfl ([]) (by simp [Act.eval]) (digC zeroD) BZ ?_; try simp only [Act.put, sqA, sqB, sqC]) | fail); go_ret; exact ⟨ret_bool HE.out.symm, M3.out.kp⟩
    · have q1 := (int_ne k1).1; by_cases k2 : k.kind = 2
      · have q2 := (int_eq k2).1; have HE := Lib.hid (goodKy_23 hi (.inl k2)); clear hi k1 k2 l1 l2 m1 m2; go_enter Tryz.func14, Tryz.ntmps14
        go_wp2_with (first | ((with_reducible refine gX 1 ?_); refine wpList_boxM rfl 25 (.tmp 0) rfl (k.cells) (by rfl) M0 ?_; intro b w1 M1 _ _; have c0 := M1.out.get 0 rfl 0 rfl; have c1 := M1.out.get 0 rfl 1 rfl; try simp only [Act.put, sqA, sqB, sqC]) | fail); refine (HR.out _).mono ?_; rintro e w2 ⟨rfl, k2⟩; have M2 := Lib.hid (M1.out.keep0 k2); have d0 := M2.out.get 0 rfl 0 rfl; have d2 := M2.out.get 0 rfl 2 rfl; clear k2; go_wp2_with fail; go_ret; exact ⟨ret_bool HE.out.symm, M2.out.kp⟩
      · have q2 := (int_ne k2).1; by_cases k3 : k.kind = 3
        · have q3 := (int_eq k3).1; have HE := Lib.hid (goodKy_23 hi (.inr k3)); clear hi k1 k2 k3 l1 l2 m1 m2; go_enter Tryz.func14, Tryz.ntmps14
          go_wp2_with (first | ((with_reducible refine gX 1 ?_); refine wpList_boxM rfl 25 (.tmp 0) rfl (k.cells) (by rfl) M0 ?_; intro b w1 M1 _ _; have c0 := M1.out.get 0 rfl 0 rfl; have c1 := M1.out.get 0 rfl 1 rfl; try simp only [Act.put, sqA, sqB, sqC]) | fail); refine (HR.out _).mono ?_; rintro e w2 ⟨rfl, k2⟩; have M2 := Lib.hid (M1.out.keep0 k2); have d0 := M2.out.get 0 rfl 0 rfl; have d2 := M2.out.get 0 rfl 2 rfl; clear k2; go_wp2_with fail; go_ret; exact ⟨ret_bool HE.out.symm, M2.out.kp⟩
        · have q3 := (int_ne k3).1; have HE := Lib.hid (goodKy_x hi k1 k2 k3); clear hi k1 k2 k3 l1 l2 m1 m2; go_enter Tryz.func14, Tryz.ntmps14
          go_wp2_with (first | ((with_reducible refine gX 1 ?_); refine wpList_boxM rfl 25 (.tmp 0) rfl (k.cells) (by rfl) M0 ?_; intro b w1 M1 _ _; have c0 := M1.out.get 0 rfl 0 rfl; have c1 := M1.out.get 0 rfl 1 rfl; try simp only [Act.put, sqA, sqB, sqC]) | fail); refine (HR.out _).mono ?_; rintro e w2 ⟨rfl, k2⟩; have M2 := Lib.hid (M1.out.keep0 k2); have d0 := M2.out.get 0 rfl 0 rfl; have d2 := M2.out.get 0 rfl 2 rfl; clear k2; go_wp2_with fail; go_ret; exact ⟨ret_bool HE.out.symm, M2.out.kp⟩
set_option maxRecDepth 100000 in
set_option maxHeartbeats 2000000 in
theorem ref24_Good (k : Ky) (w : World) (hk : okKy k) :
    Calls Tryz.prog 15 #[.agg k.cells.toArray] w fun e w' => e = .returned (.bool (goodKyM k)) ∧ Keep [] w w' := by
  have M0 := Lib.hid (Mem.nil w); obtain ⟨l1, l2, _⟩ := hk; have m1 : k.repo.length ≤ maxLen := (show k.repo.length ≤ 9223372036854775807 by omega)
  have m2 : k.tag.length ≤ maxLen := (show k.tag.length ≤ 9223372036854775807 by omega)
  have st := S_toList k.tag
  cases hi : isRepoM k.repo with
  | false =>
    have HR := Lib.hid (refIsRepo_is hi m1); have HE := Lib.hid (goodKy_no hi); clear hi l1 l2 m1 m2; go_enter Tryz.func15, Tryz.ntmps15
    go_wp2_with (first | ((with_reducible refine gX 1 ?_); refine wpList_boxM rfl 25 (.tmp 0) rfl (k.cells) (by rfl) M0 ?_; intro b w1 M1 _ _; have c0 := M1.out.get 0 rfl 0 rfl; have c1 := M1.out.get 0 rfl 1 rfl; try simp only [Act.put, sqA, sqB, sqC]) | fail); refine (HR.out _).mono ?_; rintro e w2 ⟨rfl, k2⟩; have M2 := Lib.hid (M1.out.keep0 k2); have d0 := M2.out.get 0 rfl 0 rfl; have d2 := M2.out.get 0 rfl 2 rfl; clear k2; go_wp2_with fail; go_ret; exact ⟨ret_bool HE.out.symm, M2.out.kp⟩
  | true =>
    have HR := Lib.hid (refIsRepo_is hi m1); by_cases k1 : k.kind = 1
    · have q1 := (int_eq k1).1; have hE := goodKy_1 hi k1
      cases ht : isTagM k.tag with
      | false =>
        have HT := Lib.hid (refIsTag_is ht m2); have HE := Lib.hid (show goodKyM k = false by rw [hE, ht]; rfl); clear hi ht hE k1 l1 l2 m1 m2; go_enter Tryz.func15, Tryz.ntmps15
        go_wp2_with (first | ((with_reducible refine gX 1 ?_); refine wpList_boxM rfl 25 (.tmp 0) rfl (k.cells) (by rfl) M0 ?_; intro b w1 M1 _ _; have c0 := M1.out.get 0 rfl 0 rfl; have c1 := M1.out.get 0 rfl 1 rfl; try simp only [Act.put, sqA, sqB, sqC]) | fail); refine (HR.out _).mono ?_; rintro e w2 ⟨rfl, k2⟩; have M2 := Lib.hid (M1.out.keep0 k2); have d0 := M2.out.get 0 rfl 0 rfl; have d2 := M2.out.get 0 rfl 2 rfl; clear k2; go_wp2_with fail; refine (HT.out _).mono ?_; rintro e w3 ⟨rfl, k3⟩; have M3 := Lib.hid (M2.out.keep0 k3); clear k3; go_wp2_with fail; go_ret; exact ⟨ret_bool HE.out.symm, M3.out.kp⟩
      | true =>
        have HT := Lib.hid (refIsTag_is ht m2); have BZ := Lib.hid bd_dig0; have heq := fun w' => eqDg k.dig zeroD w'
        by_cases hd : k.dig = zeroD
        · have HE := Lib.hid (show goodKyM k = !k.blob by rw [hE, ht, decide_eq_true hd]; simp); rw [decide_eq_true hd] at heq; clear hi ht hE k1 l1 l2 m1 m2 hd; go_enter Tryz.func15, Tryz.ntmps15
          go_wp2_with (first | ((with_reducible refine gX 1 ?_); refine wpList_boxM rfl 25 (.tmp 0) rfl (k.cells) (by rfl) M0 ?_; intro b w1 M1 _ _; have c0 := M1.out.get 0 rfl 0 rfl; have c1 := M1.out.get 0 rfl 1 rfl; try simp only [Act.put, sqA, sqB, sqC]) | fail); refine (HR.out _).mono ?_; rintro e w2 ⟨rfl, k2⟩; have M2 := Lib.hid (M1.out.keep0 k2); have d0 := M2.out.get 0 rfl 0 rfl; have d2 := M2.out.get 0 rfl 2 rfl; clear k2; go_wp2_with fail; refine (HT.out _).mono ?_; rintro e w3 ⟨rfl, k3⟩; have M3 := Lib.hid (M2.out.keep0 k3); have e4 := M3.out.get 0 rfl 35 k.at_blob; clear k3
          go_wp2_with (first | ((with_reducible refine gL 15 14 ?_); refine wpList_loadPart (by rfl) 23 (.tmp 14) rfl M3 0 rfl 3 (by rfl) (digC k.dig) k.at_dig _ Tryz.underlying23 rfl (dig_size _) ?_; try simp only [Act.put, sqA, sqB, sqC]) | ((with_reducible refine gB 16 ?_); refine wpList_buildM (by rfl) 23 _ rfl ([]) (by simp [Act.eval]) (digC zeroD) BZ ?_; try simp only [Act.put, sqA, sqB, sqC]) | fail); go_ret; exact ⟨ret_bool HE.out.symm, M3.out.kp⟩
        · have HE := Lib.hid (show goodKyM k = false by rw [hE, ht, decide_eq_false hd]; simp); rw [decide_eq_false hd] at heq; clear hi ht hE k1 l1 l2 m1 m2 hd; go_enter Tryz.func15, Tryz.ntmps15
          go_wp2_with (first | ((with_reducible refine gX 1 ?_); refine wpList_boxM rfl 25 (.tmp 0) rfl (k.cells) (by rfl) M0 ?_; intro b w1 M1 _ _; have c0 := M1.out.get 0 rfl 0 rfl; have c1 := M1.out.get 0 rfl 1 rfl; try simp only [Act.put, sqA, sqB, sqC]) | fail); refine (HR.out _).mono ?_; rintro e w2 ⟨rfl, k2⟩; have M2 := Lib.hid (M1.out.keep0 k2); have d0 := M2.out.get 0 rfl 0 rfl; have d2 := M2.out.get 0 rfl 2 rfl; clear k2; go_wp2_with fail; refine (HT.out _).mono ?_; rintro e w3 ⟨rfl, k3⟩; have M3 := Lib.hid (M2.out.keep0 k3); have e4 := M3.out.get 0 rfl 35 k.at_blob; clear k3
          go_wp2_with (first | ((with_reducible refine gL 15 14 ?_); refine wpList_loadPart (by rfl) 23 (.tmp 14) rfl M3 0 rfl 3 (by rfl) (digC k.dig) k.at_dig _ Tryz.underlying23 rfl (dig_size _) ?_; try simp only [Act.put, sqA, sqB, sqC]) | ((with_reducible refine gB 16 ?_); refine wpList_buildM (by rfl) 23 _ rfl ([]) (by simp [Act.eval]) (digC zeroD) BZ ?_; try simp only [Act.put, sqA, sqB, sqC]) | fail); go_ret; exact ⟨ret_bool HE.out.symm, M3.out.kp⟩
    · have q1 := (int_ne k1).1; by_cases k2 : k.kind = 2
      · have q2 := (int_eq k2).1; have HE := Lib.hid (goodKy_23 hi (.inl k2)); clear hi k1 k2 l1 l2 m1 m2; go_enter Tryz.func15, Tryz.ntmps15
        go_wp2_with (first | ((with_reducible refine gX 1 ?_); refine wpList_boxM rfl 25 (.tmp 0) rfl (k.cells) (by rfl) M0 ?_; intro b w1 M1 _ _; have c0 := M1.out.get 0 rfl 0 rfl; have c1 := M1.out.get 0 rfl 1 rfl; try simp only [Act.put, sqA, sqB, sqC]) | fail); refine (HR.out _).mono ?_; rintro e w2 ⟨rfl, k2⟩; have M2 := Lib.hid (M1.out.keep0 k2); have d0 := M2.out.get 0 rfl 0 rfl; have d2 := M2.out.get 0 rfl 2 rfl; clear k2; go_wp2_with fail; go_ret; exact ⟨ret_bool HE.out.symm, M2.out.kp⟩
      · have q2 := (int_ne k2).1; by_cases k3 : k.kind = 3
        · have q3 := (int_eq k3).1; have HE := Lib.hid (goodKy_23 hi (.inr k3)); clear hi k1 k2 k3 l1 l2 m1 m2; go_enter Tryz.func15, Tryz.ntmps15
          go_wp2_with (first | ((with_reducible refine gX 1 ?_); refine wpList_boxM rfl 25 (.tmp 0) rfl (k.cells) (by rfl) M0 ?_; intro b w1 M1 _ _; have c0 := M1.out.get 0 rfl 0 rfl; have c1 := M1.out.get 0 rfl 1 rfl; try simp only [Act.put, sqA, sqB, sqC]) | fail); refine (HR.out _).mono ?_; rintro e w2 ⟨rfl, k2⟩; have M2 := Lib.hid (M1.out.keep0 k2); have d0 := M2.out.get 0 rfl 0 rfl; have d2 := M2.out.get 0 rfl 2 rfl; clear k2; go_wp2_with fail; go_ret; exact ⟨ret_bool HE.out.symm, M2.out.kp⟩
        · have q3 := (int_ne k3).1; have HE := Lib.hid (goodKy_x hi k1 k2 k3); clear hi k1 k2 k3 l1 l2 m1 m2; go_enter Tryz.func15, Tryz.ntmps15
          go_wp2_with (first | ((with_reducible refine gX 1 ?_); refine wpList_boxM rfl 25 (.tmp 0) rfl (k.cells) (by rfl) M0 ?_; intro b w1 M1 _ _; have c0 := M1.out.get 0 rfl 0 rfl; have c1 := M1.out.get 0 rfl 1 rfl; try simp only [Act.put, sqA, sqB, sqC]) | fail); refine (HR.out _).mono ?_; rintro e w2 ⟨rfl, k2⟩; have M2 := Lib.hid (M1.out.keep0 k2); have d0 := M2.out.get 0 rfl 0 rfl; have d2 := M2.out.get 0 rfl 2 rfl; clear k2; go_wp2_with fail; go_ret; exact ⟨ret_bool HE.out.symm, M2.out.kp⟩
theorem list32 (l : List UInt8) (h : l.length = 32) : ∃ b0 b1 b2 b3 b4 b5 b6 b7 b8 b9 b10 b11 b12 b13 b14 b15 b16 b17 b18 b19 b20 b21 b22 b23 b24 b25 b26 b27 b28 b29 b30 b31, l = [b0, b1, b2, b3, b4, b5, b6, b7, b8, b9, b10, b11, b12, b13, b14, b15, b16, b17, b18, b19, b20, b21, b22, b23, b24, b25, b26, b27, b28, b29, b30, b31] := by
  match l, h with
  | [b0, b1, b2, b3, b4, b5, b6, b7, b8, b9, b10, b11, b12, b13, b14, b15, b16, b17, b18, b19, b20, b21, b22, b23, b24, b25, b26, b27, b28, b29, b30, b31], _ => exact ⟨b0, b1, b2, b3, b4, b5, b6, b7, b8, b9, b10, b11, b12, b13, b14, b15, b16, b17, b18, b19, b20, b21, b22, b23, b24, b25, b26, b27, b28, b29, b30, b31, rfl⟩
theorem bd_route (k : Ky) : Tryz.prog.built 77 [(0, .int .i64 3), (1, .string (S k.repo)), (2, .string (S k.tag)), (3, .agg (digC k.dig).toArray)] = some (⟨3, k.repo, k.tag, k.dig⟩ : Rt).cells.toArray := by
  obtain ⟨kd, repo, tag, ⟨l, hl⟩, bl⟩ := k; obtain ⟨b0, b1, b2, b3, b4, b5, b6, b7, b8, b9, b10, b11, b12, b13, b14, b15, b16, b17, b18, b19, b20, b21, b22, b23, b24, b25, b26, b27, b28, b29, b30, b31, rfl⟩ := list32 l hl; kernel_rfl
set_option maxRecDepth 100000 in
set_option maxHeartbeats 2000000 in
theorem errand_route (k : Ky) (w : World) :
    Calls Tryz.prog 45 #[.agg k.cells.toArray] w fun e w' => e = .returned (.agg (routeM k).cells.toArray) ∧ Keep [] w w' := by
  have M0 := Lib.hid (Mem.nil w); have HB := Lib.hid (bd_route k); have hR : routeM k = ⟨if k.kind = 1 then 2 else if k.blob = true then 4 else 3, k.repo, k.tag, k.dig⟩ := rfl; by_cases k1 : k.kind = 1
  · have q1 := (int_eq k1).1; rw [if_pos k1] at hR; have HR := Lib.hid hR; clear hR k1; go_enter Tryz.func45, Tryz.ntmps45
    go_wp2_with (first | ((with_reducible refine gX 1 ?_); refine wpList_boxM rfl 25 (.tmp 0) rfl (k.cells) (by rfl) M0 ?_; intro b w1 M1 _ _; try simp only [Act.put, sqA, sqB, sqC]) | ((with_reducible refine gA 2 ?_); refine wpList_allocM rfl 77 rfl (rt0.cells) (Lib.hid rt_zero) M1 ?_; intro b2 w2 M2 _ _; have c0 := M2.out.get 1 rfl 0 rfl; have c1 := M2.out.get 1 rfl 1 rfl; have c2 := M2.out.get 1 rfl 2 rfl; try simp only [Act.put, sqA, sqB, sqC]) | ((with_reducible refine gL 9 8 ?_); refine wpList_loadPart (by rfl) 23 (.tmp 8) rfl M2 1 rfl 3 (by rfl) (digC k.dig) k.at_dig _ Tryz.underlying23 rfl (dig_size _) ?_; try simp only [Act.put, sqA, sqB, sqC]) | ((with_reducible refine gB 10 ?_); refine wpList_buildM (by rfl) 77 _ rfl ([(0, .int .i64 3), (1, .string (S k.repo)), (2, .string (S k.tag)), (3, .agg (digC k.dig).toArray)]) (by simp [Act.eval]) ((⟨3, k.repo, k.tag, k.dig⟩ : Rt).cells) HB ?_; try simp only [Act.put, sqA, sqB, sqC]) | ((with_reducible refine gA 3 ?_); refine wpList_allocM rfl 77 rfl (rt0.cells) (Lib.hid rt_zero) M2 ?_; intro b3 w3 M3 _ _; try simp only [Act.put, sqA, sqB, sqC]) | ((with_reducible refine gS 3 10 ?_); refine wpList_storeM rfl 77 (.tmp 3) (.tmp 10) rfl M3 0 rfl (by rfl) ((⟨3, k.repo, k.tag, k.dig⟩ : Rt).cells) (by rfl) (rt_size _) (by rw [Rt.len, Rt.len]) (Rt.one _) ?_; intro w4 M4 _; have d0 := M4.out.get 2 rfl 0 rfl; have d4 := M4.out.get 2 rfl 35 k.at_blob; have r0 := M4.out.get 0 rfl 0 rfl; have f0 := M4.out.fz 0 rfl 0; try simp only [Act.put]) | ((with_reducible refine gL 20 3 ?_); refine wpList_loadM (by rfl) 77 (.tmp 3) rfl (Lib.hid (M4.out.setCell 0 rfl 0 (.int .i64 2))) 0 rfl (by rfl) _ Tryz.underlying77 rfl (rt_size (⟨2, k.repo, k.tag, k.dig⟩ : Rt)) ?_; try simp only [Act.put, sqA, sqB, sqC]) | ((with_reducible refine gS 2 20 ?_); refine wpList_storeM rfl 77 (.tmp 2) (.tmp 20) rfl (Lib.hid (M4.out.setCell 0 rfl 0 (.int .i64 2))) 1 rfl (by rfl) ((⟨2, k.repo, k.tag, k.dig⟩ : Rt).cells) (by rfl) (rt_size _) (by rw [Rt.len, Rt.len]) (Rt.one _) ?_; intro w5 M5 _; try simp only [Act.put]) | fail); have hload := rt_end M5.out 1 rfl; rw [HR.out]; refine bodyPost_ret (v := .agg (⟨2, k.repo, k.tag, k.dig⟩ : Rt).cells.toArray) (by simp [results, Tryz.results45, asAddr, hload]) rfl ⟨rfl, M5.out.kp⟩
  · have q1 := (int_ne k1).1; rw [if_neg k1] at hR; by_cases hb : k.blob = true
    · rw [if_pos hb] at hR; have HR := Lib.hid hR; clear hR k1; go_enter Tryz.func45, Tryz.ntmps45
      go_wp2_with (first | ((with_reducible refine gX 1 ?_); refine wpList_boxM rfl 25 (.tmp 0) rfl (k.cells) (by rfl) M0 ?_; intro b w1 M1 _ _; try simp only [Act.put, sqA, sqB, sqC]) | ((with_reducible refine gA 2 ?_); refine wpList_allocM rfl 77 rfl (rt0.cells) (Lib.hid rt_zero) M1 ?_; intro b2 w2 M2 _ _; have c0 := M2.out.get 1 rfl 0 rfl; have c1 := M2.out.get 1 rfl 1 rfl; have c2 := M2.out.get 1 rfl 2 rfl; try simp only [Act.put, sqA, sqB, sqC]) | ((with_reducible refine gL 9 8 ?_); refine wpList_loadPart (by rfl) 23 (.tmp 8) rfl M2 1 rfl 3 (by rfl) (digC k.dig) k.at_dig _ Tryz.underlying23 rfl (dig_size _) ?_; try simp only [Act.put, sqA, sqB, sqC]) | ((with_reducible refine gB 10 ?_); refine wpList_buildM (by rfl) 77 _ rfl ([(0, .int .i64 3), (1, .string (S k.repo)), (2, .string (S k.tag)), (3, .agg (digC k.dig).toArray)]) (by simp [Act.eval]) ((⟨3, k.repo, k.tag, k.dig⟩ : Rt).cells) HB ?_; try simp only [Act.put, sqA, sqB, sqC]) | ((with_reducible refine gA 3 ?_); refine wpList_allocM rfl 77 rfl (rt0.cells) (Lib.hid rt_zero) M2 ?_; intro b3 w3 M3 _ _; try simp only [Act.put, sqA, sqB, sqC]) | ((with_reducible refine gS 3 10 ?_); refine wpList_storeM rfl 77 (.tmp 3) (.tmp 10) rfl M3 0 rfl (by rfl) ((⟨3, k.repo, k.tag, k.dig⟩ : Rt).cells) (by rfl) (rt_size _) (by rw [Rt.len, Rt.len]) (Rt.one _) ?_; intro w4 M4 _; have d0 := M4.out.get 2 rfl 0 rfl; have d4 := M4.out.get 2 rfl 35 k.at_blob; have r0 := M4.out.get 0 rfl 0 rfl; have f0 := M4.out.fz 0 rfl 0; try simp only [Act.put]) | ((with_reducible refine gL 20 3 ?_); refine wpList_loadM (by rfl) 77 (.tmp 3) rfl (Lib.hid (M4.out.setCell 0 rfl 0 (.int .i64 4))) 0 rfl (by rfl) _ Tryz.underlying77 rfl (rt_size (⟨4, k.repo, k.tag, k.dig⟩ : Rt)) ?_; try simp only [Act.put, sqA, sqB, sqC]) | ((with_reducible refine gS 2 20 ?_); refine wpList_storeM rfl 77 (.tmp 2) (.tmp 20) rfl (Lib.hid (M4.out.setCell 0 rfl 0 (.int .i64 4))) 1 rfl (by rfl) ((⟨4, k.repo, k.tag, k.dig⟩ : Rt).cells) (by rfl) (rt_size _) (by rw [Rt.len, Rt.len]) (Rt.one _) ?_; intro w5 M5 _; try simp only [Act.put]) | fail); have hload := rt_end M5.out 1 rfl; rw [HR.out]; refine bodyPost_ret (v := .agg (⟨4, k.repo, k.tag, k.dig⟩ : Rt).cells.toArray) (by simp [results, Tryz.results45, asAddr, hload]) rfl ⟨rfl, M5.out.kp⟩
    · rw [if_neg hb] at hR; have hb2 : k.blob = false := by simpa using hb
      have HR := Lib.hid hR; clear hR k1 hb; go_enter Tryz.func45, Tryz.ntmps45
      go_wp2_with (first | ((with_reducible refine gX 1 ?_); refine wpList_boxM rfl 25 (.tmp 0) rfl (k.cells) (by rfl) M0 ?_; intro b w1 M1 _ _; try simp only [Act.put, sqA, sqB, sqC]) | ((with_reducible refine gA 2 ?_); refine wpList_allocM rfl 77 rfl (rt0.cells) (Lib.hid rt_zero) M1 ?_; intro b2 w2 M2 _ _; have c0 := M2.out.get 1 rfl 0 rfl; have c1 := M2.out.get 1 rfl 1 rfl; have c2 := M2.out.get 1 rfl 2 rfl; try simp only [Act.put, sqA, sqB, sqC]) | ((with_reducible refine gL 9 8 ?_); refine wpList_loadPart (by rfl) 23 (.tmp 8) rfl M2 1 rfl 3 (by rfl) (digC k.dig) k.at_dig _ Tryz.underlying23 rfl (dig_size _) ?_; try simp only [Act.put, sqA, sqB, sqC]) | ((with_reducible refine gB 10 ?_); refine wpList_buildM (by rfl) 77 _ rfl ([(0, .int .i64 3), (1, .string (S k.repo)), (2, .string (S k.tag)), (3, .agg (digC k.dig).toArray)]) (by simp [Act.eval]) ((⟨3, k.repo, k.tag, k.dig⟩ : Rt).cells) HB ?_; try simp only [Act.put, sqA, sqB, sqC]) | ((with_reducible refine gA 3 ?_); refine wpList_allocM rfl 77 rfl (rt0.cells) (Lib.hid rt_zero) M2 ?_; intro b3 w3 M3 _ _; try simp only [Act.put, sqA, sqB, sqC]) | ((with_reducible refine gS 3 10 ?_); refine wpList_storeM rfl 77 (.tmp 3) (.tmp 10) rfl M3 0 rfl (by rfl) ((⟨3, k.repo, k.tag, k.dig⟩ : Rt).cells) (by rfl) (rt_size _) (by rw [Rt.len, Rt.len]) (Rt.one _) ?_; intro w4 M4 _; have d0 := M4.out.get 2 rfl 0 rfl; have d4 := M4.out.get 2 rfl 35 k.at_blob; have r0 := M4.out.get 0 rfl 0 rfl; have f0 := M4.out.fz 0 rfl 0; try simp only [Act.put]) | ((with_reducible refine gL 20 3 ?_); refine wpList_loadM (by rfl) 77 (.tmp 3) rfl M4 0 rfl (by rfl) _ Tryz.underlying77 rfl (rt_size (⟨3, k.repo, k.tag, k.dig⟩ : Rt)) ?_; try simp only [Act.put, sqA, sqB, sqC]) | ((with_reducible refine gS 2 20 ?_); refine wpList_storeM rfl 77 (.tmp 2) (.tmp 20) rfl M4 1 rfl (by rfl) ((⟨3, k.repo, k.tag, k.dig⟩ : Rt).cells) (by rfl) (rt_size _) (by rw [Rt.len, Rt.len]) (Rt.one _) ?_; intro w5 M5 _; try simp only [Act.put]) | fail); have hload := rt_end M5.out 1 rfl; rw [HR.out]; refine bodyPost_ret (v := .agg (⟨3, k.repo, k.tag, k.dig⟩ : Rt).cells.toArray) (by simp [results, Tryz.results45, asAddr, hload]) rfl ⟨rfl, M5.out.kp⟩
end Go.Proofs.YtlhnjkekjbbhcaaGreatDoor
namespace Go.Proofs.YtlhnjkekjbbhcaaGreatDoor
open Go.RowKit
def Off (v : Value) (L : List (Nat × TypeId × List Value)) : Prop := ∀ x ∈ L, v.ownBlock ≠ some x.1
section
variable {P : Program} {ops : Array Oper} {rest : List Oper} {o : Oper} {a : Act} {w w0 : World} {Q : Exit → Act → World → Prop} {M : List (Nat × TypeId × List Value)}
theorem Off.fresh {w0 w : World} {L : List (Nat × TypeId × List Value)} (h : Mem w0 w L) {b : Nat} (hb : w.heap.size ≤ b) (l c : Nat) : Off (.slice (some ⟨b, 0, none⟩) l c) L := fun x hx hh => by
  have := (h.2.2 x hx).2.lt; simp [Value.ownBlock] at hh; omega
theorem Mem.grown {w0 w w' : World} {L : List (Nat × TypeId × List Value)} {v : Value} (h : Mem w0 w L) (k : Keep [] w0 w') (hg : w.grownBy w' v.ownBlock) (hv : Off v L) : Mem w0 w' L :=
  ⟨k, h.2.1, fun x hx => ⟨(h.2.2 x hx).1, by
    have hb := (h.2.2 x hx).2; have : w'.heap[x.1]? = w.heap[x.1]? := hg.block x.1 hb.lt (fun hh => hv x hx hh.symm); unfold Blk at hb ⊢; rw [this]
    exact hb⟩⟩
theorem wpList_appendM (hgd : o.guard = none) (s x : Operand) (t : TypeId)
    (ho : o.op = .call { callee := .builtin .append, args := #[s, x], argTypes := #[t, t] })
    {α : Type} {enc : α → List Value} {n base : Nat} {E : TypeId} {L : List α} {v : Value}
    (i : TypeInfo) (z : Value) (bytes : Nat) (ht : P.underlying t = some (.slice E)) (HI : Hid (P.info? E = some i ∧ i.zero = some z ∧ i.size = n ∧ i.bytes = bytes)) (hzs : z.cells.size = n) (hn0 : 0 < n)
    (hn : ∀ x, (enc x).length = n) (h1 : ∀ x, ∀ u ∈ enc x, u.oneCell' = true)
    (HM : Hid (Mem w0 w M)) (hb0 : base = w0.heap.size) (hs : a.eval s = v) (HO : Hid (Own enc n base E w v L)) (HF : Hid (Off v M)) (y : α) (cs : List Value) (hcs : cs = enc y) (c : Nat) (hx : a.eval x = .slice (some ⟨w.heap.size, 0, none⟩) 1 c)
    (h63 : L.length + 1 ≤ maxLen) (hbytes : (L.length + 1) * bytes ≤ 140737488355328)
    (h : ∀ v' w', Hid (Own enc n base E w' v' (L ++ [y])) → Hid (Mem w0 w' M) → Hid (Off v' M) → Hid (∃ a c, v' = .slice a (L.length + 1) c) → wpList P ops Q rest (a.put o.dst v') w') : wpList P ops Q (o :: rest) a (w.alloc (.cells cs.toArray E)) := by
  subst hcs hb0; have hown := HO.out; refine wpList_append_own_at _ hgd s x t ho w0.heap.size E i z n bytes ht HI.out.1 HI.out.2.1 HI.out.2.2.1 HI.out.2.2.2 hzs hn0 v L.length (rows enc L) hs (hown.alloc _) ⟨w.heap.size, 0, none⟩ 1 c (enc y) hx (by rw [hn]; omega) ?_ (h1 y) h63 hbytes (by have := HM.out.kp.size; simp; omega) ?_
  · intro j u hj; have hA := Blk.new w (enc y) E; have : (⟨w.heap.size, 0, none⟩ : Addr).add j = ⟨w.heap.size, j, none⟩ := by unfold Addr.add; split <;> simp_all
    rw [this, hA.cell j]; exact hj
  · intro v' w' hown' hg _ hat
    have hg' : w.grownBy w' v.ownBlock := by
      have h0 := World.grownBy_alloc w (.cells (enc y).toArray E) v.ownBlock; exact ⟨hg.os.trans h0.os, hg.tape.trans h0.tape, hg.output.trans h0.output, Nat.le_trans h0.size hg.size, fun k hk hne => (hg.block k (Nat.lt_of_lt_of_le hk h0.size) hne).trans (h0.block k hk hne)⟩
    have kw : Keep [] w0 w' := HM.out.kp.grown hg' fun k hk1 hk2 => absurd (hown.lt k hk1).1 (by omega)
    have ho' : Own enc n w0.heap.size E w' v' (L ++ [y]) := by
      have : rows enc (L ++ [y]) = rows enc L ++ enc y := by simp [rows]
      unfold Own; rw [this, List.length_append]; exact hown'
    refine h v' w' (Lib.hid ho') (Lib.hid (HM.out.grown kw hg' HF.out)) (Lib.hid fun x hx hh => ?_) (Lib.hid ?_)
    · rcases hat with h5 | h5
      · exact HF.out x hx (h5 ▸ hh)
      · have h6 := (HM.out.2.2 x hx).2.lt; rw [hh] at h5; simp at h5; omega
    · obtain ⟨sa, sc, hv, _⟩ := ho'.shape; exact ⟨sa, sc, by rw [hv]; simp⟩
end
theorem own_fld {base : Nat} (w : World) (f : Fld) (hb : base ≤ w.heap.size) : Own Fld.cells 2 base 89 (w.alloc (.cells f.cells.toArray 89)) (.slice (some ⟨w.heap.size, 0, none⟩) 1 1) [f] :=
  ⟨rfl, .inr ⟨w.heap.size, 1, #[.string (S f.name), .string (S f.value)], rfl, hb, heap_alloc_new w _, Nat.le_refl _, by decide, rfl, rfl⟩⟩
end Go.Proofs.YtlhnjkekjbbhcaaGreatDoor
namespace Go.Proofs.YtlhnjkekjbbhcaaGreatDoor
open Go.RowKit
section
variable {P : Program} {ops : Array Oper} {o : Oper} {a : Act} {w w0 : World} {Q : Exit → Act → World → Prop} {L : List (Nat × TypeId × List Value)} {K : Act → World → Prop} {Sx : World → Prop}
theorem wp_allocM (ty : TypeId) (ho : o.op = .alloc ty) (Z : List Value) (HZ : Hid (ZeroIs P ty Z)) (HM : Hid (Mem w0 w L))
    (h : ∀ b w', Hid (Mem w0 w' ((b, ty, Z) :: L)) → K (a.put o.dst (.pointer (some ⟨b, 0, none⟩))) w') : o.wp P a w K Q := by
  unfold Oper.wp execOp; simp only [ho]; have hz := HZ.out w; simp only [Sem.run_bind, hz, Result.andThen_ok, Sem.run_pure]; exact h _ _ (Lib.hid (HM.out.alloc Z ty))
theorem wp_storeM (ty : TypeId) (x y : Operand) (ho : o.op = .store ty x y) (HM : Hid (Mem w0 w L)) (i : Nat) {b : Nat} {T : TypeId} {cs : List Value} (hi : L[i]? = some (b, T, cs)) (hx : a.eval x = .pointer (some ⟨b, 0, none⟩)) (vs : List Value) (hy : a.eval y = .agg vs.toArray)
    (hs : (P.info? ty).map (·.size) = some vs.length) (hl : cs.length = vs.length) (h1 : ∀ v ∈ vs, v.oneCell' = true)
    (h : ∀ w', Hid (Mem w0 w' (L.set i (b, T, vs))) → K (a.put o.dst undef) w') : o.wp P a w K Q :=
  wp_store_mid ty x y ho b 0 vs.toArray hx hy ((HM.out.blk i hi).there' 0 _ (by simp [hl])) (by simpa using hs) (all_oneCell_toArray h1)
    (h _ (Lib.hid (HM.out.setAll i hi vs hl)))
theorem yieldsIf_buildM (hw : Region.wanted o (yielded ops a.tmps) = true) (ty : TypeId) (ps : Array (Nat × Operand)) (ho : o.op = .build ty ps) (us : List (Nat × Value)) (hps : (ps.map fun (i, x) => (i, a.eval x)).toList = us) (cs : List Value) (HB : Hid (P.built ty us = some cs.toArray)) : YieldsIf P ops Sx o (.agg cs.toArray) a :=
  .inl ⟨hw, fun w _ => by
    subst hps; unfold execOp; simp only [ho]
    simp only [Sem.run_bind, run_build w ty _ cs.toArray HB.out, Result.andThen_ok, Sem.run_pure]⟩
end
end Go.Proofs.YtlhnjkekjbbhcaaGreatDoor
namespace Go.Proofs.YtlhnjkekjbbhcaaGreatDoor
open Go.RowKit Go.Shelf
def digOutE (o : Option Dig) : Ending := .returned (.tuple #[.agg (digC (o.getD zeroD)).toArray, .int .i64 (if o.isSome then 0 else 3)])
set_option maxRecDepth 100000 in
set_option maxHeartbeats 2000000 in
theorem stamp_Parse (s : List UInt8) (w : World) (hs : s.length ≤ 1048576) :
    Calls Tryz.prog 124 #[.string (S s)] w fun e w' => e = digOutE (behindO s) ∧ Keep [] w w' := by
  have kA := (Keep.refl [] w).alloc (.cells (digC zeroD).toArray 23); have bA := Blk.newA w (digC zeroD).toArray 23; rw [digC_zero] at kA bA; generalize hwA : w.alloc (.cells [.int .u8 0, .int .u8 0, .int .u8 0, .int .u8 0, .int .u8 0, .int .u8 0, .int .u8 0, .int .u8 0, .int .u8 0, .int .u8 0, .int .u8 0, .int .u8 0, .int .u8 0, .int .u8 0, .int .u8 0, .int .u8 0, .int .u8 0, .int .u8 0, .int .u8 0, .int .u8 0, .int .u8 0, .int .u8 0, .int .u8 0, .int .u8 0, .int .u8 0, .int .u8 0, .int .u8 0, .int .u8 0, .int .u8 0, .int .u8 0, .int .u8 0, .int .u8 0].toArray 23) = wA at kA bA; have bA : Blk wA w.heap.size 23 (digC zeroD) := bA; have KA := Lib.hid kA; have BA := Lib.hid bA; have hwA2 : w.alloc (.cells #[.int .u8 0, .int .u8 0, .int .u8 0, .int .u8 0, .int .u8 0, .int .u8 0, .int .u8 0, .int .u8 0, .int .u8 0, .int .u8 0, .int .u8 0, .int .u8 0, .int .u8 0, .int .u8 0, .int .u8 0, .int .u8 0, .int .u8 0, .int .u8 0, .int .u8 0, .int .u8 0, .int .u8 0, .int .u8 0, .int .u8 0, .int .u8 0, .int .u8 0, .int .u8 0, .int .u8 0, .int .u8 0, .int .u8 0, .int .u8 0, .int .u8 0, .int .u8 0] 23) = wA := hwA; clear kA bA hwA; have HB := Lib.hid (stamp_behind s wA hs); go_enter Tryz.func124, Tryz.ntmps124; go_wp2_with fail; refine HB.out.mono ?_; rintro e w2 ⟨rfl, k2⟩; obtain ⟨d, hd⟩ : ∃ d, (behindO s).getD zeroD = d := ⟨_, rfl⟩
  obtain ⟨is, hi⟩ : ∃ i, (behindO s).isSome = i := ⟨_, rfl⟩
  have HR := Lib.hid (show digOutE (behindO s) = .returned (.tuple #[.agg (digC d).toArray, .int .i64 (if is then 0 else 3)]) by unfold digOutE; rw [hd, hi]); have HC := Lib.hid (show digOut (behindO s) = .returned (.tuple #[.agg (digC d).toArray, .bool is]) by unfold digOut; rw [hd, hi]); rw [HC.out]; have K2 := Lib.hid (KA.out.trans k2); have BA2 := Lib.hid (k2.blk BA.out (by simp)); have hkB := K2.out.alloc (.cells (digC d).toArray 23); have hbB := Blk.newA w2 (digC d).toArray 23; have hbA := BA2.out.alloc (.cells (digC d).toArray 23); have hne : w.heap.size < w2.heap.size := BA2.out.lt; generalize hwB : w2.alloc (.cells (digC d).toArray 23) = wB at hkB hbB hbA; have hbB : Blk wB w2.heap.size 23 (digC d) := hbB; have KB := Lib.hid hkB; have BB := Lib.hid hbB; have BAB := Lib.hid hbA; have HWB := Lib.hid hwB; have HSd := Lib.hid (dig_st d); have KZ := Lib.hid (show Keep [] w (wB.setCells w.heap.size 0 (digC d)) from Keep.setCells' _ (fun hh => absurd hh (by omega)) _ _ _ KB.out); have hload := Lib.hid (dig_load (World.rangeAt_setCells_same wB w.heap.size 0 (digC d) (by rw [digC_length]; exact BAB.out.there' 0 32 (by rw [digC_length]; exact Nat.le_refl _)))); clear k2 hwA2 hkB hbB hbA hwB hd hi
  cases is with
  | true =>
    go_wp2_with (first | ((with_reducible refine gS 4 9 ?_); refine wpList_store_new rfl 23 (.tmp 4) (.tmp 9) rfl _ (digC d) (by rfl) (by rfl) (dig_size d) (by rw [digC_length]; rfl) (dig_one d) ?_; rw [HWB.out]; try simp only [Act.put]) | ((with_reducible refine gM 4 ?_); refine wpList_load_mid rfl 23 (.tmp 4) rfl w2.heap.size 0 (by rfl) (digC d) _ BB.out.range' Tryz.underlying23 rfl (dig_size _) ?_; try simp only [Act.put, sqA, sqB, sqC]) | ((with_reducible refine gS 2 14 ?_); refine wpList_store_mid rfl 23 (.tmp 2) (.tmp 14) rfl w.heap.size 0 (digC d).toArray (by rfl) (by first | rfl | kernel_rfl) (BAB.out.there' 0 _ (by simp [digC_length])) HSd.out.1 HSd.out.2 ?_; try simp only [Act.put]) | fail); rw [HR.out]; refine bodyPost_ret (v := .tuple #[.agg (digC d).toArray, .int .i64 0]) (by simp [results, Tryz.results124, asAddr, Result.andThen, hload.out]) rfl ⟨rfl, KZ.out⟩
  | false =>
    go_wp2_with (first | ((with_reducible refine gS 4 9 ?_); refine wpList_store_new rfl 23 (.tmp 4) (.tmp 9) rfl _ (digC d) (by rfl) (by rfl) (dig_size d) (by rw [digC_length]; rfl) (dig_one d) ?_; rw [HWB.out]; try simp only [Act.put]) | ((with_reducible refine gM 4 ?_); refine wpList_load_mid rfl 23 (.tmp 4) rfl w2.heap.size 0 (by rfl) (digC d) _ BB.out.range' Tryz.underlying23 rfl (dig_size _) ?_; try simp only [Act.put, sqA, sqB, sqC]) | ((with_reducible refine gS 2 13 ?_); refine wpList_store_mid rfl 23 (.tmp 2) (.tmp 13) rfl w.heap.size 0 (digC d).toArray (by rfl) (by first | rfl | kernel_rfl) (BAB.out.there' 0 _ (by simp [digC_length])) HSd.out.1 HSd.out.2 ?_; try simp only [Act.put]) | fail); rw [HR.out]; refine bodyPost_ret (v := .tuple #[.agg (digC d).toArray, .int .i64 3]) (by simp [results, Tryz.results124, asAddr, Result.andThen, hload.out]) rfl ⟨rfl, KZ.out⟩
def ansC (st : Int) (v : Value) (len : Int) (ch cl : Bool) : List Value := [.int .i64 st, v, .int .i64 len, .bool ch, .bool cl]
def reC (P : ReS) (cv av : Value) : List Value := [.bool P.head, .int .i64 (P.most : Nat), .int .i64 (P.st : Nat), .string (S P.inp), .string (S P.dat), .int .i64 (P.left : Nat), .int .i64 (P.size : Nat), .int .i64 (P.passed : Nat), cv, av, .bool P.shut, .bool P.ended]
def AnsAt (B : Nat) (w : World) (R : List Nat) (av : Value) (o : Option Ans) : Prop :=
  match o with
  | none => av = .pointer none
  | some a => ∃ b v, av = .pointer (some ⟨b, 0, none⟩) ∧ b ∈ R ∧ Blk w b 30 (ansC a.st v a.len a.ch a.cl) ∧ Own Fld.cells 2 B 89 w v a.F ∧ ∀ g, v.ownBlock = some g → g ∈ R
def RckAt (B : Nat) (w : World) (p : Nat) (X : List Nat) (cv : Value) (o : Option Ck) : Prop :=
  match o with
  | none => cv = .pointer none
  | some c => ∃ b v, cv = .pointer (some ⟨b, 0, none⟩) ∧ b ≠ p ∧ b ∈ X ∧ Ct B w b c.dat c v ∧ ∀ g, v.ownBlock = some g → g ∈ X ∧ g ≠ p
theorem RckAt.keep {B p : Nat} {w w' : World} {X T : List Nat} {cv : Value} {o : Option Ck} (h : RckAt B w p X cv o) (k : Keep T w w') (hX : ∀ x ∈ X, x ≠ p → x ∉ T) : RckAt B w' p X cv o := by
  cases o with
  | none => exact h
  | some c =>
    obtain ⟨b, v, h1, h2, h3, h4, h5⟩ := h; exact ⟨b, v, h1, h2, h3, h4.keep k (hX b h3 h2) (fun g hg => hX g (h5 g hg).1 (h5 g hg).2), h5⟩
structure Re (B : Nat) (w : World) (p : Nat) (X R : List Nat) (P : ReS) : Prop where
  at' : ∃ cv av, Blk w p 150 (reC P cv av) ∧ RckAt B w p X cv P.chk ∧ AnsAt B w R av P.ans
  mem : p ∈ X
  lo : ∀ x ∈ X, B ≤ x ∧ x < w.heap.size
  ro : ∀ x ∈ R, B ≤ x ∧ x < w.heap.size ∧ x ∉ X
theorem AnsAt.keep {B : Nat} {w w' : World} {R T : List Nat} {av : Value} {o : Option Ans} (h : AnsAt B w R av o) (k : Keep T w w') (hR : ∀ x ∈ R, x ∉ T) : AnsAt B w' R av o := by
  cases o with
  | none => exact h
  | some a =>
    obtain ⟨b, v, h1, h2, h3, h4, h5⟩ := h; exact ⟨b, v, h1, h2, k.blk h3 (hR b h2), h4.keep k (fun g hg => hR g (h5 g hg)), h5⟩
theorem Re.keep {B p : Nat} {w w' : World} {X R T : List Nat} {P : ReS} (h : Re B w p X R P) (k : Keep T w w') (hX : ∀ x ∈ X, x ∉ T) (hR : ∀ x ∈ R, x ∉ T) : Re B w' p X R P := by
  obtain ⟨⟨cv, av, h1, h2, h3⟩, h4, h5, h6⟩ := h; exact ⟨⟨cv, av, k.blk h1 (hX p h4), h2.keep k (fun x hx _ => hX x hx), h3.keep k hR⟩, h4, fun x hx => ⟨(h5 x hx).1, Nat.lt_of_lt_of_le (h5 x hx).2 k.size⟩, fun x hx => ⟨(h6 x hx).1, Nat.lt_of_lt_of_le (h6 x hx).2.1 k.size, (h6 x hx).2.2⟩⟩
theorem Re.keep0 {B p : Nat} {w w' : World} {X R : List Nat} {P : ReS} (h : Re B w p X R P) (k : Keep [] w w') : Re B w' p X R P := h.keep k (by simp) (by simp)
theorem Re.lt {B p : Nat} {w : World} {X R : List Nat} {P : ReS} (h : Re B w p X R P) : p < w.heap.size := (h.lo p h.mem).2
theorem Re.base {B p : Nat} {w : World} {X R : List Nat} {P : ReS} (h : Re B w p X R P) : B ≤ p := (h.lo p h.mem).1
theorem Re.set {B p : Nat} {w : World} {X R : List Nat} {P P' : ReS} (h : Re B w p X R P) (k : Nat) (x : Value) (hc : ∀ cv av, (reC P cv av).set k x = reC P' cv av) (h1 : P'.ans = P.ans) (h2 : P'.chk = P.chk) : Re B (w.setCell ⟨p, k, none⟩ x) p X R P' := by
  obtain ⟨⟨cv, av, b1, b2, b3⟩, h4, h5, h6⟩ := h; have hk : Keep [p] w (w.setCell ⟨p, k, none⟩ x) := (Keep.refl _ _).setCell _ _ (by simp); refine ⟨⟨cv, av, ?_, ?_, ?_⟩, h4, fun y hy => ⟨(h5 y hy).1, Nat.lt_of_lt_of_le (h5 y hy).2 hk.size⟩, fun y hy => ⟨(h6 y hy).1, Nat.lt_of_lt_of_le (h6 y hy).2.1 hk.size, (h6 y hy).2.2⟩⟩
  · rw [← hc]; exact b1.set k x
  · rw [h2]; exact b2.keep hk (fun y _ hy => by simpa using hy)
  · rw [h1]; exact b3.keep hk (fun y hy => by simp only [List.mem_singleton]; rintro rfl; exact (h6 _ hy).2.2 h4)
theorem Re.at_ {B p : Nat} {w : World} {X R : List Nat} {P : ReS} (h : Re B w p X R P) : w.cell? ⟨p, 0, Option.none⟩ = some (.bool P.head) ∧ w.cell? ⟨p, 1, Option.none⟩ = some (.int .i64 (P.most : Nat)) ∧ w.cell? ⟨p, 2, Option.none⟩ = some (.int .i64 (P.st : Nat)) ∧ w.cell? ⟨p, 3, Option.none⟩ = some (.string (S P.inp)) ∧ w.cell? ⟨p, 4, Option.none⟩ = some (.string (S P.dat)) ∧
    w.cell? ⟨p, 5, Option.none⟩ = some (.int .i64 (P.left : Nat)) ∧ w.cell? ⟨p, 6, Option.none⟩ = some (.int .i64 (P.size : Nat)) ∧ w.cell? ⟨p, 7, Option.none⟩ = some (.int .i64 (P.passed : Nat)) ∧ w.cell? ⟨p, 10, Option.none⟩ = some (.bool P.shut) ∧ w.cell? ⟨p, 11, Option.none⟩ = some (.bool P.ended) := by
  obtain ⟨⟨cv, av, b1, _⟩, _⟩ := h; exact ⟨b1.get (k := 0) rfl, b1.get (k := 1) rfl, b1.get (k := 2) rfl, b1.get (k := 3) rfl, b1.get (k := 4) rfl, b1.get (k := 5) rfl, b1.get (k := 6) rfl, b1.get (k := 7) rfl, b1.get (k := 10) rfl, b1.get (k := 11) rfl⟩
theorem Re.free {B p : Nat} {w : World} {X R : List Nat} {P : ReS} (h : Re B w p X R P) (k : Nat) : w.frozen? ⟨p, k, Option.none⟩ = false := let ⟨⟨_, _, b1, _⟩, _, _, _⟩ := h; b1.frozen k
theorem Re.keepX {B p : Nat} {w w' : World} {X R : List Nat} {P : ReS} (h : Re B w p X R P) (k : Keep [p] w w') : Keep X w w' := k.mono (fun x hx _ => by simp at hx; subst hx; exact h.mem)
set_option maxHeartbeats 1000000 in
set_option maxRecDepth 100000 in
theorem reply_New (B : Nat) (hd : Bool) (most : Int) (w : World) (hB : B ≤ w.heap.size) :
    Calls Tryz.prog 60 #[.bool hd, .int .i64 most] w fun e w' => ∃ p, e = .returned (.pointer (some ⟨p, 0, Option.none⟩)) ∧ w.heap.size ≤ p ∧ Re B w' p [p] [] (reNew hd most) ∧ Keep [] w w' := by
  obtain ⟨m, hm⟩ : ∃ m : Nat, (max most 0).toNat = m := ⟨_, rfl⟩
  have hmx : max most 0 = (m : Int) := by omega
  have HE := Lib.hid (show reNew hd most = ⟨hd, m, 0, [], [], 0, 0, 0, none, none, false, false⟩ by unfold reNew; rw [hm]); have H := Lib.hid (Blk.newA w (reC ⟨hd, m, 0, [], [], 0, 0, 0, none, none, false, false⟩ (.pointer Option.none) (.pointer Option.none)).toArray 150); clear hm; go_enter Tryz.func60, Tryz.ntmps60; go_wp2_with fail; go_ret; rw [HE.out]; exact ⟨w.heap.size, rfl, Nat.le_refl _, ⟨⟨.pointer Option.none, .pointer Option.none, H.out, rfl, rfl⟩, by simp, fun x hx => by simp at hx; subst hx; simp; omega, by simp⟩, (Keep.refl [] w).alloc _⟩
set_option maxHeartbeats 1000000 in
set_option maxRecDepth 100000 in
theorem reply_fail {B p : Nat} {X R : List Nat} {P : ReS} {w : World} (h : Re B w p X R P) :
    Calls Tryz.prog 218 #[.pointer (some ⟨p, 0, Option.none⟩)] w fun e w' => e = .returned (.bool true) ∧ Re B w' p X R (reFail P) ∧ Keep [p] w w' := by
  obtain ⟨c0, c1, c2, c3, c4, c5, c6, c7, c10, c11⟩ := h.at_; have f2 := h.free 2; have H := Lib.hid h; clear h; go_enter Tryz.func218, Tryz.ntmps218; go_wp2_with fail; go_ret; exact ⟨rfl, H.out.set 2 (.int .i64 5) (fun _ _ => rfl) rfl rfl, (Keep.refl _ _).setCell _ _ (by simp)⟩
set_option maxHeartbeats 1000000 in
set_option maxRecDepth 100000 in
theorem reply_Rest {B p : Nat} {X R : List Nat} {P : ReS} {w : World} (h : Re B w p X R P) :
    Calls Tryz.prog 156 #[.pointer (some ⟨p, 0, Option.none⟩)] w fun e w' => e = .returned (.string (S (reRest P))) ∧ w = w' := by
  obtain ⟨c0, c1, c2, c3, c4, c5, c6, c7, c10, c11⟩ := h.at_; have HE : reRest P = if P.ended then P.inp else [] := rfl
  clear h
  cases he : P.ended with
  | false =>
    rw [he] at c11 HE; have HR := Lib.hid HE; clear HE he; go_enter Tryz.func156, Tryz.ntmps156; go_wp2_with fail; go_ret; rw [HR.out]; exact ⟨rfl, rfl⟩
  | true =>
    rw [he] at c11 HE; have HR := Lib.hid HE; clear HE he; go_enter Tryz.func156, Tryz.ntmps156; go_wp2_with fail; go_ret; rw [HR.out]; exact ⟨rfl, rfl⟩
set_option maxHeartbeats 1000000 in
set_option maxRecDepth 100000 in
theorem reply_finish {B p : Nat} {X R : List Nat} {P : ReS} {w : World} (h : Re B w p X R P) (_hs : P.st ≤ 5) :
    Calls Tryz.prog 153 #[.pointer (some ⟨p, 0, Option.none⟩)] w fun e w' => e = .returned (.int .i64 (reFinish P).2) ∧ Re B w' p X R (reFinish P).1 ∧ Keep [p] w w' := by
  obtain ⟨c0, c1, c2, c3, c4, c5, c6, c7, c10, c11⟩ := h.at_; have f11 := h.free 11; have f2 := h.free 2; have hE : reFinish P = if P.st = 4 then ({ P with ended := true }, 3) else if P.st == 5 || P.shut then (reFail P, 4) else (P, 0) := rfl
  have H := Lib.hid h; clear h; by_cases h4 : P.st = 4
  · rw [if_pos h4] at hE; have HE := Lib.hid hE; rw [h4] at c2; clear hE h4; go_enter Tryz.func153, Tryz.ntmps153; go_wp2_with fail; go_ret; rw [HE.out]; exact ⟨rfl, H.out.set 11 (.bool true) (fun _ _ => rfl) rfl rfl, (Keep.refl _ _).setCell _ _ (by simp)⟩
  rw [if_neg h4] at hE; by_cases h5 : P.st = 5
  · rw [h5] at hE; have HE := Lib.hid (show reFinish P = (reFail P, 4) from hE); rw [h5] at c2; clear hE h4 h5; go_enter Tryz.func153, Tryz.ntmps153; go_wp2_with fail; go_ret; rw [HE.out]; exact ⟨rfl, H.out.set 2 (.int .i64 5) (fun _ _ => rfl) rfl rfl, (Keep.refl _ _).setCell _ _ (by simp)⟩
  have q1 : (((P.st : Nat) : Int) == 4) = false := by simp; omega
  have q2 : (((P.st : Nat) : Int) == 5) = false := by simp; omega
  have q3 : (P.st == 5) = false := by simpa using h5
  rw [q3] at hE
  cases hsh : P.shut with
  | true =>
    rw [hsh] at hE c10; have HE := Lib.hid (show reFinish P = (reFail P, 4) from hE); clear hE h4 h5 q3 hsh; go_enter Tryz.func153, Tryz.ntmps153; go_wp2_with fail; go_ret; rw [HE.out]; exact ⟨rfl, H.out.set 2 (.int .i64 5) (fun _ _ => rfl) rfl rfl, (Keep.refl _ _).setCell _ _ (by simp)⟩
  | false =>
    rw [hsh] at hE c10; have HE := Lib.hid (show reFinish P = (P, 0) from hE); clear hE h4 h5 q3 hsh; go_enter Tryz.func153, Tryz.ntmps153; go_wp2_with fail; go_ret; rw [HE.out]; exact ⟨rfl, H.out, Keep.refl _ _⟩
set_option maxHeartbeats 2000000 in
set_option maxRecDepth 100000 in
theorem reply_Add {B p : Nat} {X R : List Nat} {P : ReS} {w : World} (s : List UInt8) (h : Re B w p X R P) (hl : P.inp.length + P.dat.length ≤ 1048576) (hs : s.length ≤ 1048576) :
    Calls Tryz.prog 61 #[.pointer (some ⟨p, 0, Option.none⟩), .string (S s)] w fun e w' => e = .returned (.int .i64 (reAdd P s).2) ∧ Re B w' p X R (reAdd P s).1 ∧ Keep [p] w w' := by
  obtain ⟨c0, c1, c2, c3, c4, c5, c6, c7, c10, c11⟩ := h.at_; have f3 := h.free 3; have sz := S_size s; have sz2 := S_size P.inp; have sz3 := S_size P.dat; have hA : reAdd P s = if (16384 : Int) - P.inp.length - P.dat.length < s.length then (P, 6) else if P.shut || P.st == 5 then (P, 0) else ({ P with inp := P.inp ++ s }, 0) := rfl
  have H := Lib.hid h; have w1 := IntWalk.i64_in ((16384 : Int) - (P.inp.length : Int)) (by omega); have w2 := IntWalk.i64_in ((16384 : Int) - (P.inp.length : Int) - (P.dat.length : Int)) (by omega); have q3 := S_append P.inp s; have hov : ¬ 9223372036854775807 < P.inp.length + s.length := by omega
  clear h; by_cases h6 : (16384 : Int) - P.inp.length - P.dat.length < s.length
  · rw [if_pos h6] at hA; have HA := Lib.hid hA; have q2 : decide ((s.length : Int) > (16384 : Int) - P.inp.length - P.dat.length) = true := by simp; omega
    clear hA; go_enter Tryz.func61, Tryz.ntmps61; go_wp2_with fail
    go_region_with fail
    all_goals
      go_wp2_with fail; go_ret; rw [HA.out]; exact ⟨rfl, by repeat (first | exact H.out | apply Re.keep0 _ (Keep.drew (Keep.refl _ _))), by repeat (first | exact Keep.refl _ _ | apply Keep.drew)⟩
  rw [if_neg h6] at hA; have q2 : decide ((s.length : Int) > (16384 : Int) - P.inp.length - P.dat.length) = false := by simp; omega
  clear h6
  cases hsh : P.shut with
  | true =>
    rw [hsh] at c10; have HA := Lib.hid (show reAdd P s = (P, 0) by rw [hA, if_pos (by simp [hsh])]); clear hA hsh; go_enter Tryz.func61, Tryz.ntmps61; go_wp2_with fail
    go_region_with fail
    all_goals
      go_wp2_with fail; go_ret; rw [HA.out]; exact ⟨rfl, H.out.keep0 ((Keep.refl _ _).drew), (Keep.refl _ _).drew⟩
  | false =>
    rw [hsh] at c10; by_cases h5 : P.st = 5
    · have HA := Lib.hid (show reAdd P s = (P, 0) by rw [hA, if_pos (by simp [h5])]); rw [h5] at c2; clear hA hsh h5; go_enter Tryz.func61, Tryz.ntmps61; go_wp2_with fail
      go_region_with fail
      all_goals
        go_wp2_with fail; go_ret; rw [HA.out]; exact ⟨rfl, H.out.keep0 ((Keep.refl _ _).drew), (Keep.refl _ _).drew⟩
    · have HA := Lib.hid (show reAdd P s = ({ P with inp := P.inp ++ s }, 0) by rw [hA, if_neg (by simp [hsh, h5])]); have q4 : (((P.st : Nat) : Int) == 5) = false := by simp; omega
      clear hA hsh h5; go_enter Tryz.func61, Tryz.ntmps61; go_wp2_with fail
      go_region_with fail
      all_goals
        go_wp2_with fail; go_ret; rw [HA.out]; exact ⟨rfl, (H.out.keep0 ((Keep.refl _ _).drew)).set 3 (.string (S (P.inp ++ s))) (fun _ _ => rfl) rfl rfl, ((Keep.refl _ _).drew).setCell _ _ (by simp)⟩
set_option maxHeartbeats 2000000 in
set_option maxRecDepth 100000 in
theorem reply_readLength {B p : Nat} {X R : List Nat} {P : ReS} {w : World} (h : Re B w p X R P) (hl : P.inp.length + P.dat.length ≤ 1048576) (hlf : (P.left : Int) ≤ 9223372036854775807) :
    Calls Tryz.prog 191 #[.pointer (some ⟨p, 0, Option.none⟩)] w fun e w' => e = .returned (.bool (readLengthR P).2) ∧ Re B w' p X R (readLengthR P).1 ∧ Keep [p] w w' := by
  obtain ⟨c0, c1, c2, c3, c4, c5, c6, c7, c10, c11⟩ := h.at_; have H := Lib.hid h; have sz2 := S_size P.inp; have sz3 := S_size P.dat
  have hE : readLengthR P = if P.left - min P.left P.inp.length = 0 then ({ P with dat := P.dat ++ P.inp.take (min P.left P.inp.length), inp := P.inp.drop (min P.left P.inp.length), left := 0, st := 4 }, true)
    else ({ P with dat := P.dat ++ P.inp.take (min P.left P.inp.length), inp := P.inp.drop (min P.left P.inp.length), left := P.left - min P.left P.inp.length }, decide (0 < min P.left P.inp.length)) := rfl
  obtain ⟨n, hn⟩ : ∃ n, min P.left P.inp.length = n := ⟨_, rfl⟩
  rw [hn] at hE; have hmin : min ((P.left : Nat) : Int) ((P.inp.length : Nat) : Int) = ((n : Nat) : Int) := by omega
  have hx1 : (S P.inp).extract 0 n = S (P.inp.take n) := by rw [S_extract]; rfl
  have hx2 : (S P.inp).extract n P.inp.length = S (P.inp.drop n) := by rw [S_extract, List.take_length]
  have sz4 : (S (P.inp.take n)).size = n := by rw [S_size, List.length_take]; omega
  have happ := S_append P.dat (P.inp.take n); have hov : ¬ 9223372036854775807 < P.dat.length + n := by omega
  have i0 : (0 : Int) ≤ (n : Int) := by omega
  have i1 : (n : Int) ≤ (P.inp.length : Int) := by omega
  obtain ⟨r, hr⟩ : ∃ r, P.left - n = r := ⟨_, rfl⟩
  have hrI : (P.left : Int) - (n : Int) = ((r : Nat) : Int) := by omega
  have w2 := IntWalk.i64_in ((r : Nat) : Int) (by omega); rw [hr] at hE; clear h hn hlf; go_enter Tryz.func191, Tryz.ntmps191
  go_upto_region 1 with fail
  go_cut [3] (fun y wx => y = .int .i64 (n : Nat) ∧ Hid (Keep [] w wx))
  case first =>
    go_region_with fail
    all_goals
      go_wp2_with fail; go_meet; exact ⟨rfl, Lib.hid (by repeat (first | exact Keep.refl _ _ | apply Keep.drew))⟩
  case rest =>
  obtain ⟨rfl, KX⟩ := hcut; have H1 := Lib.hid (H.out.keep0 KX.out); clear c0 c1 c2 c3 c4 c5 c6 c7 c10 c11 hmin; obtain ⟨c0, c1, c2, c3, c4, c5, c6, c7, c10, c11⟩ := H1.out.at_; have f4 := H1.out.free 4; have HS1 := Lib.hid (And.intro (H1.out.set (P' := { P with dat := P.dat ++ P.inp.take n }) 4 (.string (S (P.dat ++ P.inp.take n))) (fun _ _ => rfl) rfl rfl) ((KX.out.mono (S' := [p]) (by simp)).setCell ⟨p, 4, Option.none⟩ (.string (S (P.dat ++ P.inp.take n))) (by simp)))
  go_upto_region 2 with fail
  go_cut [3] (fun y wx => y = .int .i64 (n : Nat) ∧ Hid (Re B wx p X R { P with dat := P.dat ++ P.inp.take n } ∧ Keep [p] w wx))
  case first =>
    go_region_with fail
    all_goals
      go_wp2_with fail; go_meet; exact ⟨rfl, Lib.hid ⟨by repeat (first | exact HS1.out.1 | refine Re.keep0 ?_ (Keep.drew (Keep.refl _ _))), by repeat (first | exact HS1.out.2 | apply Keep.drew)⟩⟩
  case rest =>
  obtain ⟨rfl, HX⟩ := hcut; clear c0 c1 c2 c3 c4 c5 c6 c7 c10 c11 f4 HS1 H1 KX happ hov sz4; obtain ⟨c0, c1, c2, c3, c4, c5, c6, c7, c10, c11⟩ := HX.out.1.at_; have f2 := HX.out.1.free 2; have f3 := HX.out.1.free 3; have f5 := HX.out.1.free 5; have hs := (HX.out.1.set (P' := { P with dat := P.dat ++ P.inp.take n, inp := P.inp.drop n }) 3 (.string (S (P.inp.drop n))) (fun _ _ => rfl) rfl rfl).set (P' := { P with dat := P.dat ++ P.inp.take n, inp := P.inp.drop n, left := r }) 5 (.int .i64 (r : Nat)) (fun _ _ => rfl) rfl rfl; have ks := (HX.out.2.setCell ⟨p, 3, Option.none⟩ (.string (S (P.inp.drop n))) (by simp)).setCell ⟨p, 5, Option.none⟩ (.int .i64 (r : Nat)) (by simp); have HS := Lib.hid (And.intro hs ks); clear hs ks; by_cases h0 : r = 0
  · rw [if_pos h0] at hE; have HE := Lib.hid hE; have q2 : (((r : Nat) : Int) == 0) = true := by simp [h0]
    have h4 := Lib.hid ((HS.out.1.set (P' := { P with dat := P.dat ++ P.inp.take n, inp := P.inp.drop n, left := r, st := 4 }) 2 (.int .i64 4) (fun _ _ => rfl) rfl rfl)); have k4 := Lib.hid (HS.out.2.setCell ⟨p, 2, Option.none⟩ (.int .i64 4) (by simp)); have HR0 := Lib.hid h0; clear hE h0; go_wp2_with fail; go_ret; rw [HE.out]; refine ⟨rfl, ?_, k4.out⟩; have := h4.out; rw [HR0.out] at this; rw [HR0.out]; exact this
  · rw [if_neg h0] at hE; have HE := Lib.hid hE; have q2 : (((r : Nat) : Int) == 0) = false := by simp [h0]
    have q3 : decide ((n : Int) > 0) = decide (0 < n) := by rw [decide_eq_decide]; omega
    clear hE h0; go_wp2_with fail; go_ret; rw [HE.out]; exact ⟨rfl, HS.out.1, HS.out.2⟩
set_option maxHeartbeats 2000000 in
set_option maxRecDepth 100000 in
theorem reply_readClose {B p : Nat} {X R : List Nat} {P : ReS} {w : World} (h : Re B w p X R P) (hl : P.inp.length + P.dat.length ≤ 1048576) (hsz : P.size ≤ P.most) (hmo : (P.most : Int) ≤ 9223372036854775807) :
    Calls Tryz.prog 192 #[.pointer (some ⟨p, 0, Option.none⟩)] w fun e w' => e = .returned (.bool (readCloseR P).2) ∧ Re B w' p X R (readCloseR P).1 ∧ Keep [p] w w' := by
  obtain ⟨c0, c1, c2, c3, c4, c5, c6, c7, c10, c11⟩ := h.at_; have H := Lib.hid h; have sz2 := S_size P.inp; have sz3 := S_size P.dat; obtain ⟨n, hn⟩ : ∃ n, min (P.most - P.size) P.inp.length = n := ⟨_, rfl⟩
  have hC : closeP P = { P with dat := P.dat ++ P.inp.take n, size := P.size + n, inp := P.inp.drop n } := by unfold closeP; rw [hn]
  have hE : readCloseR P = if (closeP P).inp ≠ [] then (reFail (closeP P), true) else if P.shut then ({ closeP P with st := 4 }, true) else (closeP P, decide (0 < n)) := by unfold readCloseR; rw [hn]
  rw [hC] at hE; have wm := IntWalk.i64_in ((P.most : Int) - (P.size : Int)) (by omega); have hmin : min (((P.most : Nat) : Int) - ((P.size : Nat) : Int)) ((P.inp.length : Nat) : Int) = ((n : Nat) : Int) := by omega
  have hx1 : (S P.inp).extract 0 n = S (P.inp.take n) := by rw [S_extract]; rfl
  have hx2 : (S P.inp).extract n P.inp.length = S (P.inp.drop n) := by rw [S_extract, List.take_length]
  have sz4 : (S (P.inp.take n)).size = n := by rw [S_size, List.length_take]; omega
  have happ := S_append P.dat (P.inp.take n); have hov : ¬ 9223372036854775807 < P.dat.length + n := by omega
  have i0 : (0 : Int) ≤ (n : Int) := by omega
  have i1 : (n : Int) ≤ (P.inp.length : Int) := by omega
  have w2 := IntWalk.i64_in ((P.size : Int) + (n : Int)) (by omega); have hh2 := Lib.hid (show ((P.size : Int) + (n : Int)) = ((P.size + n : Nat) : Int) by omega); clear h hn hC hsz hmo; go_enter Tryz.func192, Tryz.ntmps192
  go_upto_region 1 with fail
  go_cut [3] (fun y wx => y = .int .i64 (n : Nat) ∧ Hid (Keep [] w wx))
  case first =>
    go_region_with fail
    all_goals
      go_wp2_with fail; go_meet; exact ⟨rfl, Lib.hid (by repeat (first | exact Keep.refl _ _ | apply Keep.drew))⟩
  case rest =>
  obtain ⟨rfl, KX⟩ := hcut; have H1 := Lib.hid (H.out.keep0 KX.out); clear c0 c1 c2 c3 c4 c5 c6 c7 c10 c11 hmin wm; obtain ⟨c0, c1, c2, c3, c4, c5, c6, c7, c10, c11⟩ := H1.out.at_; have f4 := H1.out.free 4; have HS1 := Lib.hid (And.intro (H1.out.set (P' := { P with dat := P.dat ++ P.inp.take n }) 4 (.string (S (P.dat ++ P.inp.take n))) (fun _ _ => rfl) rfl rfl) ((KX.out.mono (S' := [p]) (by simp)).setCell ⟨p, 4, Option.none⟩ (.string (S (P.dat ++ P.inp.take n))) (by simp)))
  go_upto_region 2 with fail
  go_cut [3] (fun y wx => y = .int .i64 (n : Nat) ∧ Hid (Re B wx p X R { P with dat := P.dat ++ P.inp.take n } ∧ Keep [p] w wx))
  case first =>
    go_region_with fail
    all_goals
      go_wp2_with fail; go_meet; exact ⟨rfl, Lib.hid ⟨by repeat (first | exact HS1.out.1 | refine Re.keep0 ?_ (Keep.drew (Keep.refl _ _))), by repeat (first | exact HS1.out.2 | apply Keep.drew)⟩⟩
  case rest =>
  obtain ⟨rfl, HX⟩ := hcut; clear c0 c1 c2 c3 c4 c5 c6 c7 c10 c11 f4 HS1 H1 KX happ hov sz4; obtain ⟨c0, c1, c2, c3, c4, c5, c6, c7, c10, c11⟩ := HX.out.1.at_; have f2 := HX.out.1.free 2; have f3 := HX.out.1.free 3; have f6 := HX.out.1.free 6; have hs := (HX.out.1.set (P' := { P with dat := P.dat ++ P.inp.take n, size := P.size + n }) 6 (.int .i64 ((P.size : Int) + (n : Int))) (fun _ _ => by rw [hh2.out]; rfl) rfl rfl).set (P' := { P with dat := P.dat ++ P.inp.take n, size := P.size + n, inp := P.inp.drop n }) 3 (.string (S (P.inp.drop n))) (fun _ _ => rfl) rfl rfl; have ks := (HX.out.2.setCell ⟨p, 6, Option.none⟩ (.int .i64 ((P.size : Int) + (n : Int))) (by simp)).setCell ⟨p, 3, Option.none⟩ (.string (S (P.inp.drop n))) (by simp); have HS := Lib.hid (And.intro hs ks); have HF := Lib.hid (reply_fail hs); clear hs ks; have tl := S_toList (P.inp.drop n); by_cases h0 : P.inp.drop n = []
  case neg =>
    rw [if_pos h0] at hE; have HE := Lib.hid hE; have te : (P.inp.drop n).isEmpty = false := by simpa [List.isEmpty_iff] using h0
    have te2 : (P.inp.drop n == []) = false := by simpa using h0
    clear hE h0; generalize hdr : P.inp.drop n = dr at *; go_wp2_with fail; refine HF.out.mono ?_; rintro e w5 ⟨rfl, h5, k5⟩; have K5 := Lib.hid (And.intro h5 (HS.out.2.trans k5)); clear h5 k5; go_wp2_with fail; go_ret; rw [HE.out]; exact ⟨rfl, K5.out.1, K5.out.2⟩
  have te : (P.inp.drop n).isEmpty = true := by rw [h0]; rfl
  have te2 : (P.inp.drop n == []) = true := by rw [h0]; rfl
  rw [if_neg (by rw [h0]; simp)] at hE; clear h0 HF
  cases hsh : P.shut with
  | true =>
    rw [if_pos hsh] at hE; have HE := Lib.hid hE; have c10' : _ := c10; rw [show ({ P with dat := P.dat ++ P.inp.take n } : ReS).shut = P.shut from rfl, hsh] at c10; have h4 := Lib.hid (And.intro (HS.out.1.set (P' := { P with dat := P.dat ++ P.inp.take n, size := P.size + n, inp := P.inp.drop n, st := 4 }) 2 (.int .i64 4) (fun _ _ => rfl) rfl rfl) (HS.out.2.setCell ⟨p, 2, Option.none⟩ (.int .i64 4) (by simp))); clear hE hsh c10'; generalize hdr : P.inp.drop n = dr at *; go_wp2_with fail; go_ret; rw [HE.out]; exact ⟨rfl, h4.out.1, h4.out.2⟩
  | false =>
    rw [if_neg (by simp [hsh])] at hE; have HE := Lib.hid hE; rw [show ({ P with dat := P.dat ++ P.inp.take n } : ReS).shut = P.shut from rfl, hsh] at c10; have q3 : decide ((n : Int) > 0) = decide (0 < n) := by rw [decide_eq_decide]; omega
    clear hE hsh; generalize hdr : P.inp.drop n = dr at *; go_wp2_with fail; go_ret; rw [HE.out]; exact ⟨rfl, HS.out.1, HS.out.2⟩
end Go.Proofs.YtlhnjkekjbbhcaaGreatDoor
