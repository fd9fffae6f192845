/- Parts of the proof of ErrandAsks, in order. No conditions but those that each theorem states. -/
import Derived.Test.YtlhnjkekjbbhcaaGreatDoorYErrandAsks0
import Derived.Lib.SlBytesConst
import Derived.Lib.LaidTab
import Derived.Lib.ItoaNum
import Derived.Lib.ItoaLen
import Derived.Sort.Grow
import Derived.Test.YtlhnjkekjbbhcaaGreatDoorYErrandAsks21
set_option linter.unusedSimpArgs false
set_option linter.unusedVariables false
namespace Go.Proofs.YtlhnjkekjbbhcaaGreatDoor
open Go.RowKit Go.Shelf
theorem last_one (s : List UInt8) : Lib.lastIndexByte (S s) 47 = lastI s := lastI_of (last_is (Lib.lastIndexByte_spec (S s) 47))
theorem last_at {a b : List UInt8} (hb : ∀ j : Nat, b[j]? ≠ some (47 : UInt8)) : lastI (a ++ 47 :: b) = (a.length : Nat) := by
  have h : lastS (a ++ 47 :: b) = some a.length := lastS_some.2 ⟨by rw [List.getElem?_append_right (Nat.le_refl _)]; simp, fun j hj => by
    rw [List.getElem?_append_right (by omega)]; obtain ⟨k, hk⟩ : ∃ k, j - a.length = k + 1 := ⟨j - a.length - 1, by omega⟩
    rw [hk, List.getElem?_cons_succ]
    exact hb k⟩
  unfold lastI; rw [h]
set_option maxRecDepth 100000 in
set_option maxHeartbeats 1600000 in
theorem place_cutLast {T a b : List UInt8} (hT : T = a ++ 47 :: b) (hb : ∀ j : Nat, b[j]? ≠ some (47 : UInt8)) (hl : T.length ≤ 1048576) (w : World) :
    Calls Tryz.prog 75 #[.string (S T)] w fun e w' => e = .returned (.tuple #[.string (S a), .string (S b), .bool true]) ∧ Keep [] w w' := by
  have hsz := S_size T
  have HL : Calls Tryz.prog 122 #[.string (S T), .string ⟨#[47]⟩] w fun e w' => e = .returned (.int .i64 (a.length : Nat)) ∧ w' = w := by
    have h1 : Calls Tryz.prog 122 #[.string (S T), .string ⟨#[47]⟩] w fun e w' => e = .returned (.int .i64 (Lib.lastIndexByte (S T) 47)) ∧ w' = w := Tryz.strings_LastIndex_one (S T) ⟨#[47]⟩ rfl (by rw [hsz]; omega) w
    rw [last_one, hT, last_at hb] at h1; rw [hT]; exact h1
  have hlen : T.length = a.length + 1 + b.length := by rw [hT, List.length_append, List.length_cons]; omega
  have x1 : (S T).extract 0 a.length = S a := by rw [S_extract, List.drop_zero, hT]; congr 1; simp
  have x2 : (S T).extract (a.length + 1) T.length = S b := by
    rw [S_extract, List.take_length, hT]; congr 1; rw [List.drop_append]; simp
  have w1 := IntWalk.i64_in ((a.length : Int) + 1) (by omega); have n1 : ((a.length : Int) + 1).toNat = a.length + 1 := by omega
  have d1 : decide ((a.length : Int) < 0) = false := decide_eq_false (by omega); have i1 : (a.length : Int) ≤ (T.length : Int) := by omega
  have i2 : (a.length : Int) + 1 ≤ (T.length : Int) := by omega
  have i3 : (0 : Int) ≤ (a.length : Int) + 1 := by omega
  have i4 : (0 : Int) ≤ (a.length : Int) := by omega
  have HL := Lib.hid HL; clear hT hb hlen; go_enter Tryz.func75, Tryz.ntmps75; go_wp2_with fail; refine HL.out.mono ?_; rintro e w2 ⟨rfl, rfl⟩; go_wp2_with fail; go_quiet (fail); go_wp2_with fail; go_ret3; exact ⟨rfl, (Keep.refl _ _).drewN _⟩
set_option maxRecDepth 100000 in
set_option maxHeartbeats 1600000 in
theorem refer_tag (repo tag : List UInt8) (ht : isTagM tag = true) (hl : tag.length ≤ 1048576) (w : World) :
    Calls Tryz.prog 76 #[.agg (⟨0, repo, [], zeroD⟩ : Rt).cells.toArray, .string ⟨#[109, 97, 110, 105, 102, 101, 115, 116, 115]⟩, .string (S tag)] w fun e w' => e = .returned (.tuple #[.agg (⟨2, repo, tag, zeroD⟩ : Rt).cells.toArray, .int .i64 0]) ∧ Keep [] w w' := by
  have M0 : Hid (MemK w [] w w []) := Lib.hid (MemK.of (Mem.nil w) []); have HI := Lib.hid (fun w' => isTag_is ht (show tag.length ≤ 9223372036854775807 by omega) w')
  have HP : Hid (∀ w', Calls Tryz.prog 123 #[.string (S tag), .string ⟨#[115, 104, 97, 50, 53, 54, 58]⟩] w' fun e w'' => e = .returned (.bool false) ∧ w'' = w') := Lib.hid (fun w' => by
    have := Tryz.strings_HasPrefix (S tag) ⟨#[115, 104, 97, 50, 53, 54, 58]⟩ w'; rw [S_list, show (⟨#[115, 104, 97, 50, 53, 54, 58]⟩ : ByteArray).data.toList = pfxD from rfl, tag_nopfx ht] at this; exact this)
  clear ht hl; go_enter Tryz.func76, Tryz.ntmps76
  go_wp2_with (first | ((with_reducible refine gX 3 ?_); refine wpList_boxK rfl 77 (.tmp 0) rfl ((⟨0, repo, [], zeroD⟩ : Rt).cells) (by rfl) M0 ?_; intro b3 w1 M1 hnewb3; try simp only [Act.put, sqA, sqB, sqC]) | ((with_reducible refine gA 6 ?_); refine wpList_allocK rfl 77 rfl (rt0.cells) (Lib.hid rt_zero) M1 ?_; intro b6 w2 M2 hnewb6; try simp only [Act.put, sqA, sqB, sqC]) | fail); refine (HP.out _).mono ?_; rintro e w3 ⟨rfl, rfl⟩; go_wp2_with fail; refine (HI.out _).mono ?_; rintro e w4 ⟨rfl, k4⟩; have M4 := Lib.hid (M2.out.keep0 k4); clear k4
  go_wp2_with (first | ((with_reducible refine gT 22 ?_); refine wpList_store1K rfl 3 (.tmp 22) _ rfl M4 1 rfl 0 (by rfl) (.int .i64 2) (by rfl) rfl rfl (by kernel_rfl) (by rw [Rt.len]; omega) (fun hlt => absurd hnewb3.out (by omega)) ?_; intro w5 M5; have hR := M5.out; simp only [sqC, sqB, rt_setKind] at hR; clear M5; have M5 := Lib.hid hR; clear hR; try simp only [Act.put, sqA, sqB, sqC]) | ((with_reducible refine gT 23 ?_); refine wpList_store1K rfl 9 (.tmp 23) _ rfl M5 1 rfl 2 (by rfl) (.string (S tag)) (by rfl) rfl rfl (by kernel_rfl) (by rw [Rt.len]; omega) (fun hlt => absurd hnewb3.out (by omega)) ?_; intro w6 M6; have hR := M6.out; simp only [sqC, sqB, rt_setTag] at hR; clear M6; have M6 := Lib.hid hR; clear hR; try simp only [Act.put, sqA, sqB, sqC]) | ((with_reducible refine gL 24 3 ?_); refine wpList_loadK (by rfl) 77 (.tmp 3) rfl M6 1 rfl (by rfl) _ Tryz.underlying77 rfl (rt_size _) ?_; try simp only [Act.put, sqA, sqB, sqC]) | ((with_reducible refine gS 6 24 ?_); refine wpList_storeK rfl 77 (.tmp 6) (.tmp 24) rfl M6 0 rfl (by rfl) ((⟨2, repo, tag, zeroD⟩ : Rt).cells) (by rfl) (rt_size _) (by rw [Rt.len, Rt.len]) (Rt.one _) (fun hlt => absurd hnewb6.out (by omega)) ?_; intro w7 M7; try simp only [Act.put, sqA, sqB, sqC]) | fail); have hload := rt_end M7.out.1 0 rfl; refine bodyPost_ret (v := .tuple #[.agg (⟨2, repo, tag, zeroD⟩ : Rt).cells.toArray, .int .i64 0]) (by simp [Act.put, results, Tryz.results76, asAddr, Result.andThen, hload]) rfl ⟨rfl, M7.out.2⟩
set_option maxRecDepth 100000 in
set_option maxHeartbeats 4000000 in
theorem refer_mani (repo : List UInt8) (d : Dig) (w : World) :
    Calls Tryz.prog 76 #[.agg (⟨0, repo, [], zeroD⟩ : Rt).cells.toArray, .string ⟨#[109, 97, 110, 105, 102, 101, 115, 116, 115]⟩, .string (S (stampM d.1))] w fun e w' => e = .returned (.tuple #[.agg (⟨3, repo, [], d⟩ : Rt).cells.toArray, .int .i64 0]) ∧ Keep [] w w' := by
  have M0 : Hid (MemK w [] w w []) := Lib.hid (MemK.of (Mem.nil w) []); have hsl := stampM_len d
  have HS : Hid (∀ w', Calls Tryz.prog 124 #[.string (S (stampM d.1))] w' fun e w'' => e = .returned (.tuple #[.agg (digC d).toArray, .int .i64 0]) ∧ Keep [] w' w'') := Lib.hid (fun w' => by
    have := stamp_Parse (stampM d.1) w' (by omega); unfold digOutE at this; rw [behind_stamp d] at this; exact this)
  have HP : Hid (∀ w', Calls Tryz.prog 123 #[.string (S (stampM d.1)), .string ⟨#[115, 104, 97, 50, 53, 54, 58]⟩] w' fun e w'' => e = .returned (.bool true) ∧ w'' = w') := Lib.hid (fun w' => by
    have := Tryz.strings_HasPrefix (S (stampM d.1)) ⟨#[115, 104, 97, 50, 53, 54, 58]⟩ w'; rw [S_list, show (⟨#[115, 104, 97, 50, 53, 54, 58]⟩ : ByteArray).data.toList = pfxD from rfl, stamp_pfx] at this; exact this)
  clear hsl; go_enter Tryz.func76, Tryz.ntmps76
  go_wp2_with (first | ((with_reducible refine gX 3 ?_); refine wpList_boxK rfl 77 (.tmp 0) rfl ((⟨0, repo, [], zeroD⟩ : Rt).cells) (by rfl) M0 ?_; intro b3 w1 M1 hnewb3; try simp only [Act.put, sqA, sqB, sqC]) | ((with_reducible refine gA 6 ?_); refine wpList_allocK rfl 77 rfl (rt0.cells) (Lib.hid rt_zero) M1 ?_; intro b6 w2 M2 hnewb6; try simp only [Act.put, sqA, sqB, sqC]) | fail); refine (HP.out _).mono ?_; rintro e w3 ⟨rfl, rfl⟩; go_wp2_with fail; refine (HS.out _).mono ?_; rintro e w4 ⟨rfl, k4⟩; have M4 := Lib.hid (M2.out.keep0 k4); clear k4
  go_upto_region 9 with (first | ((with_reducible refine gA 8 ?_); refine wpList_allocK rfl 23 rfl (digC zeroD) (Lib.hid dig_zero) M4 ?_; intro b8 w5 M5 hnewb8; try simp only [Act.put, sqA, sqB, sqC]) | ((with_reducible refine gS 8 28 ?_); refine wpList_storeK rfl 23 (.tmp 8) (.tmp 28) rfl M5 0 rfl (by rfl) (digC d) (by rfl) (dig_size _) (by rw [digC_length, digC_length]) (dig_one _) (fun hlt => absurd hnewb8.out (by omega)) ?_; intro w6 M6; try simp only [Act.put, sqA, sqB, sqC]) | fail)
  refine wp_region_noPanic ?_; refine wp_region_held_drew (S := fun w' => ∃ cs, MemK w [] w w' [(b8, 23, digC d), (b6, 77, rt0.cells), (b3, 77, cs)]) (by kernel_rfl) (⟨_, (Lib.hid (M6.out.keep0 ((Keep.refl _ _).drew))).out⟩) (fun hHeld => ?_); have M6d := Lib.hid (M6.out.keep0 ((Keep.refl _ _).drew)); refine gU 0 (oi := ⟨some 34, .load _ (.tmp 8), _, _, _, none⟩) rfl (yieldsIf_load_mid (by rfl) 23 (.tmp 8) rfl _ 0 (by rfl) (digC d) _ (fun w' hSw => ((hSw.choose_spec).1.blk 0 (by rfl)).range') Tryz.underlying23 rfl (dig_size _)) (by assumption) ?_; (try simp only [Act.put, sqA, sqC, sqB]); refine gU 1 (oi := ⟨some 35, .fieldAddr _ (.tmp 3) 0, _, _, _, none⟩) (v := ?_) rfl (Or.inl ⟨by rfl, ?_⟩) (by assumption) ?_; rotate_left
  · (intro w' hSw; go_simp) <;> (with_reducible rfl)
  (try simp only [Act.put, sqA, sqC, sqB]); refine gR 2 rfl (fun K hK => ?_); rw [if_pos (by rfl)]; refine wp_store1K 3 (.tmp 35) _ rfl M6d 2 rfl 0 (by rfl) (.int .i64 3) (by rfl) rfl rfl (by kernel_rfl) (by rw [Rt.len]; omega) (fun hlt => absurd hnewb3.out (by omega)) ?_; intro wr1 MR1; have hR := MR1.out; simp only [sqC, sqB, rt_setKind] at hR; clear MR1; have MR1 := Lib.hid hR; clear hR; refine hK.out _ _ (⟨_, MR1.out⟩) (fun hHeld => ?_); clear hK K; (try simp only [Act.put, sqA, sqC, sqB]); refine gU 3 (oi := ⟨some 36, .fieldAddr _ (.tmp 3) 3, _, _, _, none⟩) (v := ?_) rfl (Or.inl ⟨by rfl, ?_⟩) (by assumption) ?_; rotate_left
  · (intro w' hSw; go_simp) <;> (with_reducible rfl)
  (try simp only [Act.put, sqA, sqC, sqB]); refine gR 4 rfl (fun K hK => ?_); rw [if_pos (by rfl)]; refine wp_storePartK 23 (.tmp 36) _ rfl MR1 2 rfl 3 (by rfl) (digC d) (by rfl) (dig_size _) ([.int .i64 3, .string (S repo), .string (S [])]) (digC zeroD) ([]) (by simp [Rt.cells]) (by rw [digC_length, digC_length]) rfl (dig_one _) (fun hlt => absurd hnewb3.out (by omega)) ?_; intro wr2 MR2; have hR := MR2.out; simp only [sqC, sqB, (show ([.int .i64 3, .string (S repo), .string (S [])] : List Value) ++ digC d ++ [] = (⟨3, repo, [], d⟩ : Rt).cells from by simp [Rt.cells])] at hR; clear MR2; have MR2 := Lib.hid hR; clear hR; refine hK.out _ _ (⟨_, MR2.out⟩) (fun hHeld => ?_); clear hK K; (try simp only [Act.put, sqA, sqC, sqB]); refine wpAnyH_done (by kernel_rfl) ?_ _; refine NoPanic.normal ?_
  go_wp2_with (first | ((with_reducible refine gL 40 3 ?_); refine wpList_loadK (by rfl) 77 (.tmp 3) rfl MR2 2 rfl (by rfl) _ Tryz.underlying77 rfl (rt_size _) ?_; try simp only [Act.put, sqA, sqB, sqC]) | ((with_reducible refine gS 6 40 ?_); refine wpList_storeK rfl 77 (.tmp 6) (.tmp 40) rfl MR2 1 rfl (by rfl) ((⟨3, repo, [], d⟩ : Rt).cells) (by rfl) (rt_size _) (by rw [Rt.len, Rt.len]) (Rt.one _) (fun hlt => absurd hnewb6.out (by omega)) ?_; intro w8 M8; try simp only [Act.put, sqA, sqB, sqC]) | fail); have hload := rt_end M8.out.1 1 rfl; refine bodyPost_ret (v := .tuple #[.agg (⟨3, repo, [], d⟩ : Rt).cells.toArray, .int .i64 0]) (by simp [Act.put, results, Tryz.results76, asAddr, Result.andThen, hload]) rfl ⟨rfl, M8.out.2⟩
set_option maxRecDepth 100000 in
set_option maxHeartbeats 4000000 in
theorem refer_blob (repo : List UInt8) (d : Dig) (w : World) :
    Calls Tryz.prog 76 #[.agg (⟨0, repo, [], zeroD⟩ : Rt).cells.toArray, .string ⟨#[98, 108, 111, 98, 115]⟩, .string (S (stampM d.1))] w fun e w' => e = .returned (.tuple #[.agg (⟨4, repo, [], d⟩ : Rt).cells.toArray, .int .i64 0]) ∧ Keep [] w w' := by
  have M0 : Hid (MemK w [] w w []) := Lib.hid (MemK.of (Mem.nil w) []); have hsl := stampM_len d
  have HS : Hid (∀ w', Calls Tryz.prog 124 #[.string (S (stampM d.1))] w' fun e w'' => e = .returned (.tuple #[.agg (digC d).toArray, .int .i64 0]) ∧ Keep [] w' w'') := Lib.hid (fun w' => by
    have := stamp_Parse (stampM d.1) w' (by omega); unfold digOutE at this; rw [behind_stamp d] at this; exact this)
  have HP : Hid (∀ w', Calls Tryz.prog 123 #[.string (S (stampM d.1)), .string ⟨#[115, 104, 97, 50, 53, 54, 58]⟩] w' fun e w'' => e = .returned (.bool true) ∧ w'' = w') := Lib.hid (fun w' => by
    have := Tryz.strings_HasPrefix (S (stampM d.1)) ⟨#[115, 104, 97, 50, 53, 54, 58]⟩ w'; rw [S_list, show (⟨#[115, 104, 97, 50, 53, 54, 58]⟩ : ByteArray).data.toList = pfxD from rfl, stamp_pfx] at this; exact this)
  clear hsl; go_enter Tryz.func76, Tryz.ntmps76
  go_wp2_with (first | ((with_reducible refine gX 3 ?_); refine wpList_boxK rfl 77 (.tmp 0) rfl ((⟨0, repo, [], zeroD⟩ : Rt).cells) (by rfl) M0 ?_; intro b3 w1 M1 hnewb3; try simp only [Act.put, sqA, sqB, sqC]) | ((with_reducible refine gA 6 ?_); refine wpList_allocK rfl 77 rfl (rt0.cells) (Lib.hid rt_zero) M1 ?_; intro b6 w2 M2 hnewb6; try simp only [Act.put, sqA, sqB, sqC]) | fail); refine (HS.out _).mono ?_; rintro e w4 ⟨rfl, k4⟩; have M4 := Lib.hid (M2.out.keep0 k4); clear k4
  go_upto_region 9 with (first | ((with_reducible refine gA 8 ?_); refine wpList_allocK rfl 23 rfl (digC zeroD) (Lib.hid dig_zero) M4 ?_; intro b8 w5 M5 hnewb8; try simp only [Act.put, sqA, sqB, sqC]) | ((with_reducible refine gS 8 28 ?_); refine wpList_storeK rfl 23 (.tmp 8) (.tmp 28) rfl M5 0 rfl (by rfl) (digC d) (by rfl) (dig_size _) (by rw [digC_length, digC_length]) (dig_one _) (fun hlt => absurd hnewb8.out (by omega)) ?_; intro w6 M6; try simp only [Act.put, sqA, sqB, sqC]) | fail)
  refine wp_region_noPanic ?_; refine wp_region_held_drew (S := fun w' => ∃ cs, MemK w [] w w' [(b8, 23, digC d), (b6, 77, rt0.cells), (b3, 77, cs)]) (by kernel_rfl) (⟨_, (Lib.hid (M6.out.keep0 ((Keep.refl _ _).drew))).out⟩) (fun hHeld => ?_); have M6d := Lib.hid (M6.out.keep0 ((Keep.refl _ _).drew)); refine gU 0 (oi := ⟨some 34, .load _ (.tmp 8), _, _, _, none⟩) rfl (yieldsIf_load_mid (by rfl) 23 (.tmp 8) rfl _ 0 (by rfl) (digC d) _ (fun w' hSw => ((hSw.choose_spec).1.blk 0 (by rfl)).range') Tryz.underlying23 rfl (dig_size _)) (by assumption) ?_; (try simp only [Act.put, sqA, sqC, sqB]); refine gU 1 (oi := ⟨some 35, .fieldAddr _ (.tmp 3) 0, _, _, _, none⟩) (v := ?_) rfl (Or.inl ⟨by rfl, ?_⟩) (by assumption) ?_; rotate_left
  · (intro w' hSw; go_simp) <;> (with_reducible rfl)
  (try simp only [Act.put, sqA, sqC, sqB]); refine gR 2 rfl (fun K hK => ?_); rw [if_pos (by rfl)]; refine wp_store1K 3 (.tmp 35) _ rfl M6d 2 rfl 0 (by rfl) (.int .i64 3) (by rfl) rfl rfl (by kernel_rfl) (by rw [Rt.len]; omega) (fun hlt => absurd hnewb3.out (by omega)) ?_; intro wr1 MR1; have hR := MR1.out; simp only [sqC, sqB, rt_setKind] at hR; clear MR1; have MR1 := Lib.hid hR; clear hR; refine hK.out _ _ (⟨_, MR1.out⟩) (fun hHeld => ?_); clear hK K; (try simp only [Act.put, sqA, sqC, sqB]); refine gU 3 (oi := ⟨some 36, .fieldAddr _ (.tmp 3) 3, _, _, _, none⟩) (v := ?_) rfl (Or.inl ⟨by rfl, ?_⟩) (by assumption) ?_; rotate_left
  · (intro w' hSw; go_simp) <;> (with_reducible rfl)
  (try simp only [Act.put, sqA, sqC, sqB]); refine gR 4 rfl (fun K hK => ?_); rw [if_pos (by rfl)]; refine wp_storePartK 23 (.tmp 36) _ rfl MR1 2 rfl 3 (by rfl) (digC d) (by rfl) (dig_size _) ([.int .i64 3, .string (S repo), .string (S [])]) (digC zeroD) ([]) (by simp [Rt.cells]) (by rw [digC_length, digC_length]) rfl (dig_one _) (fun hlt => absurd hnewb3.out (by omega)) ?_; intro wr2 MR2; have hR := MR2.out; simp only [sqC, sqB, (show ([.int .i64 3, .string (S repo), .string (S [])] : List Value) ++ digC d ++ [] = (⟨3, repo, [], d⟩ : Rt).cells from by simp [Rt.cells])] at hR; clear MR2; have MR2 := Lib.hid hR; clear hR; refine hK.out _ _ (⟨_, MR2.out⟩) (fun hHeld => ?_); clear hK K; (try simp only [Act.put, sqA, sqC, sqB]); refine wpAnyH_done (by kernel_rfl) ?_ _; refine NoPanic.normal ?_
  go_wp2_with (first | ((with_reducible refine gT 39 ?_); refine wpList_store1K rfl 3 (.tmp 39) _ rfl MR2 2 rfl 0 (by rfl) (.int .i64 4) (by rfl) rfl rfl (by kernel_rfl) (by rw [Rt.len]; omega) (fun hlt => absurd hnewb3.out (by omega)) ?_; intro w7 M7; have hR := M7.out; simp only [sqC, sqB, rt_setKind] at hR; clear M7; have M7 := Lib.hid hR; clear hR; try simp only [Act.put, sqA, sqB, sqC]) | ((with_reducible refine gL 40 3 ?_); refine wpList_loadK (by rfl) 77 (.tmp 3) rfl M7 2 rfl (by rfl) _ Tryz.underlying77 rfl (rt_size _) ?_; try simp only [Act.put, sqA, sqB, sqC]) | ((with_reducible refine gS 6 40 ?_); refine wpList_storeK rfl 77 (.tmp 6) (.tmp 40) rfl M7 1 rfl (by rfl) ((⟨4, repo, [], d⟩ : Rt).cells) (by rfl) (rt_size _) (by rw [Rt.len, Rt.len]) (Rt.one _) (fun hlt => absurd hnewb6.out (by omega)) ?_; intro w8 M8; try simp only [Act.put, sqA, sqB, sqC]) | fail); have hload := rt_end M8.out.1 1 rfl; refine bodyPost_ret (v := .tuple #[.agg (⟨4, repo, [], d⟩ : Rt).cells.toArray, .int .i64 0]) (by simp [Act.put, results, Tryz.results76, asAddr, Result.andThen, hload]) rfl ⟨rfl, M8.out.2⟩
theorem refer_good' (r : Rt) (h : goodRtM r = true) (h1 : r.kind ≠ 1) (w : World) : Calls Tryz.prog 76 #[.agg (⟨0, r.repo, [], zeroD⟩ : Rt).cells.toArray, .string (S (rtWord r)), .string (S (rtRef r))] w fun e w' => e = .returned (.tuple #[.agg r.cells.toArray, .int .i64 0]) ∧ Keep [] w w' := by
  obtain ⟨k, repo, tag, d⟩ := r; dsimp only at h1; unfold goodRtM at h; dsimp only at h; rw [if_neg h1] at h; by_cases h2 : k = 2
  · subst h2; rw [if_pos rfl] at h; simp only [Bool.and_eq_true, decide_eq_true_eq] at h; obtain ⟨_, ht, rfl⟩ := h
    have hl : tag.length ≤ 1048576 := by
      have := (tag_tgt ht).2; omega
    exact refer_tag repo tag ht hl w
  · rw [if_neg h2] at h; by_cases h3 : k = 3
    · subst h3; rw [if_pos (.inl rfl)] at h; simp only [Bool.and_eq_true, List.isEmpty_iff] at h; obtain ⟨_, rfl⟩ := h; exact refer_mani repo d w
    · by_cases h4 : k = 4
      · subst h4; rw [if_pos (.inr rfl)] at h; simp only [Bool.and_eq_true, List.isEmpty_iff] at h; obtain ⟨_, rfl⟩ := h; exact refer_blob repo d w
      · rw [if_neg (by omega)] at h; cases h
theorem rt_parts (r : Rt) (h1 : r.kind ≠ 1) : rtText r = rootB ++ (r.repo ++ 47 :: rtWord r ++ 47 :: rtRef r) := text_behind r h1
theorem ref_noslash {r : Rt} (h : goodRtM r = true) (h1 : r.kind ≠ 1) : ∀ j : Nat, (rtRef r)[j]? ≠ some (47 : UInt8) := by
  refine no_slash ?_; unfold rtRef
  split
  · rename_i h2; refine tag_noslash ?_; unfold goodRtM at h; rw [if_neg h1, if_pos h2] at h; simp only [Bool.and_eq_true] at h; exact h.2.1
  · exact stamp_noslash _
theorem word_noslash (r : Rt) : ∀ j : Nat, (rtWord r)[j]? ≠ some (47 : UInt8) := by
  refine no_slash ?_; unfold rtWord
  split <;> decide
theorem good_repo {r : Rt} (h : goodRtM r = true) (h1 : r.kind ≠ 1) : isRepoM r.repo = true := by
  unfold goodRtM at h; rw [if_neg h1] at h
  split at h
  · simp only [Bool.and_eq_true] at h; exact h.1
  · split at h
    · simp only [Bool.and_eq_true] at h; exact h.1
    · cases h
set_option maxRecDepth 100000 in
set_option maxHeartbeats 4000000 in
theorem place_ParseOk (r : Rt) (h : goodRtM r = true) (h1 : r.kind ≠ 1) (hl : (rtText r).length ≤ 1048576) (w : World) :
    Calls Tryz.prog 36 #[.string (S (rtText r))] w fun e w' => e = .returned (.tuple #[.agg r.cells.toArray, .int .i64 0]) ∧ Keep [] w w' := by
  have M0 := Lib.hid (Mem.nil w); have ht := rt_parts r h1; have hRe := good_repo h h1; have HRf := Lib.hid (fun w' => refer_good' r h h1 w'); have hns := ref_noslash h h1; have hwn := word_noslash r; have hlen := congrArg List.length ht; simp only [List.length_append, List.length_cons] at hlen
  have HC : ∀ w, Calls Tryz.prog 74 #[.string (S (rtText r)), .string ⟨#[47, 118, 50, 47]⟩] w fun e w' => e = .returned (.tuple #[.string (S (r.repo ++ 47 :: rtWord r ++ 47 :: rtRef r)), .bool true]) ∧ w' = w := fun w => by
    have := Tryz.strings_CutPrefix (S (rtText r)) ⟨#[47, 118, 50, 47]⟩ w; rw [S_list, show (⟨#[47, 118, 50, 47]⟩ : ByteArray).data.toList = rootB from rfl, ht] at this; have e1 : Lib.hasPrefix (rootB ++ (r.repo ++ 47 :: rtWord r ++ 47 :: rtRef r)) rootB = true := root_pfx _
    have e2 : Lib.trimPrefix (rootB ++ (r.repo ++ 47 :: rtWord r ++ 47 :: rtRef r)) rootB = r.repo ++ 47 :: rtWord r ++ 47 :: rtRef r := by
      unfold Lib.trimPrefix; rw [if_pos e1, List.drop_left' rfl]
    rw [e1, e2, ← ht] at this; exact this
  have hem : (S (r.repo ++ 47 :: rtWord r ++ 47 :: rtRef r)).toList.isEmpty = false := by rw [S_toList]; cases r.repo <;> rfl
  obtain ⟨T, hT⟩ : ∃ z, r.repo ++ 47 :: rtWord r ++ 47 :: rtRef r = z := ⟨_, rfl⟩
  have hTl : T.length ≤ 1048576 := by rw [← hT]; simp only [List.length_append, List.length_cons]; omega
  have HL1 := Lib.hid (fun w' => place_cutLast (T := T) (a := r.repo ++ 47 :: rtWord r) (b := rtRef r) hT.symm hns hTl w'); have HL2 := Lib.hid (fun w' => place_cutLast (T := r.repo ++ 47 :: rtWord r) (a := r.repo) (b := rtWord r) rfl hwn (by simp only [List.length_append, List.length_cons]; omega) w'); have HI := Lib.hid (fun w' => isRepo_is hRe (show r.repo.length ≤ 9223372036854775807 by omega) w'); have HC := Lib.hid HC; rw [hT] at HC hem; have HB1 := Lib.hid (bd_rtRepo r.repo); have hwd : rtWord r = if r.kind = 4 then blobB else maniB := rfl
  clear ht hns hwn hlen hl hRe hT hTl h h1; by_cases h4 : r.kind = 4
  · rw [if_pos h4] at hwd; rw [hwd] at HRf HL1 HL2; clear hwd h4; obtain ⟨a2, ha2⟩ : ∃ z, r.repo ++ 47 :: blobB = z := ⟨_, rfl⟩
    rw [ha2] at HL1 HL2; obtain ⟨rf, hrf⟩ : ∃ z, rtRef r = z := ⟨_, rfl⟩
    rw [hrf] at HL1 HRf; clear ha2 hrf; have hw0 : S blobB = ⟨#[98, 108, 111, 98, 115]⟩ := rfl; rw [hw0] at HRf HL2; clear hw0; go_enter Tryz.func36, Tryz.ntmps36
    go_wp2_with (first | ((with_reducible refine gA 2 ?_); refine wpList_allocM rfl 77 rfl (rt0.cells) (Lib.hid rt_zero) M0 ?_; intro b2 w1 M1 _ _; try simp only [Act.put, sqA, sqB, sqC]) | fail); refine (HC.out _).mono ?_; rintro e w2 ⟨rfl, rfl⟩; go_wp2_with fail; refine (HL1.out _).mono ?_; rintro e w3 ⟨rfl, k3⟩; have M3 := Lib.hid (M1.out.keep0 k3); clear k3; go_wp2_with fail; refine (HL2.out _).mono ?_; rintro e w4 ⟨rfl, k4⟩; have M4 := Lib.hid (M3.out.keep0 k4); clear k4; go_wp2_with fail; refine (HI.out _).mono ?_; rintro e w5 ⟨rfl, k5⟩; have M5 := Lib.hid (M4.out.keep0 k5); clear k5
    go_wp2_with (first | ((with_reducible refine gB 57 ?_); refine wpList_buildM (by rfl) 77 _ rfl ([(1, .string (S r.repo))]) (by simp [Act.eval]) ((⟨0, r.repo, [], zeroD⟩ : Rt).cells) HB1 ?_; try simp only [Act.put, sqA, sqB, sqC]) | fail); refine (HRf.out _).mono ?_; rintro e w6 ⟨rfl, k6⟩; have M6 := Lib.hid (M5.out.keep0 k6); clear k6
    go_wp2_with (first | ((with_reducible refine gS 2 61 ?_); refine wpList_storeM rfl 77 (.tmp 2) (.tmp 61) rfl M6 0 rfl (by rfl) (r.cells) (by rfl) (rt_size _) (by rw [Rt.len, Rt.len]) (Rt.one _) ?_; intro w7 M7 _; try simp only [Act.put, sqA, sqB, sqC]) | fail); have hload := rt_end M7.out 0 rfl; refine bodyPost_ret (v := .tuple #[.agg r.cells.toArray, .int .i64 0]) (by simp [Act.put, results, Tryz.results36, asAddr, Result.andThen, hload]) rfl ⟨rfl, M7.out.kp⟩
  · rw [if_neg h4] at hwd; rw [hwd] at HRf HL1 HL2; clear hwd h4; obtain ⟨a2, ha2⟩ : ∃ z, r.repo ++ 47 :: maniB = z := ⟨_, rfl⟩
    rw [ha2] at HL1 HL2; obtain ⟨rf, hrf⟩ : ∃ z, rtRef r = z := ⟨_, rfl⟩
    rw [hrf] at HL1 HRf; clear ha2 hrf; have hw0 : S maniB = ⟨#[109, 97, 110, 105, 102, 101, 115, 116, 115]⟩ := rfl; rw [hw0] at HRf HL2; clear hw0; go_enter Tryz.func36, Tryz.ntmps36
    go_wp2_with (first | ((with_reducible refine gA 2 ?_); refine wpList_allocM rfl 77 rfl (rt0.cells) (Lib.hid rt_zero) M0 ?_; intro b2 w1 M1 _ _; try simp only [Act.put, sqA, sqB, sqC]) | fail); refine (HC.out _).mono ?_; rintro e w2 ⟨rfl, rfl⟩; go_wp2_with fail; refine (HL1.out _).mono ?_; rintro e w3 ⟨rfl, k3⟩; have M3 := Lib.hid (M1.out.keep0 k3); clear k3; go_wp2_with fail; refine (HL2.out _).mono ?_; rintro e w4 ⟨rfl, k4⟩; have M4 := Lib.hid (M3.out.keep0 k4); clear k4; go_wp2_with fail; refine (HI.out _).mono ?_; rintro e w5 ⟨rfl, k5⟩; have M5 := Lib.hid (M4.out.keep0 k5); clear k5
    go_wp2_with (first | ((with_reducible refine gB 57 ?_); refine wpList_buildM (by rfl) 77 _ rfl ([(1, .string (S r.repo))]) (by simp [Act.eval]) ((⟨0, r.repo, [], zeroD⟩ : Rt).cells) HB1 ?_; try simp only [Act.put, sqA, sqB, sqC]) | fail); refine (HRf.out _).mono ?_; rintro e w6 ⟨rfl, k6⟩; have M6 := Lib.hid (M5.out.keep0 k6); clear k6
    go_wp2_with (first | ((with_reducible refine gS 2 61 ?_); refine wpList_storeM rfl 77 (.tmp 2) (.tmp 61) rfl M6 0 rfl (by rfl) (r.cells) (by rfl) (rt_size _) (by rw [Rt.len, Rt.len]) (Rt.one _) ?_; intro w7 M7 _; try simp only [Act.put, sqA, sqB, sqC]) | fail); have hload := rt_end M7.out 0 rfl; refine bodyPost_ret (v := .tuple #[.agg r.cells.toArray, .int .i64 0]) (by simp [Act.put, results, Tryz.results36, asAddr, Result.andThen, hload]) rfl ⟨rfl, M7.out.kp⟩
end Go.Proofs.YtlhnjkekjbbhcaaGreatDoor
namespace Go.Proofs.YtlhnjkekjbbhcaaGreatDoor
open Go.RowKit
def readChunksR (p : ReS) : ReS × Bool :=
  match p.chk with
  | none => (p, false)
  | some c =>
    if p.inp = [] then (p, false)
    else if (addC c p.inp).err ≠ 0 then (reFail { p with inp := [], dat := p.dat ++ (addC c p.inp).dat.drop c.dat.length, chk := some (addC c p.inp) }, true)
    else if (addC c p.inp).st = 4 then ({ p with inp := (addC c p.inp).inp, dat := p.dat ++ (addC c p.inp).dat.drop c.dat.length, chk := some (addC c p.inp), st := 4 }, true)
    else ({ p with inp := [], dat := p.dat ++ (addC c p.inp).dat.drop c.dat.length, chk := some (addC c p.inp) }, true)
def readR (p : ReS) : ReS × Bool :=
  if p.st = 0 then readHeadR p else if p.st = 1 then readChunksR p else if p.st = 2 then readLengthR p else if p.st = 3 then readCloseR p else (p, false)
def reLoop : Nat → ReS → ReS
  | 0, p => p
  | n + 1, p => if p.ans.isSome then p else if (readR p).2 then reLoop n (readR p).1 else (readR p).1
structure NrR where
  p : ReS
  k : Int
  a : Ans
  s : List UInt8
def nextR (p : ReS) : NrR :=
  match (reLoop (p.inp.length + 2) p).ans with
  | some a => ⟨{ reLoop (p.inp.length + 2) p with ans := none }, 1, a, []⟩
  | none =>
    if (reLoop (p.inp.length + 2) p).dat ≠ [] then ⟨{ reLoop (p.inp.length + 2) p with dat := [] }, 2, ans0, (reLoop (p.inp.length + 2) p).dat⟩
    else ⟨(reFinish (reLoop (p.inp.length + 2) p)).1, (reFinish (reLoop (p.inp.length + 2) p)).2, ans0, []⟩
end Go.Proofs.YtlhnjkekjbbhcaaGreatDoor
