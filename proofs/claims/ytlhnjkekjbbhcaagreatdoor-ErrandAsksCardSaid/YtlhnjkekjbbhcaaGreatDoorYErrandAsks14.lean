/- Parts of the proof of ErrandAsks, in order. No conditions but those that each theorem states. -/
import Derived.Test.YtlhnjkekjbbhcaaGreatDoorYErrandAsks0
import Derived.Deep.RegionHeld3
import Derived.Test.YtlhnjkekjbbhcaaGreatDoorYErrandAsks13
set_option linter.unusedSimpArgs false
set_option linter.unusedVariables false
namespace Go.Proofs.YtlhnjkekjbbhcaaGreatDoor
open Go.RowKit Go.Shelf
def printO (r : Rt) : Ending := if goodRtM r = true then .returned (.tuple #[.string (S (rtText r)), .int .i64 0]) else .returned (.tuple #[.string (S []), .int .i64 1])
theorem good_kinds {r : Rt} (h : goodRtM r = true) : r = rt1 ∨ (r.kind = 2 ∧ r.repo.length ≤ 128 ∧ r.tag.length ≤ 128) ∨ ((r.kind = 3 ∨ r.kind = 4) ∧ r.repo.length ≤ 128) := by
  have hrp : ∀ s, isRepoM s = true → s.length ≤ 128 := fun s hs => by unfold isRepoM at hs; simp at hs; exact hs.1
  have htg : ∀ s, isTagM s = true → s.length ≤ 128 := fun s hs => by unfold isTagM at hs; simp at hs; omega
  unfold goodRtM at h
  split at h
  · exact .inl (by simpa using h)
  · split at h
    · rename_i h2; simp at h; exact .inr (.inl ⟨h2, hrp _ h.1, htg _ h.2.1⟩)
    · split at h
      · rename_i h3; simp at h; exact .inr (.inr ⟨h3, hrp _ h.1⟩)
      · simp at h
theorem goodC {r : Rt} {v : Bool} (h : goodRtM r = v) (hr : goodRt r) (w : World) : Calls Tryz.prog 82 #[.agg r.cells.toArray] w fun e w' => e = .returned (.bool v) ∧ Keep [] w w' := by
  subst h; exact place_Good r w hr
set_option maxRecDepth 100000 in
set_option maxHeartbeats 2000000 in
theorem place_Print (r : Rt) (w : World) (hr : goodRt r) :
    Calls Tryz.prog 44 #[.agg r.cells.toArray] w fun e w' => e = printO r ∧ Keep [] w w' := by
  have M0 := Lib.hid (Mem.nil w)
  cases hg : goodRtM r with
  | false =>
    have HG := Lib.hid (goodC hg hr); have HR := Lib.hid (show printO r = .returned (.tuple #[.string (S []), .int .i64 1]) by unfold printO; rw [hg]; rfl); clear hg hr; go_enter Tryz.func44, Tryz.ntmps44
    go_wp2_with (first | ((with_reducible refine gX 1 ?_); refine wpList_boxM rfl 77 (.tmp 0) rfl (r.cells) (by rfl) M0 ?_; intro b w1 M1 _ _; try simp only [Act.put, sqA, sqB, sqC]) | ((with_reducible refine gL 6 1 ?_); refine wpList_loadM (by rfl) 77 (.tmp 1) rfl M1 0 rfl (by rfl) _ Tryz.underlying77 rfl (rt_size r) ?_; try simp only [Act.put, sqA, sqB, sqC]) | fail); refine (HG.out _).mono ?_; rintro e w2 ⟨rfl, k2⟩; have M2 := Lib.hid (M1.out.keep0 k2); clear k2; go_wp2_with fail; rw [HR.out]; refine bodyPost_ret (v := .tuple #[.string (S []), .int .i64 1]) (by simp [results, Tryz.results44, go_sem, S]) rfl ⟨rfl, M2.out.kp⟩
  | true =>
    have HG := Lib.hid (goodC hg hr); have HR := Lib.hid (show printO r = .returned (.tuple #[.string (S (rtText r)), .int .i64 0]) by unfold printO; rw [hg]; rfl); have hk := good_kinds hg; clear hg; rcases hk with rfl | ⟨hk, l1, l2⟩ | ⟨hk, l1⟩
    · have HRR := Lib.hid (show S (rtText rt1) = ⟨#[47, 118, 50, 47]⟩ from rfl); clear hr; go_enter Tryz.func44, Tryz.ntmps44
      go_wp2_with (first | ((with_reducible refine gX 1 ?_); refine wpList_boxM rfl 77 (.tmp 0) rfl (rt1.cells) (by rfl) M0 ?_; intro b w1 M1 _ _; try simp only [Act.put, sqA, sqB, sqC]) | ((with_reducible refine gL 6 1 ?_); refine wpList_loadM (by rfl) 77 (.tmp 1) rfl M1 0 rfl (by rfl) _ Tryz.underlying77 rfl (rt_size rt1) ?_; try simp only [Act.put, sqA, sqB, sqC]) | fail); refine (HG.out _).mono ?_; rintro e w2 ⟨rfl, k2⟩; have M2 := Lib.hid (M1.out.keep0 k2); have c0 : w2.cell? ⟨b, 0, none⟩ = some (.int .i64 1) := M2.out.get 0 rfl 0 rfl; have c2 : w2.cell? ⟨b, 2, none⟩ = some (.string ⟨#[]⟩) := M2.out.get 0 rfl 2 rfl; clear k2; go_wp2_with fail; go_quiet (fail); have M3 := Lib.hid (M2.out.keep0 ((Keep.refl [] w2).drewN nq)); go_wp2_with fail; rw [HR.out, HRR.out]; refine bodyPost_ret (v := .tuple #[.string ⟨#[47, 118, 50, 47]⟩, .int .i64 0]) (by simp [results, Tryz.results44, go_sem]) rfl ⟨rfl, M3.out.kp⟩
    · have q1 := (int_ne (show r.kind ≠ 1 by omega)).1; have q3 := (int_ne (show r.kind ≠ 3 by omega)).1; have q4 := (int_ne (show r.kind ≠ 4 by omega)).1; have HX := Lib.hid (show rtText r = rootB ++ r.repo ++ [47] ++ maniB ++ [47] ++ r.tag by unfold rtText rtWord rtRef; rw [if_neg (by omega), if_neg (by omega), if_pos hk]); obtain ⟨t1, h1⟩ : ∃ t, rootB ++ r.repo = t := ⟨_, rfl⟩
      obtain ⟨t2, h2⟩ : ∃ t, t1 ++ [47] = t := ⟨_, rfl⟩
      obtain ⟨t3, h3⟩ : ∃ t, t2 ++ maniB = t := ⟨_, rfl⟩
      obtain ⟨t4, h4⟩ : ∃ t, t3 ++ [47] = t := ⟨_, rfl⟩
      obtain ⟨t5, h5⟩ : ∃ t, t4 ++ r.tag = t := ⟨_, rfl⟩
      rw [h1, h2, h3, h4, h5] at HX; have e1 : (⟨#[47, 118, 50, 47]⟩ : ByteArray) ++ S r.repo = S t1 := by rw [← h1]; exact S_append rootB _
      have e2 : S t1 ++ (⟨#[47]⟩ : ByteArray) = S t2 := by rw [← h2]; exact S_append _ [47]
      have e3 : S t2 ++ (⟨#[109, 97, 110, 105, 102, 101, 115, 116, 115]⟩ : ByteArray) = S t3 := by rw [← h3]; exact S_append _ maniB
      have e4 : S t3 ++ (⟨#[47]⟩ : ByteArray) = S t4 := by rw [← h4]; exact S_append _ [47]
      have e5 : S t4 ++ S r.tag = S t5 := by rw [← h5]; exact S_append _ _
      have z0 := S_size r.repo; have zt := S_size r.tag; have z1 := S_size t1; have z2 := S_size t2; have z3 := S_size t3; have z4 := S_size t4; have y1 : t1.length ≤ 132 := by rw [← h1, List.length_append]; have : rootB.length = 4 := rfl; omega
      have y2 : t2.length ≤ 133 := by rw [← h2, List.length_append]; have : ([47] : List UInt8).length = 1 := rfl; omega
      have y3 : t3.length ≤ 142 := by rw [← h3, List.length_append]; have : maniB.length = 9 := rfl; omega
      have y4 : t4.length ≤ 143 := by rw [← h4, List.length_append]; have : ([47] : List UInt8).length = 1 := rfl; omega
      clear h1 h2 h3 h4 h5 hr; have HK := Lib.hid hk; clear hk; go_enter Tryz.func44, Tryz.ntmps44
      go_wp2_with (first | ((with_reducible refine gX 1 ?_); refine wpList_boxM rfl 77 (.tmp 0) rfl (r.cells) (by rfl) M0 ?_; intro b w1 M1 _ _; try simp only [Act.put, sqA, sqB, sqC]) | ((with_reducible refine gL 6 1 ?_); refine wpList_loadM (by rfl) 77 (.tmp 1) rfl M1 0 rfl (by rfl) _ Tryz.underlying77 rfl (rt_size r) ?_; try simp only [Act.put, sqA, sqB, sqC]) | fail); refine (HG.out _).mono ?_; rintro e w2 ⟨rfl, k2⟩; have M2 := Lib.hid (M1.out.keep0 k2); have c0 := M2.out.get 0 rfl 0 rfl; have c1 := M2.out.get 0 rfl 1 rfl; have c2 := M2.out.get 0 rfl 2 rfl; clear k2; go_wp2_with fail; go_quiet (fail); have M3 := Lib.hid (M2.out.keep0 ((Keep.refl [] w2).drewN nq)); go_wp2_with fail; rw [HR.out, HX.out]; refine bodyPost_ret (v := .tuple #[.string (S t5), .int .i64 0]) (by simp [results, Tryz.results44, go_sem]) rfl ⟨rfl, M3.out.kp⟩
    · have q1 := (int_ne (show r.kind ≠ 1 by omega)).1; have HSt := Lib.hid (fun w' => stamp_Print r.dig w'); have hst := stampM_len r.dig; obtain ⟨wd, hwd⟩ : ∃ x, rtWord r = x := ⟨_, rfl⟩
      have hwl : wd.length ≤ 9 := by rw [← hwd]; unfold rtWord; split <;> decide
      have HX := Lib.hid (show rtText r = rootB ++ r.repo ++ [47] ++ wd ++ [47] ++ stampM r.dig.1 by unfold rtText rtRef; rw [if_neg (by omega), if_neg (by omega), hwd]); generalize stampM r.dig.1 = sp at *; obtain ⟨t1, h1⟩ : ∃ t, rootB ++ r.repo = t := ⟨_, rfl⟩
      obtain ⟨t2, h2⟩ : ∃ t, t1 ++ [47] = t := ⟨_, rfl⟩
      obtain ⟨t3, h3⟩ : ∃ t, t2 ++ wd = t := ⟨_, rfl⟩
      obtain ⟨t4, h4⟩ : ∃ t, t3 ++ [47] = t := ⟨_, rfl⟩
      obtain ⟨t5, h5⟩ : ∃ t, t4 ++ sp = t := ⟨_, rfl⟩
      rw [h1, h2, h3, h4, h5] at HX; have e1 : (⟨#[47, 118, 50, 47]⟩ : ByteArray) ++ S r.repo = S t1 := by rw [← h1]; exact S_append rootB _
      have e2 : S t1 ++ (⟨#[47]⟩ : ByteArray) = S t2 := by rw [← h2]; exact S_append _ [47]
      have e4 : S t3 ++ (⟨#[47]⟩ : ByteArray) = S t4 := by rw [← h4]; exact S_append _ [47]
      have e5 : S t4 ++ S sp = S t5 := by rw [← h5]; exact S_append _ _
      have z0 := S_size r.repo; have zt := S_size sp; have z1 := S_size t1; have z2 := S_size t2; have z3 := S_size t3; have z4 := S_size t4; have y1 : t1.length ≤ 132 := by rw [← h1, List.length_append]; have : rootB.length = 4 := rfl; omega
      have y2 : t2.length ≤ 133 := by rw [← h2, List.length_append]; have : ([47] : List UInt8).length = 1 := rfl; omega
      have y3 : t3.length ≤ 142 := by rw [← h3, List.length_append]; omega
      have y4 : t4.length ≤ 143 := by rw [← h4, List.length_append]; have : ([47] : List UInt8).length = 1 := rfl; omega
      have ysp : sp.length ≤ 71 := by omega
      rcases hk with hk | hk
      · have q4 := (int_ne (show r.kind ≠ 4 by omega)).1; have q3 := (int_eq hk).1; have e3 : S t2 ++ (⟨#[109, 97, 110, 105, 102, 101, 115, 116, 115]⟩ : ByteArray) = S t3 := by rw [← h3, ← hwd]; unfold rtWord; rw [if_neg (by omega)]; exact S_append _ maniB
        clear h1 h2 h3 h4 h5 hr hk hwd hst; go_enter Tryz.func44, Tryz.ntmps44
        go_wp2_with (first | ((with_reducible refine gX 1 ?_); refine wpList_boxM rfl 77 (.tmp 0) rfl (r.cells) (by rfl) M0 ?_; intro b w1 M1 _ _; try simp only [Act.put, sqA, sqB, sqC]) | ((with_reducible refine gL 6 1 ?_); refine wpList_loadM (by rfl) 77 (.tmp 1) rfl M1 0 rfl (by rfl) _ Tryz.underlying77 rfl (rt_size r) ?_; try simp only [Act.put, sqA, sqB, sqC]) | fail); refine (HG.out _).mono ?_; rintro e w2 ⟨rfl, k2⟩; have M2 := Lib.hid (M1.out.keep0 k2); have c0 := M2.out.get 0 rfl 0 rfl; have c1 := M2.out.get 0 rfl 1 rfl; have c2 := M2.out.get 0 rfl 2 rfl; clear k2; go_wp2_with fail; go_quiet (fail); have M3 := Lib.hid (M2.out.keep0 ((Keep.refl [] w2).drewN nq)); clear c1
        go_wp2_with (first | ((with_reducible refine gL 20 19 ?_); refine wpList_loadPart (by rfl) 23 (.tmp 19) rfl M3 0 rfl 3 (by rfl) (digC r.dig) r.at_dig _ Tryz.underlying23 rfl (dig_size _) ?_; try simp only [Act.put, sqA, sqB, sqC]) | fail); refine (HSt.out _).mono ?_; rintro e w4 ⟨rfl, k4⟩; have M4 := Lib.hid (M3.out.keep0 k4); have d1 := M4.out.get 0 rfl 1 rfl; clear k4; go_wp2_with fail; rw [HR.out, HX.out]; refine bodyPost_ret (v := .tuple #[.string (S t5), .int .i64 0]) (by simp [results, Tryz.results44, go_sem]) rfl ⟨rfl, M4.out.kp⟩
      · have q4 := (int_eq hk).1; have q3 := (int_ne (show r.kind ≠ 3 by omega)).1; have e3 : S t2 ++ (⟨#[98, 108, 111, 98, 115]⟩ : ByteArray) = S t3 := by rw [← h3, ← hwd]; unfold rtWord; rw [if_pos hk]; exact S_append _ blobB
        clear h1 h2 h3 h4 h5 hr hk hwd hst; go_enter Tryz.func44, Tryz.ntmps44
        go_wp2_with (first | ((with_reducible refine gX 1 ?_); refine wpList_boxM rfl 77 (.tmp 0) rfl (r.cells) (by rfl) M0 ?_; intro b w1 M1 _ _; try simp only [Act.put, sqA, sqB, sqC]) | ((with_reducible refine gL 6 1 ?_); refine wpList_loadM (by rfl) 77 (.tmp 1) rfl M1 0 rfl (by rfl) _ Tryz.underlying77 rfl (rt_size r) ?_; try simp only [Act.put, sqA, sqB, sqC]) | fail); refine (HG.out _).mono ?_; rintro e w2 ⟨rfl, k2⟩; have M2 := Lib.hid (M1.out.keep0 k2); have c0 := M2.out.get 0 rfl 0 rfl; have c1 := M2.out.get 0 rfl 1 rfl; have c2 := M2.out.get 0 rfl 2 rfl; clear k2; go_wp2_with fail; go_quiet (fail); have M3 := Lib.hid (M2.out.keep0 ((Keep.refl [] w2).drewN nq)); clear c1
        go_wp2_with (first | ((with_reducible refine gL 20 19 ?_); refine wpList_loadPart (by rfl) 23 (.tmp 19) rfl M3 0 rfl 3 (by rfl) (digC r.dig) r.at_dig _ Tryz.underlying23 rfl (dig_size _) ?_; try simp only [Act.put, sqA, sqB, sqC]) | fail); refine (HSt.out _).mono ?_; rintro e w4 ⟨rfl, k4⟩; have M4 := Lib.hid (M3.out.keep0 k4); have d1 := M4.out.get 0 rfl 1 rfl; clear k4; go_wp2_with fail; rw [HR.out, HX.out]; refine bodyPost_ret (v := .tuple #[.string (S t5), .int .i64 0]) (by simp [results, Tryz.results44, go_sem]) rfl ⟨rfl, M4.out.kp⟩
theorem rt_end {w0 w : World} {L : List (Nat × TypeId × List Value)} {b : Nat} {r : Rt} (h : Mem w0 w L) (i : Nat) (hi : L[i]? = some (b, 77, r.cells)) : (loadVar 77 ⟨b, 0, none⟩).run Tryz.prog w = .ok (.agg r.cells.toArray) w := rt_load (h.blk i hi).range'
theorem rt_setKind (r : Rt) (k : Int) : r.cells.set 0 (.int .i64 k) = ({ r with kind := k } : Rt).cells := rfl
theorem rt_setTag (r : Rt) (l : List UInt8) : r.cells.set 2 (.string (S l)) = ({ r with tag := l } : Rt).cells := rfl
theorem bd_rtRepo (l : List UInt8) : Tryz.prog.built 77 [(1, .string (S l))] = some (⟨0, l, [], zeroD⟩ : Rt).cells.toArray := by kernel_rfl
theorem dig_zero : ZeroIs Tryz.prog 23 (digC zeroD) := fun w => by simp [go_sem]; rfl
def digOutE (o : Option Dig) : Ending := .returned (.tuple #[.agg (digC (o.getD zeroD)).toArray, .int .i64 (if o.isSome then 0 else 3)])
set_option maxRecDepth 100000 in
set_option maxHeartbeats 2000000 in
theorem stamp_Parse (s : List UInt8) (w : World) (hs : s.length ≤ 1048576) :
    Calls Tryz.prog 124 #[.string (S s)] w fun e w' => e = digOutE (behindO s) ∧ Keep [] w w' := by
  have kA := (Keep.refl [] w).alloc (.cells (digC zeroD).toArray 23); have bA := Blk.newA w (digC zeroD).toArray 23; rw [digC_zero] at kA bA; generalize hwA : w.alloc (.cells [.int .u8 0, .int .u8 0, .int .u8 0, .int .u8 0, .int .u8 0, .int .u8 0, .int .u8 0, .int .u8 0, .int .u8 0, .int .u8 0, .int .u8 0, .int .u8 0, .int .u8 0, .int .u8 0, .int .u8 0, .int .u8 0, .int .u8 0, .int .u8 0, .int .u8 0, .int .u8 0, .int .u8 0, .int .u8 0, .int .u8 0, .int .u8 0, .int .u8 0, .int .u8 0, .int .u8 0, .int .u8 0, .int .u8 0, .int .u8 0, .int .u8 0, .int .u8 0].toArray 23) = wA at kA bA; have bA : Blk wA w.heap.size 23 (digC zeroD) := bA; have KA := Lib.hid kA; have BA := Lib.hid bA; have hwA2 : w.alloc (.cells #[.int .u8 0, .int .u8 0, .int .u8 0, .int .u8 0, .int .u8 0, .int .u8 0, .int .u8 0, .int .u8 0, .int .u8 0, .int .u8 0, .int .u8 0, .int .u8 0, .int .u8 0, .int .u8 0, .int .u8 0, .int .u8 0, .int .u8 0, .int .u8 0, .int .u8 0, .int .u8 0, .int .u8 0, .int .u8 0, .int .u8 0, .int .u8 0, .int .u8 0, .int .u8 0, .int .u8 0, .int .u8 0, .int .u8 0, .int .u8 0, .int .u8 0, .int .u8 0] 23) = wA := hwA; clear kA bA hwA; have HB := Lib.hid (stamp_behind s wA hs); go_enter Tryz.func124, Tryz.ntmps124; go_wp2_with fail; refine HB.out.mono ?_; rintro e w2 ⟨rfl, k2⟩; obtain ⟨d, hd⟩ : ∃ d, (behindO s).getD zeroD = d := ⟨_, rfl⟩
  obtain ⟨is, hi⟩ : ∃ i, (behindO s).isSome = i := ⟨_, rfl⟩
  have HR := Lib.hid (show digOutE (behindO s) = .returned (.tuple #[.agg (digC d).toArray, .int .i64 (if is then 0 else 3)]) by unfold digOutE; rw [hd, hi]); have HC := Lib.hid (show digOut (behindO s) = .returned (.tuple #[.agg (digC d).toArray, .bool is]) by unfold digOut; rw [hd, hi]); rw [HC.out]; have K2 := Lib.hid (KA.out.trans k2); have BA2 := Lib.hid (k2.blk BA.out (by simp)); have hkB := K2.out.alloc (.cells (digC d).toArray 23); have hbB := Blk.newA w2 (digC d).toArray 23; have hbA := BA2.out.alloc (.cells (digC d).toArray 23); have hne : w.heap.size < w2.heap.size := BA2.out.lt; generalize hwB : w2.alloc (.cells (digC d).toArray 23) = wB at hkB hbB hbA; have hbB : Blk wB w2.heap.size 23 (digC d) := hbB; have KB := Lib.hid hkB; have BB := Lib.hid hbB; have BAB := Lib.hid hbA; have HWB := Lib.hid hwB; have HSd := Lib.hid (dig_st d); have KZ := Lib.hid (show Keep [] w (wB.setCells w.heap.size 0 (digC d)) from Keep.setCells' _ (fun hh => absurd hh (by omega)) _ _ _ KB.out); have hload := Lib.hid (dig_load (World.rangeAt_setCells_same wB w.heap.size 0 (digC d) (by rw [digC_length]; exact BAB.out.there' 0 32 (by rw [digC_length]; exact Nat.le_refl _)))); clear k2 hwA2 hkB hbB hbA hwB hd hi
  cases is with
  | true =>
    go_wp2_with (first | ((with_reducible refine gS 4 9 ?_); refine wpList_store_new rfl 23 (.tmp 4) (.tmp 9) rfl _ (digC d) (by rfl) (by rfl) (dig_size d) (by rw [digC_length]; rfl) (dig_one d) ?_; rw [HWB.out]; try simp only [Act.put]) | ((with_reducible refine gM 4 ?_); refine wpList_load_mid rfl 23 (.tmp 4) rfl w2.heap.size 0 (by rfl) (digC d) _ BB.out.range' Tryz.underlying23 rfl (dig_size _) ?_; try simp only [Act.put, sqA, sqB, sqC]) | ((with_reducible refine gS 2 14 ?_); refine wpList_store_mid rfl 23 (.tmp 2) (.tmp 14) rfl w.heap.size 0 (digC d).toArray (by rfl) (by first | rfl | kernel_rfl) (BAB.out.there' 0 _ (by simp [digC_length])) HSd.out.1 HSd.out.2 ?_; try simp only [Act.put]) | fail); rw [HR.out]; refine bodyPost_ret (v := .tuple #[.agg (digC d).toArray, .int .i64 0]) (by simp [results, Tryz.results124, asAddr, Result.andThen, hload.out]) rfl ⟨rfl, KZ.out⟩
  | false =>
    go_wp2_with (first | ((with_reducible refine gS 4 9 ?_); refine wpList_store_new rfl 23 (.tmp 4) (.tmp 9) rfl _ (digC d) (by rfl) (by rfl) (dig_size d) (by rw [digC_length]; rfl) (dig_one d) ?_; rw [HWB.out]; try simp only [Act.put]) | ((with_reducible refine gM 4 ?_); refine wpList_load_mid rfl 23 (.tmp 4) rfl w2.heap.size 0 (by rfl) (digC d) _ BB.out.range' Tryz.underlying23 rfl (dig_size _) ?_; try simp only [Act.put, sqA, sqB, sqC]) | ((with_reducible refine gS 2 13 ?_); refine wpList_store_mid rfl 23 (.tmp 2) (.tmp 13) rfl w.heap.size 0 (digC d).toArray (by rfl) (by first | rfl | kernel_rfl) (BAB.out.there' 0 _ (by simp [digC_length])) HSd.out.1 HSd.out.2 ?_; try simp only [Act.put]) | fail); rw [HR.out]; refine bodyPost_ret (v := .tuple #[.agg (digC d).toArray, .int .i64 3]) (by simp [results, Tryz.results124, asAddr, Result.andThen, hload.out]) rfl ⟨rfl, KZ.out⟩
end Go.Proofs.YtlhnjkekjbbhcaaGreatDoor
namespace Go.Proofs.YtlhnjkekjbbhcaaGreatDoor
open Go.RowKit
def Off (v : Value) (L : List (Nat × TypeId × List Value)) : Prop := ∀ x ∈ L, v.ownBlock ≠ some x.1
section
variable {P : Program} {ops : Array Oper} {rest : List Oper} {o : Oper} {a : Act} {w w0 : World} {Q : Exit → Act → World → Prop} {M : List (Nat × TypeId × List Value)}
theorem Off.fresh {w0 w : World} {L : List (Nat × TypeId × List Value)} (h : Mem w0 w L) {b : Nat} (hb : w.heap.size ≤ b) (l c : Nat) : Off (.slice (some ⟨b, 0, none⟩) l c) L := fun x hx hh => by
  have := (h.2.2 x hx).2.lt; simp [Value.ownBlock] at hh; omega
theorem Mem.grown {w0 w w' : World} {L : List (Nat × TypeId × List Value)} {v : Value} (h : Mem w0 w L) (k : Keep [] w0 w') (hg : w.grownBy w' v.ownBlock) (hv : Off v L) : Mem w0 w' L :=
  ⟨k, h.2.1, fun x hx => ⟨(h.2.2 x hx).1, by
    have hb := (h.2.2 x hx).2; have : w'.heap[x.1]? = w.heap[x.1]? := hg.block x.1 hb.lt (fun hh => hv x hx hh.symm); unfold Blk at hb ⊢; rw [this]
    exact hb⟩⟩
theorem wpList_appendM (hgd : o.guard = none) (s x : Operand) (t : TypeId)
    (ho : o.op = .call { callee := .builtin .append, args := #[s, x], argTypes := #[t, t] })
    {α : Type} {enc : α → List Value} {n base : Nat} {E : TypeId} {L : List α} {v : Value}
    (i : TypeInfo) (z : Value) (bytes : Nat) (ht : P.underlying t = some (.slice E)) (HI : Hid (P.info? E = some i ∧ i.zero = some z ∧ i.size = n ∧ i.bytes = bytes)) (hzs : z.cells.size = n) (hn0 : 0 < n)
    (hn : ∀ x, (enc x).length = n) (h1 : ∀ x, ∀ u ∈ enc x, u.oneCell' = true)
    (HM : Hid (Mem w0 w M)) (hb0 : base = w0.heap.size) (hs : a.eval s = v) (HO : Hid (Own enc n base E w v L)) (HF : Hid (Off v M)) (y : α) (cs : List Value) (hcs : cs = enc y) (c : Nat) (hx : a.eval x = .slice (some ⟨w.heap.size, 0, none⟩) 1 c)
    (h63 : L.length + 1 ≤ maxLen) (hbytes : (L.length + 1) * bytes ≤ 140737488355328)
    (h : ∀ v' w', Hid (Own enc n base E w' v' (L ++ [y])) → Hid (Mem w0 w' M) → Hid (Off v' M) → Hid (∃ a c, v' = .slice a (L.length + 1) c) → wpList P ops Q rest (a.put o.dst v') w') : wpList P ops Q (o :: rest) a (w.alloc (.cells cs.toArray E)) := by
  subst hcs hb0; have hown := HO.out; refine wpList_append_own_at _ hgd s x t ho w0.heap.size E i z n bytes ht HI.out.1 HI.out.2.1 HI.out.2.2.1 HI.out.2.2.2 hzs hn0 v L.length (rows enc L) hs (hown.alloc _) ⟨w.heap.size, 0, none⟩ 1 c (enc y) hx (by rw [hn]; omega) ?_ (h1 y) h63 hbytes (by have := HM.out.kp.size; simp; omega) ?_
  · intro j u hj; have hA := Blk.new w (enc y) E; have : (⟨w.heap.size, 0, none⟩ : Addr).add j = ⟨w.heap.size, j, none⟩ := by unfold Addr.add; split <;> simp_all
    rw [this, hA.cell j]; exact hj
  · intro v' w' hown' hg _ hat
    have hg' : w.grownBy w' v.ownBlock := by
      have h0 := World.grownBy_alloc w (.cells (enc y).toArray E) v.ownBlock; exact ⟨hg.os.trans h0.os, hg.tape.trans h0.tape, hg.output.trans h0.output, Nat.le_trans h0.size hg.size, fun k hk hne => (hg.block k (Nat.lt_of_lt_of_le hk h0.size) hne).trans (h0.block k hk hne)⟩
    have kw : Keep [] w0 w' := HM.out.kp.grown hg' fun k hk1 hk2 => absurd (hown.lt k hk1).1 (by omega)
    have ho' : Own enc n w0.heap.size E w' v' (L ++ [y]) := by
      have : rows enc (L ++ [y]) = rows enc L ++ enc y := by simp [rows]
      unfold Own; rw [this, List.length_append]; exact hown'
    refine h v' w' (Lib.hid ho') (Lib.hid (HM.out.grown kw hg' HF.out)) (Lib.hid fun x hx hh => ?_) (Lib.hid ?_)
    · rcases hat with h5 | h5
      · exact HF.out x hx (h5 ▸ hh)
      · have h6 := (HM.out.2.2 x hx).2.lt; rw [hh] at h5; simp at h5; omega
    · obtain ⟨sa, sc, hv, _⟩ := ho'.shape; exact ⟨sa, sc, by rw [hv]; simp⟩
end
theorem own_fld {base : Nat} (w : World) (f : Fld) (hb : base ≤ w.heap.size) : Own Fld.cells 2 base 89 (w.alloc (.cells f.cells.toArray 89)) (.slice (some ⟨w.heap.size, 0, none⟩) 1 1) [f] :=
  ⟨rfl, .inr ⟨w.heap.size, 1, #[.string (S f.name), .string (S f.value)], rfl, hb, heap_alloc_new w _, Nat.le_refl _, by decide, rfl, rfl⟩⟩
end Go.Proofs.YtlhnjkekjbbhcaaGreatDoor
namespace Go.Proofs.YtlhnjkekjbbhcaaGreatDoor
open Go.RowKit
section
variable {P : Program} {ops : Array Oper} {o : Oper} {a : Act} {w w0 : World} {Q : Exit → Act → World → Prop} {L : List (Nat × TypeId × List Value)} {K : Act → World → Prop} {Sx : World → Prop}
theorem wp_allocM (ty : TypeId) (ho : o.op = .alloc ty) (Z : List Value) (HZ : Hid (ZeroIs P ty Z)) (HM : Hid (Mem w0 w L))
    (h : ∀ b w', Hid (Mem w0 w' ((b, ty, Z) :: L)) → K (a.put o.dst (.pointer (some ⟨b, 0, none⟩))) w') : o.wp P a w K Q := by
  unfold Oper.wp execOp; simp only [ho]; have hz := HZ.out w; simp only [Sem.run_bind, hz, Result.andThen_ok, Sem.run_pure]; exact h _ _ (Lib.hid (HM.out.alloc Z ty))
theorem wp_storeM (ty : TypeId) (x y : Operand) (ho : o.op = .store ty x y) (HM : Hid (Mem w0 w L)) (i : Nat) {b : Nat} {T : TypeId} {cs : List Value} (hi : L[i]? = some (b, T, cs)) (hx : a.eval x = .pointer (some ⟨b, 0, none⟩)) (vs : List Value) (hy : a.eval y = .agg vs.toArray)
    (hs : (P.info? ty).map (·.size) = some vs.length) (hl : cs.length = vs.length) (h1 : ∀ v ∈ vs, v.oneCell' = true)
    (h : ∀ w', Hid (Mem w0 w' (L.set i (b, T, vs))) → K (a.put o.dst undef) w') : o.wp P a w K Q :=
  wp_store_mid ty x y ho b 0 vs.toArray hx hy ((HM.out.blk i hi).there' 0 _ (by simp [hl])) (by simpa using hs) (all_oneCell_toArray h1)
    (h _ (Lib.hid (HM.out.setAll i hi vs hl)))
theorem yieldsIf_buildM (hw : Region.wanted o (yielded ops a.tmps) = true) (ty : TypeId) (ps : Array (Nat × Operand)) (ho : o.op = .build ty ps) (us : List (Nat × Value)) (hps : (ps.map fun (i, x) => (i, a.eval x)).toList = us) (cs : List Value) (HB : Hid (P.built ty us = some cs.toArray)) : YieldsIf P ops Sx o (.agg cs.toArray) a :=
  .inl ⟨hw, fun w _ => by
    subst hps; unfold execOp; simp only [ho]
    simp only [Sem.run_bind, run_build w ty _ cs.toArray HB.out, Result.andThen_ok, Sem.run_pure]⟩
end
end Go.Proofs.YtlhnjkekjbbhcaaGreatDoor
