/- Parts of the proof of ErrandTries, in order. No conditions but those that each theorem states. -/
import Derived.Test.YtlhnjkekjbbhcaaGreatDoorYErrandTries0
import Derived.Test.YtlhnjkekjbbhcaaGreatDoorYErrandTries23
set_option linter.unusedSimpArgs false
set_option linter.unusedVariables false
namespace Go.Proofs.YtlhnjkekjbbhcaaGreatDoor
open Go.RowKit Go.Shelf
def printO (r : Rt) : Ending := if goodRtM r = true then .returned (.tuple #[.string (S (rtText r)), .int .i64 0]) else .returned (.tuple #[.string (S []), .int .i64 1])
theorem good_kinds {r : Rt} (h : goodRtM r = true) : r = rt1 ∨ (r.kind = 2 ∧ r.repo.length ≤ 128 ∧ r.tag.length ≤ 128) ∨ ((r.kind = 3 ∨ r.kind = 4) ∧ r.repo.length ≤ 128) := by
  have hrp : ∀ s, isRepoM s = true → s.length ≤ 128 := fun s hs => by unfold isRepoM at hs; simp at hs; exact hs.1
  have htg : ∀ s, isTagM s = true → s.length ≤ 128 := fun s hs => by unfold isTagM at hs; simp at hs; omega
  unfold goodRtM at h
  split at h
  · exact .inl (by simpa using h)
  · split at h
    · rename_i h2; simp at h; exact .inr (.inl ⟨h2, hrp _ h.1, htg _ h.2.1⟩)
    · split at h
      · rename_i h3; simp at h; exact .inr (.inr ⟨h3, hrp _ h.1⟩)
      · simp at h
theorem goodC {r : Rt} {v : Bool} (h : goodRtM r = v) (hr : goodRt r) (w : World) : Calls Tryz.prog 82 #[.agg r.cells.toArray] w fun e w' => e = .returned (.bool v) ∧ Keep [] w w' := by
  subst h; exact place_Good r w hr
set_option maxRecDepth 100000 in
set_option maxHeartbeats 2000000 in
theorem place_Print (r : Rt) (w : World) (hr : goodRt r) :
    Calls Tryz.prog 44 #[.agg r.cells.toArray] w fun e w' => e = printO r ∧ Keep [] w w' := by
  have M0 := Lib.hid (Mem.nil w)
  cases hg : goodRtM r with
  | false =>
    have HG := Lib.hid (goodC hg hr); have HR := Lib.hid (show printO r = .returned (.tuple #[.string (S []), .int .i64 1]) by unfold printO; rw [hg]; rfl); clear hg hr; go_enter Tryz.func44, Tryz.ntmps44
    go_wp2_with (first | ((with_reducible refine gX 1 ?_); refine wpList_boxM rfl 77 (.tmp 0) rfl (r.cells) (by rfl) M0 ?_; intro b w1 M1 _ _; try simp only [Act.put, sqA, sqB, sqC]) | ((with_reducible refine gL 6 1 ?_); refine wpList_loadM (by rfl) 77 (.tmp 1) rfl M1 0 rfl (by rfl) _ Tryz.underlying77 rfl (rt_size r) ?_; try simp only [Act.put, sqA, sqB, sqC]) | fail); refine (HG.out _).mono ?_; rintro e w2 ⟨rfl, k2⟩; have M2 := Lib.hid (M1.out.keep0 k2); clear k2; go_wp2_with fail; rw [HR.out]; refine bodyPost_ret (v := .tuple #[.string (S []), .int .i64 1]) (by simp [results, Tryz.results44, go_sem, S]) rfl ⟨rfl, M2.out.kp⟩
  | true =>
    have HG := Lib.hid (goodC hg hr); have HR := Lib.hid (show printO r = .returned (.tuple #[.string (S (rtText r)), .int .i64 0]) by unfold printO; rw [hg]; rfl); have hk := good_kinds hg; clear hg; rcases hk with rfl | ⟨hk, l1, l2⟩ | ⟨hk, l1⟩
    · have HRR := Lib.hid (show S (rtText rt1) = ⟨#[47, 118, 50, 47]⟩ from rfl); clear hr; go_enter Tryz.func44, Tryz.ntmps44
      go_wp2_with (first | ((with_reducible refine gX 1 ?_); refine wpList_boxM rfl 77 (.tmp 0) rfl (rt1.cells) (by rfl) M0 ?_; intro b w1 M1 _ _; try simp only [Act.put, sqA, sqB, sqC]) | ((with_reducible refine gL 6 1 ?_); refine wpList_loadM (by rfl) 77 (.tmp 1) rfl M1 0 rfl (by rfl) _ Tryz.underlying77 rfl (rt_size rt1) ?_; try simp only [Act.put, sqA, sqB, sqC]) | fail); refine (HG.out _).mono ?_; rintro e w2 ⟨rfl, k2⟩; have M2 := Lib.hid (M1.out.keep0 k2); have c0 : w2.cell? ⟨b, 0, none⟩ = some (.int .i64 1) := M2.out.get 0 rfl 0 rfl; have c2 : w2.cell? ⟨b, 2, none⟩ = some (.string ⟨#[]⟩) := M2.out.get 0 rfl 2 rfl; clear k2; go_wp2_with fail; go_quiet (fail); have M3 := Lib.hid (M2.out.keep0 ((Keep.refl [] w2).drewN nq)); go_wp2_with fail; rw [HR.out, HRR.out]; refine bodyPost_ret (v := .tuple #[.string ⟨#[47, 118, 50, 47]⟩, .int .i64 0]) (by simp [results, Tryz.results44, go_sem]) rfl ⟨rfl, M3.out.kp⟩
    · have q1 := (int_ne (show r.kind ≠ 1 by omega)).1; have q3 := (int_ne (show r.kind ≠ 3 by omega)).1; have q4 := (int_ne (show r.kind ≠ 4 by omega)).1; have HX := Lib.hid (show rtText r = rootB ++ r.repo ++ [47] ++ maniB ++ [47] ++ r.tag by unfold rtText rtWord rtRef; rw [if_neg (by omega), if_neg (by omega), if_pos hk]); obtain ⟨t1, h1⟩ : ∃ t, rootB ++ r.repo = t := ⟨_, rfl⟩
      obtain ⟨t2, h2⟩ : ∃ t, t1 ++ [47] = t := ⟨_, rfl⟩
      obtain ⟨t3, h3⟩ : ∃ t, t2 ++ maniB = t := ⟨_, rfl⟩
      obtain ⟨t4, h4⟩ : ∃ t, t3 ++ [47] = t := ⟨_, rfl⟩
      obtain ⟨t5, h5⟩ : ∃ t, t4 ++ r.tag = t := ⟨_, rfl⟩
      rw [h1, h2, h3, h4, h5] at HX; have e1 : (⟨#[47, 118, 50, 47]⟩ : ByteArray) ++ S r.repo = S t1 := by rw [← h1]; exact S_append rootB _
      have e2 : S t1 ++ (⟨#[47]⟩ : ByteArray) = S t2 := by rw [← h2]; exact S_append _ [47]
      have e3 : S t2 ++ (⟨#[109, 97, 110, 105, 102, 101, 115, 116, 115]⟩ : ByteArray) = S t3 := by rw [← h3]; exact S_append _ maniB
      have e4 : S t3 ++ (⟨#[47]⟩ : ByteArray) = S t4 := by rw [← h4]; exact S_append _ [47]
      have e5 : S t4 ++ S r.tag = S t5 := by rw [← h5]; exact S_append _ _
      have z0 := S_size r.repo; have zt := S_size r.tag; have z1 := S_size t1; have z2 := S_size t2; have z3 := S_size t3; have z4 := S_size t4; have y1 : t1.length ≤ 132 := by rw [← h1, List.length_append]; have : rootB.length = 4 := rfl; omega
      have y2 : t2.length ≤ 133 := by rw [← h2, List.length_append]; have : ([47] : List UInt8).length = 1 := rfl; omega
      have y3 : t3.length ≤ 142 := by rw [← h3, List.length_append]; have : maniB.length = 9 := rfl; omega
      have y4 : t4.length ≤ 143 := by rw [← h4, List.length_append]; have : ([47] : List UInt8).length = 1 := rfl; omega
      clear h1 h2 h3 h4 h5 hr; have HK := Lib.hid hk; clear hk; go_enter Tryz.func44, Tryz.ntmps44
      go_wp2_with (first | ((with_reducible refine gX 1 ?_); refine wpList_boxM rfl 77 (.tmp 0) rfl (r.cells) (by rfl) M0 ?_; intro b w1 M1 _ _; try simp only [Act.put, sqA, sqB, sqC]) | ((with_reducible refine gL 6 1 ?_); refine wpList_loadM (by rfl) 77 (.tmp 1) rfl M1 0 rfl (by rfl) _ Tryz.underlying77 rfl (rt_size r) ?_; try simp only [Act.put, sqA, sqB, sqC]) | fail); refine (HG.out _).mono ?_; rintro e w2 ⟨rfl, k2⟩; have M2 := Lib.hid (M1.out.keep0 k2); have c0 := M2.out.get 0 rfl 0 rfl; have c1 := M2.out.get 0 rfl 1 rfl; have c2 := M2.out.get 0 rfl 2 rfl; clear k2; go_wp2_with fail; go_quiet (fail); have M3 := Lib.hid (M2.out.keep0 ((Keep.refl [] w2).drewN nq)); go_wp2_with fail; rw [HR.out, HX.out]; refine bodyPost_ret (v := .tuple #[.string (S t5), .int .i64 0]) (by simp [results, Tryz.results44, go_sem]) rfl ⟨rfl, M3.out.kp⟩
    · have q1 := (int_ne (show r.kind ≠ 1 by omega)).1; have HSt := Lib.hid (fun w' => stamp_Print r.dig w'); have hst := stampM_len r.dig; obtain ⟨wd, hwd⟩ : ∃ x, rtWord r = x := ⟨_, rfl⟩
      have hwl : wd.length ≤ 9 := by rw [← hwd]; unfold rtWord; split <;> decide
      have HX := Lib.hid (show rtText r = rootB ++ r.repo ++ [47] ++ wd ++ [47] ++ stampM r.dig.1 by unfold rtText rtRef; rw [if_neg (by omega), if_neg (by omega), hwd]); generalize stampM r.dig.1 = sp at *; obtain ⟨t1, h1⟩ : ∃ t, rootB ++ r.repo = t := ⟨_, rfl⟩
      obtain ⟨t2, h2⟩ : ∃ t, t1 ++ [47] = t := ⟨_, rfl⟩
      obtain ⟨t3, h3⟩ : ∃ t, t2 ++ wd = t := ⟨_, rfl⟩
      obtain ⟨t4, h4⟩ : ∃ t, t3 ++ [47] = t := ⟨_, rfl⟩
      obtain ⟨t5, h5⟩ : ∃ t, t4 ++ sp = t := ⟨_, rfl⟩
      rw [h1, h2, h3, h4, h5] at HX; have e1 : (⟨#[47, 118, 50, 47]⟩ : ByteArray) ++ S r.repo = S t1 := by rw [← h1]; exact S_append rootB _
      have e2 : S t1 ++ (⟨#[47]⟩ : ByteArray) = S t2 := by rw [← h2]; exact S_append _ [47]
      have e4 : S t3 ++ (⟨#[47]⟩ : ByteArray) = S t4 := by rw [← h4]; exact S_append _ [47]
      have e5 : S t4 ++ S sp = S t5 := by rw [← h5]; exact S_append _ _
      have z0 := S_size r.repo; have zt := S_size sp; have z1 := S_size t1; have z2 := S_size t2; have z3 := S_size t3; have z4 := S_size t4; have y1 : t1.length ≤ 132 := by rw [← h1, List.length_append]; have : rootB.length = 4 := rfl; omega
      have y2 : t2.length ≤ 133 := by rw [← h2, List.length_append]; have : ([47] : List UInt8).length = 1 := rfl; omega
      have y3 : t3.length ≤ 142 := by rw [← h3, List.length_append]; omega
      have y4 : t4.length ≤ 143 := by rw [← h4, List.length_append]; have : ([47] : List UInt8).length = 1 := rfl; omega
      have ysp : sp.length ≤ 71 := by omega
      rcases hk with hk | hk
      · have q4 := (int_ne (show r.kind ≠ 4 by omega)).1; have q3 := (int_eq hk).1; have e3 : S t2 ++ (⟨#[109, 97, 110, 105, 102, 101, 115, 116, 115]⟩ : ByteArray) = S t3 := by rw [← h3, ← hwd]; unfold rtWord; rw [if_neg (by omega)]; exact S_append _ maniB
        clear h1 h2 h3 h4 h5 hr hk hwd hst; go_enter Tryz.func44, Tryz.ntmps44
        go_wp2_with (first | ((with_reducible refine gX 1 ?_); refine wpList_boxM rfl 77 (.tmp 0) rfl (r.cells) (by rfl) M0 ?_; intro b w1 M1 _ _; try simp only [Act.put, sqA, sqB, sqC]) | ((with_reducible refine gL 6 1 ?_); refine wpList_loadM (by rfl) 77 (.tmp 1) rfl M1 0 rfl (by rfl) _ Tryz.underlying77 rfl (rt_size r) ?_; try simp only [Act.put, sqA, sqB, sqC]) | fail); refine (HG.out _).mono ?_; rintro e w2 ⟨rfl, k2⟩; have M2 := Lib.hid (M1.out.keep0 k2); have c0 := M2.out.get 0 rfl 0 rfl; have c1 := M2.out.get 0 rfl 1 rfl; have c2 := M2.out.get 0 rfl 2 rfl; clear k2; go_wp2_with fail; go_quiet (fail); have M3 := Lib.hid (M2.out.keep0 ((Keep.refl [] w2).drewN nq)); clear c1
        go_wp2_with (first | ((with_reducible refine gL 20 19 ?_); refine wpList_loadPart (by rfl) 23 (.tmp 19) rfl M3 0 rfl 3 (by rfl) (digC r.dig) r.at_dig _ Tryz.underlying23 rfl (dig_size _) ?_; try simp only [Act.put, sqA, sqB, sqC]) | fail); refine (HSt.out _).mono ?_; rintro e w4 ⟨rfl, k4⟩; have M4 := Lib.hid (M3.out.keep0 k4); have d1 := M4.out.get 0 rfl 1 rfl; clear k4; go_wp2_with fail; rw [HR.out, HX.out]; refine bodyPost_ret (v := .tuple #[.string (S t5), .int .i64 0]) (by simp [results, Tryz.results44, go_sem]) rfl ⟨rfl, M4.out.kp⟩
      · have q4 := (int_eq hk).1; have q3 := (int_ne (show r.kind ≠ 3 by omega)).1; have e3 : S t2 ++ (⟨#[98, 108, 111, 98, 115]⟩ : ByteArray) = S t3 := by rw [← h3, ← hwd]; unfold rtWord; rw [if_pos hk]; exact S_append _ blobB
        clear h1 h2 h3 h4 h5 hr hk hwd hst; go_enter Tryz.func44, Tryz.ntmps44
        go_wp2_with (first | ((with_reducible refine gX 1 ?_); refine wpList_boxM rfl 77 (.tmp 0) rfl (r.cells) (by rfl) M0 ?_; intro b w1 M1 _ _; try simp only [Act.put, sqA, sqB, sqC]) | ((with_reducible refine gL 6 1 ?_); refine wpList_loadM (by rfl) 77 (.tmp 1) rfl M1 0 rfl (by rfl) _ Tryz.underlying77 rfl (rt_size r) ?_; try simp only [Act.put, sqA, sqB, sqC]) | fail); refine (HG.out _).mono ?_; rintro e w2 ⟨rfl, k2⟩; have M2 := Lib.hid (M1.out.keep0 k2); have c0 := M2.out.get 0 rfl 0 rfl; have c1 := M2.out.get 0 rfl 1 rfl; have c2 := M2.out.get 0 rfl 2 rfl; clear k2; go_wp2_with fail; go_quiet (fail); have M3 := Lib.hid (M2.out.keep0 ((Keep.refl [] w2).drewN nq)); clear c1
        go_wp2_with (first | ((with_reducible refine gL 20 19 ?_); refine wpList_loadPart (by rfl) 23 (.tmp 19) rfl M3 0 rfl 3 (by rfl) (digC r.dig) r.at_dig _ Tryz.underlying23 rfl (dig_size _) ?_; try simp only [Act.put, sqA, sqB, sqC]) | fail); refine (HSt.out _).mono ?_; rintro e w4 ⟨rfl, k4⟩; have M4 := Lib.hid (M3.out.keep0 k4); have d1 := M4.out.get 0 rfl 1 rfl; clear k4; go_wp2_with fail; rw [HR.out, HX.out]; refine bodyPost_ret (v := .tuple #[.string (S t5), .int .i64 0]) (by simp [results, Tryz.results44, go_sem]) rfl ⟨rfl, M4.out.kp⟩
theorem rt_end {w0 w : World} {L : List (Nat × TypeId × List Value)} {b : Nat} {r : Rt} (h : Mem w0 w L) (i : Nat) (hi : L[i]? = some (b, 77, r.cells)) : (loadVar 77 ⟨b, 0, none⟩).run Tryz.prog w = .ok (.agg r.cells.toArray) w := rt_load (h.blk i hi).range'
theorem dig_zero : ZeroIs Tryz.prog 23 (digC zeroD) := fun w => by simp [go_sem]; rfl
set_option maxRecDepth 100000 in
set_option maxHeartbeats 400000 in
theorem taste_low (l : List UInt8) (w : World) (hs : l.length ≤ maxLen) :
    Calls Tryz.prog 208 #[.string (S l)] w fun e w' => e = .returned (.string (S (lowW l))) ∧ Keep [] w w' := by
  have hs' : l.length ≤ 9223372036854775807 := hs; have hcv := conv_run w (S l); have hby := Bytes.conv w 5 l; have hkp := conv_keep w 5 (S l); have hsz := S_size l; generalize Lib.bytesWorld w 5 (S l) = wb at hcv hby hkp; generalize hX : w.heap.size = X at hcv hby; have HX := Lib.hid hX; clear hs hX; go_enter Tryz.func208, Tryz.ntmps208; go_wp2_with fail
  go_loopg [10] l.length (fun g i wr => ∃ k : Nat, i = .int .i64 k ∧ k ≤ l.length ∧ g = l.length - k ∧ Bytes wr X (lowTo l k) ∧ Keep [] w wr)
  case atStart => exact ⟨0, rfl, Nat.zero_le _, by omega, by simpa [lowTo] using hby, hkp⟩
  case round =>
    obtain ⟨k, rfl, hk, hgk, hbr, hkr⟩ := hrel; by_cases hlt : k < l.length
    · obtain ⟨c, hg⟩ : ∃ c, l[k]? = some c := ⟨_, List.getElem?_eq_getElem hlt⟩
      have hc := hbr.1 k c (lowTo_at hg); have hf := hbr.2 k (by rw [lowTo_length]; exact hlt); have hc8 := u8_nat c; have HG := Lib.hid hg; have HB := Lib.hid hbr; clear hg hbr hby hkp; by_cases ht : 65 ≤ c.toNat ∧ c.toNat ≤ 90
      · obtain ⟨h1, h2⟩ := ht
        have hl : (lowB c).toNat = c.toNat + 32 := by
          unfold lowB; rw [if_pos ⟨h1, h2⟩, UInt8.toNat_add]; have : (32 : UInt8).toNat = 32 := rfl; omega
        have HL := Lib.hid hl; clear hl; go_wp2_with fail
        go_roundg (l.length - (k + 1))
        case measure => omega
        case rel =>
          refine ⟨k + 1, by go_num, by omega, rfl, ?_, hkr.setCell _ _ (by have := HX.out; simp; omega)⟩; rw [lowTo_succ HG.out]; exact HB.out.set k (by rw [lowTo_length]; exact hlt) _ _ (by rw [HL.out]; omega)
      · have hl : lowB c = c := by unfold lowB; rw [if_neg ht]
        have HL := Lib.hid hl; have HT := Lib.hid ht
        have hend : Bytes wr X (lowTo l (k + 1)) := by
          rw [lowTo_succ HG.out, hl, list_set_self _ _ _ (lowTo_at HG.out)]; exact HB.out
        clear hl; by_cases h1 : 65 ≤ c.toNat
        · have h2 : 90 < c.toNat := by omega
          clear ht; go_wp2_with fail
          go_roundg (l.length - (k + 1))
          case measure => omega
          case rel => exact ⟨k + 1, by go_num, by omega, rfl, hend, hkr⟩
        · clear ht; go_wp2_with fail
          go_roundg (l.length - (k + 1))
          case measure => omega
          case rel => exact ⟨k + 1, by go_num, by omega, rfl, hend, hkr⟩
    · have hke : k = l.length := by omega
      rw [hke, lowTo_end] at hbr; have hback := hbr.back (P := Tryz.prog) 143 9 5 l.length (grownCap w l.length 0 5) (by simp [lowW]) Tryz.underlying143 Tryz.underlying5 Tryz.underlying9; have HKE := Lib.hid hke; clear hke hbr hby; go_wp2_with fail; go_ret; exact ⟨rfl, hkr⟩
def splO (l : List UInt8) : Ending := if isTypeM l then .returned (.tuple #[.string (S (lowW (typA l))), .string (S (lowW (typB l))), .bool true]) else .returned (.tuple #[.string (S []), .string (S []), .bool false])
theorem splO_no {l : List UInt8} (h : isTypeM l = false) : splO l = .returned (.tuple #[.string (S []), .string (S []), .bool false]) := by unfold splO; rw [h]; rfl
theorem splO_yes {l : List UInt8} (h : isTypeM l = true) : splO l = .returned (.tuple #[.string (S (lowW (typA l))), .string (S (lowW (typB l))), .bool true]) := by unfold splO; rw [h]; rfl
set_option maxRecDepth 100000 in
set_option maxHeartbeats 1000000 in
theorem taste_split (l : List UInt8) (w : World) (hm : ML w) (hl : l.length ≤ 1048576) :
    Calls Tryz.prog 172 #[.string (S l)] w fun e w' => e = splO l ∧ Keep [] w w' := by
  have HL := Lib.hid (taste_low l w (show l.length ≤ 9223372036854775807 by omega)); have HC := Lib.hid (fun w1 (k : Keep [] w w1) => strings_Cut (lowW l) ⟨#[47]⟩ w1 (hm.keep k (by simp)) (by rw [low_len]; omega)); have hsz := S_size l; have hT := isType_cut l; have hcv := low_cut l; have lA : (typA l).length ≤ l.length := by unfold typA; rw [List.length_take]; omega
  have lB : (typB l).length ≤ l.length := by unfold typB; rw [List.length_drop]; omega
  have hTA := fun w' => field_IsToken (lowW (typA l)) w' (show (lowW (typA l)).length ≤ 9223372036854775807 by rw [low_len]; omega)
  have hTB := fun w' => field_IsToken (lowW (typB l)) w' (show (lowW (typB l)).length ≤ 9223372036854775807 by rw [low_len]; omega)
  rw [hcv] at hT; by_cases hp : 0 ≤ Lib.indexByte l 47
  · rw [if_pos hp] at hT hcv; have HC2 := Lib.hid (fun w1 (k : Keep [] w w1) => show Calls Tryz.prog 130 #[.string (S (lowW l)), .string ⟨#[47]⟩] w1 fun e w' => e = .returned (.tuple #[.string (S (lowW (typA l))), .string (S (lowW (typB l))), .bool true]) ∧ Keep [] w1 w' by have := HC.out w1 k; simp only [hcv] at this; exact this); simp only [Bool.true_and] at hT; clear hcv hp HC lA lB; have hYES : isTypeM l = true → splO l = .returned (.tuple #[.string (S (lowW (typA l))), .string (S (lowW (typB l))), .bool true]) := splO_yes; generalize lowW (typA l) = a at *; generalize lowW (typB l) = b at *; have HY := Lib.hid hYES; clear hYES
    cases ha : isTok a with
    | false =>
      rw [ha] at hT hTA; have HR := Lib.hid (splO_no (show isTypeM l = false by rw [hT]; rfl)); have HTA := Lib.hid hTA; clear hT hTA hTB ha; go_enter Tryz.func172, Tryz.ntmps172; go_wp2_with fail; refine HL.out.mono ?_; rintro e w1 ⟨rfl, k1⟩; have K1 := Lib.hid k1; clear k1; go_wp2_with fail; refine (HC2.out _ K1.out).mono ?_; rintro e w2 ⟨rfl, k2⟩; have K2 := Lib.hid (K1.out.trans k2); clear k2; go_wp2_with fail; refine (HTA.out _).mono ?_; rintro e w3 ⟨rfl, k3⟩; have K3 := Lib.hid (K2.out.trans k3); clear k3; go_wp2_with fail; rw [HR.out]; refine bodyPost_ret (v := .tuple #[.string (S []), .string (S []), .bool false]) (by simp [results, Tryz.results172, go_sem, S]) rfl ⟨rfl, K3.out⟩
    | true =>
      rw [ha] at hT hTA; have HTA := Lib.hid hTA
      cases hb : isTok b with
      | false =>
        rw [hb] at hT hTB; have HR := Lib.hid (splO_no (show isTypeM l = false by rw [hT]; rfl)); have HTB := Lib.hid hTB; clear hT hTA hTB ha hb; go_enter Tryz.func172, Tryz.ntmps172; go_wp2_with fail; refine HL.out.mono ?_; rintro e w1 ⟨rfl, k1⟩; have K1 := Lib.hid k1; clear k1; go_wp2_with fail; refine (HC2.out _ K1.out).mono ?_; rintro e w2 ⟨rfl, k2⟩; have K2 := Lib.hid (K1.out.trans k2); clear k2; go_wp2_with fail; refine (HTA.out _).mono ?_; rintro e w3 ⟨rfl, k3⟩; have K3 := Lib.hid (K2.out.trans k3); clear k3; go_wp2_with fail; refine (HTB.out _).mono ?_; rintro e w4 ⟨rfl, k4⟩; have K4 := Lib.hid (K3.out.trans k4); clear k4; go_wp2_with fail; rw [HR.out]; refine bodyPost_ret (v := .tuple #[.string (S []), .string (S []), .bool false]) (by simp [results, Tryz.results172, go_sem, S]) rfl ⟨rfl, K4.out⟩
      | true =>
        rw [hb] at hT hTB; have HTB := Lib.hid hTB; by_cases h100 : l.length ≤ 100
        · have q : decide ((l.length : Int) > 100) = false := by simp; omega
          rw [decide_eq_true h100] at hT; have HR := Lib.hid (HY.out (show isTypeM l = true by rw [hT]; rfl)); clear hT hTA hTB ha hb; go_enter Tryz.func172, Tryz.ntmps172; go_wp2_with fail; refine HL.out.mono ?_; rintro e w1 ⟨rfl, k1⟩; have K1 := Lib.hid k1; clear k1; go_wp2_with fail; refine (HC2.out _ K1.out).mono ?_; rintro e w2 ⟨rfl, k2⟩; have K2 := Lib.hid (K1.out.trans k2); clear k2; go_wp2_with fail; refine (HTA.out _).mono ?_; rintro e w3 ⟨rfl, k3⟩; have K3 := Lib.hid (K2.out.trans k3); clear k3; go_wp2_with fail; refine (HTB.out _).mono ?_; rintro e w4 ⟨rfl, k4⟩; have K4 := Lib.hid (K3.out.trans k4); clear k4; go_wp2_with fail; rw [HR.out]; refine bodyPost_ret (v := .tuple #[.string (S a), .string (S b), .bool true]) (by simp [results, Tryz.results172, go_sem]) rfl ⟨rfl, K4.out⟩
        · have q : decide ((l.length : Int) > 100) = true := by simp; omega
          rw [decide_eq_false h100] at hT; have HR := Lib.hid (splO_no (show isTypeM l = false by rw [hT]; rfl)); clear hT hTA hTB ha hb; go_enter Tryz.func172, Tryz.ntmps172; go_wp2_with fail; refine HL.out.mono ?_; rintro e w1 ⟨rfl, k1⟩; have K1 := Lib.hid k1; clear k1; go_wp2_with fail; refine (HC2.out _ K1.out).mono ?_; rintro e w2 ⟨rfl, k2⟩; have K2 := Lib.hid (K1.out.trans k2); clear k2; go_wp2_with fail; refine (HTA.out _).mono ?_; rintro e w3 ⟨rfl, k3⟩; have K3 := Lib.hid (K2.out.trans k3); clear k3; go_wp2_with fail; refine (HTB.out _).mono ?_; rintro e w4 ⟨rfl, k4⟩; have K4 := Lib.hid (K3.out.trans k4); clear k4; go_wp2_with fail; rw [HR.out]; refine bodyPost_ret (v := .tuple #[.string (S []), .string (S []), .bool false]) (by simp [results, Tryz.results172, go_sem, S]) rfl ⟨rfl, K4.out⟩
  · rw [if_neg hp] at hT hcv; have HC2 := Lib.hid (fun w1 (k : Keep [] w w1) => show Calls Tryz.prog 130 #[.string (S (lowW l)), .string ⟨#[47]⟩] w1 fun e w' => e = .returned (.tuple #[.string (S (lowW l)), .string (S []), .bool false]) ∧ Keep [] w1 w' by have := HC.out w1 k; simp only [hcv] at this; exact this); have HR := Lib.hid (splO_no (show isTypeM l = false by rw [hT]; rfl)); clear hT hTA hTB hcv hp HC lA lB; go_enter Tryz.func172, Tryz.ntmps172; go_wp2_with fail; refine HL.out.mono ?_; rintro e w1 ⟨rfl, k1⟩; have K1 := Lib.hid k1; clear k1; go_wp2_with fail; refine (HC2.out _ K1.out).mono ?_; rintro e w2 ⟨rfl, k2⟩; have K2 := Lib.hid (K1.out.trans k2); clear k2; go_wp2_with fail; rw [HR.out]; refine bodyPost_ret (v := .tuple #[.string (S []), .string (S []), .bool false]) (by simp [results, Tryz.results172, go_sem, S]) rfl ⟨rfl, K2.out⟩
theorem isType_same {l : List UInt8} {v : Bool} (h : isTypeM l = v) : splO l = .returned (.tuple #[.string (S (if v then lowW (typA l) else [])), .string (S (if v then lowW (typB l) else [])), .bool v]) := by
  unfold splO; rw [h]; cases v <;> rfl
set_option maxRecDepth 100000 in
set_option maxHeartbeats 1000000 in
theorem taste_IsType (l : List UInt8) (w : World) (hm : ML w) (hl : l.length ≤ 1048576) :
    Calls Tryz.prog 128 #[.string (S l)] w fun e w' => e = .returned (.bool (isTypeM l)) ∧ Keep [] w w' := by
  have HS := Lib.hid (taste_split l w hm hl); have HE := Lib.hid (isType_same (l := l) rfl); generalize isTypeM l = v at *; cases v
  all_goals
    go_enter Tryz.func128, Tryz.ntmps128; go_wp2_with fail; refine HS.out.mono ?_; rw [HE.out]; rintro e w1 ⟨rfl, k1⟩; have K1 := Lib.hid k1; clear k1; go_wp2_with fail; go_ret; exact ⟨rfl, K1.out⟩
def tagM (d : Dig) : List UInt8 := [34] ++ stampM d.1 ++ [34]
theorem dig_sz (d : Dig) : (Tryz.prog.info? 23).map (·.size) = some (digC d).length := by rw [digC_length]; kernel_rfl
set_option maxRecDepth 100000 in
set_option maxHeartbeats 1000000 in
theorem taste_Tag (d : Dig) (w : World) :
    Calls Tryz.prog 46 #[.agg (digC d).toArray] w fun e w' => e = .returned (.string (S (tagM d))) ∧ Keep [] w w' := by
  have M0 := Lib.hid (Mem.nil w); have HS := Lib.hid (fun w' => stamp_Print d w'); have hl := stampM_len d; have HT := Lib.hid (show tagM d = [34] ++ stampM d.1 ++ [34] from rfl); generalize stampM d.1 = s at *; obtain ⟨t1, h1⟩ : ∃ t, [34] ++ s = t := ⟨_, rfl⟩
  obtain ⟨t2, h2⟩ : ∃ t, t1 ++ [34] = t := ⟨_, rfl⟩
  rw [h1, h2] at HT; have e1 : (⟨#[34]⟩ : ByteArray) ++ S s = S t1 := by rw [← h1]; exact S_append [34] _
  have e2 : S t1 ++ (⟨#[34]⟩ : ByteArray) = S t2 := by rw [← h2]; exact S_append _ [34]
  have z0 := S_size s; have z1 := S_size t1; have y1 : t1.length = 72 := by rw [← h1, List.length_append, hl]; rfl
  rw [y1] at z1; rw [hl] at z0; clear h1 h2 hl y1; go_enter Tryz.func46, Tryz.ntmps46
  go_wp2_with (first | ((with_reducible refine gX 1 ?_); refine wpList_boxM rfl 23 (.tmp 0) rfl (digC d) (by rfl) M0 ?_; intro b w1 M1 _ _; try simp only [Act.put, sqA, sqB, sqC]) | ((with_reducible refine gL 3 1 ?_); refine wpList_loadM (by rfl) 23 (.tmp 1) rfl M1 0 rfl (by rfl) _ Tryz.underlying23 rfl (dig_sz d) ?_; try simp only [Act.put, sqA, sqB, sqC]) | fail); refine (HS.out _).mono ?_; rintro e w2 ⟨rfl, k2⟩; have M2 := Lib.hid (M1.out.keep0 k2); clear k2; go_wp2_with fail; go_ret; exact ⟨by rw [HT.out]; rfl, M2.out.kp⟩
end Go.Proofs.YtlhnjkekjbbhcaaGreatDoor
