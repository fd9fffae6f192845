/- Parts of the proof of ErrandTries, in order. No conditions but those that each theorem states. -/
import Derived.Test.YtlhnjkekjbbhcaaGreatDoorYErrandTries0
import Derived.Lib.SlBytesConst
import Derived.Lib.LaidTab
import Derived.Lib.ItoaNum
import Derived.Lib.ItoaLen
import Derived.Sort.Grow
import Derived.DeepKeys4
import Derived.Deep.MidRow
import Derived.Test.YtlhnjkekjbbhcaaGreatDoorYErrandTries40
set_option linter.unusedSimpArgs false
set_option linter.unusedVariables false
namespace Go.Proofs.YtlhnjkekjbbhcaaGreatDoor
open Go.RowKit Go.Shelf
def dig1 : Dig := ⟨1 :: List.replicate 31 0, by simp⟩
def ky24 : Ky := ⟨2, [97], [], dig1, true⟩
def cf24 : Cf := ⟨[117, 112], 0, 0, 0, 0, 1, 0, 0, 0, 0, 4621819117588971520, 4611686018427387904, 0⟩
def ky0 : Ky := ⟨0, [], [], zeroD, false⟩
def tk0 : Tk := ⟨[], [], false, zeroD, [], 0, 0⟩
def cf0 : Cf := ⟨[], 0, 0, 0, 0, 0, 0, 0, 0, 0, 0, 0, 0⟩
theorem bd_dig1 : Tryz.prog.built 23 [(0, .int .u8 1)] = some (digC dig1).toArray := by kernel_rfl
theorem bd_ky24 : Tryz.prog.built 25 [(0, .int .i64 2), (1, .string ⟨#[97]⟩), (3, .agg (digC dig1).toArray), (4, .bool true)] = some ky24.cells.toArray := by kernel_rfl
theorem bd_cf24 : Tryz.prog.built 48 [(0, .string ⟨#[117, 112]⟩), (5, .int .i64 1), (10, .float .f64 4621819117588971520), (11, .float .f64 4611686018427387904)] = some cf24.cells.toArray := by kernel_rfl
theorem bd_ky0 : Tryz.prog.built 25 [] = some ky0.cells.toArray := by kernel_rfl
theorem bd_tk0 : Tryz.prog.built 27 [] = some tk0.cells.toArray := by kernel_rfl
theorem ky_zero : ZeroIs Tryz.prog 25 ky0.cells := fun w => by simp [go_sem]; rfl
theorem cf_zero : ZeroIs Tryz.prog 48 cf0.cells := fun w => by simp [go_sem]; rfl
theorem ky_end {w0 w : World} {L : List (Nat × TypeId × List Value)} {b : Nat} {r : Ky} (h : Mem w0 w L) (i : Nat) (hi : L[i]? = some (b, 25, r.cells)) : (loadVar 25 ⟨b, 0, none⟩).run Tryz.prog w = .ok (.agg r.cells.toArray) w :=
  run_loadVar_mid (P := Tryz.prog) w b 0 25 r.cells _ (h.blk i hi).range' Tryz.underlying25 rfl (ky_size r)
theorem cf_end {w0 w : World} {L : List (Nat × TypeId × List Value)} {b : Nat} {r : Cf} (h : Mem w0 w L) (i : Nat) (hi : L[i]? = some (b, 48, r.cells)) : (loadVar 48 ⟨b, 0, none⟩).run Tryz.prog w = .ok (.agg r.cells.toArray) w :=
  run_loadVar_mid (P := Tryz.prog) w b 0 48 r.cells _ (h.blk i hi).range' Tryz.underlying48 rfl (cf_size r)
set_option maxRecDepth 100000 in
set_option maxHeartbeats 1600000 in
theorem law24_body (w : World) : Calls Tryz.prog 29 #[] w fun e w' => e = .returned (.agg ky24.cells.toArray) ∧ Keep [] w w' := by
  have M0 : Hid (MemK w [] w w []) := Lib.hid (MemK.of (Mem.nil w) []); have HB1 := Lib.hid bd_dig1; have HB2 := Lib.hid bd_ky24; go_enter Tryz.func29, Tryz.ntmps29
  go_wp2_with (first | ((with_reducible refine gA 0 ?_); refine wpList_allocK rfl 25 rfl (ky0.cells) (Lib.hid ky_zero) M0 ?_; intro c w1 M1 hnewc; try simp only [Act.put, sqA, sqC]) | ((with_reducible refine gB 1 ?_); refine wpList_buildM (by rfl) 23 _ rfl ([(0, .int .u8 1)]) (by simp [Act.eval]) (digC dig1) HB1 ?_; try simp only [Act.put, sqA, sqB, sqC]) | ((with_reducible refine gB 2 ?_); refine wpList_buildM (by rfl) 25 _ rfl ([(0, .int .i64 2), (1, .string ⟨#[97]⟩), (3, .agg (digC dig1).toArray), (4, .bool true)]) (by simp [Act.eval]) (ky24.cells) HB2 ?_; try simp only [Act.put, sqA, sqB, sqC]) | ((with_reducible refine gS 0 2 ?_); refine wpList_storeK rfl 25 (.tmp 0) (.tmp 2) rfl M1 0 rfl (by rfl) (ky24.cells) (by rfl) (ky_size _) (by rw [Ky.len, Ky.len]) (Ky.one _) (fun hlt => absurd hnewc.out (by omega)) ?_; intro w2 M2; try simp only [Act.put]) | fail); have hload := ky_end M2.out.1 0 rfl; refine bodyPost_ret (v := .agg ky24.cells.toArray) (by simp [results, Tryz.results29, asAddr, hload]) rfl ⟨rfl, M2.out.2⟩
set_option maxRecDepth 100000 in
set_option maxHeartbeats 1600000 in
theorem law24_some (w : World) : Calls Tryz.prog 39 #[] w fun e w' => e = .returned (.agg cf24.cells.toArray) ∧ Keep [] w w' := by
  have M0 : Hid (MemK w [] w w []) := Lib.hid (MemK.of (Mem.nil w) []); have HB1 := Lib.hid bd_cf24; go_enter Tryz.func39, Tryz.ntmps39
  go_wp2_with (first | ((with_reducible refine gA 0 ?_); refine wpList_allocK rfl 48 rfl (cf0.cells) (Lib.hid cf_zero) M0 ?_; intro c w1 M1 hnewc; try simp only [Act.put, sqA, sqC]) | ((with_reducible refine gB 1 ?_); refine wpList_buildM (by rfl) 48 _ rfl ([(0, .string ⟨#[117, 112]⟩), (5, .int .i64 1), (10, .float .f64 4621819117588971520), (11, .float .f64 4611686018427387904)]) (by simp [Act.eval]) (cf24.cells) HB1 ?_; try simp only [Act.put, sqA, sqB, sqC]) | ((with_reducible refine gS 0 1 ?_); refine wpList_storeK rfl 48 (.tmp 0) (.tmp 1) rfl M1 0 rfl (by rfl) (cf24.cells) (by rfl) (cf_size _) (by rw [Cf.len, Cf.len]) (Cf.one _) (fun hlt => absurd hnewc.out (by omega)) ?_; intro w2 M2; try simp only [Act.put]) | fail); have hload := cf_end M2.out.1 0 rfl; refine bodyPost_ret (v := .agg cf24.cells.toArray) (by simp [results, Tryz.results39, asAddr, hload]) rfl ⟨rfl, M2.out.2⟩
def aw24T : List UInt8 := [72, 84, 84, 80, 47, 49, 46, 49, 32, 50, 48, 48, 32, 79, 75, 13, 10, 67, 111, 110, 116, 101, 110, 116, 45, 76, 101, 110, 103, 116, 104, 58, 32, 51, 13, 10, 67, 111, 110, 116, 101, 110, 116, 45, 84, 121, 112, 101, 58, 32, 120, 47, 121, 13, 10, 13, 10, 97, 98]
def aw24E : ErS := erBegin (erNew ky24 cf24 tk0) 5
def aw24F : Option ErS := erHear aw24E aw24T false 6
def aw24G : Option ErS := aw24F.bind fun E => erHear (erTook E) [99] false 7
theorem aw24_new : newOk ky24 cf24 tk0 = true := by decide +kernel
theorem aw24_no : newOk ky0 cf24 tk0 = false := by decide +kernel
theorem aw24_asked : askedE ky24 [117, 112] tk0 = 0 ∧ 20 ≤ (askedS ky24 [117, 112] tk0).length ∧ (askedS ky24 [117, 112] tk0).take 4 = [71, 69, 84, 32] := by refine ⟨?_, ?_, ?_⟩ <;> decide +kernel
theorem aw24_F : aw24F.map (fun E => (E.data, E.taken, E.misses, E.silent, E.heard, E.size, E.cfg.bo)) = some ([97, 98], 0, 0, 0, 0, 2, 4611686018427387904) := by kernel_rfl
theorem aw24_F2 : aw24F.map (fun E => (E.rep.map fun P => P.ans.isNone)) = some (some true) := by kernel_rfl
theorem aw24_G : aw24G.map (fun E => (E.data, E.taken, E.state, E.reuse, E.tries)) = some ([99], 2, 3, true, 1) := by kernel_rfl
theorem aw24_Asmall : (askedS ky24 [117, 112] tk0).length ≤ 1000 := by decide +kernel
theorem aw24_G2 : aw24G.map (fun E => (E.res.status, E.res.dig, E.res.typ, E.res.size, E.res.at_)) = some (200, dig1, [120, 47, 121], 3, 5) := by kernel_rfl
theorem aw24_facts : ∃ F G, erHear aw24E aw24T false 6 = some F ∧ erHear (erTook F) [99] false 7 = some G ∧ F.data = [97, 98] ∧ F.taken = 0 ∧ (erTook F).cnt 1 ∧ (erTook F).told ∧ G.data = [99] ∧ G.taken = 2 ∧ G.state = 3 ∧ G.reuse = true ∧ G.tries = 1 ∧ G.res = ⟨200, dig1, [120, 47, 121], 3, 5⟩ := by
  have f1 := aw24_F; have f2 := aw24_F2; have g1 := aw24_G; have g2 := aw24_G2; unfold aw24G at g1 g2
  cases hF : aw24F with
  | none => rw [hF] at f1; cases f1
  | some F =>
    rw [hF] at f1 f2 g1 g2; simp only [Option.map_some, Option.bind_some, Option.some.injEq, Prod.mk.injEq] at f1 f2 g1 g2; obtain ⟨a1, a2, a3, a4, a5, a6, a7⟩ := f1
    cases hG : erHear (erTook F) [99] false 7 with
    | none => rw [hG] at g1; cases g1
    | some G =>
      rw [hG] at g1 g2; simp only [Option.map_some, Option.some.injEq, Prod.mk.injEq] at g1 g2; obtain ⟨b1, b2, b3, b4, b5⟩ := g1; obtain ⟨c1, c2, c3, c4, c5⟩ := g2; refine ⟨F, G, hF, hG, a1, a2, ?_, ?_, b1, b2, b3, b4, b5, ?_⟩
      · show cntOf F.misses F.silent F.heard ([] : List UInt8).length F.size F.cfg.bo 1; rw [a3, a4, a5, a6, a7]; unfold cntOf; refine ⟨⟨?_, ?_⟩, ⟨?_, ?_⟩, ⟨?_, ?_⟩, ?_, ⟨?_, ?_⟩, ?_⟩ <;> decide
      · intro P hP; have hP' : F.rep = some P := hP; rw [hP'] at f2; simpa using f2
      · cases hr : G.res with
        | mk s d t z x =>
          rw [hr] at c1 c2 c3 c4 c5; simp only at c1 c2 c3 c4 c5; rw [c1, c2, c3, c4, c5]
theorem ok_ky24 : okKy ky24 := by unfold okKy in64; exact ⟨by decide, by decide, by decide, by decide⟩
theorem ok_ky0 : okKy ky0 := by unfold okKy in64; exact ⟨by decide, by decide, by decide, by decide⟩
def rs24 : Rs := ⟨200, dig1, [120, 47, 121], 3, 5⟩
theorem good_rs24 : goodRs rs24 := by unfold goodRs maxLen; refine ⟨?_, ⟨?_, ?_⟩, ⟨?_, ?_⟩, ?_, ?_⟩ <;> decide
theorem bd_rs24 : Tryz.prog.built 39 [(0, .int .i64 200), (1, .agg (digC dig1).toArray), (2, .string ⟨#[120, 47, 121]⟩), (3, .int .i64 3), (4, .int .i64 5)] = some rs24.cells.toArray := by kernel_rfl
theorem aw24_C : (erBegin (erNew ky24 cf24 tk0) 5).cnt 0 := by
  show cntOf 0 0 0 0 0 4611686018427387904 0; unfold cntOf; refine ⟨⟨?_, ?_⟩, ⟨?_, ?_⟩, ⟨?_, ?_⟩, ?_, ⟨?_, ?_⟩, ?_⟩ <;> decide
set_option maxRecDepth 100000 in
set_option maxHeartbeats 16000000 in
theorem errand_awake (w : World) (hm : ML w) : Calls Tryz.prog 8 #[] w fun e w' => e = .returned (.bool true) ∧ Keep [] w w' := by
  obtain ⟨F, G, hF, hG, fd, ft, fc, fo, gd, gt, gs, gr, gtr, gres⟩ := aw24_facts; have HF := Lib.hid hF; have HG := Lib.hid hG; have FD := Lib.hid fd; have FT := Lib.hid ft; have FC := Lib.hid fc; have FO := Lib.hid fo; have GD := Lib.hid gd; have GT := Lib.hid gt; have GS := Lib.hid gs; have GR := Lib.hid gr; have GTR := Lib.hid gtr; have GRES := Lib.hid gres; have HML := Lib.hid hm; have HN1 := Lib.hid (fun w' (k : Keep [] w w') => er_New (w0 := w) (L := []) ky24 cf24 tk0 k (hm.keep k (by simp)) ok_ky24 (by decide) (by simp)); have HN2 := Lib.hid (fun w' (k : Keep [] w w') => er_New (w0 := w) (L := []) ky0 cf24 tk0 k (hm.keep k (by simp)) ok_ky0 (by decide) (by simp)); have HBd := Lib.hid (fun w' => law24_body w'); have HSm := Lib.hid (fun w' => law24_some w'); have HB0 := Lib.hid bd_tk0; have HBk := Lib.hid bd_ky0; have HB1 := Lib.hid bd_dig1; have HBR := Lib.hid bd_rs24; obtain ⟨as', has⟩ : ∃ z, askedS ky24 [117, 112] tk0 = z := ⟨_, rfl⟩
  have hasked := aw24_asked; have hsml := aw24_Asmall; rw [has] at hasked hsml; have HAS := Lib.hid has; have HA0 := Lib.hid hasked.1; have hlen := hasked.2.1; have hsz : (S as').size = as'.length := rfl; have hx4 : (S as').extract 0 4 = S [71, 69, 84, 32] := by rw [S_extract, List.drop_zero, hasked.2.2]
  have t1 := S_toList [71, 69, 84, 32]; have t2 := S_toList [97, 98]; have t3 := S_toList [99]; clear hm hF hG fd ft fc fo gd gt gs gr gtr gres has hasked; go_enter Tryz.func8, Tryz.ntmps8; go_wp2_with fail; refine (HBd.out _).mono ?_; rintro e w1 ⟨rfl, k1⟩; have K1 := Lib.hid k1; clear k1; go_wp2_with fail; refine (HSm.out _).mono ?_; rintro e w2 ⟨rfl, k2⟩; have K2 := Lib.hid (K1.out.trans k2); clear k2 K1
  go_wp2_with (first | ((with_reducible refine gB 15 ?_); refine wpList_buildM (by rfl) 27 _ rfl ([]) (by simp [Act.eval]) (tk0.cells) HB0 ?_; try simp only [Act.put, sqA, sqB, sqC]) | fail); refine (HN1.out _ K2.out).mono ?_; rintro e w3 hN; rcases hN with ⟨_, b, rfl, hb, hE, k3⟩ | ⟨hno, _⟩
  rotate_left
  · rw [aw24_new] at hno; cases hno
  have H3 := Lib.hid hE; clear hb hE k3 K2 HN1 HBd; have HW := Lib.hid (er_Wants H3.out 0); have HBg := Lib.hid (er_Begin H3.out HML.out 5 (by decide) ok_ky24 (by decide) HA0.out ⟨by decide, by decide⟩); have hwa : (decide ((erNew ky24 cf24 tk0).state = 1) && decide ((erNew ky24 cf24 tk0).unt ≤ 0)) = true := by decide
  rw [hwa] at HW; have hk1 : (erNew ky24 cf24 tk0).key = ky24 := rfl; have hk2 : (erNew ky24 cf24 tk0).cfg.host = [117, 112] := rfl; have hk3 : (erNew ky24 cf24 tk0).known = tk0 := rfl; rw [hk1, hk2, hk3, HAS.out] at HBg; clear hwa hk1 hk2 hk3; go_wp2_with (first | (go_at_call 21; refine HW.out.mono ?_; rintro e w' ⟨rfl, rfl⟩) | fail); refine HBg.out.mono ?_; rintro e w4 ⟨rfl, rp, va, X, hE, _, _⟩; have H4 := Lib.hid hE; have HSt := Lib.hid (er_State H4.out); have hst2 : (erBegin (erNew ky24 cf24 tk0) 5).state = 2 := rfl; rw [hst2] at HSt; clear hE HBg HW H3 hst2; have HHr := Lib.hid (er_Hear H4.out HML.out aw24T false 6 ⟨by decide, by decide⟩ (by decide) HF.out aw24_C (by decide) (fun P hP => by cases hP; rfl)); go_wp2_with (first | (go_at_call 18; refine HSt.out.mono ?_; rintro e w' ⟨rfl, rfl⟩) | fail); refine HHr.out.mono ?_; rintro e w5 ⟨rfl, va5, X5, hE, _, _⟩; have H5 := Lib.hid hE; clear hE HHr H4 HSt hlen hsz hx4 t1 hsml; have HTk := Lib.hid (er_Take H5.out (by rw [FD.out]; decide) (by rw [FT.out]; decide)); rw [FD.out, FT.out] at HTk; go_wp2_with fail; refine HTk.out.mono ?_; rintro e w6 ⟨rfl, hE, _⟩; have H6 := Lib.hid hE; clear hE HTk H5; have HHr := Lib.hid (er_Hear H6.out HML.out [99] false 7 ⟨by decide, by decide⟩ (by decide) HG.out FC.out (by decide) FO.out); go_wp2_with fail; refine HHr.out.mono ?_; rintro e w7 ⟨rfl, va7, X7, hE, _, _⟩; have H7 := Lib.hid hE; clear hE HHr H6; have HTk := Lib.hid (er_Take H7.out (by rw [GD.out]; decide) (by rw [GT.out]; decide)); rw [GD.out, GT.out] at HTk; go_wp2_with fail; refine HTk.out.mono ?_; rintro e w8 ⟨rfl, hE, _⟩; have H8 := Lib.hid hE; clear hE HTk H7; have HRs := Lib.hid (er_Result H8.out); have hres : (erTook G).res = rs24 := GRES.out; rw [hres] at HRs; clear hres; go_wp2_with fail; refine HRs.out.mono ?_; rintro e w9 ⟨rfl, k9⟩; have H9 := Lib.hid (H8.out.keep0 k9); have M9 : Hid (MemK w9 [] w w9 []) := Lib.hid ⟨Mem.of H9.out.kp, Keep.refl _ _⟩; clear k9 HRs H8
  go_upto_region 12 with (first | ((with_reducible refine gA 9 ?_); refine wpList_allocK rfl 39 rfl (rs0.cells) (Lib.hid rs_zero) M9 ?_; intro c wa MA hnewc; try simp only [Act.put, sqA, sqB, sqC]) | ((with_reducible refine gS 9 67 ?_); refine wpList_storeK rfl 39 (.tmp 9) (.tmp 67) rfl MA 0 rfl (by rfl) (rs24.cells) (by rfl) (rs_size _) (by rw [Rs.len, Rs.len]) (Rs.one _) (fun hlt => absurd hnewc.out (by omega)) ?_; intro wb MB; try simp only [Act.put]) | fail)
  have H10 := Lib.hid (H9.out.keep0 MB.out.2); clear MA M9 H9
  go_wp2_with (first | ((with_reducible refine gB 69 ?_); refine wpList_buildM (by rfl) 25 _ rfl ([]) (by simp [Act.eval]) (ky0.cells) HBk ?_; try simp only [Act.put, sqA, sqB, sqC]) | fail); refine (HSm.out _).mono ?_; rintro e wc1 ⟨rfl, k1⟩; have K1 := Lib.hid k1; clear k1
  go_wp2_with (first | ((with_reducible refine gB 71 ?_); refine wpList_buildM (by rfl) 27 _ rfl ([]) (by simp [Act.eval]) (tk0.cells) HB0 ?_; try simp only [Act.put, sqA, sqB, sqC]) | fail); refine (HN2.out _ (H10.out.kp.trans K1.out)).mono ?_; rintro e wd hN; rcases hN with ⟨hno, _⟩ | ⟨_, rfl, k2⟩
  · rw [aw24_no] at hno; cases hno
  have MD := Lib.hid (MB.out.1.keep0 (K1.out.trans k2)); have H11 := Lib.hid (H10.out.keep0 (K1.out.trans k2)); clear k2 K1 MB H10 HN2 HSm; have HSt := Lib.hid (er_State H11.out); have HRu := Lib.hid (er_Reuse H11.out); have HTr := Lib.hid (er_Tries H11.out); have q1 : (erTook G).state = 3 := GS.out; have q2 : (erTook G).reuse = true := GR.out; have q3 : (erTook G).tries = 1 := GTR.out; rw [q1] at HSt; rw [q2] at HRu; rw [q3] at HTr; have heq := fun w' => eqRs rs24 rs24 good_rs24 good_rs24 w'
  rw [decide_eq_true rfl] at heq; have KF := Lib.hid MD.out.kp; clear q1 q2 q3
  go_wp2_with (first | (go_at_call 18; refine HSt.out.mono ?_; rintro e w' ⟨rfl, rfl⟩) | (go_at_call 42; refine HRu.out.mono ?_; rintro e w' ⟨rfl, rfl⟩) | (go_at_call 20; refine HTr.out.mono ?_; rintro e w' ⟨rfl, rfl⟩) | ((with_reducible refine gL 95 9 ?_); refine wpList_loadM (by rfl) 39 (.tmp 9) rfl MD 0 rfl (by rfl) _ Tryz.underlying39 rfl (rs_size _) ?_; try simp only [Act.put, sqA, sqB, sqC]) | ((with_reducible refine gB 96 ?_); refine wpList_buildM (by rfl) 23 _ rfl ([(0, .int .u8 1)]) (by simp [Act.eval]) (digC dig1) HB1 ?_; try simp only [Act.put, sqA, sqB, sqC]) | ((with_reducible refine gB 97 ?_); refine wpList_buildM (by rfl) 39 _ rfl ([(0, .int .i64 200), (1, .agg (digC dig1).toArray), (2, .string ⟨#[120, 47, 121]⟩), (3, .int .i64 3), (4, .int .i64 5)]) (by simp [Act.eval]) (rs24.cells) HBR ?_; try simp only [Act.put, sqA, sqB, sqC]) | fail); go_ret; exact ⟨rfl, KF.out⟩
end Go.Proofs.YtlhnjkekjbbhcaaGreatDoor
namespace Go.Proofs.YtlhnjkekjbbhcaaGreatDoor
open Go.ChangeShapes Go.WideShapes Go.ChangeAt Go.RowKit
def Fits {H : Type} (P : Program) (t : TypeId) (d : DataW H) : Prop := (d.weights P t).all (fun k => decide (k ≤ reachBytes)) = true
theorem fits_each {H : Type} {P : Program} : ∀ {ts : List TypeId} {ds : List (DataW H)}, (DataW.weightsEach P ts ds).all (fun k => decide (k ≤ reachBytes)) = true → ∀ (j : Nat) (t : TypeId) (d : DataW H), ts[j]? = some t → ds[j]? = some d → Fits P t d
  | [], _, _, _, _, _, h, _ => by simp at h
  | _ :: _, [], _, _, _, _, _, h => by simp at h
  | t :: ts, d :: ds, h, j, t', d', h1, h2 => by
    rw [DataW.weightsEach, List.all_append, Bool.and_eq_true] at h
    cases j with
    | zero =>
      simp at h1 h2; subst h1 h2; exact h.1
    | succ j => exact fits_each h.2 j t' d' (by simpa using h1) (by simpa using h2)
theorem fits_all {H : Type} {P : Program} {e : TypeId} : ∀ {ds : List (DataW H)}, (DataW.weightsAll P e ds).all (fun k => decide (k ≤ reachBytes)) = true → ∀ d ∈ ds, Fits P e d
  | [], _, _, h => by cases h
  | d :: ds, h, x, hx => by
    rw [DataW.weightsAll, List.all_append, Bool.and_eq_true] at h; rcases List.mem_cons.1 hx with rfl | hx
    · exact h.1
    · exact fits_all h.2 x hx
theorem fits_slice {H : Type} {P : Program} {t e : TypeId} {es rs : List (DataW H)} (ht : P.underlying t = some (.slice e)) (h : Fits P t (.slice es rs)) : ∀ d ∈ es, Fits P e d := by
  unfold Fits at h; rw [DataW.weights, ht] at h; simp only [List.all_cons, List.all_append, Bool.and_eq_true] at h; exact fits_all h.2.1
theorem fits_string {H : Type} {P : Program} {t : TypeId} {l : List UInt8} (h : Fits (H := H) P t (.lit (.string l))) : l.length ≤ 140737488351232 := by
  unfold Fits at h; rw [DataW.weights] at h; simp only [List.all_cons, List.all_nil, Bool.and_true, decide_eq_true_eq] at h; unfold reachBytes at h; omega
theorem read_sliceW {H : Type} {enc : TypeId × Value → H} {P : Program} {w : World} {base : Nat} {spare : Nat → Bool} {held : Bool} {α : Type} [Inhabited α] {en : α → List Value} {n : Nat} (hn : ∀ x, (en x).length = n) (h0 : 0 < n) (good : α → Prop)
    {t e : TypeId} {v : Value} {d : DataW H} {ps : List MemPlace} (ht : P.underlying t = some (.slice e)) (hc : P.cellsOf e = n) (hfit : Fits P t d)
    (one : ∀ (m : Nat) (cs : List Value) (x : DataW H × List MemPlace), DataW.trod enc P w base spare held m e cs = some x → Fits P e x.1 → ∃ a, cs = en a ∧ good a)
    (h : DataW.Trod enc P w base spare held t v d ps) (hv : ∃ a len cap, v = .slice a len cap) : ∃ L : List α, Sl en n w v L ∧ ∀ x ∈ L, good x := by
  obtain ⟨fuel, hf⟩ := h; obtain ⟨a', len', cap', rfl⟩ := hv; rcases Deep.open_slice ht hf with ⟨hcs, _⟩ | ⟨a, len, cap, m, q, D, Pl, hcs, _, hl, hm, hmm, hdx, hx⟩
  · simp [Value.cells] at hcs; obtain ⟨rfl, rfl, rfl⟩ := hcs; exact ⟨[], .inl ⟨Option.none, 0, rfl, Nat.zero_le _, rfl⟩, by simp⟩
  · simp [Value.cells] at hcs; obtain ⟨rfl, rfl, rfl⟩ := hcs; have hlm : len' ≤ m := by rw [hmm]; split <;> omega
    have hd : d = .slice ((List.range len').map D) ((List.range (m - len')).map fun j => D (len' + j)) := by
      have := congrArg Prod.fst hdx; exact this
    rw [hd] at hfit; have hfe := fits_slice ht hfit
    obtain ⟨f, hfx⟩ := Deep.choose_lt (α := α) (n := len') (p := fun i y => good y ∧ ∀ k, k < n → w.cell? ((a.add (i * n)).add k) = (en y)[k]?) (fun i hi => by
      obtain ⟨cs', h1, h2⟩ := hx i (by omega); rw [hc] at h1; obtain ⟨y, rfl, hg⟩ := one _ _ _ h2 (hfe (D i) (List.mem_map.2 ⟨i, List.mem_range.2 hi, rfl⟩)); exact ⟨y, hg, (World.cells?_some h1).2.2⟩)
    by_cases hz : len' = 0
    · subst hz; exact ⟨[], .inl ⟨_, _, rfl, hm, rfl⟩, by simp⟩
    · obtain ⟨b, off, spot⟩ := a
      have hs : spot = Option.none := by
        have h1 := (hfx 0 (by omega)).2 0 h0; simp only [Nat.zero_mul, Addr.add, if_true] at h1
        cases spot with
        | none => rfl
        | some s =>
          have hlt : 0 < (en (f 0)).length := by rw [hn]; exact h0
          rw [List.getElem?_eq_getElem hlt] at h1; unfold World.cell? at h1
          split at h1 <;> simp at h1
      subst hs; refine ⟨(List.range len').map f, .inr ⟨b, off, cap', by simp, by simpa using hl, hm, ?_⟩, ?_⟩
      · intro i x hi k hk; simp [List.getElem?_map] at hi; obtain ⟨j, hj, rfl⟩ := hi; have hj' := List.getElem?_eq_some_iff.1 hj; obtain ⟨hlt, he⟩ := hj'; simp at hlt he; subst he; have := (hfx i hlt).2 k hk; rw [Deep.add_add] at this; rw [← this]; unfold Addr.add
        split
        · rename_i hzz; rw [Nat.add_assoc, hzz]; rfl
        · simp [Nat.add_assoc]
      · intro x hx'; simp at hx'; obtain ⟨i, hi, rfl⟩ := hx'; exact (hfx i hi).1
def Fld.near (f : Fld) : Prop := f.name.length ≤ 140737488351232 ∧ f.value.length ≤ 140737488351232
section
variable {H : Type} {enc : TypeId × Value → H} {w : World} {base : Nat} {spare : Nat → Bool} {held : Bool}
theorem take_oneK {cs : List Value} {i : Nat} {v : Value} (h : (cs.drop i).take 1 = [v]) : cs[i]? = some v := by
  have := congrArg (fun l => l[0]?) h; simpa [List.getElem?_drop] using this
theorem int_cells : Tryz.prog.cellsOf 3 = 1 := by kernel_rfl
theorem bool_cells : Tryz.prog.cellsOf 4 = 1 := by kernel_rfl
theorem dig_cells : Tryz.prog.cellsOf 23 = 32 := by kernel_rfl
theorem read_digK (fuel : Nat) (cs : List Value) (x : DataW H × List MemPlace) (h : DataW.trod enc Tryz.prog w base spare held fuel 23 cs = some x) : ∃ d : Dig, cs = digC d := by
  obtain ⟨xs, m, _, _, hl, hn, hx⟩ := DataW.trod_array Tryz.underlying23 h; have h1 : Tryz.prog.cellsOf 5 = 1 := by kernel_rfl
  rw [dig_cells] at hl; rw [h1] at hx
  have hb : ∀ i, i < 32 → ∃ b : UInt8, cs[i]? = some (.int .u8 (b.toNat : Nat)) := fun i hi => by
    have := hx i hi; rw [Nat.mul_one] at this; obtain ⟨y, hy⟩ : ∃ y, xs[i]? = some y := ⟨_, List.getElem?_eq_getElem (by omega)⟩
    rw [hy] at this; obtain ⟨n, hn, _, hw⟩ := DataW.trod_int Tryz.underlying5 this; have hw' : 0 ≤ n ∧ n < 256 := by simp [Lit.wf, IntKind.min, IntKind.max, IntKind.signed, IntKind.bits] at hw; omega
    refine ⟨UInt8.ofNat n.toNat, ?_⟩; rw [take_oneK hn]; have : ((UInt8.ofNat n.toNat).toNat : Int) = n := by rw [UInt8.toNat_ofNat']; omega
    rw [this]
  let f : Nat → UInt8 := fun i => if h : i < 32 then (hb i h).choose else 0
  refine ⟨⟨(List.range 32).map f, by simp⟩, ?_⟩; apply List.ext_getElem?; intro i; by_cases hi : i < 32
  · have := (hb i hi).choose_spec; rw [this]; simp [digC, hi, f]
  · rw [List.getElem?_eq_none (by omega), List.getElem?_eq_none (by rw [digC_length]; omega)]
theorem trod_fieldsW {P : Program} {t : TypeId} {fs : Array Field} {fuel : Nat} {cs : List Value} {x : DataW H × List MemPlace} (ht : P.underlying t = some (.struct fs)) (h : DataW.trod enc P w base spare held fuel t cs = some x) (hf : Fits P t x.1) :
    cs.length = P.cellsOf t ∧ ∃ n, ∀ (i : Nat) (f : Field), fs[i]? = some f → ∃ y, DataW.trod enc P w base spare held n f.type ((cs.drop f.offset).take (P.cellsOf f.type)) = some y ∧ Fits P f.type y.1 := by
  obtain ⟨xs, n, _, rfl, hl, hlen, hx⟩ := DataW.trod_struct ht h; refine ⟨hl, n, fun i f hi => ?_⟩
  have hlt : i < xs.length := by
    rw [hlen]; rcases Nat.lt_or_ge i fs.size with h' | h'
    · exact h'
    · simp [Array.getElem?_eq_none h'] at hi
  refine ⟨xs[i], (hx i f hi).trans (List.getElem?_eq_getElem hlt), ?_⟩
  have hw : (DataW.weightsEach P (fs.toList.map (·.type)) (xs.map (·.1))).all (fun k => decide (k ≤ reachBytes)) = true := by
    unfold Fits at hf; dsimp only at hf; rw [DataW.weights, ht] at hf; exact hf
  exact fits_each hw i f.type xs[i].1 (by rw [List.getElem?_map, Array.getElem?_toList, hi]; rfl) (by rw [List.getElem?_map, List.getElem?_eq_getElem hlt]; rfl)
theorem field_stringW {P : Program} {t : TypeId} {n o : Nat} {cs : List Value} {y : DataW H × List MemPlace} (ht : P.underlying t = some .string) (hc : P.cellsOf t = 1) (h : DataW.trod enc P w base spare held n t ((cs.drop o).take (P.cellsOf t)) = some y ∧ Fits P t y.1) :
    ∃ v, cs[o]? = some (.string v) ∧ v.data.toList.length ≤ 140737488351232 := by
  obtain ⟨v, hv, hd, hm⟩ := DataW.trod_string ht h.1; have hf := h.2; rw [hd] at hf; rw [hc] at hv; exact ⟨v, take_drop_one hv, fits_string hf⟩
theorem read_aggW {P : Program} {α : Type} {en : α → List Value} {good : α → Prop}
    {t : TypeId} {v : Value} {d : DataW H} {ps : List MemPlace} (hfit : Fits P t d) (one : ∀ (m : Nat) (cs : List Value) (x : DataW H × List MemPlace), DataW.trod enc P w base spare held m t cs = some x → Fits P t x.1 → ∃ a, cs = en a ∧ good a)
    (h : DataW.Trod enc P w base spare held t v d ps) (hv : ∃ cs, v = .agg cs ∧ cs.size = P.cellsOf t) : ∃ a, v = .agg (en a).toArray ∧ good a := by
  obtain ⟨fuel, hf⟩ := h; obtain ⟨cs, rfl, _⟩ := hv; obtain ⟨a, ha, hg⟩ := one _ _ _ hf hfit; exact ⟨a, by rw [← ha]; simp [Value.cells], hg⟩
def goodKyIn (k : Ky) : Prop := in64 k.kind ∧ k.repo.length ≤ 140737488351232 ∧ k.tag.length ≤ 140737488351232
def goodTkIn (t : Tk) : Prop := t.repo.length ≤ 140737488351232 ∧ t.tag.length ≤ 140737488351232 ∧ t.typ.length ≤ 140737488351232 ∧ in64 t.size ∧ in64 t.at_
theorem dig_part {cs : List Value} {o : Nat} {d : Dig} (h : (cs.drop o).take (Tryz.prog.cellsOf 23) = digC d) {i : Nat} (hi : i < 32) : cs[o + i]? = (digC d)[i]? := by
  rw [dig_cells] at h; rw [← h, List.getElem?_take_of_lt hi, List.getElem?_drop]
theorem read_ky (m : Nat) (cs : List Value) (x : DataW H × List MemPlace) (h : DataW.trod enc Tryz.prog w base spare held m 25 cs = some x) (hfit : Fits Tryz.prog 25 x.1) : ∃ k : Ky, cs = k.cells ∧ goodKyIn k := by
  obtain ⟨hl, n, hf⟩ := trod_fieldsW Tryz.underlying25 h hfit; have hc : Tryz.prog.cellsOf 25 = 36 := by kernel_rfl
  rw [hc] at hl; obtain ⟨y0, h0⟩ := hf 0 _ rfl; obtain ⟨y1, h1⟩ := hf 1 _ rfl; obtain ⟨y2, h2⟩ := hf 2 _ rfl; obtain ⟨y3, h3⟩ := hf 3 _ rfl; obtain ⟨y4, h4⟩ := hf 4 _ rfl; obtain ⟨v0, c0, w0⟩ := field_int Tryz.underlying3 int_cells h0.1; obtain ⟨v1, c1, w1⟩ := field_stringW Tryz.underlying9 str_cells h1; obtain ⟨v2, c2, w2⟩ := field_stringW Tryz.underlying9 str_cells h2; have h3' : DataW.trod enc Tryz.prog w base spare held n 23 ((cs.drop 3).take (Tryz.prog.cellsOf 23)) = some y3 := h3.1; obtain ⟨d, hd⟩ := read_digK _ _ _ h3'; obtain ⟨v4, c4⟩ := field_bool Tryz.underlying4 bool_cells h4.1; refine ⟨⟨v0, v1.data.toList, v2.data.toList, d, v4⟩, list_eq_of hl (Ky.len _) ?_, in64_of w0, w1, w2⟩; intro i hi; have e : ∀ k : Ky, k.cells = [.int .i64 k.kind, .string (S k.repo), .string (S k.tag)] ++ (digC k.dig ++ [.bool k.blob]) := fun k => by simp [Ky.cells]
  rw [e]; simp only [S_of]; by_cases h3 : i < 3
  · rw [List.getElem?_append_left (by simpa using h3)]
    match i, h3 with
    | 0, _ => exact c0
    | 1, _ => exact c1
    | 2, _ => exact c2
  · rw [List.getElem?_append_right (by simp; omega)]; show cs[i]? = _; simp only [List.length_cons, List.length_nil]; by_cases h35 : i < 35
    · rw [List.getElem?_append_left (by rw [digC_length]; omega)]; have := dig_part hd (i := i - 3) (by omega); rw [show 3 + (i - 3) = i by omega] at this; exact this
    · rw [List.getElem?_append_right (by rw [digC_length]; omega), digC_length]; obtain rfl : i = 35 := by omega
      have c4' : cs[35]? = some (.bool v4) := c4; rw [c4']; rfl
theorem read_tk (m : Nat) (cs : List Value) (x : DataW H × List MemPlace) (h : DataW.trod enc Tryz.prog w base spare held m 27 cs = some x) (hfit : Fits Tryz.prog 27 x.1) : ∃ k : Tk, cs = k.cells ∧ goodTkIn k := by
  obtain ⟨hl, n, hf⟩ := trod_fieldsW Tryz.underlying27 h hfit; have hc : Tryz.prog.cellsOf 27 = 38 := by kernel_rfl
  rw [hc] at hl; obtain ⟨y0, h0⟩ := hf 0 _ rfl; obtain ⟨y1, h1⟩ := hf 1 _ rfl; obtain ⟨y2, h2⟩ := hf 2 _ rfl; obtain ⟨y3, h3⟩ := hf 3 _ rfl; obtain ⟨y4, h4⟩ := hf 4 _ rfl; obtain ⟨y5, h5⟩ := hf 5 _ rfl; obtain ⟨y6, h6⟩ := hf 6 _ rfl; obtain ⟨v0, c0, w0⟩ := field_stringW Tryz.underlying9 str_cells h0; obtain ⟨v1, c1, w1⟩ := field_stringW Tryz.underlying9 str_cells h1; obtain ⟨v2, c2⟩ := field_bool Tryz.underlying4 bool_cells h2.1; have h3' : DataW.trod enc Tryz.prog w base spare held n 23 ((cs.drop 3).take (Tryz.prog.cellsOf 23)) = some y3 := h3.1; obtain ⟨d, hd⟩ := read_digK _ _ _ h3'; obtain ⟨v4, c4, w4⟩ := field_stringW Tryz.underlying9 str_cells h4; obtain ⟨v5, c5, w5⟩ := field_int Tryz.underlying3 int_cells h5.1; obtain ⟨v6, c6, w6⟩ := field_int Tryz.underlying3 int_cells h6.1; refine ⟨⟨v0.data.toList, v1.data.toList, v2, d, v4.data.toList, v5, v6⟩, list_eq_of hl (Tk.len _) ?_, w0, w1, w4, in64_of w5, in64_of w6⟩; intro i hi; have e : ∀ k : Tk, k.cells = [.string (S k.repo), .string (S k.tag), .bool k.found] ++ (digC k.dig ++ [.string (S k.typ), .int .i64 k.size, .int .i64 k.at_]) := fun k => by simp [Tk.cells]
  rw [e]; simp only [S_of]; by_cases h3 : i < 3
  · rw [List.getElem?_append_left (by simpa using h3)]
    match i, h3 with
    | 0, _ => exact c0
    | 1, _ => exact c1
    | 2, _ => exact c2
  · rw [List.getElem?_append_right (by simp; omega)]; show cs[i]? = _; simp only [List.length_cons, List.length_nil]; by_cases h35 : i < 35
    · rw [List.getElem?_append_left (by rw [digC_length]; omega)]; have := dig_part hd (i := i - 3) (by omega); rw [show 3 + (i - 3) = i by omega] at this; exact this
    · rw [List.getElem?_append_right (by rw [digC_length]; omega), digC_length]; have h9 : i = 35 ∨ i = 36 ∨ i = 37 := by omega
      have c4' : cs[35]? = some (.string v4) := c4; have c5' : cs[36]? = some (.int .i64 v5) := c5; have c6' : cs[37]? = some (.int .i64 v6) := c6; rcases h9 with rfl | rfl | rfl
      · rw [c4']; rfl
      · rw [c5']; rfl
      · rw [c6']; rfl
structure AnOk (w : World) (a : Ans) (va : Value) : Prop where
  sl : Sl Fld.cells 2 w va a.F
  gf : ∀ x ∈ a.F, x.near
  st : in64 a.st
  len : in64 a.len
end
end Go.Proofs.YtlhnjkekjbbhcaaGreatDoor
