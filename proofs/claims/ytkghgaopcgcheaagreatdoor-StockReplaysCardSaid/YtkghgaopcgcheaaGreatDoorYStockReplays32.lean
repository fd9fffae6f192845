/- Parts of the proof of StockReplays, in order. No conditions but those that each theorem states. -/
import Derived.Test.YtkghgaopcgcheaaGreatDoorYStockReplays0
import Derived.Deep.RegionHeld3
import Derived.Deep.Cut
import Derived.Deep.DeepCutAuto
import Derived.Deep.LoopGhost
import Derived.Deep.AppendLies
import Derived.Deep.RegionLaw
import Derived.Lib.ItoaNum
import Derived.Lib.SlTrimSet
import Derived.Lib.SlBytesConst
import Derived.Test.YtkghgaopcgcheaaGreatDoorYStockReplays31
set_option maxRecDepth 100000
set_option maxHeartbeats 16000000
set_option linter.unusedSimpArgs false
set_option linter.unusedVariables false
namespace Go.Proofs.YtkghgaopcgcheaaGreatDoor
open Go.RowKit Go.Maps
theorem bd_stock (t r l b : Nat) : Tryz.prog.built 100 [(0, .agg #[.pointer (some ⟨t, 0, none⟩), .pointer (some ⟨r, 0, none⟩)]), (1, .pointer (some ⟨l, 0, none⟩)), (2, .pointer (some ⟨b, 0, none⟩))] = some ([.pointer (some ⟨t, 0, none⟩), .pointer (some ⟨r, 0, none⟩), .pointer (some ⟨l, 0, none⟩), .pointer (some ⟨b, 0, none⟩)] : List Value).toArray := by kernel_rfl
theorem sk_of {w2 w3 w4 w5 w6 w8 : World} {S0 S3 S5 Y : List Nat} {d t r l n : Nat} {B : Int} {T : List Tik} {R : List Jar} {K1 : Dsk} (hG : GP S0 w2) (hlg : Lg S3 w3 l d K1 n n false) (g3 : Grow S0 w2 (l :: S3) w3) (k4 : Keep [] w3 w4) (hld : Ld w4 w3.heap.size d) (pk5 : Pk S5 w5 d K1) (g5 : Grow (cutS S3 w3) w4 S5 w5)
    (hst : St Y w6 t r B T R) (hY : ∀ k ∈ Y, w5.heap.size ≤ k) (k6 : Keep [] w5 w6) (s : Nat) (hb : Blk w8 s 100 [.pointer (some ⟨t, 0, none⟩), .pointer (some ⟨r, 0, none⟩), .pointer (some ⟨l, 0, none⟩), .pointer (some ⟨w3.heap.size, 0, none⟩)]) (k8 : Keep [] w6 w8) (hs : w6.heap.size ≤ s) :
    ∃ X, Sk X w8 s d t r l w3.heap.size B T R K1 n n ∧ Grow S0 w2 X w8 := by
  have hg3 := hG.grow g3; have hll : l < w3.heap.size := by obtain ⟨z, hz⟩ := hlg.2.1; exact hz.lt
  have hb3 : w3.heap.size ∉ cutS S3 w3 := fun hm => by have := (mem_cutS.1 hm).2; omega
  have hgp3 : GP (cutS S3 w3) w3 := ⟨hg3.1, fun x hx => hg3.2 x (List.mem_cons_of_mem _ (mem_cutS.1 hx).1)⟩
  have hlg5 := (hlg.cut.keep0 k4).op pk5 g5; have hgp5 := (hgp3.keep0 k4).grow g5; have hb5 : w3.heap.size ∉ S5 := g5.out' hb3 hld.lt; have hl5 : l < w5.heap.size := by obtain ⟨z, hz⟩ := hlg5.1.2.1; exact hz.lt
  have hYlt : ∀ x ∈ Y, x < w6.heap.size := by obtain ⟨A, C, rfl, _, _, _, h4⟩ := hst; exact h4
  have k58 := k6.trans k8; have hsz5 := k6.size; have hb4 := hld.lt; have hsz45 := g5.1.size; have hld5 : Ld w5 w3.heap.size d := g5.1.blk hld hb3
  have G1 : Grow S0 w2 (l :: cutS S3 w3) w3 := ⟨g3.1, fun x hx => g3.2 x (by
    rcases List.mem_cons.1 hx with rfl | hx
    · exact List.mem_cons_self
    · exact List.mem_cons_of_mem _ (mem_cutS.1 hx).1)⟩
  have G2 : Grow S0 w2 (l :: S5) w5 := (G1.then k4).trans hlg5.2; refine ⟨Y ++ l :: cutS S5 w5, ⟨Y, cutS S5 w5, rfl, hb, hst.keep0 k8, (hlg5.1.cut).keep0 k58, k58.blk hld5 (by simp), fun hm => ?_, fun hm => ?_, fun x hx hm => ?_, fun x hx => ?_, ⟨hgp5.1.keep0 k58, fun x hx => ?_⟩⟩, (G2.1.trans' k58 (by simp)), fun x hx => ?_⟩
  · rcases List.mem_append.1 hm with hm | hm
    · have := hYlt s hm; omega
    · rcases List.mem_cons.1 hm with rfl | hm
      · omega
      · have := (mem_cutS.1 hm).2; omega
  · rcases List.mem_append.1 hm with hm | hm
    · have := hY _ hm; omega
    · rcases List.mem_cons.1 hm with hm | hm
      · omega
      · exact hb5 (mem_cutS.1 hm).1
  · have h1 := hY x hx; rcases List.mem_cons.1 hm with rfl | hm
    · omega
    · have := (mem_cutS.1 hm).2; omega
  · have := k8.size; rcases List.mem_append.1 hx with hx | hx
    · have := hYlt x hx; omega
    · rcases List.mem_cons.1 hx with rfl | hx
      · omega
      · have := (mem_cutS.1 hx).2; omega
  · rcases List.mem_append.1 hx with hx | hx
    · exact hgp5.1.fresh (hY x hx)
    · rcases List.mem_cons.1 hx with rfl | hx
      · exact hg3.2 x List.mem_cons_self
      · exact hgp5.2 x (mem_cutS.1 hx).1
  · rcases List.mem_append.1 hx with hx | hx
    · exact .inr (Nat.le_trans G2.1.size (hY x hx))
    · rcases List.mem_cons.1 hx with rfl | hx
      · exact G2.2 x List.mem_cons_self
      · exact G2.2 x (List.mem_cons_of_mem _ (mem_cutS.1 hx).1)
theorem stock_Open {S0 : List Nat} (d : Nat) (B : Int) (K : Dsk) (st : Stk) (w : World) (hp : Pk S0 w d K) (hG : GP S0 w) (hc : openP B K = some st) :
    Calls Tryz.prog 11 #[.pointer (some ⟨d, 0, none⟩), .int .i64 B] w fun e w' => ∃ s t r l b X', e = .returned (.tuple #[.pointer (some ⟨s, 0, none⟩), .int .i64 0]) ∧ Sk X' w' s d t r l b B st.T st.R st.K st.nn st.su ∧ Grow S0 w X' w' ∧ w.heap.size ≤ s ∧ w.heap.size ≤ b := by
  unfold openP at hc
  split at hc
  case isFalse => cases hc
  case isTrue hc0 =>
  obtain ⟨hoff, hB0, hB1⟩ := hc0; obtain ⟨⟨bs, K1⟩, hload, hc⟩ := Option.bind_eq_some_iff.1 hc; simp only at hc
  split at hc
  case isFalse => cases hc
  case isTrue hc1 =>
  obtain ⟨hbl, hall, hLn, hLg, hoff1, hfl, hsw, hfd, hvic, hcl, hgd⟩ := hc1; obtain ⟨K2, hrw, hst⟩ := Option.map_eq_some_iff.1 hc; clear hc; obtain ⟨LL, hLL⟩ : ∃ z, (allL bs).1 = z := ⟨_, rfl⟩
  rw [hLL] at hLn hLg hfd hvic hcl hgd hrw hst; obtain ⟨T, hT⟩ : ∃ z, (rep LL).1 = z := ⟨_, rfl⟩
  obtain ⟨R, hR⟩ : ∃ z, (rep LL).2 = z := ⟨_, rfl⟩
  rw [hT, hR] at hgd hrw hst; rw [hR] at hfd hvic hcl; obtain ⟨SL, hSL⟩ : ∃ z, slipsOf T R = z := ⟨_, rfl⟩
  rw [hSL] at hgd hrw hst; obtain ⟨n, hn⟩ : ∃ n, LL.length = n := ⟨_, rfl⟩
  have HGD := Lib.hid (List.all_eq_true.1 hgd); have HRW := Lib.hid hrw; have HOF := Lib.hid hoff1; have HLG := Lib.hid (fun x hx => slipIn_good ((List.all_eq_true.1 hLg) x hx)); have HSW := Lib.hid (fun p hp => sweepB_ok ((List.all_eq_true.1 hsw) p hp))
  have HFD := Lib.hid (show ∀ j ∈ R, ∃ x ∈ jarsD K1.files, x.dig = j.dig ∧ x.size = j.size from fun j hj => by
    have := (List.all_eq_true.1 hfd) j hj; obtain ⟨x, hx, h⟩ := List.any_eq_true.1 this; simp only [Bool.and_eq_true, decide_eq_true_eq] at h; exact ⟨x, hx, h⟩)
  have HVI := Lib.hid (Option.isNone_iff_eq_none.1 hvic); have HCL := Lib.hid (List.all_eq_true.1 hcl); have HFL := Lib.hid hfl; have HFR := Lib.hid (fun w' => stock_fresh B w' hB0 hB1); have HP := Lib.hid (And.intro hp hG); have HDO := Lib.hid (fun w' (k : Keep [] w w') => diary_Open d K K1 bs w' (hp.keep0 k) (hG.keep0 k) hoff hload hbl); rw [hLL, hall, hn, decide_eq_false (show ¬ bs.length < bs.length by omega)] at HDO; have HRP := Lib.hid (fun v w' hs => stock_replay LL v B w' hs HLG.out (by omega) hB0 hB1); rw [hT, hR] at HRP; have HST := Lib.hid hst; have HNN := Lib.hid (show n ≤ 100000 by omega); have HSL := Lib.hid hSL; clear hoff hB0 hB1 hload hbl hall hLn hLg hoff1 hfl hsw hfd hvic hcl hgd hrw hst hp hG hLL hT hR hSL hn; go_enter Tryz.func11, Tryz.ntmps11; go_wp2_with fail; refine (HFR.out w).mono ?_; rintro e w1 ⟨t0, r0, Y0, rfl, _, _, k1⟩; have K1w := Lib.hid k1; clear k1 HFR
  go_upto_region 4 with fail
  have kA := K1w.out.alloc (.cells #[.pointer (some ⟨t0, 0, none⟩), .pointer (some ⟨r0, 0, none⟩)] 83); generalize w1.alloc (.cells #[.pointer (some ⟨t0, 0, none⟩), .pointer (some ⟨r0, 0, none⟩)] 83) = w2 at kA ⊢; have KA := Lib.hid kA; clear kA K1w; go_wp2_with fail; refine (HDO.out w2 KA.out).mono ?_; rintro e w3 ⟨l, vL, S3, rfl, hoL, hlg, g3, hvL⟩; obtain ⟨aL, cL, rfl, hcL⟩ := hoL.shape; have H3 := Lib.hid (show Own Slp.cells 38 w2.heap.size 27 w3 _ LL ∧ Lg S3 w3 l d K1 n n false ∧ Grow S0 w2 (l :: S3) w3 ∧ ∀ g, (Value.slice aL LL.length cL).ownBlock = some g → g ∉ l :: S3 from ⟨hoL, hlg, g3, hvL⟩); clear hoL hlg g3 hvL hcL HDO; go_wp2_with fail; refine (larder_Open d w3).mono ?_; rintro e w4 ⟨rfl, hld, k4⟩; have H4 := Lib.hid (And.intro hld k4); have HGP := Lib.hid (HP.out.2.keep0 KA.out)
  have HSP := Lib.hid (show Calls Tryz.prog 43 #[.pointer (some ⟨w3.heap.size, 0, none⟩)] w4 fun e w' => ∃ v, e = .returned (.tuple #[v, .int .i64 0]) ∧ Own Jar.cells 35 w4.heap.size 63 w' v (jarsD K1.files) ∧ ∃ S', Pk S' w' d K1 ∧ Grow (cutS S3 w3) w4 S' w' ∧ ∀ g, v.ownBlock = some g → g ∉ S' from
    larder_Sweep w3.heap.size d K1 w4 H4.out.1 (H3.out.2.1.cut.1.keep0 H4.out.2) ⟨(HGP.out.grow H3.out.2.2.1).1.keep0 H4.out.2, fun x hx => (HGP.out.grow H3.out.2.2.1).2 x (List.mem_cons_of_mem _ (mem_cutS.1 hx).1)⟩ (fun hm => by have := (mem_cutS.1 hm).2; omega) HOF.out HFL.out HSW.out)
  obtain ⟨bb, hbb⟩ : ∃ n, w3.heap.size = n := ⟨_, rfl⟩
  rw [hbb] at HSP; (try rw [hbb]); clear hld k4; go_wp2_with fail; refine HSP.out.mono ?_; rintro e w5 ⟨vF, rfl, hoF, S5, pk5, g5, hvF⟩; obtain ⟨aF, cF, rfl, hcF⟩ := hoF.shape; have H5 := Lib.hid (show Own Jar.cells 35 w4.heap.size 63 w5 (.slice aF (jarsD K1.files).length cF) (jarsD K1.files) ∧ Pk S5 w5 d K1 ∧ Grow (cutS S3 w3) w4 S5 w5 from ⟨hoF, pk5, g5⟩); have HLV := Lib.hid (show Sl Slp.cells 38 w5 (.slice aL LL.length cL) LL from ((H3.out.1.keep0 H4.out.2).keep g5.1 (fun g hg hm => H3.out.2.2.2 g hg (List.mem_cons_of_mem _ (mem_cutS.1 hm).1))).sl Slp.cells_length); clear hoF pk5 g5 hvF hcF HSP; go_wp2_with fail; refine (HRP.out _ w5 HLV.out).mono ?_; rintro e w6 ⟨t, r, Y, rfl, hst, hY, k6⟩; have H6 := Lib.hid (show St Y w6 t r B T R ∧ (∀ k ∈ Y, w5.heap.size ≤ k) ∧ Keep [] w5 w6 from ⟨hst, hY, k6⟩); clear hst hY k6 HRP HLV; have b7 := Blk.newA w6 #[.pointer (some ⟨t, 0, none⟩), .pointer (some ⟨r, 0, none⟩)] 83; have k7 := (Keep.refl [] w6).alloc (.cells #[.pointer (some ⟨t, 0, none⟩), .pointer (some ⟨r, 0, none⟩)] 83); obtain ⟨m, hm⟩ : ∃ m, w6.heap.size = m := ⟨_, rfl⟩
  rw [hm] at b7
  go_upto_region 14 with fail
  (try simp only [hm]); generalize w6.alloc (.cells #[.pointer (some ⟨t, 0, none⟩), .pointer (some ⟨r, 0, none⟩)] 83) = w7 at b7 k7 ⊢; have H7 := Lib.hid (show Blk w7 m 83 [.pointer (some ⟨t, 0, none⟩), .pointer (some ⟨r, 0, none⟩)] ∧ Keep [] w6 w7 from ⟨b7, k7⟩); have HBD := Lib.hid (bd_stock t r l bb); clear b7 k7; have d0 := H7.out.1.get (k := 0) rfl; have d1 := H7.out.1.get (k := 1) rfl
  go_upto_region 17 with (first | ((with_reducible refine gB 58 ?_); refine wpList_b3' rfl (cs := [.pointer (some ⟨t, 0, none⟩), .pointer (some ⟨r, 0, none⟩), .pointer (some ⟨l, 0, none⟩), .pointer (some ⟨bb, 0, none⟩)]) (by exact HBD.out) _ _ _ rfl (by rfl) (by rfl) (by rfl) ?_; try simp only [sq]) | fail)
  obtain ⟨s, hs⟩ : ∃ s, w7.heap.size = s := ⟨_, rfl⟩
  have b8 := Blk.newA w7 #[.pointer (some ⟨t, 0, none⟩), .pointer (some ⟨r, 0, none⟩), .pointer (some ⟨l, 0, none⟩), .pointer (some ⟨bb, 0, none⟩)] 100; have k8 := H7.out.2.alloc (.cells #[.pointer (some ⟨t, 0, none⟩), .pointer (some ⟨r, 0, none⟩), .pointer (some ⟨l, 0, none⟩), .pointer (some ⟨bb, 0, none⟩)] 100); rw [hs] at b8; (try simp only [hs]); generalize w7.alloc (.cells #[.pointer (some ⟨t, 0, none⟩), .pointer (some ⟨r, 0, none⟩), .pointer (some ⟨l, 0, none⟩), .pointer (some ⟨bb, 0, none⟩)] 100) = w8 at b8 k8 ⊢; obtain ⟨X, hsk, hgr⟩ := sk_of HGP.out H3.out.2.1 H3.out.2.2.1 H4.out.2 H4.out.1 H5.out.2.1 H5.out.2.2 H6.out.1 H6.out.2.1 H6.out.2.2 s (by rw [hbb]; exact b8) k8 (by have := H7.out.2.size; omega); rw [hbb] at hsk
  have H8 := Lib.hid (show Sk X w8 s d t r l bb B T R K1 n n ∧ Grow S0 w X w8 ∧ Sl Jar.cells 35 w8 (.slice aF (jarsD K1.files).length cF) (jarsD K1.files) ∧ w.heap.size ≤ s ∧ w.heap.size ≤ bb from
    ⟨hsk, Grow.pre KA.out hgr, (H5.out.1.keep0 (H6.out.2.2.trans k8)).sl Jar.cells_length, by
      have q1 := KA.out.size; have q2 := H3.out.2.2.1.1.size; have q3 := H4.out.2.size; have q4 := H5.out.2.2.1.size; have q5 := H6.out.2.2.size; have q6 := H7.out.2.size
      omega, by
      have q1 := KA.out.size; have q2 := H3.out.2.2.1.1.size; omega⟩)
  clear hsk hgr b8 k8 hs hm hbb H3 H4 H5 H6 H7 HGP d0 d1; have hjl : (jarsD K1.files).length ≤ 4000 := Nat.le_trans (jars_len _) HFL.out; have HRE := Lib.hid (stock_restrict w8 H8.out.1 (jarsD K1.files) _ H8.out.2.2.1 hjl HFD.out HVI.out); clear hjl; go_wp2_with fail; refine HRE.out.mono ?_; rintro e wb ⟨rfl, kb⟩; have KB := Lib.hid kb; clear kb HRE; have HCE := Lib.hid (stock_clean wb (H8.out.1.keep0 KB.out) HFL.out HCL.out); go_wp2_with fail; refine HCE.out.mono ?_; rintro e wc ⟨rfl, kc⟩; have KC := Lib.hid (KB.out.trans kc); clear kc HCE; have HSK := Lib.hid (fun w' (k : Keep [] wc w') => H8.out.1.keep0 (KC.out.trans k)); have hap := (HSK.out wc (Keep.refl _ _)).apart
  have HC := Lib.hid (show ∀ w', Keep X wc w' → w'.cell? ⟨s, 0, none⟩ = some (.pointer (some ⟨t, 0, none⟩)) ∧ w'.cell? ⟨s, 1, none⟩ = some (.pointer (some ⟨r, 0, none⟩)) ∧ w'.cell? ⟨s, 2, none⟩ = some (.pointer (some ⟨l, 0, none⟩)) from fun w' k => by
    obtain ⟨Y, C, _, hb, _⟩ := HSK.out wc (Keep.refl _ _); have hb' := k.blk hb hap.1; exact ⟨hb'.get rfl, hb'.get rfl, hb'.get rfl⟩)
  have KD := Lib.hid ((Keep.refl [] wc).drew)
  have HSLL := Lib.hid (show SL.length ≤ 1000000 from by
    obtain ⟨Y, hst⟩ := (HSK.out wc (Keep.refl _ _)).st; have h1 := hst.most.1; have h2 := hst.asc.2; rw [← HSL.out]; simp [slipsOf]; omega)
  clear hap
  go_upto_region 21 with fail
  refine wp_region_held_drew (S := fun w' => Keep X wc w') (by kernel_rfl) ((KD.out.mono (by simp))) (fun hHeld => ?_); refine gW 0 ?_; (try simp only [sq]); refine gW 1 ?_; (try simp only [sq]); refine gW 2 ?_; (try simp only [sq]); refine gV 3 (v := ?_) ?_ ?_; rotate_left
  · (intro w' hSw; obtain ⟨c0, c1, c2⟩ := HC.out w' hSw; go_simp) <;> (with_reducible rfl)
  (try simp only [sq]); refine gW 4 ?_; (try simp only [sq]); refine gW 5 ?_; (try simp only [sq]); refine gW 6 ?_; (try simp only [sq]); refine gV 7 (v := ?_) ?_ ?_; rotate_left
  · (intro w' hSw; obtain ⟨c0, c1, c2⟩ := HC.out w' hSw; go_simp) <;> (with_reducible rfl)
  (try simp only [sq]); refine gR 8 rfl (fun K hK => ?_); go_simp; obtain ⟨Y1, hst1⟩ := (HSK.out _ KD.out).st; refine (state_slips _ hst1).mono ?_; rintro e wq ⟨vs, rfl, hos, kq⟩; rw [HSL.out] at hos; obtain ⟨av, cv, rfl, hcs⟩ := hos.shape; have KQ := Lib.hid (KD.out.trans kq); have HOS := Lib.hid hos; clear kq hst1 hos hcs; have hKq := KQ.out.mono (S' := X) (by simp); (try go_simp); refine hK.out _ _ (hKq) (fun hHeld => ?_); clear hK K; (try simp only [sq]); refine gR 9 rfl (fun K hK => ?_); go_simp; refine ((HSK.out _ KQ.out).onL (fun C hl hg => diary_Rewrite l d n n false SL _ K1 K2 wq hl hg (HOS.out.sl Slp.cells_length) HGD.out HSLL.out HOF.out HRW.out)).mono ?_; rintro e w5 ⟨rfl, X5, s5, g5⟩; have H5 := Lib.hid (And.intro s5 (Grow.pre KQ.out g5)); have hK5 := (KQ.out.mono (S' := X) (by simp)).trans g5.1; clear s5 g5; (try go_simp); refine hK.out _ _ (hK5) (fun hHeld => ?_); clear hK K; (try simp only [sq]); refine gW 10 ?_; (try simp only [sq]); refine wpAnyH_done (by kernel_rfl) ?_ _
  have HF := Lib.hid (show Sk X5 w5 s d t r l bb B st.T st.R st.K st.nn st.su ∧ Grow S0 w X5 w5 from by
    rw [← HST.out]; exact ⟨H5.out.1, (H8.out.2.1.then KC.out).trans H5.out.2⟩)
  clear hK5 hHeld; go_wp2_with fail; go_ret2; exact ⟨s, t, r, l, bb, X5, rfl, HF.out.1, HF.out.2, H8.out.2.2.2⟩
end Go.Proofs.YtkghgaopcgcheaaGreatDoor
namespace Go.Proofs.YtkghgaopcgcheaaGreatDoor
open Go.RowKit
def padZ (n : Nat) : Nat := (119 - n % 64) % 64
def padN (n : Nat) (k : Nat) : List UInt8 := (List.range k).map fun j => u8of (((n : Nat) : Int) * 8 % 18446744073709551616 / 2 ^ (8 * (7 - j)))
def padM (l : List UInt8) : List UInt8 := l ++ 128 :: (List.replicate (padZ l.length) 0 ++ padN l.length 8)
theorem ref02_Padded (l : List UInt8) (w : World) (hl : l.length ≤ 1000000) : Calls Tryz.prog 95 #[.string (S l)] w fun e w' => e = .returned (.string (S (padM l))) ∧ Keep [] w w' := by
  have hsz := S_size l; obtain ⟨z, hz⟩ : ∃ z, padZ l.length = z := ⟨_, rfl⟩
  have hzz : z < 64 ∧ (l.length + 1 + z) % 64 = 56 := by rw [← hz]; unfold padZ; omega
  obtain ⟨C, hC⟩ : ∃ C, padM l = C := ⟨_, rfl⟩
  rw [hC]; have HC := Lib.hid (And.intro hC hz); have e1 : IntKind.u64.wrap (l.length : Int) = (l.length : Nat) := by simp [IntKind.wrap, IntKind.signed, IntKind.bits]; omega
  have e2 : IntKind.u64.wrap ((l.length : Int) * 8) = (l.length : Int) * 8 % 18446744073709551616 := by simp [IntKind.wrap, IntKind.signed, IntKind.bits]
  have hcv := conv_run w (S l); have HB := Lib.hid (And.intro (Byt.conv w l (by unfold maxLen; omega) (Nat.le_refl _)) (conv_keep w 5 (S l))); rw [hsz] at hcv; generalize Lib.bytesWorld w 5 (S l) = w1 at hcv HB; clear hC hz; go_enter Tryz.func95, Tryz.ntmps95
  go_wp2_with (first
    | (with_reducible (show wpList _ _ _ ((⟨some 13, .call _, _, _, _, none⟩ : Oper) :: _) _ _)
       refine wpList_appB rfl _ _ rfl w w1 HB.out.2 (by rfl) HB.out.1 128 _ (by rfl) _ (by rfl) (by omega) ?_; intro v2 w2 hb2 hk2; try simp only [sq])
    | fail)
  have HB2 := Lib.hid (And.intro hb2 hk2); clear hb2 hk2 HB hcv
  go_loopg [4] z (fun g v wr => ∃ k : Nat, k ≤ z ∧ g = z - k ∧ Hid (Byt w.heap.size wr v (l ++ 128 :: List.replicate k 0)) ∧ Hid (Keep [] w wr))
  case atStart => exact ⟨0, Nat.zero_le _, rfl, Lib.hid HB2.out.1, Lib.hid HB2.out.2⟩
  case round =>
    obtain ⟨k, hk, hg, HL, HK⟩ := hrel; obtain ⟨g, cap, rfl, _, _, _, _⟩ := HL.out.at; have hln : (l ++ 128 :: List.replicate k 0).length = l.length + 1 + k := by simp; omega
    have HL2 := HL; rw [hln] at HL2 ⊢; obtain ⟨m, hm⟩ : ∃ m, l.length + 1 + k = m := ⟨_, rfl⟩
    rw [hm] at HL2 ⊢; clear HL; by_cases hlt : k < z
    · have f1 : ((m : Int) % 64 != 56) = true := by simp; omega
      clear hln
      go_wp2_with (first
        | (with_reducible (show wpList _ _ _ ((⟨some 20, .call _, _, _, _, none⟩ : Oper) :: _) _ _)
           refine wpList_appB rfl _ _ rfl w wr HK.out (by rfl) HL2.out 0 _ (by rfl) _ (by rfl) (by simp; omega) ?_; intro v3 w3 hb3 hk3; try simp only [sq])
        | fail)
      have HB3 := Lib.hid (show Byt w.heap.size w3 v3 (l ++ 128 :: List.replicate (k + 1) 0) ∧ Keep [] w w3 from ⟨by
        rw [List.replicate_succ', ← List.cons_append, ← List.append_assoc]; exact hb3, hk3⟩)
      clear hb3 hk3
      go_roundg (z - (k + 1))
      case measure => omega
      case rel => exact ⟨k + 1, by omega, rfl, Lib.hid HB3.out.1, Lib.hid HB3.out.2⟩
    · obtain rfl : k = z := by omega
      have f1 : ((m : Int) % 64 != 56) = false := by simp; omega
      clear hln; go_wp2_with fail
      go_loopg [4, 5] 8 (fun g v i wr => ∃ j : Nat, j ≤ 8 ∧ i = .int .i64 (7 - (j : Int)) ∧ g = 8 - j ∧ Hid (Byt w.heap.size wr v (l ++ 128 :: (List.replicate k 0 ++ padN l.length j))) ∧ Hid (Keep [] w wr))
      case atStart => exact ⟨0, by omega, rfl, rfl, Lib.hid (by rw [show padN l.length 0 = [] from rfl, List.append_nil]; exact HL2.out), HK⟩
      case round =>
        clear HL2 HK f1; obtain ⟨j, hj, rfl, hgj, HL, HK⟩ := hrel; by_cases hlj : j < 8
        · obtain ⟨s, hs⟩ : ∃ s : Nat, 7 - j = s := ⟨_, rfl⟩
          have e7 : (7 : Int) - (j : Int) = (s : Nat) := by omega
          rw [e7]; have f2 : decide ((0 : Int) ≤ (s : Nat)) = true := decide_eq_true (by omega); have wm := IntWalk.i64_in (8 * (s : Int)) (by omega); have p0 : (0 : Int) ≤ 8 * (s : Int) := by omega
          have p1 : (8 * (s : Int)).toNat = 8 * s := by omega
          have p2 : 8 * (s : Int) ≤ 64 := by omega
          have wd : IntKind.i64.wrap ((s : Int) - 1) = 7 - ((j + 1 : Nat) : Int) := by rw [IntWalk.i64_in _ (by omega)]; omega
          have hw := u8of_wrap ((l.length : Int) * 8 % 18446744073709551616 / 2 ^ (8 * s))
          have HPN := Lib.hid (show padN l.length (j + 1) = padN l.length j ++ [u8of ((l.length : Int) * 8 % 18446744073709551616 / 2 ^ (8 * s))] by
            unfold padN; rw [List.range_succ, List.map_append, List.map_singleton, hs])
          obtain ⟨c, hc⟩ : ∃ c, u8of ((l.length : Int) * 8 % 18446744073709551616 / 2 ^ (8 * s)) = c := ⟨_, rfl⟩
          rw [hc] at hw HPN; clear hc
          go_wp2_with (first
            | (with_reducible (show wpList _ _ _ ((⟨some 32, .call _, _, _, _, none⟩ : Oper) :: _) _ _)
               refine wpList_appB rfl _ _ rfl w wr HK.out (by rfl) HL.out c _ (by rfl) _ (by rfl) (by simp [padN]; omega) ?_; intro v3 w3 hb3 hk3; try simp only [sq])
            | fail)
          have HB3 := Lib.hid (show Byt w.heap.size w3 v3 (l ++ 128 :: (List.replicate k 0 ++ padN l.length (j + 1))) ∧ Keep [] w w3 from ⟨by
            rw [HPN.out, ← List.append_assoc (List.replicate k 0), ← List.cons_append, ← List.append_assoc]; exact hb3, hk3⟩)
          clear hb3 hk3; go_wp2_with fail
          go_roundg (8 - (j + 1))
          case measure => omega
          case rel => exact ⟨j + 1, by omega, rfl, rfl, Lib.hid HB3.out.1, Lib.hid HB3.out.2⟩
        · obtain rfl : j = 8 := by omega
          have hb := HL.out.back; rw [show l ++ 128 :: (List.replicate k 0 ++ padN l.length 8) = C by rw [← HC.out.1, padM, HC.out.2]] at hb; have f2 : decide ((0 : Int) ≤ 7 - ((8 : Nat) : Int)) = false := rfl; go_wp2_with fail; go_ret; exact ⟨rfl, HK.out⟩
theorem putAt_eq4 {α : Type} : ∀ (vs xs : List α) (o : Nat), o + vs.length ≤ xs.length → putAt xs o vs = xs.take o ++ (vs ++ xs.drop (o + vs.length))
  | [], xs, o, _ => by simp [putAt]
  | v :: r, xs, o, h => by
    simp only [List.length_cons] at h; rw [putAt, putAt_eq4 r (xs.set o v) (o + 1) (by simp; omega), List.take_add_one, List.getElem?_set_self (by omega), List.take_set_of_le (Nat.le_refl _), List.drop_set_of_lt (by omega)]; simp [Nat.add_assoc, Nat.add_comm 1]
theorem putAt_all4 {α : Type} (vs xs : List α) (h : vs.length = xs.length) : putAt xs 0 vs = vs := by
  rw [putAt_eq4 vs xs 0 (by omega), h]; simp
def blkFold (p : List UInt8) (k : Nat) : List Int := (List.range k).foldl (fun s i => shaTurn s ((p.drop (64 * i)).take 64)) shaStart
theorem blkFold_succ (p : List UInt8) (k : Nat) : blkFold p (k + 1) = shaTurn (blkFold p k) ((p.drop (64 * k)).take 64) := by simp [blkFold, List.range_succ, List.foldl_append]
theorem blkFold_length (p : List UInt8) : ∀ k, (blkFold p k).length = 8
  | 0 => rfl
  | k + 1 => by
    rw [blkFold_succ, shaTurn, shaAdd_length (blkFold_length p k) rfl]
def ref02M (l : List UInt8) : Dig := shaDig (blkFold (padM l) ((padM l).length / 64))
theorem padM_length (l : List UInt8) : (padM l).length % 64 = 0 := by
  have h1 : (padN l.length 8).length = 8 := by simp [padN]
  have h2 : (padM l).length = l.length + 1 + padZ l.length + 8 := by simp [padM, h1]; omega
  rw [h2]; unfold padZ; omega
theorem padM_le (l : List UInt8) : (padM l).length ≤ l.length + 73 := by
  have h1 : (padN l.length 8).length = 8 := by simp [padN]
  have h2 : (padM l).length = l.length + 1 + padZ l.length + 8 := by simp [padM, h1]; omega
  rw [h2]; unfold padZ; omega
theorem ref02_Of (l : List UInt8) (w : World) (hl : l.length ≤ 1000000) : Calls Tryz.prog 48 #[.string (S l)] w fun e w' => e = .returned (.agg (digC (ref02M l)).toArray) ∧ Keep [] w w' := by
  obtain ⟨C, hC⟩ : ∃ C, digC (ref02M l) = C := ⟨_, rfl⟩
  rw [hC]; have HC := Lib.hid hC; obtain ⟨SC, hSC⟩ : ∃ K, u32C shaStart = K := ⟨_, rfl⟩
  have HS1 := Lib.hid (show u32C shaStart = SC ∧ SC.length = 8 ∧ ∀ v ∈ SC, v.oneCell' = true from ⟨hSC, by rw [← hSC]; rfl, by rw [← hSC]; exact u32C_one _⟩); clear hC hSC; go_enter Tryz.func48, Tryz.ntmps48
  go_wp2_with (first | ((with_reducible refine gB 8 ?_); refine wpList_build_is rfl 162 _ rfl SC (by rw [← HS1.out.1]; kernel_rfl) ?_; simp only [sq]) | ((with_reducible refine gS 3 8 ?_); refine wpList_store_newN rfl 162 (.tmp 3) (.tmp 8) rfl _ SC (w.heap.size + 1) (by simp) (by rfl) (by rfl) (by rw [HS1.out.2.1]; kernel_rfl) (by rw [HS1.out.2.1]; kernel_rfl) HS1.out.2.2 ?_) | fail); change Calls _ _ _ ((w.alloc (.cells (bytC (List.replicate 32 0)).toArray 24)).alloc (.cells SC.toArray 162)) _; obtain ⟨n, hn⟩ : ∃ n, w.heap.size = n := ⟨_, rfl⟩
  have k1 := (Keep.refl [] w).alloc (.cells (bytC (List.replicate 32 0)).toArray 24); have b1 := Blk.new w (bytC (List.replicate 32 0)) 24; have z1 := alloc_size w (.cells (bytC (List.replicate 32 0)).toArray 24); generalize w.alloc (.cells (bytC (List.replicate 32 0)).toArray 24) = w1 at k1 b1 z1 ⊢; have k2 := k1.alloc (.cells SC.toArray 162); have b12 := b1.alloc (.cells SC.toArray 162); have b2 := Blk.new w1 SC 162; have z2 := alloc_size w1 (.cells SC.toArray 162); generalize w1.alloc (.cells SC.toArray 162) = w2 at k2 b12 b2 z2 ⊢; rw [hn] at b12 z1; rw [z1] at b2 z2; rw [hn]; have HB2 := Lib.hid (And.intro k2 (And.intro b12 (And.intro b2 z2))); have HN := Lib.hid hn; clear k1 k2 b1 b12 b2 z1 z2 hn; refine (ref02_Padded l w2 hl).mono ?_; rintro e w3 ⟨rfl, k3⟩; obtain ⟨p, hp⟩ : ∃ p, padM l = p := ⟨_, rfl⟩
  have hpl : p.length % 64 = 0 := by rw [← hp]; exact padM_length l
  have hpb : p.length ≤ 1000073 := by rw [← hp]; exact Nat.le_trans (padM_le l) (by omega)
  rw [hp]; obtain ⟨m, hm⟩ : ∃ m, p.length = 64 * m := ⟨p.length / 64, by omega⟩
  have HP := Lib.hid (And.intro hp hm); have hsz := S_size p; have HB3 := Lib.hid (show Keep [] w w3 ∧ Blk w3 n 24 (bytC (List.replicate 32 0)) ∧ Blk w3 (n + 1) 162 SC ∧ n + 1 + 1 ≤ w3.heap.size from ⟨HB2.out.1.trans k3, k3.blk HB2.out.2.1 (by simp), k3.blk HB2.out.2.2.1 (by simp), by have := k3.size; have := HB2.out.2.2.2; omega⟩); clear hp k3 HB2; go_wp2_with fail
  go_loopg [5] m (fun g i wr => ∃ k : Nat, i = .int .i64 ((64 * k : Nat) : Nat) ∧ k ≤ m ∧ g = m - k ∧ Hid (Blk wr (n + 1) 162 (u32C (blkFold p k))) ∧ Hid (Keep [n + 1] w3 wr))
  case atStart => exact ⟨0, rfl, Nat.zero_le _, rfl, Lib.hid (by rw [show u32C (blkFold p 0) = SC from HS1.out.1]; exact HB3.out.2.2.1), Lib.hid (Keep.refl _ _)⟩
  case round =>
    obtain ⟨k, rfl, hk, hg, HL, HK⟩ := hrel; obtain ⟨t, ht⟩ : ∃ t, 64 * k = t := ⟨_, rfl⟩
    rw [ht]; have wt := IntWalk.i64_in ((t : Int) + 64) (by omega); by_cases hlt : k < m
    · have f1 : decide ((t : Int) + 64 ≤ (p.length : Nat)) = true := decide_eq_true (by omega); have t0 : (0 : Int) ≤ (t : Int) := by omega
      have t1 : (t : Int) ≤ (t : Int) + 64 := by omega
      have t2 : (t : Int) + 64 ≤ (p.length : Int) := by omega
      have t3 : ((t : Int) + 64).toNat = t + 64 := by omega
      obtain ⟨q, hq⟩ : ∃ q, (p.drop (64 * k)).take 64 = q := ⟨_, rfl⟩
      have hql : q.length = 64 := by rw [← hq, List.length_take, List.length_drop]; omega
      have hex : (S p).extract t (t + 64) = S q := by
        rw [S_extract, ← hq, ht, List.drop_take, Nat.add_sub_cancel_left]
      obtain ⟨BC, hBC⟩ : ∃ b, u32C (blkFold p k) = b := ⟨_, rfl⟩
      obtain ⟨NC, hNC⟩ : ∃ b, u32C (blkFold p (k + 1)) = b := ⟨_, rfl⟩
      have hb8 := blkFold_length p k; have hbk := fun w' => ref02_block (blkFold p k) q w' hb8 hql
      rw [← hq, ← blkFold_succ, hq, hBC, hNC] at hbk; have HBK := Lib.hid hbk; have HNC := Lib.hid (show NC.length = 8 ∧ ∀ v ∈ NC, v.oneCell' = true from ⟨by rw [← hNC, u32C_length, blkFold_length], by rw [← hNC]; exact u32C_one _⟩); have hL := HL.out; rw [hBC] at hL; have HBC := Lib.hid (show World.rangeAt wr.drew (n + 1) 0 BC ∧ BC.length = 8 ∧ Blk wr.drew (n + 1) 162 BC from ⟨Blk.rng (show Blk wr.drew _ _ _ from hL), by rw [← hBC, u32C_length, hb8], hL⟩); have HKd := Lib.hid (show Keep [n + 1] w3 wr.drew from HK.out.drew)
      have HTH := Lib.hid (fun (wq : World) (kq : Keep [] wr.drew wq) => (show wq.there (n + 1) 0 8 ∧ Blk (wq.setCells (n + 1) 0 NC) (n + 1) 162 NC from ⟨(kq.blk HBC.out.2.2 (by simp)).thr 0 8 (by rw [HBC.out.2.1]; decide), by
        have := Blk.overC NC BC 0 wq (kq.blk HBC.out.2.2 (by simp)); rw [putAt_all4 NC BC (by rw [HNC.out.1, HBC.out.2.1])] at this; exact this⟩))
      have HNN := Lib.hid (And.intro hNC hBC); have HT := Lib.hid ht; clear hbk hBC hNC hb8 hL hq hql ht HL; go_wp2_with fail
      -- REGION6
      refine wp_region_held_drew (S := fun _ => True) (by kernel_rfl) (trivial) (fun hHeld => ?_); refine gW 1 ?_; (try simp only [sq]); refine gW 2 ?_; (try simp only [sq]); refine gW 3 ?_; (try simp only [sq]); refine gW 4 ?_; (try simp only [sq]); refine gW 5 ?_; (try simp only [sq]); refine gR 0 rfl (fun K hK => ?_); rw [if_pos (by rfl)]; refine wp_load_mid 162 (.tmp 3) rfl (n + 1) 0 (by rfl) BC _ HBC.out.1 Tryz.underlying162 rfl (by rw [HBC.out.2.1]; kernel_rfl) ?_; refine hK.out _ _ (trivial) (fun hHeld => ?_); clear hK K; (try simp only [sq]); refine gR 6 rfl (fun K hK => ?_); go_simp; refine (HBK.out _).mono ?_; rintro e wq ⟨rfl, kq⟩; have HQ := Lib.hid (And.intro (HKd.out.trans' kq (by simp)) (HTH.out _ kq)); clear kq; (try go_simp); refine hK.out _ _ (trivial) (fun hHeld => ?_); clear hK K; (try simp only [sq]); refine gR 7 rfl (fun K hK => ?_); rw [if_pos (by rfl)]; refine wp_store_mid 162 (.tmp 3) (.tmp 24) rfl (n + 1) 0 NC.toArray (by rfl) (by rfl) (by simp only [List.size_toArray, HNC.out.1]; exact HQ.out.2.1) (by simp only [List.size_toArray, HNC.out.1]; kernel_rfl) (all_oneCell_toArray HNC.out.2) ?_; refine hK.out _ _ (trivial) (fun hHeld => ?_); clear hK K; (try simp only [sq]); refine wpAnyH_done (by kernel_rfl) ?_ _
      -- END6
      have HW := Lib.hid (show Blk (wq.setCells (n + 1) 0 NC) (n + 1) 162 (u32C (blkFold p (k + 1))) ∧ Keep [n + 1] w3 (wq.setCells (n + 1) 0 NC) from ⟨by rw [HNN.out.1]; exact HQ.out.2.2, Keep.cellsTo (n + 1) (fun _ => by simp) NC 0 wq HQ.out.1⟩); go_wp2_with fail
      go_roundg (m - (k + 1))
      case measure => omega
      case rel => exact ⟨k + 1, by rw [show 64 * (k + 1) = t + 64 by have := HT.out; omega]; rfl, by omega, rfl, Lib.hid HW.out.1, Lib.hid HW.out.2⟩
    · obtain rfl : k = m := by omega
      have f1 : decide ((t : Int) + 64 ≤ 64 * (k : Int)) = false := decide_eq_false (by omega); obtain ⟨st, hst⟩ : ∃ st, blkFold p k = st := ⟨_, rfl⟩
      have HST := Lib.hid (show Blk wr (n + 1) 162 (u32C st) ∧ st.length = 8 ∧ digC (shaDig st) = C from ⟨by rw [← hst]; exact HL.out, by rw [← hst, blkFold_length], by
        rw [← HC.out, ref02M, HP.out.1, HP.out.2, Nat.mul_div_cancel_left _ (by omega), hst]⟩)
      obtain ⟨ZC, hZC⟩ : ∃ z, bytC (List.replicate 32 0) = z := ⟨_, rfl⟩
      have HZC := Lib.hid (show bytC (List.replicate 32 0) = ZC ∧ ZC.length = 32 ∧ ∀ v ∈ ZC, v.oneCell' = true from ⟨hZC, by rw [← hZC]; simp [bytC_length], by rw [← hZC]; exact bytC_one _⟩); obtain ⟨nv, hnv⟩ : ∃ nv, wr.heap.size = nv := ⟨_, rfl⟩
      have hge : n + 1 + 1 ≤ nv := by have := HK.out.size; have := HB3.out.2.2.2; omega
      have HNV := Lib.hid hnv; clear hst hZC HL ht hnv
      go_wp2_with (first | ((with_reducible refine gB 25 ?_); refine wpList_build_is rfl 24 _ rfl ZC (by rw [← HZC.out.1]; kernel_rfl) ?_; simp only [sq]) | ((with_reducible refine gS 6 25 ?_); refine wpList_store_new rfl 24 (.tmp 6) (.tmp 25) rfl _ ZC (by rfl) (by rfl) (by rw [HZC.out.2.1]; kernel_rfl) (by rw [HZC.out.2.1]; kernel_rfl) HZC.out.2.2 ?_) | fail); have k5 := (Keep.refl [] wr).alloc (.cells ZC.toArray 24); have b5 := Blk.new wr ZC 24; rw [HNV.out] at b5 ⊢; generalize wr.alloc (.cells ZC.toArray 24) = w5 at k5 b5 ⊢; have HW5 := Lib.hid (show Blk w5 nv 24 (bytC (sumRow st 0)) ∧ Blk w5 (n + 1) 162 (u32C st) ∧ Blk w5 n 24 (bytC (List.replicate 32 0)) ∧ Keep [n + 1] w3 w5 from ⟨by rw [show sumRow st 0 = List.replicate 32 0 by simp [sumRow], HZC.out.1]; exact b5, k5.blk HST.out.1 (by simp), k5.blk (HK.out.blk HB3.out.2.1 (by simp)) (by simp), HK.out.trans (k5.mono (by simp))⟩); clear k5 b5
      go_loopg [7] 32 (fun g i wq => ∃ j : Nat, i = .int .i64 (j : Nat) ∧ j ≤ 32 ∧ g = 32 - j ∧ Hid (Blk wq nv 24 (bytC (sumRow st j))) ∧ Hid (Keep [nv] w5 wq))
      case atStart => exact ⟨0, rfl, by omega, rfl, Lib.hid HW5.out.1, Lib.hid (Keep.refl _ _)⟩
      case round =>
        obtain ⟨j, rfl, hj, hgj, HL, HKj⟩ := hrel; by_cases hlj : j < 32
        · have f2 : decide ((j : Int) < 32) = true := decide_eq_true (by omega); have wj := IntWalk.i64_in ((j : Int) + 1) (by omega); obtain ⟨a, ha⟩ : ∃ a, j / 4 = a := ⟨_, rfl⟩
          obtain ⟨b, hb⟩ : ∃ b, j % 4 = b := ⟨_, rfl⟩
          have hjab : 4 * a + b = j := by omega
          have d1 : (j : Int) / 4 = (a : Nat) := by omega
          have d2 : (j : Int) % 4 = (b : Nat) := by omega
          have w4 := IntWalk.i64_in (8 * (b : Int)) (by omega); obtain ⟨s, hs⟩ : ∃ s, 3 - b = s := ⟨_, rfl⟩
          have w6 : IntKind.i64.wrap (24 - 8 * (b : Int)) = 8 * (s : Int) := by rw [IntWalk.i64_in _ (by omega)]; omega
          have p0 : (0 : Int) ≤ 8 * (s : Int) := by omega
          have p1 : (8 * (s : Int)).toNat = 8 * s := by omega
          have p2 : 8 * (s : Int) ≤ 32 := by omega
          have q0 : (0 : Int) ≤ (a : Int) := by omega
          have q1 : (a : Int) < 8 := by omega
          have q2 : (0 : Int) ≤ (j : Int) := by omega
          have q3 : (j : Int) < 32 := by omega
          obtain ⟨x, hx⟩ : ∃ x, st.getD a 0 = x := ⟨_, rfl⟩
          have ca : wr.cell? ⟨n + 1, a, none⟩ = some (.int .u32 x) := by
            refine (HKj.out.blk HW5.out.2.1 (by simp; omega)).get (u32C_get ?_); rw [← hx, List.getD_eq_getElem?_getD, List.getElem?_eq_getElem (by have := HST.out.2.1; omega)]; rfl
          have hw := u8of_wrap (x / 2 ^ (8 * s)); have hln := sumRow_length st j hj; obtain ⟨c, hc⟩ : ∃ c, (sumRow st j)[j]? = some c := ⟨_, List.getElem?_eq_getElem (by omega)⟩
          have hcl := HL.out.get (bytC_get hc); have hfr := HL.out.frozen j; have hst := HL.out.set j (.int .u8 ((u8of (x / 2 ^ (8 * s))).toNat : Nat)); have hss := sumRow_set st a b (by omega) (by omega); rw [hx, hs, hjab] at hss; rw [bytC_set, hss] at hst; have HSN := Lib.hid hst; clear hst hss hc hln hs hx ha hb; go_wp2_with fail
          go_roundg (32 - (j + 1))
          case measure => omega
          case rel => exact ⟨j + 1, rfl, by omega, rfl, HSN, Lib.hid (HKj.out.setCell _ _ (by simp))⟩
        · obtain rfl : j = 32 := by omega
          have hb := HL.out; rw [sumRow_done, HST.out.2.2] at hb; have hlen : C.length = 32 := by rw [← HST.out.2.2, digC_length]
          have hone : ∀ v ∈ C, v.oneCell' = true := by rw [← HST.out.2.2]; exact digC_one _
          have hi : (Tryz.prog.info? 24).map (·.size) = some C.length := by rw [hlen]; kernel_rfl
          have HR := Lib.hid hb.rng; have HT := Lib.hid ((HKj.out.blk HW5.out.2.2.1 (by simp; omega)).thr 0 32 (by simp [bytC_length])); have HI := Lib.hid (And.intro hi (And.intro hlen hone)); have HKE := Lib.hid (show Keep [] w wr from (HB3.out.1.trans' HW5.out.2.2.2 (fun x hx hlt => by simp at hx; have := HN.out; omega)).trans' HKj.out (fun x hx hlt => by simp at hx; have := HN.out; omega)); clear hb hi hlen hone HL
          go_wp2_with (first
            | (with_reducible (show wpList _ _ _ ((⟨_, .load _ _, _, _, _, none⟩ : Oper) :: _) _ _)
               refine wpList_load_mid rfl 24 (.tmp 6) rfl nv 0 (by rfl) C _ HR.out Tryz.underlying24 rfl HI.out.1 ?_; simp only [sq])
            | (with_reducible (show wpList _ _ _ ((⟨none, .store _ _ _, _, _, _, none⟩ : Oper) :: _) _ _)
               refine wpList_store_mid rfl 24 (.tmp 2) (.tmp 42) rfl n 0 C.toArray (by rfl) (by rfl) (by simp only [List.size_toArray, HI.out.2.1]; exact HT.out) (by simp only [List.size_toArray]; exact HI.out.1) (all_oneCell_toArray HI.out.2.2) ?_)
            | fail)
          have hload := run_loadVar_mid (P := Tryz.prog) (wr.setCells n 0 C) n 0 24 C _ (World.rangeAt_setCells_same wr n 0 C (by rw [HI.out.2.1]; exact HT.out)) Tryz.underlying24 rfl HI.out.1; refine bodyPost_ret (v := .agg C.toArray) (by simp [Act.put, results, Tryz.results48, asAddr, hload]) rfl ⟨rfl, ?_⟩; exact Keep.cellsTo _ (fun hh => by have := HN.out; omega) _ _ _ HKE.out
theorem ref04_Of (l : List UInt8) (w : World) (hl : l.length ≤ 1000000) : Calls Tryz.prog 13 #[.string (S l)] w fun e w' => e = .returned (.agg (digC (ref02M l)).toArray) ∧ Keep [] w w' := by
  obtain ⟨C, hC⟩ : ∃ C, digC (ref02M l) = C := ⟨_, rfl⟩
  have HH := Lib.hid (fun w => ref02_Of l w hl); have HC := Lib.hid (show C.length = 32 ∧ ∀ v ∈ C, v.oneCell' = true by rw [← hC]; exact ⟨digC_length _, digC_one _⟩); rw [hC] at HH ⊢; clear hC; have hkA := (Keep.refl [] w).alloc (.cells (bytC (List.replicate 32 0)).toArray 25); have hbA := Blk.new w (bytC (List.replicate 32 0)) 25; go_enter Tryz.func13, Tryz.ntmps13; go_wp2_with fail; change Calls _ _ _ (w.alloc (.cells (bytC (List.replicate 32 0)).toArray 25)) _; generalize w.alloc (.cells (bytC (List.replicate 32 0)).toArray 25) = wA at hkA hbA ⊢; have HB := Lib.hid (And.intro hkA hbA); clear hkA hbA; refine (HH.out wA).mono ?_; rintro e w2 ⟨rfl, k2⟩; have HT := Lib.hid ((k2.blk HB.out.2 (by simp)).thr 0 32 (by simp [bytC_length])); have HK := Lib.hid (HB.out.1.trans k2); clear k2 HB
  go_wp2_with (first
    | (with_reducible (show wpList _ _ _ ((⟨none, .store _ _ _, _, _, _, none⟩ : Oper) :: _) _ _)
       refine wpList_store_mid rfl 25 (.tmp 2) (.tmp 4) rfl w.heap.size 0 C.toArray (by rfl) (by rfl) (by simp only [List.size_toArray, HC.out.1]; exact HT.out) (by simp only [List.size_toArray, HC.out.1]; kernel_rfl) (all_oneCell_toArray HC.out.2) ?_)
    | fail)
  have hload := run_loadVar_mid (P := Tryz.prog) (w2.setCells w.heap.size 0 C) w.heap.size 0 25 C _ (World.rangeAt_setCells_same w2 w.heap.size 0 C (by rw [HC.out.1]; exact HT.out)) Tryz.underlying25 rfl (by rw [HC.out.1]; kernel_rfl); refine bodyPost_ret (v := .agg C.toArray) (by simp [Act.put, results, Tryz.results13, asAddr, hload]) rfl ⟨rfl, ?_⟩; exact Keep.cellsTo _ (fun hh => absurd hh (Nat.lt_irrefl _)) _ _ _ HK.out
end Go.Proofs.YtkghgaopcgcheaaGreatDoor
namespace Go.Proofs.YtkghgaopcgcheaaGreatDoor
open Go.RowKit Go.Maps
theorem Grow.over {X X1 X2 : List Nat} {w w1 w2 : World} {p : Nat} (g1 : Grow X w X1 w1) (hp : w.heap.size ≤ p) (g2 : Grow (p :: X1) w1 (p :: X2) w2) : Grow X w X2 w2 := by
  refine ⟨g1.1.trans' g2.1 (fun x hx hl => ?_), fun x hx => ?_⟩
  · rcases List.mem_cons.1 hx with rfl | hx
    · omega
    · rcases g1.2 x hx with e | e
      · exact e
      · omega
  · rcases g2.2 x (List.mem_cons_of_mem _ hx) with e | e
    · rcases List.mem_cons.1 e with rfl | e
      · exact .inr hp
      · exact g1.2 x e
    · exact .inr (Nat.le_trans g1.1.size e)
theorem put_sha (l : List UInt8) : shaSum (shaWrite shaNew l) = shaOf [l] := rfl
theorem put_sha0 : shaWrite shaNew [] = shaNew := by rfl
section
variable {X : List Nat} {s d t r l b : Nat} {B : Int}
theorem law_put (w : World) (st st' : Stk) (e' : Int) (hS : Sk X w s d t r l b B st.T st.R st.K st.nn st.su) (lb kind : List UInt8) (hkl : kind.length ≤ maxLen) (href : ref02M lb = shaOf [lb]) (hk : putP B lb kind st = some (st', e')) (hll : lb.length ≤ 1000000) :
    Calls Tryz.prog 15 #[.pointer (some ⟨s, 0, none⟩), .string (S lb), .string (S kind)] w fun e w' => e = .returned (.int .i64 e') ∧ ∃ X', Sk X' w' s d t r l b B st'.T st'.R st'.K st'.nn st'.su ∧ Grow X w X' w' := by
  unfold putP at hk
  split at hk
  case isFalse => cases hk
  case isTrue hc =>
  obtain ⟨hoff, hsz, _⟩ := hc; obtain ⟨K1, hcr, hk⟩ := Option.bind_eq_some_iff.1 hk; obtain ⟨K2, hap, hk⟩ := Option.bind_eq_some_iff.1 hk; have hapt := hS.apart; have hlt := hS.lt
  have HST := Lib.hid (show Calls Tryz.prog 52 #[.pointer (some ⟨b, 0, none⟩)] w fun e w' => ∃ p h X', e = .returned (.tuple #[.pointer (some ⟨p, 0, none⟩), .int .i64 0]) ∧ Sk X' w' s d t r l b B st.T st.R K1 st.nn st.su ∧ Pt w' p d tmpN h shaNew false ∧ Grow X w X' w' ∧ p ∉ X' ∧ h ∉ X' ∧ w.heap.size ≤ p ∧ w.heap.size ≤ h from by
    obtain ⟨C, hpk, hgp, hbC, hCX, hre⟩ := hS.disk; refine (larder_Start b d st.K K1 w hS.ld hpk hgp hbC hoff hsz hcr).mono ?_; rintro e w' ⟨p, h, S', rfl, pk', pt', g', hpS, hhS, hp0, hh0⟩; obtain ⟨X', q1, q2, q3, q4⟩ := hre [] S' w' K1 (by simp) pk' g'.1 (fun x hx => g'.2 x hx); refine ⟨p, h, X', rfl, q1, pt', ⟨q2, q3⟩, fun hm => ?_, fun hm => ?_, hp0, hh0⟩
    · rcases q4 p hm with e | e
      · have := hlt p e; omega
      · exact hpS e
    · rcases q4 h hm with e | e
      · have := hlt h e; omega
      · exact hhS e)
  have HLA := Lib.hid (stock_Larder hS); have HA := Lib.hid hapt; have HREF := Lib.hid (fun w' => ref04_Of lb w' hll); rw [href] at HREF; have HP := Lib.hid (And.intro hap hk); have HKL := Lib.hid hkl; have hsl := S_size lb; clear hS hoff hsz hcr hap hk hapt hlt href hkl; go_enter Tryz.func15, Tryz.ntmps15; go_wp2_with fail; refine HLA.out.mono ?_; rintro e we ⟨rfl, rfl⟩; go_wp2_with fail; refine HST.out.mono ?_; rintro e w1 ⟨p, h, X1, rfl, s1, pt1, g1, hp1, hh1, hp0, hh0⟩; have H1 := Lib.hid (show Sk X1 w1 s d t r l b B st.T st.R K1 st.nn st.su ∧ Pt w1 p d tmpN h shaNew false ∧ Grow X w X1 w1 ∧ p ∉ X1 ∧ h ∉ X1 ∧ w.heap.size ≤ p ∧ w.heap.size ≤ h from ⟨s1, pt1, g1, hp1, hh1, hp0, hh0⟩); clear s1 pt1 g1 hp1 hh1 hp0 hh0 HST HLA
  have HADD := Lib.hid (show Calls Tryz.prog 53 #[.pointer (some ⟨p, 0, none⟩), .string (S lb)] w1 fun e w' => e = .returned (.int .i64 0) ∧ ∃ X', Sk X' w' s d t r l b B st.T st.R K2 st.nn st.su ∧ Pt w' p d tmpN h (shaWrite shaNew lb) false ∧ Grow (h :: X1) w1 (h :: X') w' ∧ p ∉ X' ∧ h ∉ X' from by
    have hap := HP.out.1; by_cases hl0 : lb = []
    · rw [if_pos hl0] at hap; injection hap with hap
      subst hap hl0; rw [put_sha0]; refine (pot_Add_none w1 H1.out.2.1 (by decide) (by decide)).mono ?_; rintro e w' ⟨rfl, k⟩; exact ⟨rfl, X1, H1.out.1.keep0 k, H1.out.2.1.keep0 k, (Grow.of k).wid h, H1.out.2.2.2.1, H1.out.2.2.2.2.1⟩
    · rw [if_neg hl0] at hap; obtain ⟨C, hpk, hgp, hbC, hCX, hre⟩ := H1.out.1.disk; have hpC : p ∉ C := fun hm => H1.out.2.2.2.1 (hCX p hm)
      have hhC : h ∉ C := fun hm => H1.out.2.2.2.2.1 (hCX h hm)
      refine (pot_Add lb K1 K2 w1 H1.out.2.1 hpk hgp hpC hhC (by decide) (by show (0 : Int) + _ ≤ _; omega) hl0 hap).mono ?_; rintro e w' ⟨rfl, S', pk', pt', g', hpS, hhS⟩; have hss := HA.out; obtain ⟨X', q1, q2, q3, q4⟩ := sk_pot H1.out.1 H1.out.2.2.2.2.1 (fun e => by have := hss.2.2.1; have := H1.out.2.2.2.2.2.2; omega) (fun e => by have := hss.2.2.2; have := H1.out.2.2.2.2.2.2; omega) H1.out.2.1.ng.2 H1.out.2.1.sha.sh.1.lt hCX hre pk' g' hhS; refine ⟨rfl, X', q1, pt', q2, fun hm => ?_, q3⟩; rcases q4 p hm with e | e
      · exact H1.out.2.2.2.1 e
      · exact hpS e)
  go_wp2_with fail; refine HADD.out.mono ?_; rintro e w2 ⟨rfl, X2, s2, pt2, g2, hp2, hh2⟩; have H2 := Lib.hid (show Sk X2 w2 s d t r l b B st.T st.R K2 st.nn st.su ∧ Pt w2 p d tmpN h (shaWrite shaNew lb) false ∧ Grow X w X2 w2 ∧ p ∉ X2 ∧ h ∉ X2 from ⟨s2, pt2, H1.out.2.2.1.over H1.out.2.2.2.2.2.2 g2, hp2, hh2⟩); clear s2 pt2 g2 hp2 hh2 HADD; go_wp2_with fail; refine (HREF.out w2).mono ?_; rintro e w3 ⟨rfl, k3⟩; have K3 := Lib.hid k3; clear k3; have hsw : (shaWrite shaNew lb).size = lb.length := by rw [shaWrite_size]; show (0 : Int) + _ = _; omega
  have hkk := HP.out.2; rw [← hsw] at hkk
  have HKE := Lib.hid (stock_Keep w3 { st with K := K2 } st' e' (H2.out.1.keep0 K3.out) (H2.out.2.1.keep0 K3.out) H2.out.2.2.2.1 H2.out.2.2.2.2 (fun e => by have := HA.out.2.2.1; have := H1.out.2.2.2.2.2.1; omega) (fun e => by have := HA.out.2.2.2; have := H1.out.2.2.2.2.2.1; omega)
    (shaOf [lb]) _ rfl (put_sha lb) (by rw [hsw]; omega) kind HKL.out (lb.length % 2) (by omega) hkk)
  have hrem : ((lb.length : Nat) : Int).tmod 2 = ((lb.length % 2 : Nat) : Int) := by rw [Int.tmod_eq_emod_of_nonneg (by omega)]; omega
  clear hsw hkk; go_wp2_with fail; refine HKE.out.mono ?_; rintro e w4 ⟨rfl, X4, s4, g4⟩; have H4 := Lib.hid (And.intro s4 ((H2.out.2.2.1.then K3.out).over H1.out.2.2.2.2.2.1 g4)); clear s4 g4; go_wp2_with fail; go_ret; exact ⟨rfl, X4, H4.out⟩
end
end Go.Proofs.YtkghgaopcgcheaaGreatDoor
namespace Go.Proofs.YtkghgaopcgcheaaGreatDoor
open Go.RowKit Go.Maps
def dig7 : Dig := ⟨7 :: List.replicate 31 0, by decide⟩
def dig1 : Dig := ⟨1 :: List.replicate 31 0, by decide⟩
def tikA : Tik := ⟨[97], [120], true, dig7, [], 0, 9⟩
def bA : List UInt8 := [97, 98, 99, 100]
def bB : List UInt8 := [100, 101]
def bC : List UInt8 := [102, 103]
def put0 (l kind : List UInt8) (s : Stk) : Option Stk := (putP 5 l kind s).bind fun q => if q.2 = 0 then some q.1 else none
def note0 (x : Tik) (s : Stk) : Option Stk := if goodT x && goodS (notedS x) then chgP (notedS x) true s else none
def awakeS : Option Stk :=
  (openP 5 ⟨[], 1048576, false⟩).bind fun s0 => (note0 tikA s0).bind fun s1 => (put0 bA [116] s1).bind fun s2 => (put0 bB [117] s2).bind fun s3 => (put0 bC [] s3).bind fun s4 =>
    if s4.K.off = false ∧ s4.K.files.length ≤ 4000 ∧ s4.K.files.all (fun p => decide (p.2.2 = p.2.1.length)) = true then openP 5 s4.K else none
def jarB : Jar := ⟨shaOf [bB], [117], 2, 0⟩
def awakeB : Bool := match awakeS with
  | none => false
  | some s => decide (getT [97] [120] s.T = some tikA) && decide (s.R.length = 2) && decide ((s.R[0]?).map (·.size) = some 2) && decide (s.R[1]? = some jarB) && decide (sumL s.R = 4) && decide ((slipsOf s.T s.R).length = 3)
def slip1 : Slp := ⟨4, [], [], dig1, [], 3, 0⟩
set_option maxRecDepth 1000000 in
theorem awakeB_true : awakeB = true := by kernel_rfl
theorem rep1 : (rep [slip1]).1.length = 0 ∧ (rep [slip1]).2.length = 1 := by
  constructor <;> kernel_rfl
end Go.Proofs.YtkghgaopcgcheaaGreatDoor
