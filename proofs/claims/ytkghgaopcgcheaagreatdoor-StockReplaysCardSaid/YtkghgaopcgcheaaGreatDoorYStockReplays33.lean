/- Parts of the proof of StockReplays, in order. No conditions but those that each theorem states. -/
import Derived.Test.YtkghgaopcgcheaaGreatDoorYStockReplays0
import Derived.Deep.RegionHeld3
import Derived.Deep.Cut
import Derived.Deep.DeepCutAuto
import Derived.Deep.LoopGhost
import Derived.Deep.AppendLies
import Derived.Deep.RegionLaw
import Derived.Lib.ItoaNum
import Derived.Lib.SlTrimSet
import Derived.Lib.SlBytesConst
import Derived.Test.YtkghgaopcgcheaaGreatDoorYStockReplays29
import Derived.Test.YtkghgaopcgcheaaGreatDoorYStockReplays32
set_option maxRecDepth 100000
set_option maxHeartbeats 16000000
set_option linter.unusedSimpArgs false
set_option linter.unusedVariables false
namespace Go.Proofs.YtkghgaopcgcheaaGreatDoor
open Go.RowKit Go.Maps
theorem wp_b3' {o : Oper} {a : Act} {w : World} {K : Act → World → Prop} {Q : Exit → Act → World → Prop} {T : TypeId} {n0 n1 n2 : Nat} {v0 v1 v2 : Value} {cs : List Value} (HB : Hid (Tryz.prog.built T [(n0, v0), (n1, v1), (n2, v2)] = some cs.toArray)) (x0 x1 x2 : Operand)
    (ho : o.op = .build T #[(n0, x0), (n1, x1), (n2, x2)]) (h0 : a.eval x0 = v0) (h1 : a.eval x1 = v1) (h2 : a.eval x2 = v2) (h : K (a.put o.dst (.agg cs.toArray)) w) : o.wp Tryz.prog a w K Q := by
  have e : (#[(n0, x0), (n1, x1), (n2, x2)].map fun (i, x) => (i, a.eval x)).toList = [(n0, v0), (n1, v1), (n2, v2)] := by simp [h0, h1, h2]
  refine wp_build _ _ ho (by rw [e, HB.out]; rfl) ?_; rw [e, HB.out]; exact h
structure AwR (s0 s1 s2 s3 s4 s5 : Stk) : Prop where
  o0 : openP 5 ⟨[], 1048576, false⟩ = some s0
  gt : goodT tikA = true
  gs : goodS (notedS tikA) = true
  n1 : chgP (notedS tikA) true s0 = some s1
  p2 : putP 5 bA [116] s1 = some (s2, 0)
  p3 : putP 5 bB [117] s2 = some (s3, 0)
  p4 : putP 5 bC [] s3 = some (s4, 0)
  off : s4.K.off = false
  fl : s4.K.files.length ≤ 4000
  safe : ∀ p ∈ s4.K.files, p.2.2 = p.2.1.length
  o5 : openP 5 s4.K = some s5
  kn : getT [97] [120] s5.T = some tikA
  rl : s5.R.length = 2
  r0 : (s5.R[0]?).map (·.size) = some 2
  r1 : s5.R[1]? = some jarB
  tot : sumL s5.R = 4
  sl : (slipsOf s5.T s5.R).length = 3
theorem put0_of {l k : List UInt8} {s s' : Stk} (h : put0 l k s = some s') : putP 5 l k s = some (s', 0) := by
  unfold put0 at h; obtain ⟨⟨q, e⟩, h1, h2⟩ := Option.bind_eq_some_iff.1 h
  split at h2
  · rename_i he; injection h2 with h2
    simp only at he h2; rw [h1, he, h2]
  · cases h2
theorem awake_run : ∃ s0 s1 s2 s3 s4 s5, AwR s0 s1 s2 s3 s4 s5 := by
  have h := awakeB_true; unfold awakeB at h
  cases ha : awakeS with
  | none => rw [ha] at h; cases h
  | some s5 =>
    rw [ha] at h; simp only [Bool.and_eq_true, decide_eq_true_eq] at h; unfold awakeS at ha; obtain ⟨s0, h0, ha⟩ := Option.bind_eq_some_iff.1 ha; obtain ⟨s1, h1, ha⟩ := Option.bind_eq_some_iff.1 ha; obtain ⟨s2, h2, ha⟩ := Option.bind_eq_some_iff.1 ha; obtain ⟨s3, h3, ha⟩ := Option.bind_eq_some_iff.1 ha; obtain ⟨s4, h4, ha⟩ := Option.bind_eq_some_iff.1 ha
    split at ha
    case isFalse => cases ha
    case isTrue hc =>
    unfold note0 at h1
    split at h1
    case isFalse => cases h1
    case isTrue hg =>
    simp only [Bool.and_eq_true] at hg
    exact ⟨s0, s1, s2, s3, s4, s5, h0, hg.1, hg.2, h1, put0_of h2, put0_of h3, put0_of h4, hc.1, hc.2.1, fun p hp => by
      have := (List.all_eq_true.1 hc.2.2) p hp
      simpa using this, ha, h.1.1.1.1.1, h.1.1.1.1.2, h.1.1.1.2, h.1.1.2, h.1.2, h.2⟩
set_option maxRecDepth 1000000 in
theorem refA : ref02M bA = shaOf [bA] := Subtype.ext (by kernel_rfl)
set_option maxRecDepth 1000000 in
theorem refB : ref02M bB = shaOf [bB] := Subtype.ext (by kernel_rfl)
set_option maxRecDepth 1000000 in
theorem refC : ref02M bC = shaOf [bC] := Subtype.ext (by kernel_rfl)
theorem off_on {K : Dsk} (h : K.off = false) : ({ { K with off := true } with off := false } : Dsk) = K := by
  cases K; simp only at h; subst h; rfl
def Aw (w : World) (n4 : Nat) (X : List Nat) (w' : World) (TC : List Value) : Prop := Keep [] w w' ∧ (∀ x ∈ X, w.heap.size ≤ x) ∧ Blk w' n4 51 TC ∧ n4 ∉ X ∧ w.heap.size ≤ n4
theorem Aw.of {w w1 w2 : World} {n4 : Nat} {X X' : List Nat} {TC : List Value} (h : Aw w n4 X w1 TC) (g : Grow X w1 X' w2) : Aw w n4 X' w2 TC :=
  ⟨h.1.trans' g.1 (fun x hx hl => by have := h.2.1 x hx; omega), fun x hx => by
    rcases g.2 x hx with e | e
    · exact h.2.1 x e
    · have := h.1.size; omega, g.1.blk h.2.2.1 h.2.2.2.1, g.out' h.2.2.2.1 h.2.2.1.lt, h.2.2.2.2⟩
theorem awake22 (w : World) (hg : Glob w) : Calls Tryz.prog 5 #[] w fun e w' => e = .returned (.bool true) ∧ Keep [] w w' := by
  obtain ⟨s0, s1, s2, s3, s4, s5, R⟩ := awake_run; have HR := Lib.hid R; clear R; obtain ⟨TC, hTC⟩ : ∃ z, tikA.cells = z := ⟨_, rfl⟩
  have HTC := Lib.hid (show tikA.cells = TC ∧ TC.length = 38 ∧ ∀ v ∈ TC, v.oneCell' = true from ⟨hTC, by rw [← hTC]; exact Tik.cells_length _, by rw [← hTC]; exact Tik.one _⟩); obtain ⟨D7, hD7⟩ : ∃ z, digC dig7 = z := ⟨_, rfl⟩
  have HD7 := Lib.hid hD7; have HNE := Lib.hid (fun w' => plank_New 1048576 (by decide) w'); have HG := Lib.hid hg; clear hTC hD7 hg; go_enter Tryz.func5, Tryz.ntmps5; go_wp2_with fail; refine (HNE.out w).mono ?_; rintro e w1 ⟨d, rfl, S1, pk1, k1, hS1⟩; have H1 := Lib.hid (show Pk S1 w1 d ⟨[], 1048576, false⟩ ∧ Keep [] w w1 ∧ (∀ k ∈ S1, w.heap.size ≤ k) ∧ GP S1 w1 from ⟨pk1, k1, hS1, HG.out.keep0 k1, fun x hx => HG.out.fresh (hS1 x hx)⟩); clear pk1 k1 hS1 HNE; have HOP := Lib.hid (stock_Open d 5 _ s0 w1 H1.out.1 H1.out.2.2.2 HR.out.o0); go_wp2_with fail; refine HOP.out.mono ?_; rintro e w2 ⟨s, t, r, l, b, X2, rfl, sk2, g2, hs2, hb2⟩
  have H2 := Lib.hid (show Sk X2 w2 s d t r l b 5 s0.T s0.R s0.K s0.nn s0.su ∧ Keep [] w w2 ∧ ∀ x ∈ X2, w.heap.size ≤ x from ⟨sk2, H1.out.2.1.trans' g2.1 (fun x hx hl => by have := H1.out.2.2.1 x hx; omega), fun x hx => by
    rcases g2.2 x hx with e | e
    · exact H1.out.2.2.1 x e
    · have := H1.out.2.1.size; omega⟩)
  have HLA := Lib.hid (stock_Larder sk2); clear sk2 g2 hs2 hb2 HOP; go_wp2_with fail; refine HLA.out.mono ?_; rintro e we ⟨rfl, rfl⟩; clear HLA
  go_upto_region 6 with (first | ((with_reducible refine gB 29 ?_); refine wpList_build_is rfl 25 _ rfl D7 (by rw [← HD7.out]; kernel_rfl) ?_; try simp only [sq]) | ((with_reducible refine gB 30 ?_); refine wpList_build_is rfl 51 _ rfl TC (by rw [← HTC.out.1, ← HD7.out]; kernel_rfl) ?_; try simp only [sq]) | ((with_reducible refine gS 4 30 ?_); refine wpList_store_new rfl 51 (.tmp 4) (.tmp 30) rfl _ TC (by rfl) (by rfl) (by rw [HTC.out.2.1]; kernel_rfl) (by rw [HTC.out.2.1]; kernel_rfl) HTC.out.2.2 ?_) | fail)
  obtain ⟨n4, hn4⟩ : ∃ n, w2.heap.size = n := ⟨_, rfl⟩
  have b3 := Blk.new w2 TC 51; rw [hn4] at b3; (try rw [hn4]); have k3 := (Keep.refl [] w2).alloc (.cells TC.toArray 51); generalize w2.alloc (.cells TC.toArray 51) = w3 at k3 b3 ⊢
  have H3 := Lib.hid (show Sk X2 w3 s d t r l b 5 s0.T s0.R s0.K s0.nn s0.su ∧ Keep [] w w3 ∧ (∀ x ∈ X2, w.heap.size ≤ x) ∧ Blk w3 n4 51 TC ∧ n4 ∉ X2 ∧ w.heap.size ≤ n4 from
    ⟨H2.out.1.keep0 k3, H2.out.2.1.trans k3, H2.out.2.2, b3, fun hm => by have := H2.out.1.lt n4 hm; omega, by have := H2.out.2.1.size; omega⟩)
  clear k3 b3 hn4; obtain ⟨_, hc1, hc2, hc3, hcT, hcR⟩ := chg_of HR.out.n1; have HNT := Lib.hid (stock_Note tikA TC HTC.out.1 (by unfold tikIn maxLen in64 tikA; simp) w3 H3.out.1 HR.out.gt HR.out.gs hc1 hc2 hc3); rw [← hcT, ← hcR] at HNT; clear hc1 hc2 hc3 hcT hcR
  go_wp2_with (first | ((with_reducible refine gL 32 4 ?_); refine gl n4 0 TC H3.out.2.2.2.1.rng (by rw [HTC.out.2.1]; kernel_rfl) ?_; try simp only [sq]) | fail); refine HNT.out.mono ?_; rintro e w4 ⟨rfl, X4, sk4, g4⟩; have H4 := Lib.hid (show Sk X4 w4 s d t r l b 5 s1.T s1.R s1.K s1.nn s1.su ∧ Aw w n4 X4 w4 TC from ⟨sk4, Aw.of ⟨H3.out.2.1, H3.out.2.2.1, H3.out.2.2.2⟩ g4⟩); clear sk4 g4 HNT; have HP2 := Lib.hid (law_put w4 s1 s2 0 H4.out.1 bA [116] (by decide) refA HR.out.p2 (by decide)); go_wp2_with fail; refine HP2.out.mono ?_; rintro e w5 ⟨rfl, X5, sk5, g5⟩; have H5 := Lib.hid (show Sk X5 w5 s d t r l b 5 s2.T s2.R s2.K s2.nn s2.su ∧ Aw w n4 X5 w5 TC from ⟨sk5, Aw.of H4.out.2 g5⟩); clear sk5 g5 HP2; have HP3 := Lib.hid (law_put w5 s2 s3 0 H5.out.1 bB [117] (by decide) refB HR.out.p3 (by decide)); go_wp2_with fail; refine HP3.out.mono ?_; rintro e w6 ⟨rfl, X6, sk6, g6⟩; have H6 := Lib.hid (show Sk X6 w6 s d t r l b 5 s3.T s3.R s3.K s3.nn s3.su ∧ Aw w n4 X6 w6 TC from ⟨sk6, Aw.of H5.out.2 g6⟩); clear sk6 g6 HP3; have HP4 := Lib.hid (law_put w6 s3 s4 0 H6.out.1 bC [] (by decide) refC HR.out.p4 (by decide)); go_wp2_with fail; refine HP4.out.mono ?_; rintro e w7 ⟨rfl, X7, sk7, g7⟩; have H7 := Lib.hid (show Sk X7 w7 s d t r l b 5 s4.T s4.R s4.K s4.nn s4.su ∧ Aw w n4 X7 w7 TC from ⟨sk7, Aw.of H6.out.2 g7⟩); clear sk7 g7 HP4; obtain ⟨C7, hpk7, hgp7, _, hCX7, _⟩ := H7.out.1.disk; have HOF := Lib.hid (plank_Off d s4.K w7 hpk7); have HA7 := Lib.hid (show Aw w n4 C7 w7 TC ∧ GP C7 w7 from ⟨⟨H7.out.2.1, fun x hx => H7.out.2.2.1 x (hCX7 x hx), H7.out.2.2.2.1, fun hm => H7.out.2.2.2.2.1 (hCX7 _ hm), H7.out.2.2.2.2.2⟩, hgp7⟩); clear hpk7 hgp7 hCX7; go_wp2_with fail; refine HOF.out.mono ?_; rintro e w8 ⟨rfl, S8, pk8, g8⟩; have H8 := Lib.hid (show Pk S8 w8 d { s4.K with off := true } ∧ Aw w n4 S8 w8 TC ∧ GP S8 w8 from ⟨pk8, Aw.of HA7.out.1 g8, HA7.out.2.grow g8⟩); clear pk8 g8 HOF HA7; have HON := Lib.hid (plank_On d _ w8 H8.out.1 rfl HR.out.fl HR.out.safe); go_wp2_with fail; refine HON.out.mono ?_; rintro e w9 ⟨rfl, S9, pk9, g9⟩; rw [off_on HR.out.off] at pk9; have H9 := Lib.hid (show Pk S9 w9 d s4.K ∧ Aw w n4 S9 w9 TC ∧ GP S9 w9 from ⟨pk9, Aw.of H8.out.2.1 g9, H8.out.2.2.grow g9⟩); clear pk9 g9 HON; have HO2 := Lib.hid (stock_Open d 5 _ s5 w9 H9.out.1 H9.out.2.2 HR.out.o5); go_wp2_with fail; refine HO2.out.mono ?_; rintro e wa ⟨u, ut, ur, ul, ub, Xa, rfl, ska, ga, _, _⟩; have Ha := Lib.hid (show Sk Xa wa u d ut ur ul ub 5 s5.T s5.R s5.K s5.nn s5.su ∧ Aw w n4 Xa wa TC from ⟨ska, Aw.of H9.out.2.1 ga⟩); clear ska ga HO2; have HKN := Lib.hid (stock_Known wa Ha.out.1 [97] [120]); rw [HR.out.kn, show tikGetV (some tikA) = .tuple #[.agg tikA.cells.toArray, .bool true] from rfl, HTC.out.1] at HKN; go_wp2_with fail; refine HKN.out.mono ?_; rintro e wb ⟨rfl, kb⟩; have KB := Lib.hid kb; clear kb HKN
  go_upto_region 14 with (first | ((with_reducible refine gS 7 68 ?_); refine wpList_store_new rfl 51 (.tmp 7) (.tmp 68) rfl _ TC (by rfl) (by rfl) (by rw [HTC.out.2.1]; kernel_rfl) (by rw [HTC.out.2.1]; kernel_rfl) HTC.out.2.2 ?_) | fail)
  obtain ⟨n7, hn7⟩ : ∃ n, wb.heap.size = n := ⟨_, rfl⟩
  have bc := Blk.new wb TC 51; rw [hn7] at bc; (try rw [hn7]); have kc := KB.out.alloc (.cells TC.toArray 51); generalize wb.alloc (.cells TC.toArray 51) = wc at kc bc ⊢; have Hc := Lib.hid (show Keep [] wa wc ∧ Blk wc n7 51 TC from ⟨kc, bc⟩); clear kc bc hn7; have HJA := Lib.hid (stock_Jars (Ha.out.1.keep0 Hc.out.1)); go_wp2_with fail; refine HJA.out.mono ?_; rintro e wd ⟨vj, rfl, hoj, kd⟩; obtain ⟨aj, cj, rfl, hcj⟩ := hoj.shape; have HJD := Lib.hid (show Own Jar.cells 35 wc.heap.size 63 wd _ s5.R ∧ Keep [] wc wd from ⟨hoj, kd⟩); clear hoj kd hcj HJA; obtain ⟨P1, hP1⟩ : ∃ z, slip1.cells = z := ⟨_, rfl⟩
  have HP1 := Lib.hid (show slip1.cells = P1 ∧ P1.length = 38 ∧ ∀ v ∈ P1, v.oneCell' = true from ⟨hP1, by rw [← hP1]; exact Slp.cells_length _, by rw [← hP1]; exact Slp.one _⟩); obtain ⟨D1, hD1⟩ : ∃ z, digC dig1 = z := ⟨_, rfl⟩
  have HD1 := Lib.hid hD1; obtain ⟨is, Hs⟩ := slpinfo'; clear hP1 hD1; rw [HR.out.rl]
  go_wp2_with (first | ((with_reducible refine gB 73 ?_); refine wpList_build_is rfl 25 _ rfl D1 (by rw [← HD1.out]; kernel_rfl) ?_; try simp only [sq]) | ((with_reducible refine gB 74 ?_); refine wpList_build_is rfl 27 _ rfl P1 (by rw [← HP1.out.1, ← HD1.out]; kernel_rfl) ?_; try simp only [sq]) | (refine wpList_buildOne rfl 22 27 (.tmp 74) rfl Hs (by omega) (by omega) Tryz.underlying22 P1 HP1.out.2.1 (by rfl) ?_) | fail); have he1 := Blk.new wd P1 27; have kf := (Keep.refl [] wd).alloc (.cells P1.toArray 27); obtain ⟨ns, hns⟩ : ∃ n, wd.heap.size = n := ⟨_, rfl⟩
  rw [hns] at he1; (try rw [hns]); generalize wd.alloc (.cells P1.toArray 27) = wf at kf he1 ⊢
  have HF := Lib.hid (show Keep [] wd wf ∧ Sl Slp.cells 38 wf (.slice (some ⟨ns, 0, none⟩) 1 1) [slip1] from ⟨kf, .inr ⟨ns, 0, 1, rfl, Nat.le_refl _, by decide, fun i x hx k hk => by
    match i, hx with
    | 0, hx =>
      simp at hx; subst hx; rw [HP1.out.1]; have := he1.cell k; simpa using this⟩⟩)
  clear kf he1 hns; have HRE := Lib.hid (stock_Replay [slip1] _ wf HF.out.2 (by intro x hx; simp at hx; subst hx; unfold slipIn slip1 in64 maxLen; simp) (by simp)); go_wp2_with fail; refine HRE.out.mono ?_; rintro e wz ⟨v1, v2, rfl, ho1, ho2, kz⟩; have hl1 := rep1.1; have hl2 := rep1.2; obtain ⟨a1, c1, rfl, _⟩ := ho1.shape; obtain ⟨a2, c2, rfl, _⟩ := ho2.shape; rw [hl1, hl2]; have KZ := Lib.hid (show Keep [] wa wz ∧ Keep [] wc wz ∧ Keep [] wd wz from ⟨Hc.out.1.trans (HJD.out.2.trans (HF.out.1.trans kz)), HJD.out.2.trans (HF.out.1.trans kz), HF.out.1.trans kz⟩); clear ho1 ho2 hl1 hl2 kz HRE; have hr0 := HR.out.r0; obtain ⟨j0, hj0, hj0s⟩ := Option.map_eq_some_iff.1 hr0; obtain ⟨gj, cpj, hv0, _, _, hrg0⟩ := own_at ((HJD.out.1.lower (Nat.zero_le _)).keep0 KZ.out.2.2) hj0; obtain ⟨gj1, cpj1, hv1, _, _, hrg1⟩ := own_at ((HJD.out.1.lower (Nat.zero_le _)).keep0 KZ.out.2.2) HR.out.r1; rw [hv0] at hv1; cases hv1; rw [HR.out.rl] at hv0; cases hv0; obtain ⟨JC, hJC⟩ : ∃ z, jarB.cells = z := ⟨_, rfl⟩
  have HJC := Lib.hid (show jarB.cells = JC ∧ JC.length = 35 from ⟨hJC, by rw [← hJC]; exact Jar.cells_length _⟩); rw [hJC] at hrg1
  have HQ := Lib.hid (show ∀ w', Keep [] wz w' → w'.rangeAt n7 0 TC ∧ w'.rangeAt n4 0 TC ∧ w'.cell? ⟨gj, 33, none⟩ = some (.int .i64 2) ∧ w'.rangeAt gj 35 JC from fun w' k => by
    refine ⟨((KZ.out.2.1.trans k).blk Hc.out.2 (by simp)).rng, ((KZ.out.1.trans k).blk Ha.out.2.2.2.1 (by simp)).rng, ?_, ?_⟩
    · refine k.load ?_; have := hrg0 33 (.int .i64 j0.size) (jar_row j0).2.2; rw [hj0s] at this; simpa using this
    · refine k.range ?_; simpa using hrg1)
  have hq1 := fun w' => eqTik tikA tikA (by unfold tikIn maxLen in64 tikA; simp) (by unfold tikIn maxLen in64 tikA; simp) w'
  rw [HTC.out.1, decide_eq_true rfl] at hq1; have hq2 := fun w' => eqJar jarB jarB (by unfold goodIn maxLen in64 jarB; simp) (by unfold goodIn maxLen in64 jarB; simp) w'
  rw [hJC, decide_eq_true rfl] at hq2; obtain ⟨DB, hDB⟩ : ∃ z, digC (shaOf [bB]) = z := ⟨_, rfl⟩
  have HOFB := Lib.hid (fun w' => ref04_Of bB w' (by decide)); rw [refB, hDB] at HOFB; have HBJ := Lib.hid (bd_jarP (shaOf [bB]) [117] 2); rw [hDB, show (⟨shaOf [bB], [117], 2, 0⟩ : Jar) = jarB from rfl, hJC] at HBJ; have HTO := Lib.hid (fun w' (k : Keep [] wz w') => stock_Total (Ha.out.1.keep0 (KZ.out.1.trans k))); rw [HR.out.tot] at HTO; have HSL := Lib.hid (fun w' (k : Keep [] wz w') => stock_Slips (Ha.out.1.keep0 (KZ.out.1.trans k))); have HKF := Lib.hid (show Keep [] w wz from Ha.out.2.1.trans KZ.out.1); obtain ⟨LS, hLS⟩ : ∃ z, slipsOf s5.T s5.R = z := ⟨_, rfl⟩
  have HN3 := Lib.hid hLS; have HL3 := Lib.hid (show LS.length = 3 by rw [← hLS]; exact HR.out.sl); clear hr0 hj0 hj0s hrg0 hrg1 hJC hDB hLS H1 H2 H3 H4 H5 H6 H7 H8 H9 Ha Hc HJD HF HR
  go_upto_region 16 with fail
  refine wp_region_held_drew (S := fun w' => Keep [] wz w') (by kernel_rfl) ((Keep.refl [] wz).drew) (fun hHeld => ?_); refine gW 0 ?_; (try simp only [sq]); refine gW 1 ?_; (try simp only [sq]); refine gZ 2 n7 0 (TC) (fun w' hSw => ((HQ.out w' hSw).1)) (by rw [HTC.out.2.1]; kernel_rfl) ?_; (try simp only [sq]); refine gZ 3 n4 0 (TC) (fun w' hSw => ((HQ.out w' hSw).2.1)) (by rw [HTC.out.2.1]; kernel_rfl) ?_; (try simp only [sq]); refine gW 4 ?_; (try simp only [sq]); refine gW 5 ?_; (try simp only [sq]); refine gW 6 ?_; (try simp only [sq]); refine gW 7 ?_; (try simp only [sq]); refine gW 8 ?_; (try simp only [sq]); refine gW 9 ?_; (try simp only [sq]); refine gW 10 ?_; (try simp only [sq]); refine gW 11 ?_; (try simp only [sq]); refine gW 12 ?_; (try simp only [sq]); refine gW 13 ?_; (try simp only [sq]); refine gW 14 ?_; (try simp only [sq]); refine gV 15 (v := ?_) ?_ ?_; rotate_left
  · (intro w' hSw; have c33 := (HQ.out w' hSw).2.2.1; go_simp) <;> (with_reducible rfl)
  (try simp only [sq]); refine gW 16 ?_; (try simp only [sq]); refine gW 17 ?_; (try simp only [sq]); refine gW 18 ?_; (try simp only [sq]); refine gW 19 ?_; (try simp only [sq]); refine gW 20 ?_; (try simp only [sq]); refine gZ 21 gj 35 (JC) (fun w' hSw => ((HQ.out w' hSw).2.2.2)) (by rw [HJC.out.2]; kernel_rfl) ?_; (try simp only [sq]); refine gR 22 rfl (fun K hK => ?_); go_simp; refine (HOFB.out _).mono ?_; rintro e wp ⟨rfl, kp⟩; have hKp := hHeld.trans kp; clear kp; (try go_simp); refine hK.out _ _ (hKp) (fun hHeld => ?_); clear hK K; (try simp only [sq]); refine gR 23 rfl (fun K hK => ?_); rw [if_pos (by rfl)]; refine wp_b3' (cs := JC) (by exact HBJ) _ _ _ rfl (by rfl) (by rfl) (by rfl) ?_; refine hK.out _ _ (hHeld) (fun hHeld => ?_); clear hK K; (try simp only [sq]); refine gW 24 ?_; (try simp only [sq]); refine gW 25 ?_; (try simp only [sq]); refine gW 26 ?_; (try simp only [sq]); refine gW 27 ?_; (try simp only [sq]); refine gR 28 rfl (fun K hK => ?_); go_simp; refine (HTO.out _ hHeld).mono ?_; rintro e wq ⟨rfl, kq⟩; have hKq := hHeld.trans kq; clear kq; (try go_simp); refine hK.out _ _ (hKq) (fun hHeld => ?_); clear hK K; (try simp only [sq]); refine gW 29 ?_; (try simp only [sq]); refine gW 30 ?_; (try simp only [sq]); refine gW 31 ?_; (try simp only [sq]); refine gW 32 ?_; (try simp only [sq]); refine gW 33 ?_; (try simp only [sq]); refine gW 34 ?_; (try simp only [sq]); refine gW 35 ?_; (try simp only [sq]); refine gW 36 ?_; (try simp only [sq]); refine gW 37 ?_; (try simp only [sq]); refine gW 38 ?_; (try simp only [sq]); refine gW 39 ?_; (try simp only [sq]); refine gW 40 ?_; (try simp only [sq]); refine gW 41 ?_; (try simp only [sq]); refine gW 42 ?_; (try simp only [sq]); refine gR 43 rfl (fun K hK => ?_); go_simp; refine (HSL.out _ hHeld).mono ?_; rintro e ws ⟨vs, rfl, hos, ks⟩; rw [HN3.out] at hos; obtain ⟨av, cv, rfl, hcv⟩ := hos.shape; rw [HL3.out]; have hKs := hHeld.trans ks; clear ks hos hcv; (try go_simp); refine hK.out _ _ (hKs) (fun hHeld => ?_); clear hK K; (try simp only [sq]); refine gW 44 ?_; (try simp only [sq]); refine gW 45 ?_; (try simp only [sq]); refine gW 46 ?_; (try simp only [sq]); refine gW 47 ?_; (try simp only [sq]); refine wpAnyH_done (by kernel_rfl) ?_ _; go_wp2_with fail; go_ret; exact ⟨rfl, HKF.out.trans hHeld⟩
theorem bd_miss (r g : List UInt8) (a : Int) : Tryz.prog.built 51 [(0, .string (S r)), (1, .string (S g)), (6, .int .i64 a)] = some ((⟨r, g, false, dig00, [], 0, a⟩ : Tik)).cells.toArray := by kernel_rfl
theorem told_cells (r g : List UInt8) (d : Dig) (t : List UInt8) (s a : Int) : ((putAt ((⟨r, g, false, dig00, [], 0, a⟩ : Tik).cells.set 2 (.bool true)) 3 (digC d)).set 35 (.string (S t))).set 36 (.int .i64 s) = (⟨r, g, true, d, t, s, a⟩ : Tik).cells := by
  obtain ⟨l, hl⟩ := d; obtain ⟨b0, b1, b2, b3, b4, b5, b6, b7, b8, b9, b10, b11, b12, b13, b14, b15, b16, b17, b18, b19, b20, b21, b22, b23, b24, b25, b26, b27, b28, b29, b30, b31, rfl⟩ := dig32 l hl; kernel_rfl
theorem good_two {x : Slp} (h : goodS x = true) (hk : x.kind = 2) : toldT x = ⟨x.repo, x.tag, false, dig00, [], 0, x.tick⟩ := by
  unfold goodS at h; rw [only_dec] at h; simp only [hk, Bool.and_eq_true, fdsOf] at h; simp at h; unfold toldT; rw [hk]; simp [h]
theorem good_one {x : Slp} (h : goodS x = true) : 1 ≤ x.kind ∧ x.kind ≤ 6 := by
  unfold goodS at h; simp only [Bool.and_eq_true] at h; have := h.1.1.1.1.1; simpa [isKind] using this
structure S22 (w : World) (u : Nat) (tv rv : Value) (T : List Tik) (R : List Jar) (budget : Int) : Prop where
  dt : Dt rv budget w u tv T
  dq : Dq tv w u rv R budget
section
variable {w : World} {u : Nat} {tv rv : Value} {T : List Tik} {R : List Jar} {budget : Int}
theorem S22.keep0 {w' : World} (h : S22 w u tv rv T R budget) (k : Keep [] w w') : S22 w' u tv rv T R budget := ⟨h.dt.keep0 k, h.dq.keep0 k⟩
theorem S22.doneT {w1 w' : World} {T' : List Tik} (h : S22 w u tv rv T R budget) (k : Keep [] w w1) (hd : DoneT rv budget w1 w' u tv T') : (∃ tv' rv', S22 w' u tv' rv' T' R budget) ∧ Keep [u] w w' := by
  obtain ⟨tv', d', k', _⟩ := hd; refine ⟨⟨tv', rv, d', ⟨d'.blk, (h.dq.own.keep0 k).keep k' (fun g hg => ?_), h.dq.ne⟩⟩, (k.mono (by simp)).trans k'⟩; simp; rintro rfl; exact h.dq.ne hg
theorem S22.doneR {w1 w' : World} {R' : List Jar} (h : S22 w u tv rv T R budget) (k : Keep [] w w1) (hd : DoneQ tv w1 w' u rv R' budget) : (∃ tv' rv', S22 w' u tv' rv' T R' budget) ∧ Keep [u] w w' := by
  obtain ⟨rv', d', k', _⟩ := hd; refine ⟨⟨tv, rv', ⟨d'.blk, (h.dt.own.keep0 k).keep k' (fun g hg => ?_), h.dt.ne⟩, d'⟩, (k.mono (by simp)).trans k'⟩; simp; rintro rfl; exact h.dt.ne hg
theorem dq_Drop' (h : Dq tv w u rv R budget) (hL : R.length ≤ 64) (hn : (R.map (·.dig)).Nodup) (d : Dig) (DC : List Value) (hd : digC d = DC) :
    Calls Tryz.prog 78 #[.pointer (some ⟨u, 2, none⟩), .agg DC.toArray] w fun e w' => e = .returned (.int .i64 (dropE R d)) ∧ DoneQ tv w w' u rv (dropL R d) budget := by
  subst hd; exact dq_Drop h hL hn d
theorem dq_Touch' (h : Dq tv w u rv R budget) (hL : R.length ≤ 64) (hn : (R.map (·.dig)).Nodup) (d : Dig) (DC : List Value) (hd : digC d = DC) :
    Calls Tryz.prog 65 #[.pointer (some ⟨u, 2, none⟩), .agg DC.toArray] w fun e w' => e = .returned (.int .i64 (hereE R d)) ∧ DoneQ tv w w' u rv (touchL R d) budget := by
  subst hd; exact dq_Touch h hL hn d
theorem ref22_Apply (w : World) (h : S22 w u tv rv T R budget) (hT : T.length ≤ 64) (hR : R.length ≤ 64) (hN : (R.map (·.dig)).Nodup) (x : Slp) (XC : List Value) (hx : x.cells = XC) (hi : slipIn x) :
    Calls Tryz.prog 39 #[.pointer (some ⟨u, 0, none⟩), .agg XC.toArray] w fun e w' => e = .returned (.tuple #[]) ∧ ∃ tv' rv', S22 w' u tv' rv' (repF (T, R) x).1 (repF (T, R) x).2 budget ∧ Keep [u] w w' := by
  obtain ⟨n, hn⟩ : ∃ n, w.heap.size = n := ⟨_, rfl⟩
  have k1 := (Keep.refl [] w).alloc (.cells XC.toArray 27); have b1 := Blk.new w XC 27; rw [hn] at b1; have HXL := Lib.hid (show XC.length = 38 by rw [← hx]; exact Slp.cells_length x); have HGD := Lib.hid (fun w' => ref08_Good x XC hx w' hi); have hul := h.dt.blk.lt; go_enter Tryz.func39, Tryz.ntmps39
  go_upto_region 1 with fail
  (try simp only [hn]); generalize w.alloc (.cells XC.toArray 27) = w1 at k1 b1 ⊢; have H1 := Lib.hid (show S22 w1 u tv rv T R budget ∧ Keep [] w w1 ∧ Blk w1 n 27 XC from ⟨h.keep0 k1, k1, b1⟩); have HXX := Lib.hid (And.intro hx hi); have HLN := Lib.hid (show T.length ≤ 64 ∧ R.length ≤ 64 ∧ (R.map (·.dig)).Nodup from ⟨hT, hR, hN⟩); have HN0 := Lib.hid (show u < n by rw [← hn]; exact hul); clear k1 b1 h hx hi hT hR hN hn hul
  go_wp2_with (first | ((with_reducible refine gL 5 3 ?_); refine gl n 0 XC H1.out.2.2.rng (by rw [HXL.out]; kernel_rfl) ?_; try simp only [sq]) | fail); refine (HGD.out _).mono ?_; rintro e w2 ⟨rfl, k2⟩; have H2 := Lib.hid (show S22 w2 u tv rv T R budget ∧ Keep [] w w2 ∧ Blk w2 n 27 XC from ⟨H1.out.1.keep0 k2, H1.out.2.1.trans k2, k2.blk H1.out.2.2 (by simp)⟩); clear k2 H1 HGD
  cases hg : goodS x with
  | false =>
    have HTR := Lib.hid (show repF (T, R) x = (T, R) by unfold repF; rw [if_neg (by rw [hg]; simp)]); clear hg; go_wp2_with fail; refine bodyPost_ret (v := .tuple #[]) (by simp [results, Tryz.results39]) rfl ⟨rfl, tv, rv, by rw [HTR.out]; exact H2.out.1, H2.out.2.1.mono (by simp)⟩
  | true =>
  have HRF0 := Lib.hid (show repF (T, R) x = (applyT x T, applyR x R) by unfold repF; rw [if_pos hg]); have HGG := Lib.hid hg; have hkd := good_one hg; have hr := slp_row x; rw [HXX.out.1] at hr; have c1 := H2.out.2.2.get hr.2.1; have c2 := H2.out.2.2.get hr.2.2.1; have c37 := H2.out.2.2.get hr.2.2.2.2.2.2; have HBM := Lib.hid (bd_miss x.repo x.tag x.tick); obtain ⟨MC, hMC⟩ : ∃ z, (⟨x.repo, x.tag, false, dig00, [], 0, x.tick⟩ : Tik).cells = z := ⟨_, rfl⟩
  have HMC := Lib.hid (show (⟨x.repo, x.tag, false, dig00, [], 0, x.tick⟩ : Tik).cells = MC ∧ MC.length = 38 ∧ ∀ v ∈ MC, v.oneCell' = true from ⟨hMC, by rw [← hMC]; exact Tik.cells_length _, by rw [← hMC]; exact Tik.one _⟩); rw [hMC] at HBM; clear hg hMC hr
  go_upto_region 3 with (first | ((with_reducible refine gB 14 ?_); refine wpList_b3' rfl (cs := MC) (by exact HBM.out) _ _ _ rfl (by rfl) (by rfl) (by rfl) ?_; try simp only [sq]) | ((with_reducible refine gS 4 14 ?_); refine wpList_store_new rfl 51 (.tmp 4) (.tmp 14) rfl _ MC (by rfl) (by rfl) (by rw [HMC.out.2.1]; kernel_rfl) (by rw [HMC.out.2.1]; kernel_rfl) HMC.out.2.2 ?_) | fail)
  obtain ⟨n4, hn4⟩ : ∃ n, w2.heap.size = n := ⟨_, rfl⟩
  have b4 := Blk.new w2 MC 51; rw [hn4] at b4; (try rw [hn4]); have k4 := (Keep.refl [] w2).alloc (.cells MC.toArray 51); (try simp only [Act.put]); generalize w2.alloc (.cells MC.toArray 51) = w4 at k4 b4 ⊢; have bx4 := k4.blk H2.out.2.2 (by simp); have H5 := Lib.hid (show S22 w4 u tv rv T R budget ∧ T.length ≤ 64 ∧ R.length ≤ 64 ∧ (R.map (·.dig)).Nodup from ⟨H2.out.1.keep0 k4, HLN.out⟩); have HK4 := Lib.hid (H2.out.2.1.trans k4); have HB4 := Lib.hid (show Blk w4 n4 51 MC ∧ Blk w4 n 27 XC from ⟨b4, bx4⟩); have HNE := Lib.hid (show u < n ∧ u < n4 ∧ n < n4 from ⟨HN0.out, by have := H2.out.2.2.lt; have := HN0.out; omega, by have := H2.out.2.2.lt; omega⟩); have hr := slp_row x; rw [HXX.out.1] at hr; have c0 := bx4.get hr.1; obtain ⟨DC, hDC⟩ : ∃ z, digC x.dig = z := ⟨_, rfl⟩
  have HDC := Lib.hid hDC; have HDL := Lib.hid (show DC.length = 32 by rw [← hDC]; exact digC_length _); have HDO := Lib.hid (show ∀ v ∈ DC, v.oneCell' = true by rw [← hDC]; exact digC_one _)
  have HX5 := Lib.hid (show ∀ w', Keep [u] w4 w' → w'.cell? ⟨n, 1, none⟩ = some (.string (S x.repo)) ∧ w'.cell? ⟨n, 2, none⟩ = some (.string (S x.tag)) ∧ w'.cell? ⟨n, 35, none⟩ = some (.string (S x.typ)) ∧ w'.cell? ⟨n, 36, none⟩ = some (.int .i64 x.size) ∧ w'.rangeAt n 3 DC from fun w' k => by
    have b := k.blk bx4 (by simp; have := HNE.out; omega); refine ⟨b.get hr.2.1, b.get hr.2.2.1, b.get hr.2.2.2.2.1, b.get hr.2.2.2.2.2.1, fun j v hv => b.get ?_⟩; rw [← hDC] at hv; exact hr.2.2.2.1 j v hv)
  have HOB := Lib.hid (show (∀ g, tv.ownBlock = some g → g < n4) ∧ ∀ g, rv.ownBlock = some g → g < n4 from ⟨fun g hg => by rw [← hn4]; exact (H2.out.1.dt.own.lt g hg).2, fun g hg => by rw [← hn4]; exact (H2.out.1.dq.own.lt g hg).2⟩); have HNS := Lib.hid (show w.heap.size ≤ n4 by rw [← hn4]; exact H2.out.2.1.size); have KD := Lib.hid ((Keep.refl [] w4).drew); have HTL := Lib.hid (show x.typ.length ≤ maxLen from HXX.out.2.2.2.2.1); clear k4 b4 bx4 hn4 hr hDC c1 c2 c37 H2; obtain ⟨kd, hkd'⟩ : ∃ k, x.kind = k := ⟨_, rfl⟩
  rw [hkd'] at c0 hkd; by_cases e1 : kd = 1
  · have HRF := Lib.hid (show (repF (T, R) x).1 = (if goodT (toldT x) then putT 64 T (toldT x) else T) ∧ (repF (T, R) x).2 = R from by
      rw [HRF0.out]; exact ⟨by unfold applyT; rw [if_pos (.inl (by omega))], by unfold applyR; rw [if_neg (by omega), if_neg (by omega), if_neg (by omega)]⟩)
    obtain ⟨TC, hTC⟩ : ∃ z, (toldT x).cells = z := ⟨_, rfl⟩
    have HTC := Lib.hid (show (toldT x).cells = TC ∧ TC.length = 38 from ⟨hTC, by rw [← hTC]; exact Tik.cells_length _⟩); have HTG := Lib.hid (fun w' => ref20_Good (toldT x) TC hTC w' (told_in HXX.out.2))
    have htc : ((putAt (MC.set 2 (.bool true)) 3 DC).set 35 (.string (S x.typ))).set 36 (.int .i64 x.size) = TC := by
      rw [← HMC.out.1, ← HDC.out, told_cells, ← hTC]; unfold toldT; rw [hkd', e1]; rfl
    have HTCC := Lib.hid htc
    have HCX := Lib.hid (show ∀ w', Keep [n4] w4 w' → w'.cell? ⟨n, 35, none⟩ = some (.string (S x.typ)) ∧ w'.cell? ⟨n, 36, none⟩ = some (.int .i64 x.size) ∧ w'.rangeAt n 3 DC from fun w' k => by
      have hh := HX5.out w4 (Keep.refl _ _); have hnn : n ∉ [n4] := by simp; have := HNE.out; omega
      have hlt := HB4.out.2.lt; refine ⟨?_, ?_, fun i v hv => ?_⟩
      · rw [k.cell hlt hnn]; exact hh.2.2.1
      · rw [k.cell hlt hnn]; exact hh.2.2.2.1
      · rw [k.cell hlt hnn]; exact hh.2.2.2.2 i v hv)
    have f2 := HB4.out.1.frozen 2; have g2 := HB4.out.1.get (k := 2) (v := .bool false) (by rw [← HMC.out.1]; rfl); clear hTC htc hkd hkd' KD; subst e1
    go_upto_region 6 with fail
    have bA := HB4.out.1.set 2 (.bool true); have kA : Keep [n4] w4 (w4.setCell ⟨n4, 2, none⟩ (.bool true)) := (Keep.refl _ _).setCell _ _ (by simp); generalize w4.setCell ⟨n4, 2, none⟩ (.bool true) = wA at bA kA ⊢; have HA := Lib.hid (show Blk wA n4 51 (MC.set 2 (.bool true)) ∧ Keep [n4] w4 wA ∧ wA.rangeAt n 3 DC ∧ World.there wA n4 3 32 from ⟨bA, kA, (HCX.out _ kA).2.2, bA.thr 3 32 (by rw [List.length_set, HMC.out.2.1]; omega)⟩); clear f2 g2 bA kA c0
    go_upto_region 7 with (first | ((with_reducible refine gL 21 20 ?_); refine gl n 3 DC HA.out.2.2.1 (by rw [HDL.out]; kernel_rfl) ?_; try simp only [sq]) | ((with_reducible refine gS 22 21 ?_); refine wpList_store_mid rfl 25 (.tmp 22) (.tmp 21) rfl n4 3 DC.toArray (by rfl) (by rfl) (by simp only [List.size_toArray, HDL.out]; exact HA.out.2.2.2) (by simp only [List.size_toArray, HDL.out]; kernel_rfl) (all_oneCell_toArray HDO.out) ?_) | fail)
    (try simp only [List.toList_toArray, Act.put]); have bB := Blk.overC DC _ 3 _ HA.out.1; have kB : Keep [n4] w4 (wA.setCells n4 3 DC) := Keep.cellsTo n4 (fun _ => by simp) DC 3 _ HA.out.2.1; generalize wA.setCells n4 3 DC = wB at bB kB ⊢; have x35 := (HCX.out _ kB).1; have f35 := bB.frozen 35
    obtain ⟨v35, q35⟩ : ∃ v, wB.cell? ⟨n4, 35, none⟩ = some v := by
      rw [bB.cell 35]; exact ⟨_, List.getElem?_eq_getElem (by rw [putAt_length, List.length_set, HMC.out.2.1]; omega)⟩
    have HB := Lib.hid (And.intro bB kB); clear bB kB HA
    go_upto_region 8 with fail
    have bC := HB.out.1.set 35 (.string (S x.typ)); have kC : Keep [n4] w4 (wB.setCell ⟨n4, 35, none⟩ (.string (S x.typ))) := HB.out.2.setCell _ _ (by simp); generalize wB.setCell ⟨n4, 35, none⟩ (.string (S x.typ)) = wC at bC kC ⊢; clear x35 f35 q35; have x36 := (HCX.out _ kC).2.1; have f36 := bC.frozen 36
    obtain ⟨v36, q36⟩ : ∃ v, wC.cell? ⟨n4, 36, none⟩ = some v := by
      rw [bC.cell 36]; exact ⟨_, List.getElem?_eq_getElem (by rw [List.length_set, putAt_length, List.length_set, HMC.out.2.1]; omega)⟩
    have HC := Lib.hid (And.intro bC kC); clear bC kC HB
    go_upto_region 9 with fail
    have bS := HC.out.1.set 36 (.int .i64 x.size); have kS : Keep [n4] w4 (wC.setCell ⟨n4, 36, none⟩ (.int .i64 x.size)) := HC.out.2.setCell _ _ (by simp); generalize wC.setCell ⟨n4, 36, none⟩ (.int .i64 x.size) = ws at bS kS ⊢; rw [HTCC.out] at bS; have HS4 := Lib.hid (And.intro bS kS); clear bS kS HC x36 f36 q36; have HTB := Lib.hid HS4.out.1
    have H5 := Lib.hid (show S22 ws u tv rv T R budget ∧ T.length ≤ 64 ∧ R.length ≤ 64 ∧ (R.map (·.dig)).Nodup from by
      have hun : u ∉ [n4] := by simp; have := HNE.out; omega
      refine ⟨⟨H5.out.1.dt.keep HS4.out.2 hun (fun g hg => ?_), H5.out.1.dq.keep HS4.out.2 hun (fun g hg => ?_)⟩, H5.out.2⟩
      · simp; have := HOB.out.1 g hg; omega
      · simp; have := HOB.out.2 g hg; omega)
    have HK4 := Lib.hid (show Keep [] w ws from HK4.out.trans' HS4.out.2 (fun q hq hl => by simp at hq; have := HNS.out; omega)); clear HS4 HX5 HCX
    go_wp2_with (first | ((with_reducible refine gL 29 4 ?_); refine gl n4 0 TC HTB.out.rng (by rw [HTC.out.2]; kernel_rfl) ?_; try simp only [sq]) | fail); refine (HTG.out _).mono ?_; rintro e w5 ⟨rfl, k5⟩; have KG := Lib.hid k5; clear k5
    cases hgt : goodT (toldT x) with
    | false =>
      have HTR := Lib.hid (show (repF (T, R) x).1 = T ∧ (repF (T, R) x).2 = R from ⟨by rw [HRF.out.1, hgt]; rfl, HRF.out.2⟩); clear hgt; go_wp2_with fail; go_end0; exact ⟨rfl, tv, rv, by rw [HTR.out.1, HTR.out.2]; exact H5.out.1.keep0 KG.out, ((HK4.out.trans KG.out).mono (by simp))⟩
    | true =>
      have HTR := Lib.hid (show (repF (T, R) x).1 = putT 64 T (toldT x) ∧ (repF (T, R) x).2 = R from ⟨by rw [HRF.out.1, hgt]; rfl, HRF.out.2⟩); clear hgt; have H5 := Lib.hid (show S22 w5 u tv rv T R budget ∧ T.length ≤ 64 ∧ R.length ≤ 64 ∧ (R.map (·.dig)).Nodup from ⟨H5.out.1.keep0 KG.out, H5.out.2⟩); have HK4 := Lib.hid (HK4.out.trans KG.out); have HTB := Lib.hid (KG.out.blk HTB.out (by simp)); clear KG; have KD := Lib.hid ((Keep.refl [] w5).drew); have HQ := Lib.hid (show ∀ w', Keep [u] w5 w' → w'.rangeAt n4 0 TC from fun w' k => (k.blk HTB.out (by simp; have := HNE.out; omega)).rng)
      go_upto_region 10 with fail
      refine wp_region_held_drew (S := fun w' => Keep [u] w5 w') (by kernel_rfl) ((KD.out.mono (by simp))) (fun hHeld => ?_); refine gW 0 ?_; (try simp only [sq]); refine gW 1 ?_; (try simp only [sq]); refine gW 2 ?_; (try simp only [sq]); refine gZ 3 n4 0 (TC) (fun w' hSw => (HQ.out w' hSw)) (by rw [HTC.out.2]; kernel_rfl) ?_; (try simp only [sq]); refine gR 4 rfl (fun K hK => ?_); go_simp; refine (ref20_Put _ (H5.out.1.dt.keep0 KD.out) H5.out.2.1 (toldT x) TC HTC.out.1).mono ?_; rintro e w6 ⟨⟨rr, rfl⟩, hd⟩; have H6 := Lib.hid (H5.out.1.doneT KD.out hd); have hK6 := H6.out.2; clear hd; (try go_simp); refine hK.out _ _ (hK6) (fun hHeld => ?_); clear hK K; (try simp only [sq]); refine wpAnyH_done (by kernel_rfl) ?_ _; clear hK6 hHeld; go_wp2_with fail; go_end0; obtain ⟨tv', rv', hs⟩ := H6.out.1; exact ⟨rfl, tv', rv', by rw [HTR.out.1, HTR.out.2]; exact hs, (HK4.out.mono (by simp)).trans H6.out.2⟩
  by_cases e2 : kd = 2
  · have htw := good_two HGG.out (hkd'.trans e2)
    have HRF := Lib.hid (show (repF (T, R) x).1 = (if goodT (toldT x) then putT 64 T (toldT x) else T) ∧ (repF (T, R) x).2 = R from by
      rw [HRF0.out]; exact ⟨by unfold applyT; rw [if_pos (.inr (by omega))], by unfold applyR; rw [if_neg (by omega), if_neg (by omega), if_neg (by omega)]⟩)
    obtain ⟨TC, hTC⟩ : ∃ z, (toldT x).cells = z := ⟨_, rfl⟩
    have HTC := Lib.hid (show (toldT x).cells = TC ∧ TC.length = 38 from ⟨hTC, by rw [← hTC]; exact Tik.cells_length _⟩); have HTG := Lib.hid (fun w' => ref20_Good (toldT x) TC hTC w' (told_in HXX.out.2)); have HTB := Lib.hid (show Blk w4 n4 51 TC from by rw [← hTC, htw, HMC.out.1]; exact HB4.out.1); clear hTC htw hkd hkd' e1 KD; subst e2
    go_wp2_with (first | ((with_reducible refine gL 38 4 ?_); refine gl n4 0 TC HTB.out.rng (by rw [HTC.out.2]; kernel_rfl) ?_; try simp only [sq]) | fail); refine (HTG.out _).mono ?_; rintro e w5 ⟨rfl, k5⟩; have KG := Lib.hid k5; clear k5
    cases hgt : goodT (toldT x) with
    | false =>
      have HTR := Lib.hid (show (repF (T, R) x).1 = T ∧ (repF (T, R) x).2 = R from ⟨by rw [HRF.out.1, hgt]; rfl, HRF.out.2⟩); clear hgt; go_wp2_with fail; go_end0; exact ⟨rfl, tv, rv, by rw [HTR.out.1, HTR.out.2]; exact H5.out.1.keep0 KG.out, ((HK4.out.trans KG.out).mono (by simp))⟩
    | true =>
      have HTR := Lib.hid (show (repF (T, R) x).1 = putT 64 T (toldT x) ∧ (repF (T, R) x).2 = R from ⟨by rw [HRF.out.1, hgt]; rfl, HRF.out.2⟩); clear hgt; have H5 := Lib.hid (show S22 w5 u tv rv T R budget ∧ T.length ≤ 64 ∧ R.length ≤ 64 ∧ (R.map (·.dig)).Nodup from ⟨H5.out.1.keep0 KG.out, H5.out.2⟩); have HK4 := Lib.hid (HK4.out.trans KG.out); have HTB := Lib.hid (KG.out.blk HTB.out (by simp)); clear KG; have KD := Lib.hid ((Keep.refl [] w5).drew); have HQ := Lib.hid (show ∀ w', Keep [u] w5 w' → w'.rangeAt n4 0 TC from fun w' k => (k.blk HTB.out (by simp; have := HNE.out; omega)).rng)
      go_upto_region 13 with fail
      refine wp_region_held_drew (S := fun w' => Keep [u] w5 w') (by kernel_rfl) ((KD.out.mono (by simp))) (fun hHeld => ?_); refine gW 0 ?_; (try simp only [sq]); refine gW 1 ?_; (try simp only [sq]); refine gW 2 ?_; (try simp only [sq]); refine gZ 3 n4 0 (TC) (fun w' hSw => (HQ.out w' hSw)) (by rw [HTC.out.2]; kernel_rfl) ?_; (try simp only [sq]); refine gR 4 rfl (fun K hK => ?_); go_simp; refine (ref20_Put _ (H5.out.1.dt.keep0 KD.out) H5.out.2.1 (toldT x) TC HTC.out.1).mono ?_; rintro e w6 ⟨⟨rr, rfl⟩, hd⟩; have H6 := Lib.hid (H5.out.1.doneT KD.out hd); have hK6 := H6.out.2; clear hd; (try go_simp); refine hK.out _ _ (hK6) (fun hHeld => ?_); clear hK K; (try simp only [sq]); refine wpAnyH_done (by kernel_rfl) ?_ _; clear hK6 hHeld; go_wp2_with fail; go_end0; obtain ⟨tv', rv', hs⟩ := H6.out.1; exact ⟨rfl, tv', rv', by rw [HTR.out.1, HTR.out.2]; exact hs, (HK4.out.mono (by simp)).trans H6.out.2⟩
  by_cases e3 : kd = 3
  · have HTR := Lib.hid (show (repF (T, R) x).1 = dropT x.repo x.tag T ∧ (repF (T, R) x).2 = R from by
      rw [HRF0.out]; exact ⟨by unfold applyT; rw [if_neg (by omega), if_pos (by omega)], by unfold applyR; rw [if_neg (by omega), if_neg (by omega), if_neg (by omega)]⟩)
    clear hkd hkd' e1 e2; subst e3
    go_upto_region 15 with fail
    refine wp_region_held_drew (S := fun w' => Keep [u] w4 w') (by kernel_rfl) ((KD.out.mono (by simp))) (fun hHeld => ?_); refine gW 0 ?_; (try simp only [sq]); refine gW 1 ?_; (try simp only [sq]); refine gW 2 ?_; (try simp only [sq]); refine gW 3 ?_; (try simp only [sq]); refine gV 4 (v := ?_) ?_ ?_; rotate_left
    · (intro w' hSw; obtain ⟨c1, c2, c35, c36, _⟩ := HX5.out w' hSw; go_simp) <;> (with_reducible rfl)
    (try simp only [sq]); refine gW 5 ?_; (try simp only [sq]); refine gV 6 (v := ?_) ?_ ?_; rotate_left
    · (intro w' hSw; obtain ⟨c1, c2, c35, c36, _⟩ := HX5.out w' hSw; go_simp) <;> (with_reducible rfl)
    (try simp only [sq]); refine gR 7 rfl (fun K hK => ?_); go_simp; refine (ref20_Drop _ (H5.out.1.dt.keep0 KD.out) (by have := H5.out.2.1; omega) x.repo x.tag).mono ?_; rintro e w6 ⟨⟨rr, rfl⟩, hd⟩; have H6 := Lib.hid (H5.out.1.doneT KD.out hd); have hK6 := H6.out.2; clear hd; (try go_simp); refine hK.out _ _ (hK6) (fun hHeld => ?_); clear hK K; (try simp only [sq]); refine wpAnyH_done (by kernel_rfl) ?_ _; clear hK6 hHeld; go_wp2_with fail; go_end0; obtain ⟨tv', rv', hs⟩ := H6.out.1; exact ⟨rfl, tv', rv', by rw [HTR.out.1, HTR.out.2]; exact hs, (HK4.out.mono (by simp)).trans H6.out.2⟩
  by_cases e4 : kd = 4
  · have HTR := Lib.hid (show (repF (T, R) x).1 = T ∧ (repF (T, R) x).2 = putL R ⟨x.dig, x.typ, x.size, 0⟩ from by
      rw [HRF0.out]; exact ⟨by unfold applyT; rw [if_neg (by omega), if_neg (by omega)], by unfold applyR; rw [if_pos (by omega)]⟩)
    have HBJ := Lib.hid (bd_jarP x.dig x.typ x.size); rw [HDC.out] at HBJ; clear hkd hkd' e1 e2 e3; subst e4
    go_upto_region 17 with fail
    refine wp_region_held_drew (S := fun w' => Keep [u] w4 w') (by kernel_rfl) ((KD.out.mono (by simp))) (fun hHeld => ?_); refine gW 0 ?_; (try simp only [sq]); refine gW 1 ?_; (try simp only [sq]); refine gW 2 ?_; (try simp only [sq]); refine gW 3 ?_; (try simp only [sq]); refine gZ 4 n 3 (DC) (fun w' hSw => ((HX5.out w' hSw).2.2.2.2)) (by rw [HDL.out]; kernel_rfl) ?_; (try simp only [sq]); refine gW 5 ?_; (try simp only [sq]); refine gV 6 (v := ?_) ?_ ?_; rotate_left
    · (intro w' hSw; obtain ⟨c1, c2, c35, c36, _⟩ := HX5.out w' hSw; go_simp) <;> (with_reducible rfl)
    (try simp only [sq]); refine gW 7 ?_; (try simp only [sq]); refine gV 8 (v := ?_) ?_ ?_; rotate_left
    · (intro w' hSw; obtain ⟨c1, c2, c35, c36, _⟩ := HX5.out w' hSw; go_simp) <;> (with_reducible rfl)
    (try simp only [sq]); refine gR 9 rfl (fun K hK => ?_); rw [if_pos (by rfl)]; refine wp_b3' (cs := (⟨x.dig, x.typ, x.size, 0⟩ : Jar).cells) (by exact HBJ) _ _ _ rfl (by rfl) (by rfl) (by rfl) ?_; refine hK.out _ _ (hHeld) (fun hHeld => ?_); clear hK K; (try simp only [sq]); refine gR 10 rfl (fun K hK => ?_); go_simp; refine (dq_Put (H5.out.1.dq.keep0 KD.out) H5.out.2.2.1 ⟨x.dig, x.typ, x.size, 0⟩ HTL.out).mono ?_; rintro e w6 ⟨rfl, hd⟩; have H6 := Lib.hid (H5.out.1.doneR KD.out hd); have hK6 := H6.out.2; clear hd; (try go_simp); refine hK.out _ _ (hK6) (fun hHeld => ?_); clear hK K; (try simp only [sq]); refine wpAnyH_done (by kernel_rfl) ?_ _; clear hK6 hHeld; go_wp2_with fail; go_end0; obtain ⟨tv', rv', hs⟩ := H6.out.1; exact ⟨rfl, tv', rv', by rw [HTR.out.1, HTR.out.2]; exact hs, (HK4.out.mono (by simp)).trans H6.out.2⟩
  by_cases e5 : kd = 5
  · have HTR := Lib.hid (show (repF (T, R) x).1 = T ∧ (repF (T, R) x).2 = dropL R x.dig from by
      rw [HRF0.out]; exact ⟨by unfold applyT; rw [if_neg (by omega), if_neg (by omega)], by unfold applyR; rw [if_neg (by omega), if_pos (by omega)]⟩)
    clear hkd hkd' e1 e2 e3 e4; subst e5
    go_upto_region 19 with fail
    refine wp_region_held_drew (S := fun w' => Keep [u] w4 w') (by kernel_rfl) ((KD.out.mono (by simp))) (fun hHeld => ?_); refine gW 0 ?_; (try simp only [sq]); refine gW 1 ?_; (try simp only [sq]); refine gW 2 ?_; (try simp only [sq]); refine gW 3 ?_; (try simp only [sq]); refine gZ 4 n 3 (DC) (fun w' hSw => ((HX5.out w' hSw).2.2.2.2)) (by rw [HDL.out]; kernel_rfl) ?_; (try simp only [sq]); refine gR 5 rfl (fun K hK => ?_); go_simp; refine (dq_Drop' (H5.out.1.dq.keep0 KD.out) H5.out.2.2.1 H5.out.2.2.2 x.dig DC HDC.out).mono ?_; rintro e w6 ⟨rfl, hd⟩; have H6 := Lib.hid (H5.out.1.doneR KD.out hd); have hK6 := H6.out.2; clear hd; (try go_simp); refine hK.out _ _ (hK6) (fun hHeld => ?_); clear hK K; (try simp only [sq]); refine wpAnyH_done (by kernel_rfl) ?_ _; clear hK6 hHeld; go_wp2_with fail; go_end0; obtain ⟨tv', rv', hs⟩ := H6.out.1; exact ⟨rfl, tv', rv', by rw [HTR.out.1, HTR.out.2]; exact hs, (HK4.out.mono (by simp)).trans H6.out.2⟩
  · have e6 : kd = 6 := by omega
    have HTR := Lib.hid (show (repF (T, R) x).1 = T ∧ (repF (T, R) x).2 = touchL R x.dig from by
      rw [HRF0.out]; exact ⟨by unfold applyT; rw [if_neg (by omega), if_neg (by omega)], by unfold applyR; rw [if_neg (by omega), if_neg (by omega), if_pos (by omega)]⟩)
    clear hkd hkd' e1 e2 e3 e4 e5; subst e6
    go_upto_region 21 with fail
    refine wp_region_held_drew (S := fun w' => Keep [u] w4 w') (by kernel_rfl) ((KD.out.mono (by simp))) (fun hHeld => ?_); refine gW 0 ?_; (try simp only [sq]); refine gW 1 ?_; (try simp only [sq]); refine gW 2 ?_; (try simp only [sq]); refine gW 3 ?_; (try simp only [sq]); refine gZ 4 n 3 (DC) (fun w' hSw => ((HX5.out w' hSw).2.2.2.2)) (by rw [HDL.out]; kernel_rfl) ?_; (try simp only [sq]); refine gR 5 rfl (fun K hK => ?_); go_simp; refine (dq_Touch' (H5.out.1.dq.keep0 KD.out) H5.out.2.2.1 H5.out.2.2.2 x.dig DC HDC.out).mono ?_; rintro e w6 ⟨rfl, hd⟩; have H6 := Lib.hid (H5.out.1.doneR KD.out hd); have hK6 := H6.out.2; clear hd; (try go_simp); refine hK.out _ _ (hK6) (fun hHeld => ?_); clear hK K; (try simp only [sq]); refine wpAnyH_done (by kernel_rfl) ?_ _; clear hK6 hHeld; go_wp2_with fail; go_end0; obtain ⟨tv', rv', hs⟩ := H6.out.1; exact ⟨rfl, tv', rv', by rw [HTR.out.1, HTR.out.2]; exact hs, (HK4.out.mono (by simp)).trans H6.out.2⟩
end
end Go.Proofs.YtkghgaopcgcheaaGreatDoor
