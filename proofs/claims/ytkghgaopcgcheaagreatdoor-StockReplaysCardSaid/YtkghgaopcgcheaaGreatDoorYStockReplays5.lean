/- Parts of the proof of StockReplays, in order. No conditions but those that each theorem states. -/
import Derived.Test.YtkghgaopcgcheaaGreatDoorYStockReplays0
import Derived.Test.YtkghgaopcgcheaaGreatDoorYStockReplays4
set_option maxRecDepth 100000
set_option maxHeartbeats 16000000
set_option linter.unusedSimpArgs false
set_option linter.unusedVariables false
namespace Go.Proofs.YtkghgaopcgcheaaGreatDoor
open Go.RowKit Go.Maps
def dropE (L : List Jar) (d : Dig) : Int := match findL L d with
  | none => 7
  | some x => if 0 < x.pins then 8 else 0
def dropL (L : List Jar) (d : Dig) : List Jar := match findL L d with
  | none => L
  | some x => if 0 < x.pins then L else restL L d
theorem rack_Drop {S : List Nat} (b : Nat) (budget : Int) (L : List Jar) (d : Dig) (w : World) (h : Rk S w b budget L) :
    Calls Tryz.prog 89 #[.pointer (some ⟨b, 0, none⟩), .agg (digC d).toArray] w fun e w' => e = .returned (.int .i64 (dropE L d)) ∧ ∃ S', Rk S' w' b budget (dropL L d) ∧ Grow S w S' w' := by
  have h' := h; obtain ⟨P, fv, bm, total, pinned, M, I, F, h1, hL, m1, m2, m3⟩ := h; have hkA := (Keep.refl [] w).alloc (.cells (digC d).toArray 25); have hbA := Blk.newA w (digC d).toArray 25; have hF := h1.find hkA d; have hrg : (w.alloc (.cells (digC d).toArray 25)).rangeAt w.heap.size 0 (digC d) := hbA.rangeAt; have hdl : (Tryz.prog.info? 25).map (·.size) = some (digC d).length := by rw [digC_length]; exact dig_size
  have hA := h1.keep0 hkA; have hdr := fun (w' : World) (hm : MapIs w' bm M I.length) (h0 : M d ≠ 0) => hm.drop d h0 0
  generalize hwA : w.alloc (.cells (digC d).toArray 25) = wA at hkA hrg hF hA hbA; have hbA : Blk wA w.heap.size 25 (digC d) := by simpa using hbA
  generalize digC d = dc at hrg hwA hdl hF hdr hbA; have HRG := Lib.hid hrg; have HDL := Lib.hid hdl; by_cases h0 : M d = 0
  · have hf := h1.ring.find_no h0; rw [← hL] at hf; have e1 : dropE L d = 7 := by unfold dropE; rw [hf]
    have e2 : dropL L d = L := by unfold dropL; rw [hf]
    rw [e1, e2]; rw [h0, if_pos rfl] at hF; have HF := Lib.hid hF; have HR := Lib.hid (And.intro h' hkA); clear h1 hL hrg hdl h0 hf e1 e2 hbA hA h' hF m1 m2 m3 hkA hdr; go_enter Tryz.func89, Tryz.ntmps89
    go_wp2_with (first | (refine wpList_load_mid rfl 25 (.tmp 3) rfl w.heap.size 0 (by rfl) dc _ HRG.out Tryz.underlying25 rfl HDL.out ?_) | fail)
    (try simp only [sq]); (try go_wp2_with fail); refine HF.out.mono ?_; rintro e w1 ⟨rfl, hk1⟩; go_wp2_with fail; go_ret; exact ⟨rfl, S, HR.out.1.keep0 (HR.out.2.trans hk1), .of (HR.out.2.trans hk1)⟩
  · have hf := h1.ring.find_yes h0; have hb65 := h1.ring.at0 h0; have htw := h1.ring.two (h1.ring.m1 d h0).1; have hrd := h1.ring.drop h0; obtain ⟨p, hp⟩ : ∃ p, P[M d]? = some p := ⟨_, List.getElem?_eq_getElem (by have := h1.ring.len; omega)⟩
    have hpj : jarF P (M d) = p.jar := by unfold jarF; rw [getD_get hp]
    have hok := h1.good _ (find_mem hf).1; rw [hpj] at hok hf; have hsb := size_bound h1.good (by have := h1.ring.count; simp; omega); rw [← h1.tot] at hsb; have hsum := fun f => sum_rest _ d _ h1.ring.digs hf f
    have hrest := sum_bound (·.size) 1048576 (restL (I.map (jarF P)) d) (fun j hj => by obtain ⟨_, h1, h2, _⟩ := h1.good j (rest_mem hj); exact ⟨h1, h2⟩); have htt : total - p.jar.size = sumL (restL (I.map (jarF P)) d) := by rw [h1.tot]; unfold sumL; rw [hsum (·.size)]; omega
    have hts : 0 ≤ total - p.jar.size := by rw [htt]; exact hrest.1
    have huu : p.jar.pins = 0 → pinned = usedL (restL (I.map (jarF P)) d) := fun hz => by rw [h1.use]; unfold usedL; rw [hsum]; simp [hz]
    have hFl : F.length ≤ 64 := by have := h1.ring.count; omega
    have hIp : 1 ≤ I.length := List.length_pos_of_mem (h1.ring.m1 d h0).1; have hprm := (h1.ring.unlink h0).2.2.2.length_eq; have e1 : dropE L d = if 0 < p.jar.pins then 8 else 0 := by unfold dropE; rw [hL, hf]
    have e2 : dropL L d = if 0 < p.jar.pins then L else restL (I.map (jarF P)) d := by unfold dropL; rw [hL, hf]
    rw [if_neg h0] at hF; have hdr := fun w' hm => hdr w' hm h0
    obtain ⟨i, hMd⟩ : ∃ i, M d = i := ⟨_, rfl⟩
    rw [hMd] at hF hb65 hp hpj htw hrd hprm; have HF := Lib.hid hF; have HR := Lib.hid (And.intro hA hkA); have HM := Lib.hid (And.intro m1 (And.intro m2 m3)); have HH := Lib.hid h'; have HP := Lib.hid (And.intro hp hok); have HT := Lib.hid (And.intro htw (And.intro hrd (And.intro htt (And.intro huu (And.intro hIp hprm))))); have HG := Lib.hid h1.good; have HD := Lib.hid hdr; have hi0 : (0 : Int) ≤ (i : Int) := by omega
    have hi1 : (i : Int) < 65 := by omega
    have HE := Lib.hid (And.intro e1 e2); have HB := Lib.hid (And.intro hbA hb65); have hlt : b < w.heap.size ∧ bm < w.heap.size := ⟨h1.blk.2.lt, h1.map.lt⟩
    clear h1 hL hrg hdl h0 hf e1 e2 hA h' hF m1 m2 m3 hkA hb65 hp hpj hok hMd htw hrd htt huu hrest hsum hprm hIp hbA; clear hdr; obtain ⟨pn, hpn⟩ : ∃ pn, pn = p.jar.pins := ⟨_, rfl⟩
    obtain ⟨ps, hps⟩ : ∃ ps, ps = p.jar.size := ⟨_, rfl⟩
    have HPP := Lib.hid (And.intro hpn hps); rw [← hpn] at HE; rw [← hps] at hts; obtain ⟨_, hs1, hs2, hp1, hp2⟩ := HP.out.2; rw [← hpn] at hp1 hp2; rw [← hps] at hs1 hs2; clear hpn hps; have HSZ := Lib.hid (show (Tryz.prog.info? 63).map (·.size) = some p.jar.cells.length by rw [Jar.cells_length]; exact jar_size); have H1 := Lib.hid p.jar.one; have HLN := Lib.hid (Jar.cells_length p.jar); go_enter Tryz.func89, Tryz.ntmps89
    go_wp2_with (first | (refine wpList_load_mid rfl 25 (.tmp 3) rfl w.heap.size 0 (by rfl) dc _ HRG.out Tryz.underlying25 rfl HDL.out ?_) | fail)
    (try simp only [sq]); (try go_wp2_with fail); refine HF.out.mono ?_; rintro e w1 ⟨rfl, hk1⟩; have HW1 := Lib.hid (HR.out.1.keep0 hk1); have HK1 := Lib.hid (HR.out.2.trans hk1); have HB1 := Lib.hid (hk1.blk HB.out.1 (by simp)); have hR1 := HW1.out.blk.range HP.out.1
    have hR2 : Hid (w1.rangeAt b (i * 37) p.jar.cells) := fun j v hv => by
      refine hR1 j v ?_; unfold Place.cells; rw [List.getElem?_append_left (List.getElem?_eq_some_iff.1 hv).1]; exact hv
    have hbJ := Blk.newA w1 p.jar.cells.toArray 63; have c33 := hbJ.get (k := 33) (v := .int .i64 p.jar.size) (by simp [Jar.cells, digC_length, List.getElem?_append]); have c34 := hbJ.get (k := 34) (v := .int .i64 p.jar.pins) (by simp [Jar.cells, digC_length, List.getElem?_append]); rw [← HPP.out.2] at c33; rw [← HPP.out.1] at c34; have HBJ := Lib.hid hbJ; have HKJ := Lib.hid ((Keep.refl [] w1).alloc (.cells p.jar.cells.toArray 63)); clear hR1 hk1 HR hbJ
    go_upto_region 5 with (first | (refine wpList_load_mid rfl 63 (.tmp 22) rfl b (i * 37) (by rfl) p.jar.cells _ hR2.out Tryz.underlying63 rfl HSZ.out ?_) | (refine wpList_store_new rfl 63 (.tmp 7) (.tmp 23) rfl _ p.jar.cells (by rfl) (by rfl) HSZ.out (by rw [HLN.out]; rfl) H1.out ?_) | fail)
    (try simp only [sq]); have HWJ := Lib.hid (HW1.out.keep0 HKJ.out); have HBD := Lib.hid (HKJ.out.blk HB1.out (by simp)); have HKJ' := Lib.hid (HK1.out.trans HKJ.out); have hs1' := HK1.out.size; generalize w1.alloc (.cells p.jar.cells.toArray 63) = wJ at c33 c34 HBJ HKJ HWJ HBD HKJ'; generalize hJB : w1.heap.size = jb at c33 c34 HBJ hs1'; clear HW1 HB1 hR2 HKJ HK1 hwA; by_cases hz : 0 < pn
    · have e1 := HE.out.1; have e2 := HE.out.2; rw [if_pos hz] at e1 e2; have HN := Lib.hid (And.intro e1 e2); clear e1 e2; go_wp2_with fail; go_ret; exact ⟨ret_int HN.out.1.symm, S, by rw [HN.out.2]; exact HH.out.keep0 HKJ'.out, .of HKJ'.out⟩
    · have e1 := HE.out.1; have e2 := HE.out.2; rw [if_neg hz] at e1 e2; have HN := Lib.hid (And.intro e1 e2); have HZ := Lib.hid (show pn = 0 by omega); clear e1 e2; go_wp2_with fail; refine (rack_unlink b P fv bm budget total pinned i wJ HWJ.out.blk HB.out.2 HT.out.1.1 HT.out.1.2.1).mono ?_; rintro e w3 ⟨rfl, hb3, hk3⟩; have hbn : w.heap.size ∉ [b] := by simp; omega
      have hjn : jb ∉ [b] := by simp; omega
      have hmn : bm ∉ [b] := by simp; exact HWJ.out.ne
      have hr3 : w3.drew.rangeAt w.heap.size 0 dc := (hk3.blk HBD.out hbn).rangeAt; have hc3 : w3.drew.cell? ⟨b, 2406, none⟩ = some (.map (some bm)) := hb3.tail 1; obtain ⟨w4, hrun, hm4, ht4⟩ := HD.out w3.drew (HWJ.out.map.keep hk3.drew hmn); have hk4 : Keep [bm] w3.drew w4 := keep_turned ht4; have hbn' : w.heap.size ∉ [bm] := by simp; omega
      have hjn' : jb ∉ [bm] := by simp; omega
      have hbm' : b ∉ [bm] := by simp; exact fun e => HWJ.out.ne e.symm
      have hr4 : w4.rangeAt w.heap.size 0 dc := (hk4.blk (show Blk w3.drew w.heap.size _ _ from hk3.blk HBD.out hbn) hbn').rangeAt; have hb4 : RkBlk w4 b (unlinkP P i) fv bm budget total pinned := RkBlk.keep (w := w3.drew) hb3 hk4 hbm'; have hc4 : w4.cell? ⟨b, 2406, none⟩ = some (.map (some bm)) := hb4.tail 1; have hB4 := hk4.blk (show Blk w3.drew jb _ _ from hk3.blk HBJ.out hjn) hjn'; have HB4 := Lib.hid (And.intro hb4 (And.intro hB4 hm4)); have HK4 := Lib.hid (And.intro hk3 hk4); have hud := Tryz.underlying25; have hdl := HDL.out; clear hbn hjn hmn hbn' hjn' hbm' hb4 hB4 hm4 hk3 hk4 ht4 hb3 c33 c34; go_wp2_with fail
      go_region_held3 (fun w' => w'.rangeAt w.heap.size 0 dc ∧ w'.cell? ⟨b, 2406, none⟩ = some (.map (some bm)))
        (first | assumption | (refine ⟨?_, ?_⟩ <;> assumption))
        (fail)
      obtain ⟨hb4, hB4, hm4⟩ := HB4.out; obtain ⟨hk3, hk4⟩ := HK4.out; have c8 : w4.cell? ⟨b, 2408, none⟩ = some (.int .i64 total) := hb4.tail 3; have c33 := hB4.get (k := 33) (v := .int .i64 p.jar.size) (by simp [Jar.cells, digC_length, List.getElem?_append]); rw [← HPP.out.2] at c33; have f4 := hb4.2.frozen; have hw := IntWalk.i64_in (total - ps) (by omega); clear hb4 hB4 hm4 hk3 hk4 hrun hr3 hc3 hr4 hc4 hud hdl; go_wp2_with fail
      go_region
      have hk5 : Keep [b] w4 (w4.setCell ⟨b, 2408, none⟩ (.int .i64 (total - ps))).drew := ((Keep.refl _ _).setCell _ _ (by simp)).drew; have hb5 : RkBlk (w4.setCell ⟨b, 2408, none⟩ (.int .i64 (total - ps))).drew b (unlinkP P i) fv bm budget (total - ps) pinned := HB4.out.1.setTail 3 _ _ _ _ _ _ rfl; generalize (w4.setCell ⟨b, 2408, none⟩ (.int .i64 (total - ps))).drew = w5 at hk5 hb5; have hnb : ∀ g, fv.ownBlock = some g → g ≠ b ∧ g ≠ bm := HWJ.out.nf
      have hmb := HWJ.out.ne; obtain ⟨hk3, hk4⟩ := HK4.out; have hk4 : Keep [bm] w3 w4 := ((Keep.refl [bm] w3).drew).trans hk4; have ho5 : Own intC 1 0 3 w5 fv F := (((HWJ.out.own.keep hk3 (fun g hg => by simp; exact (hnb g hg).1)).keep (w := w3) (w' := w4) hk4 (fun g hg => by simp; exact (hnb g hg).2)).keep hk5 (fun g hg => by simp; exact (hnb g hg).1))
      have hm5 := HB4.out.2.2.keep hk5 (by simp; exact hmb); have hkS : Keep S w w5 := (((HKJ'.out.mono (by simp)).trans' hk3 (by intro x hx _; simp at hx; rw [hx]; exact HM.out.1)).trans' hk4 (by intro x hx _; simp at hx; rw [hx]; exact HM.out.2.1)).trans' hk5 (by intro x hx _; simp at hx; rw [hx]; exact HM.out.1); have c5 : w5.cell? ⟨b, 2405, none⟩ = some fv := hb5.tail 0; have HB5 := Lib.hid (And.intro hb5 (And.intro hm5 (And.intro hkS (And.intro hnb hmb)))); have HO5 := Lib.hid ho5; obtain ⟨is, Hs⟩ := intinfo'; clear hk5 hb5 hnb hmb hk3 hk4 ho5 hm5 hkS c8 c33 f4
      go_wp2_with (first | (at_builtin; go_must (refine wpList_append5 rfl _ _ 124 rfl is _ 8 Tryz.underlying124 Hs (by rfl) (by decide) intC_length intC_one w5 (by rfl) HO5.out (Nat.zero_le _) i _ (by rfl) _ (by rfl) (by show F.length + 1 ≤ 9223372036854775807; omega) (by omega) ?_); intro v' w6 hown' hg' hat'; obtain ⟨va, vc, rfl, _⟩ := hown'.shape; have hkr : Keep fv.ownBlock.toList w5 w6 := (Keep.refl _ _).grown hg' (fun g hgg _ => by simp [hgg]); have hb6 : RkBlk w6 b (unlinkP P i) fv bm budget (total - ps) pinned := HB5.out.1.keep hkr (fun hm => (HB5.out.2.2.2.1 b (by simpa using hm)).1 rfl); have d5 : w6.cell? ⟨b, 2405, none⟩ = some fv := hb6.tail 0; have f6 := hb6.2.frozen; have HB6 := Lib.hid (And.intro hb6 (And.intro hkr (And.intro hown' hat'))); clear hb6 hkr hown' hg' hat') | fail); go_ret; obtain ⟨hb6, hkr, hown', hat'⟩ := HB6.out; obtain ⟨hb5, hm5, hkS, hnb, hmb⟩ := HB5.out; obtain ⟨htw, hrd, htt, huu, hIp, hprm⟩ := HT.out; have hl5 := hb5.2.lt; have hlm5 := hm5.lt
      have hnv : ∀ g, (Value.slice va (F ++ [i]).length vc).ownBlock = some g → g ≠ b ∧ g ≠ bm := fun g hg => by
        rcases hat' with e | e
        · exact hnb g (e ▸ hg)
        · rw [e] at hg; simp at hg; omega
      have hfl : (F ++ [i]).length = F.length + 1 := by simp
      rw [hfl] at hnv hown' hat'; have hks : Keep [b] w6 (w6.setCell ⟨b, 2405, none⟩ (.slice va (F.length + 1) vc)) := (Keep.refl _ _).setCell _ _ (by simp); have hm6 : MapIs w6 bm _ (I.length - 1) := hm5.keep hkr (fun hm => (hnb bm (by simpa using hm)).2 rfl); refine ⟨ret_int HN.out.1.symm, (Value.slice va (F.length + 1) vc).ownBlock.toList ++ S, ⟨_, _, bm, total - ps, pinned, _, _, _, ⟨hb6.setTail 0 _ _ _ _ _ _ rfl, ?_, hown'.keep hks (fun g hg => by simp; exact (hnv g hg).1), hrd.1, hmb, hnv, ?_, ?_, ?_⟩, ?_, by simp [HM.out.1], by simp [HM.out.2.1], fun g hg => by simp [hg]⟩, ?_, ?_⟩
      · have := hm6.keep hks (by simp; exact hmb); rw [List.length_cons] at hprm; have e : I.length - 1 = (List.filter (fun k => !decide (k = i)) I).length := by omega
        rwa [e] at this
      · rw [hrd.2, HPP.out.2]; exact htt
      · rw [hrd.2]; exact huu (by rw [← HPP.out.1]; exact HZ.out)
      · rw [hrd.2]; exact fun j hj => HG.out j (rest_mem hj)
      · rw [HN.out.2, hrd.2]
      · exact (hkS.trans' hkr (fun g hg _ => HM.out.2.2 g (by simpa using hg))).setCell _ _ (fun _ => HM.out.1)
      · intro k hk; rcases List.mem_append.1 hk with hk | hk
        · rcases hat' with e | e
          · rw [e] at hk; exact .inl (HM.out.2.2 k (by simpa using hk))
          · rw [e] at hk; simp at hk; have := hkS.size; exact .inr (by omega)
        · exact .inl hk
def goodJ (j : Jar) : Bool := decide (j.typ.length ≤ 100) && decide (0 ≤ j.size) && decide (j.size ≤ 1048576) && decide (j.pins = 0)
theorem rack_isJar (j : Jar) (w : World) : Calls Tryz.prog 175 #[.agg j.cells.toArray] w fun e w' => e = .returned (.bool (goodJ j)) ∧ Keep [] w w' := by
  have hb := Blk.newA w j.cells.toArray 63; have c32 := hb.get (k := 32) (v := .string (S j.typ)) (by simp [Jar.cells, digC_length, List.getElem?_append]); have c33 := hb.get (k := 33) (v := .int .i64 j.size) (by simp [Jar.cells, digC_length, List.getElem?_append]); have c34 := hb.get (k := 34) (v := .int .i64 j.pins) (by simp [Jar.cells, digC_length, List.getElem?_append]); have hk := (Keep.refl [] w).alloc (.cells j.cells.toArray 63); have hG : goodJ j = (decide (j.typ.length ≤ 100) && decide (0 ≤ j.size) && decide (j.size ≤ 1048576) && decide (j.pins = 0)) := rfl; have hsz := S_size j.typ; generalize goodJ j = gd at hG; generalize j.cells.toArray = cs at c32 c33 c34 hk hb; obtain ⟨_, t, sz, pn⟩ := j; dsimp only at c32 c33 c34 hG hsz; have HK := Lib.hid hk; have HG := Lib.hid hG; clear hk hG hb; by_cases h1 : t.length ≤ 100
  · have h1' : ((t.length : Nat) : Int) ≤ 100 := by omega
    by_cases h2 : 0 ≤ sz
    · by_cases h3 : sz ≤ 1048576
      · by_cases h4 : pn = 0
        · have h4' : (pn == 0) = true := by simp [h4]
          have HX := Lib.hid (show gd = true by rw [HG.out]; simp [h1, h2, h3, h4]); clear h4; go_enter Tryz.func175, Tryz.ntmps175; go_wp2_with fail; go_ret; exact ⟨ret_bool HX.out.symm, HK.out⟩
        · have h4' := (int_ne' h4).1; have HX := Lib.hid (show gd = false by rw [HG.out]; simp [h4]); go_enter Tryz.func175, Tryz.ntmps175; go_wp2_with fail; go_ret; exact ⟨ret_bool HX.out.symm, HK.out⟩
      · have h3' : decide (sz ≤ 1048576) = false := by simp; omega
        have HX := Lib.hid (show gd = false by rw [HG.out]; simp [h3]); clear h3; go_enter Tryz.func175, Tryz.ntmps175; go_wp2_with fail; go_ret; exact ⟨ret_bool HX.out.symm, HK.out⟩
    · have h2' : decide (sz ≥ 0) = false := by simp; omega
      have HX := Lib.hid (show gd = false by rw [HG.out]; simp [h2]); clear h2; go_enter Tryz.func175, Tryz.ntmps175; go_wp2_with fail; go_ret; exact ⟨ret_bool HX.out.symm, HK.out⟩
  · have h1' : decide (((t.length : Nat) : Int) ≤ 100) = false := by simp; omega
    have HX := Lib.hid (show gd = false by rw [HG.out]; simp [h1]); clear h1; go_enter Tryz.func175, Tryz.ntmps175; go_wp2_with fail; go_ret; exact ⟨ret_bool HX.out.symm, HK.out⟩
def setL (xs : List Value) (o : Nat) : List Value → List Value
  | [] => xs
  | v :: r => setL (xs.set o v) (o + 1) r
theorem setL_get : ∀ (vs xs : List Value) (o k : Nat), o + vs.length ≤ xs.length → (setL xs o vs)[k]? = if o ≤ k ∧ k < o + vs.length then vs[k - o]? else xs[k]?
  | [], xs, o, k, _ => by simp [setL]; intro h1 h2; omega
  | v :: r, xs, o, k, h => by
    simp only [List.length_cons] at h; rw [setL, setL_get r _ _ k (by simp; omega)]; by_cases h1 : k = o
    · subst h1; rw [if_neg (by omega), if_pos (by simp), List.getElem?_set_self (by omega)]; simp
    · by_cases h2 : o + 1 ≤ k ∧ k < o + 1 + r.length
      · rw [if_pos h2, if_pos (by simp; omega)]; have : k - o = (k - (o + 1)) + 1 := by omega
        rw [this, List.getElem?_cons_succ]
      · rw [if_neg h2, if_neg (by simp; omega), List.getElem?_set_ne (by omega)]
theorem Blk.setCells {b : Nat} {T : TypeId} : ∀ (vs : List Value) {w : World} {xs : List Value} (o : Nat), Blk w b T xs → Blk (w.setCells b o vs) b T (setL xs o vs)
  | [], w, xs, o, h => h
  | v :: r, w, xs, o, h => by
    rw [World.setCells, setL]; exact Blk.setCells r (o + 1) (h.set o v)
theorem RkBlk.setJar {w : World} {b : Nat} {P : List Place} {fv : Value} {bm : Nat} {budget total pinned : Int} (h : RkBlk w b P fv bm budget total pinned) {k : Nat} {p : Place} (hk : P[k]? = some p) (j : Jar) :
    RkBlk (w.setCells b (k * 37) j.cells) b (P.set k { p with jar := j }) fv bm budget total pinned := by
  have hlt := (List.getElem?_eq_some_iff.1 hk).1; have hl : (rows Place.cells P).length = 2405 := by rw [rows_length Place.cells_length, h.1]
  have h65 := h.1; refine ⟨by simpa using h.1, ?_⟩; have hs := h.2.setCells j.cells (k * 37)
  have e : setL (rows Place.cells P ++ [fv, .map (some bm), .int .i64 budget, .int .i64 total, .int .i64 pinned]) (k * 37) j.cells = rows Place.cells (P.set k { p with jar := j }) ++ [fv, .map (some bm), .int .i64 budget, .int .i64 total, .int .i64 pinned] := by
    apply List.ext_getElem?; intro x; have hjl := Jar.cells_length j; have hl2 : (rows Place.cells (P.set k { p with jar := j })).length = 2405 := by rw [rows_length Place.cells_length, List.length_set, h.1]
    rw [setL_get _ _ _ _ (by simp [hl]; omega)]; by_cases hx : x < 2405
    · rw [List.getElem?_append_left (by omega), List.getElem?_append_left (by omega)]; obtain ⟨q, r, hr, rfl⟩ : ∃ q r, r < 37 ∧ x = q * 37 + r := ⟨x / 37, x % 37, Nat.mod_lt _ (by omega), by omega⟩
      obtain ⟨pq, hpq⟩ : ∃ y, P[q]? = some y := ⟨_, List.getElem?_eq_getElem (by omega)⟩
      rw [rows_get' Place.cells_length P q r pq hpq hr]; by_cases hq : q = k
      · subst hq; have hpp : pq = p := by rw [hk] at hpq; exact (Option.some.inj hpq).symm
        subst hpp; rw [rows_get' Place.cells_length _ q r { pq with jar := j } (List.getElem?_set_self hlt) hr]; unfold Place.cells; dsimp only; by_cases hr35 : r < 35
        · rw [if_pos (by omega), List.getElem?_append_left (by omega)]; congr 1; omega
        · rw [if_neg (by omega), List.getElem?_append_right (by rw [Jar.cells_length]; omega), List.getElem?_append_right (by omega), Jar.cells_length, hjl]
      · rw [rows_get' Place.cells_length _ q r pq (by rw [List.getElem?_set_ne (fun e => hq e.symm)]; exact hpq) hr, if_neg (by omega)]
    · rw [if_neg (by omega), List.getElem?_append_right (by omega), List.getElem?_append_right (by omega), hl, hl2]
  rwa [e] at hs
theorem own_pop {α : Type} {enc : α → List Value} {n base : Nat} {E : TypeId} {w : World} {g : Nat} {m cap : Nat} {L : List α} {x : α} (hn : ∀ x, (enc x).length = n) (h : Own enc n base E w (.slice (some ⟨g, 0, none⟩) m cap) (L ++ [x])) : Own enc n base E w (.slice (some ⟨g, 0, none⟩) L.length cap) L := by
  obtain ⟨h1, h2⟩ := h; refine ⟨?_, ?_⟩
  · rw [rows_length hn, Nat.mul_comm]
  · rcases h2 with ⟨h3, _⟩ | ⟨g', cap', cur, hv, hb, hg, h3, h4, h5, h6⟩
    · cases h3
    · cases hv; refine .inr ⟨g, cap, cur, rfl, hb, hg, by simp at h3; omega, h4, h5, ?_⟩; have e : rows enc (L ++ [x]) = rows enc L ++ enc x := by simp [rows]
      rw [e] at h6; have := congrArg (List.take (L.length * n)) h6; rw [List.take_take, List.take_append_of_le_length (by rw [rows_length hn, Nat.mul_comm]; exact Nat.le_refl _), List.take_of_length_le (l := rows enc L) (by rw [rows_length hn, Nat.mul_comm]; exact Nat.le_refl _)] at this; rw [← this]; congr 1; rw [List.length_append, List.length_singleton, Nat.add_mul]; omega
def putE (L : List Jar) (j : Jar) : Int := if goodJ j = false then 1 else if (findL L j.dig).isSome = true then 9 else if 64 ≤ L.length then 6 else 0
def putL (L : List Jar) (j : Jar) : List Jar := if putE L j = 0 then j :: L else L
theorem rack_Put {S : List Nat} (b : Nat) (budget : Int) (L : List Jar) (j : Jar) (w : World) (h : Rk S w b budget L) :
    Calls Tryz.prog 131 #[.pointer (some ⟨b, 0, none⟩), .agg j.cells.toArray] w fun e w' => e = .returned (.int .i64 (putE L j)) ∧ Rk S w' b budget (putL L j) ∧ Keep S w w' := by
  have h' := h; obtain ⟨P, fv, bm, total, pinned, M, I, F, h1, hL, m1, m2, m3⟩ := h; have hkA := (Keep.refl [] w).alloc (.cells j.cells.toArray 63); have hbA : Blk (w.alloc (.cells j.cells.toArray 63)) w.heap.size 63 j.cells := by simpa using Blk.newA w j.cells.toArray 63
  have hA := h1.keep0 hkA; have hlt : b < w.heap.size ∧ bm < w.heap.size := ⟨h1.blk.2.lt, h1.map.lt⟩
  have HSZ := Lib.hid (show (Tryz.prog.info? 63).map (·.size) = some j.cells.length by rw [Jar.cells_length]; exact jar_size); have HIJ := Lib.hid (fun w' => rack_isJar j w'); have HE : Hid (putE L j = if goodJ j = false then 1 else if (findL L j.dig).isSome = true then 9 else if 64 ≤ L.length then 6 else 0) := Lib.hid rfl; have HPL : Hid (putL L j = if putE L j = 0 then j :: L else L) := Lib.hid rfl; have HH := Lib.hid h'; have HM := Lib.hid (And.intro m1 (And.intro m2 m3)); have HBA := Lib.hid hbA; have HKA := Lib.hid hkA; generalize hwA : w.alloc (.cells j.cells.toArray 63) = wA at hA HBA HKA; have HA := Lib.hid hA; clear h' m1 m2 m3 hbA hkA hA
  cases hg : goodJ j with
  | false =>
    have e1 : putE L j = 1 := by rw [HE.out, if_pos hg]
    have e2 : putL L j = L := by rw [HPL.out, e1]; rfl
    rw [e1, e2]; rw [hg] at HIJ; clear hg e1 e2 HE HPL h1 hL; go_enter Tryz.func131, Tryz.ntmps131
    go_wp2_with (first | (refine wpList_load_mid rfl 63 (.tmp 3) rfl w.heap.size 0 (by rfl) j.cells _ HBA.out.rangeAt Tryz.underlying63 rfl HSZ.out ?_) | fail)
    (try simp only [sq]); (try go_wp2_with fail); refine (HIJ.out _).mono ?_; rintro e w1 ⟨rfl, hk1⟩; go_wp2_with fail; go_ret; exact ⟨rfl, HH.out.keep0 (HKA.out.trans hk1), (HKA.out.trans hk1).mono (by simp)⟩
  | true =>
    have hgj : j.typ.length ≤ 100 ∧ 0 ≤ j.size ∧ j.size ≤ 1048576 ∧ j.pins = 0 := by
      unfold goodJ at hg; simp only [Bool.and_eq_true, decide_eq_true_eq] at hg; exact ⟨hg.1.1.1, hg.1.1.2, hg.1.2, hg.2⟩
    have e0 : putE L j = if (findL L j.dig).isSome = true then 9 else if 64 ≤ L.length then 6 else 0 := by rw [HE.out, if_neg (by simp [hg])]
    rw [hg] at HIJ; have hdl := digC_length j.dig
    have hrd : ∀ (w' : World) (n : Nat), Blk w' n 63 j.cells → w'.rangeAt n 0 (digC j.dig) := fun w' n hb x v hv => by
      refine hb.rangeAt x v ?_; unfold Jar.cells; rw [List.getElem?_append_left (List.getElem?_eq_some_iff.1 hv).1]; exact hv
    have HRD := Lib.hid hrd; have HDL := Lib.hid (show (Tryz.prog.info? 25).map (·.size) = some (digC j.dig).length by rw [hdl]; exact dig_size); have HD := Lib.hid (fun w' (hm : MapIs w' bm M I.length) => hm.look j.dig); have HPU := Lib.hid (fun w' (hm : MapIs w' bm M I.length) (i : Nat) (hi : 0 < i) (hi2 : i < 65) (h0 : M j.dig = 0) => hm.put j.dig i hi hi2 h0 (by have := h1.ring.count; show I.length < 9223372036854775807; omega)); clear hrd hdl HE hg; generalize hdc : digC j.dig = dc at HRD HDL HD HPU; by_cases h0 : M j.dig = 0
    · have hf := h1.ring.find_no h0; rw [← hL] at hf; have e1 : putE L j = if 64 ≤ L.length then 6 else 0 := by rw [e0, hf]; rfl
      have hc := h1.ring.count; have hll : L.length = I.length := by rw [hL, List.length_map]
      rw [h0] at HD; have HH0 := Lib.hid h0; clear hf e0 h0; rcases List.eq_nil_or_concat F with hF | ⟨F', i, hF⟩
      · subst hF; simp only [List.length_nil] at hc; have hE1 : putE L j = 6 := by rw [e1, if_pos (by omega)]
        have hE2 : putL L j = L := by rw [HPL.out, hE1]; rfl
        rw [hE1, hE2]; obtain ⟨fa, fc, hfv, _⟩ := HA.out.own.shape; have hfv' : fv = .slice fa 0 fc := hfv; clear hE1 hE2 e1 hfv; have HA1 := Lib.hid (fun w' (k : Keep [] wA w') => HA.out.keep0 k); clear h1 hL; go_enter Tryz.func131, Tryz.ntmps131
        go_wp2_with (first | (refine wpList_load_mid rfl 63 (.tmp 3) rfl w.heap.size 0 (by rfl) j.cells _ HBA.out.rangeAt Tryz.underlying63 rfl HSZ.out ?_) | fail)
        (try simp only [sq]); (try go_wp2_with fail); refine (HIJ.out _).mono ?_; rintro e w1 ⟨rfl, hk1⟩; have hW1 := HA1.out w1 hk1; have c6 : w1.cell? ⟨b, 2406, none⟩ = some (.map (some bm)) := hW1.blk.tail 1; have c5 : w1.cell? ⟨b, 2405, none⟩ = some fv := hW1.blk.tail 0; rw [hfv'] at c5; have hlk : ∀ x, (Instr.lookup 137 (.map (some bm)) (.agg dc.toArray) false).run Tryz.prog (w1.drewN x) = .ok (.int .i64 ((0 : Nat) : Int)) (w1.drewN x) := fun x => HD.out _ (hW1.map.drewN x)
        have hrg : Hid (∀ w', (∃ x, w' = w1.drewN x) → w'.rangeAt w.heap.size 0 dc) := fun w' ⟨x, hx⟩ => by
          subst hx; exact HRD.out _ _ ((hk1.blk HBA.out (by simp)).drewN x)
        have HK1 := Lib.hid (HKA.out.trans hk1); clear hk1 hW1; go_wp2_with fail; refine wp_region_quiet_lit (by kernel_rfl) (by kernel_rfl) ?_
        repeat (go_big_quiet_step (fail))
        refine wpQuiet_load rfl 25 (.tmp 18) rfl w.heap.size 0 (by rfl) dc _ hrg.out Tryz.underlying25 rfl HDL.out ?_; simp only [sq]
        repeat (go_big_quiet_step (fail))
        refine wpQuiet_nil ?_; intro _ hw'; obtain ⟨nq, hw''⟩ := hw'; subst hw''; have d5 : (w1.drewN nq).cell? ⟨b, 2405, none⟩ = some (.slice fa 0 fc) := c5; have kq := Lib.hid (HK1.out.drewN nq); generalize w1.drewN nq = w2 at d5 kq; go_wp2_with fail; go_ret; exact ⟨rfl, HH.out.keep0 kq.out, kq.out.mono (by simp)⟩
      · rw [List.concat_eq_append] at hF; subst hF; have hc' : I.length + F'.length = 63 := by simp at hc; omega
        have hE1 : putE L j = 0 := by rw [e1, if_neg (by omega)]
        have hE2 : putL L j = j :: L := by rw [HPL.out, hE1]; rfl
        rw [hE1, hE2]; clear hE1 hE2 e1; have hib := h1.ring.bound (k := i) (by simp); have hrp := h1.ring.put j HH0.out; have hprv := h1.ring.prv0; obtain ⟨p, hp⟩ : ∃ p, P[i]? = some p := ⟨_, List.getElem?_eq_getElem (by have := h1.ring.len; omega)⟩
        rw [getD_get hp] at hrp
        have hpr : ((P.set i { p with jar := j }).getD 0 default).prev = (P.getD 0 default).prev := by
          have := jset_prv (P := P) (k := i) j (by have := h1.ring.len; omega) 0; unfold prvF at this; rwa [getD_get hp] at this
        obtain ⟨g, fc, hfv, hfl1, hfl2⟩ : ∃ g fc, fv = .slice (some ⟨g, 0, none⟩) (F'.length + 1) fc ∧ F'.length + 1 ≤ fc ∧ fc ≤ maxLen := by
          rcases h1.own.2 with ⟨_, hz⟩ | ⟨g, fc, cur, hv, _, _, hx1, hx2, _⟩
          · simp at hz
          · exact ⟨g, fc, by rw [hv]; simp, by simpa using hx1, hx2⟩
        subst hfv; have hgx := h1.nf g rfl; have hmb := h1.ne; have hsb := size_bound h1.good (by simp; omega); rw [← h1.tot] at hsb; have hgood := h1.good; have htot := h1.tot; have huse := h1.use; have HP := Lib.hid (And.intro hp (And.intro hrp (And.intro hprv (And.intro hpr (And.intro hgood (And.intro htot huse)))))); have HX := Lib.hid (And.intro hgx (And.intro hmb hib)); have HC := Lib.hid (And.intro hc' hll); have HLL := Lib.hid hL; have HA1 := Lib.hid (fun w' (k : Keep [] wA w') => HA.out.keep0 k); have hi0 : (0 : Int) ≤ (i : Int) := by omega
        have hi1 : (i : Int) < 65 := by omega
        have hfl2 : fc ≤ 9223372036854775807 := hfl2; have hF64 : F'.length ≤ 63 := by omega
        obtain ⟨n, hn⟩ : ∃ n, n = F'.length := ⟨_, rfl⟩
        have HN := Lib.hid hn; rw [← hn] at hfl1 hF64; have hn0 : (0 : Int) ≤ (n : Int) := by omega
        have hn1 : (n : Int) < (n : Int) + 1 := by omega
        have hnw := IntWalk.i64_in ((n : Int) + 1 - 1) (by omega); have hnw2 := IntWalk.i64_in (n : Int) (by omega); have hnn : (((n : Int) + 1 == 0)) = false := by simp; omega
        have hnt : ((n : Int) + 1 - 1) = (n : Int) := by omega
        have hnc : (n : Int) ≤ (fc : Int) := by omega
        rw [← hn] at HA HA1; clear h1 hL hib hrp hprv hp hpr hgx hmb hgood htot huse hc' hc hll hn; go_enter Tryz.func131, Tryz.ntmps131
        go_wp2_with (first | (refine wpList_load_mid rfl 63 (.tmp 3) rfl w.heap.size 0 (by rfl) j.cells _ HBA.out.rangeAt Tryz.underlying63 rfl HSZ.out ?_) | fail)
        (try simp only [sq]); (try go_wp2_with fail); refine (HIJ.out _).mono ?_; rintro e w1 ⟨rfl, hk1⟩; have hW1 := HA1.out w1 hk1; have c6 : w1.cell? ⟨b, 2406, none⟩ = some (.map (some bm)) := hW1.blk.tail 1; have hlk : ∀ x, (Instr.lookup 137 (.map (some bm)) (.agg dc.toArray) false).run Tryz.prog (w1.drewN x) = .ok (.int .i64 ((0 : Nat) : Int)) (w1.drewN x) := fun x => HD.out _ (hW1.map.drewN x)
        have hrg : Hid (∀ w', (∃ x, w' = w1.drewN x) → w'.rangeAt w.heap.size 0 dc) := fun w' ⟨x, hx⟩ => by
          subst hx; exact HRD.out _ _ ((hk1.blk HBA.out (by simp)).drewN x)
        have HK1 := Lib.hid (HKA.out.trans hk1); have HKK := Lib.hid hk1; clear hk1 hW1; go_wp2_with fail; refine wp_region_quiet_lit (by kernel_rfl) (by kernel_rfl) ?_
        repeat (go_big_quiet_step (fail))
        refine wpQuiet_load rfl 25 (.tmp 18) rfl w.heap.size 0 (by rfl) dc _ hrg.out Tryz.underlying25 rfl HDL.out ?_; simp only [sq]
        repeat (go_big_quiet_step (fail))
        refine wpQuiet_nil ?_; intro _ hw'; obtain ⟨nq, hw''⟩ := hw'; subst hw''; have hk2 : Keep [] wA (w1.drewN nq) := HKK.out.drewN nq; generalize w1.drewN nq = w2 at hk2; have hW2 := HA1.out w2 hk2; have d5 : w2.cell? ⟨b, 2405, none⟩ = some (.slice (some ⟨g, 0, none⟩) (n + 1) fc) := hW2.blk.tail 0; have f2 := hW2.blk.2.frozen; have hel := (hW2.own.sl intC_length).cell (i := n) (x := i) (by rw [HN.out]; simp); obtain ⟨gb, go, gc, hge, _, _, hgi⟩ := hel
        obtain ⟨rfl, rfl, rfl⟩ : gb = g ∧ go = 0 ∧ gc = fc := by
          simp at hge; exact ⟨hge.1.1.symm, hge.1.2.symm, hge.2.2.symm⟩
        have dg := hgi 0 (by simp [intC]); rw [show 0 + n * 1 + 0 = n by omega] at dg; simp only [intC, List.getElem?_cons_zero] at dg; have HW2 := Lib.hid hW2; have HK2 := Lib.hid hk2; clear hgi hge hW2 hk2 hlk hrg c6 HK1 HKK; go_wp2_with fail; go_quiet (fail); have hk2b : Keep [] wA (w2.drewN nq) := HK2.out.drewN nq; generalize w2.drewN nq = wb at hk2b; have hWb := HA1.out wb hk2b; have HBb := Lib.hid (hk2b.blk HBA.out (by simp)); have HKb := Lib.hid (HKA.out.trans hk2b); have e5 : wb.cell? ⟨b, 2405, none⟩ = some (.slice (some ⟨gb, 0, none⟩) (n + 1) gc) := hWb.blk.tail 0; have fb := hWb.blk.2.frozen; have HWb := Lib.hid hWb; clear hWb d5 f2 dg HW2 HK2 hk2b; go_wp2_with fail
        go_region
        have hbn : w.heap.size ∉ [b] := by simp; omega
        have hk3 : Keep [b] wb (wb.setCell ⟨b, 2405, none⟩ (.slice (some ⟨gb, 0, none⟩) n gc)).drew := ((Keep.refl _ _).setCell _ _ (by simp)).drew; have hb3 : RkBlk (wb.setCell ⟨b, 2405, none⟩ (.slice (some ⟨gb, 0, none⟩) n gc)).drew b P (.slice (some ⟨gb, 0, none⟩) n gc) bm budget total pinned := HWb.out.blk.setTail 0 _ _ _ _ _ _ rfl; generalize (wb.setCell ⟨b, 2405, none⟩ (.slice (some ⟨gb, 0, none⟩) n gc)).drew = w3 at hk3 hb3; have hB3 := hk3.blk HBb.out hbn; have hr3 : w3.drew.rangeAt w.heap.size 0 j.cells := hB3.rangeAt
        have hth : w3.drew.there b (i * 37) j.cells.toArray.size := by
          refine Blk.there (w := w3) hb3.2 (i * 37) _ ?_; have hl : (rows Place.cells P).length = 2405 := by rw [rows_length Place.cells_length, hb3.1]
          rw [List.length_append, hl, List.size_toArray, Jar.cells_length]; simp only [List.length_cons, List.length_nil]; omega
        have hb4 : RkBlk (w3.drew.setCells b (i * 37) j.cells) b (P.set i { p with jar := j }) (.slice (some ⟨gb, 0, none⟩) n gc) bm budget total pinned := RkBlk.setJar (w := w3.drew) hb3 HP.out.1 j; have hk4 : Keep [b] w3 (w3.drew.setCells b (i * 37) j.cells) := Keep.setCells b (by simp) _ _ _ (Keep.refl _ _).drew; have hB4 := hk4.blk hB3 hbn; have hr4 : (w3.drew.setCells b (i * 37) j.cells).rangeAt w.heap.size 0 j.cells := hB4.rangeAt; have H4 := Lib.hid (And.intro hk3 (And.intro hk4 (And.intro hb4 hB4))); clear hbn hk3 hb3 hB3 hb4 hk4 hB4 e5 fb; go_wp2_with fail; refine wp_region_noPanic ?_; refine wp_region_held_drew (S := fun w' => w'.rangeAt w.heap.size 0 j.cells) (by kernel_rfl) hr3 (fun hHeld => ?_); refine gW 0 ?_; (try simp only [sq]); refine gW 1 ?_; (try simp only [sq]); refine gU 2 (oi := ⟨some 57, .load 63 (.tmp 3), _, _, _, none⟩) rfl (yieldsIf_load_mid (by rfl) 63 (.tmp 3) rfl w.heap.size 0 rfl j.cells _ (fun _ h => h) Tryz.underlying63 rfl HSZ.out) (by assumption) ?_; (try simp only [sq]); refine gW 3 ?_; (try simp only [sq]); refine gW 4 ?_; (try simp only [sq]); refine gW 5 ?_; (try simp only [sq]); refine gW 6 ?_; (try simp only [sq]); refine wpAnyH_ready (rs := [7]) (by kernel_rfl) (by simp) ?_; refine AllReadyH.cons (o := ⟨none, .store 63 (.tmp 61) (.tmp 57), 0, _, _, none⟩) rfl (fun K hK => ?_) ?_
        · rw [if_pos (by rfl)]; refine wp_store_mid 63 _ _ rfl b (i * 37) j.cells.toArray rfl rfl hth (by rw [List.size_toArray]; exact HSZ.out) (all_oneCell_toArray j.one) ?_; simp only [Act.put, sqA, sqC, sqB, List.toList_toArray]; refine hK.out _ _ hr4 (fun hHeld2 => ?_); clear hK K; refine wpAnyH_done (by kernel_rfl) ?_ _; refine NoPanic.normal ?_; obtain ⟨hk3, hk4, hb4, hB4⟩ := H4.out; generalize w3.drew.setCells b (i * 37) j.cells = w4 at hk4 hb4 hB4; have hnm : bm ∉ [b] := by simp; exact HX.out.2.1
          have hm4 := (HWb.out.map.keep hk3 hnm).keep hk4 hnm; obtain ⟨w5, hrun, hm5, ht5⟩ := HPU.out w4.drew hm4 i (by have := HX.out.2.2; omega) (by have := HX.out.2.2; omega) HH0.out; have hk5 : Keep [bm] w4 w5 := ((Keep.refl [bm] w4).drew).trans (keep_turned ht5); have hr4' : w4.drew.rangeAt w.heap.size 0 dc := HRD.out w4.drew _ hB4; have hc4 : w4.drew.cell? ⟨b, 2406, none⟩ = some (.map (some bm)) := hb4.tail 1; have hbm' : b ∉ [bm] := by simp; exact fun e => HX.out.2.1 e.symm
          have hbn' : w.heap.size ∉ [bm] := by simp; omega
          have hb5 := hb4.keep hk5 hbm'; have hB5 := hk5.blk hB4 hbn'; have hr5 : w5.rangeAt w.heap.size 0 dc := HRD.out w5 _ hB5; have hc5 : w5.cell? ⟨b, 2406, none⟩ = some (.map (some bm)) := hb5.tail 1; have hud := Tryz.underlying25; have hdl := HDL.out; have H5 := Lib.hid (And.intro hk3 (And.intro hk4 (And.intro hk5 (And.intro hb5 (And.intro hB5 hm5))))); clear hk3 hk4 hb4 hB4 hm4 hm5 ht5 hk5 hb5 hB5 hnm hbm' hbn' hHeld hHeld2; go_wp2_with fail
          go_region_held3 (fun w' => w'.rangeAt w.heap.size 0 dc ∧ w'.cell? ⟨b, 2406, none⟩ = some (.map (some bm)))
            (first | assumption | (refine ⟨?_, ?_⟩ <;> assumption)) (fail)
          obtain ⟨hk3, hk4, hk5, hb5, hB5, hm5⟩ := H5.out; have c8 : w5.cell? ⟨b, 2408, none⟩ = some (.int .i64 total) := hb5.tail 3; have c33 := hB5.get (k := 33) (v := .int .i64 j.size) (by simp [Jar.cells, digC_length, List.getElem?_append]); have f5 := hb5.2.frozen; have hw := IntWalk.i64_in (total + j.size) (by omega); have HJ := Lib.hid hgj; clear hk3 hk4 hk5 hb5 hB5 hm5 hrun hr4' hc4 hr5 hc5 hud hdl hgj; go_wp2_with fail
          go_region
          obtain ⟨hk3, hk4, hk5, hb5, hB5, hm5⟩ := H5.out; have hk6 : Keep [b] w5 (w5.setCell ⟨b, 2408, none⟩ (.int .i64 (total + j.size))).drew := ((Keep.refl _ _).setCell _ _ (by simp)).drew; have hb6 : RkBlk (w5.setCell ⟨b, 2408, none⟩ (.int .i64 (total + j.size))).drew b (P.set i { p with jar := j }) (.slice (some ⟨gb, 0, none⟩) n gc) bm budget (total + j.size) pinned := hb5.setTail 3 _ _ _ _ _ _ rfl; generalize (w5.setCell ⟨b, 2408, none⟩ (.int .i64 (total + j.size))).drew = w6 at hk6 hb6; have hnm : bm ∉ [b] := by simp; exact HX.out.2.1
          have hm6 := hm5.keep hk6 hnm; have hgx := HX.out.1; have hgb : ∀ x, (Value.slice (some ⟨gb, 0, none⟩) n gc).ownBlock = some x → x ≠ b ∧ x ≠ bm := fun x hx => by simp [Value.ownBlock] at hx; subst hx; exact hgx
          have hno : ∀ x, (Value.slice (some ⟨gb, 0, none⟩) n gc).ownBlock = some x → x ∉ [b] := fun x hx => by simp; exact (hgb x hx).1
          have hno' : ∀ x, (Value.slice (some ⟨gb, 0, none⟩) n gc).ownBlock = some x → x ∉ [bm] := fun x hx => by simp; exact (hgb x hx).2
          have ho := own_pop intC_length HWb.out.own; rw [← HN.out] at ho; have ho6 := (((ho.keep hk3 hno).keep hk4 hno).keep hk5 hno').keep hk6 hno; have hm1S : ∀ {A B : World}, ∀ x ∈ [b], x < A.heap.size → x ∈ S := fun x hx _ => by simp at hx; rw [hx]; exact HM.out.1
          have hm2S : ∀ {A B : World}, ∀ x ∈ [bm], x < A.heap.size → x ∈ S := fun x hx _ => by simp at hx; rw [hx]; exact HM.out.2.1
          have hkS : Keep S w w6 := ((((HKb.out.mono (by simp)).trans' hk3 (fun x hx _ => by simp at hx; rw [hx]; exact HM.out.1)).trans' hk4 (fun x hx _ => by simp at hx; rw [hx]; exact HM.out.1)).trans' hk5 (fun x hx _ => by simp at hx; rw [hx]; exact HM.out.2.1)).trans' hk6 (fun x hx _ => by simp at hx; rw [hx]; exact HM.out.1); have H6 := Lib.hid (And.intro hb6 (And.intro hm6 (And.intro ho6 (And.intro hkS (And.intro hgb hno))))); clear hk3 hk4 hk5 hk6 hb5 hB5 hm5 hb6 hm6 ho ho6 hgb hno hno' hgx hkS hnm c8 c33 f5 hm1S hm2S; go_wp2_with fail; refine (rack_link b _ (.slice (some ⟨gb, 0, none⟩) n gc) bm budget (total + j.size) pinned i w6 H6.out.1 (by have := HX.out.2.2; omega) (by have := HP.out.2.2.2.1; rw [this]; exact HP.out.2.2.1)).mono ?_; rintro e w7 ⟨rfl, hb7, hk7⟩; go_wp2_with fail; go_ret; obtain ⟨hb6, hm6, ho6, hkS, hgb, hno⟩ := H6.out; obtain ⟨hp, hrp, hprv, hpr, hgood, htot, huse⟩ := HP.out; have hjz := HJ.out; refine ⟨rfl, ⟨_, _, bm, total + j.size, pinned, _, _, F', ⟨hb7, ?_, ho6.keep hk7 hno, hrp.1, HX.out.2.1, hgb, ?_, ?_, ?_⟩, ?_, HM.out.1, HM.out.2.1, fun x hx => HM.out.2.2 x hx⟩, hkS.trans' hk7 (fun x hx _ => by simp at hx; rw [hx]; exact HM.out.1)⟩
          · exact hm6.keep hk7 (by simp; exact HX.out.2.1)
          · rw [hrp.2, htot]; unfold sumL; simp only [List.map_cons, List.sum_cons]; omega
          · rw [hrp.2, huse]; unfold usedL; simp only [List.map_cons, List.sum_cons, hjz.2.2.2]; simp
          · rw [hrp.2]; intro x hx; rcases List.mem_cons.1 hx with rfl | hx
            · exact ⟨hjz.1, hjz.2.1, hjz.2.2.1, by omega, by omega⟩
            · exact hgood x hx
          · rw [hrp.2, HLL.out]
        · exact AllReadyH.nil
    · have hf := h1.ring.find_yes h0; rw [← hL] at hf; have e1 : putE L j = 9 := by rw [e0, hf]; rfl
      have e2 : putL L j = L := by rw [HPL.out, e1]; rfl
      rw [e1, e2]; have hq := (int_ne' (show ((M j.dig : Nat) : Int) ≠ 0 by omega)).2; generalize M j.dig = i at HD hq; have HA1 := Lib.hid (fun w' (k : Keep [] wA w') => HA.out.keep0 k); clear hf e0 h0 e1 e2 h1 hL; go_enter Tryz.func131, Tryz.ntmps131
      go_wp2_with (first | (refine wpList_load_mid rfl 63 (.tmp 3) rfl w.heap.size 0 (by rfl) j.cells _ HBA.out.rangeAt Tryz.underlying63 rfl HSZ.out ?_) | fail)
      (try simp only [sq]); (try go_wp2_with fail); refine (HIJ.out _).mono ?_; rintro e w1 ⟨rfl, hk1⟩; have hW1 := HA1.out w1 hk1; have c6 : w1.cell? ⟨b, 2406, none⟩ = some (.map (some bm)) := hW1.blk.tail 1; have hlk : ∀ x, (Instr.lookup 137 (.map (some bm)) (.agg dc.toArray) false).run Tryz.prog (w1.drewN x) = .ok (.int .i64 (i : Nat)) (w1.drewN x) := fun x => HD.out _ (hW1.map.drewN x)
      have hrg : Hid (∀ w', (∃ x, w' = w1.drewN x) → w'.rangeAt w.heap.size 0 dc) := fun w' ⟨x, hx⟩ => by
        subst hx; exact HRD.out _ _ ((hk1.blk HBA.out (by simp)).drewN x)
      have HK1 := Lib.hid (HKA.out.trans hk1); clear hk1 hW1; go_wp2_with fail; refine wp_region_quiet_lit (by kernel_rfl) (by kernel_rfl) ?_
      repeat (go_big_quiet_step (fail))
      refine wpQuiet_load rfl 25 (.tmp 18) rfl w.heap.size 0 (by rfl) dc _ hrg.out Tryz.underlying25 rfl HDL.out ?_; simp only [sq]
      repeat (go_big_quiet_step (fail))
      refine wpQuiet_nil ?_; intro _ hw'; obtain ⟨nq, hw''⟩ := hw'; subst hw''; have kq := Lib.hid (HK1.out.drewN nq); generalize w1.drewN nq = w2 at kq; go_wp2_with fail; go_ret; exact ⟨rfl, HH.out.keep0 kq.out, kq.out.mono (by simp)⟩
section
variable {w0 : World} {X : List Nat} {w : World} {b : Nat} {budget : Int} {L : List Jar}
end
theorem eqDig (a b : Dig) (w : World) : (Op.equalIn 10000 25 (.agg (digC a).toArray) (.agg (digC b).toArray)).run Tryz.prog w = .ok (decide (a = b)) w := by
  obtain ⟨r, hr, hi⟩ := run_equal_deep w (m := 2) (by omega) (k := 25) (of_decide_eq_true (by kernel_rfl)) (by kernel_rfl) (dig_key a) (dig_key b); have hr' : (Op.equalIn 10000 25 (.agg (digC a).toArray) (.agg (digC b).toArray)).run Tryz.prog w = .ok r w := hr; refine hr'.trans ?_; congr 1; rw [Bool.eq_iff_iff, hi, decide_eq_true_eq]; constructor
  · intro h; exact Subtype.ext (by injection h)
  · rintro rfl; rfl
theorem wpList_wanted {P : Program} {ops : Array Oper} {rest : List Oper} {o : Oper} {a : Act} {w : World} {Q : Exit → Act → World → Prop} (hw : Region.wanted o (yielded ops a.tmps) = true) (h : ∀ K : Act → World → Prop, (∀ a w, wpList P ops Q rest a w → K a w) → o.wp P a w K Q) : wpList P ops Q (o :: rest) a w :=
  wpList_step fun K hK => by rw [if_pos hw]; exact h K hK
theorem wpList_load_midG {P : Program} {ops : Array Oper} {rest : List Oper} {op : Oper} {a : Act} {w : World} {Q : Exit → Act → World → Prop} (hw : Region.wanted op (yielded ops a.tmps) = true) (ty : TypeId) (x : Operand) (ho : op.op = .load ty x)
    (b o : Nat) (hx : a.eval x = .pointer (some ⟨b, o, none⟩)) (cs : List Value) (d : TypeDesc) (hc : w.rangeAt b o cs) (hu : P.underlying ty = some d) (hd : d.isRow = true) (hi : (P.info? ty).map (·.size) = some cs.length)
    (h : wpList P ops Q rest (a.put op.dst (.agg cs.toArray)) w) : wpList P ops Q (op :: rest) a w :=
  wpList_wanted hw fun _ hK => wp_load_mid ty x ho b o hx cs d hc hu hd hi (hK _ _ h)
end Go.Proofs.YtkghgaopcgcheaaGreatDoor
namespace Go.Proofs.YtkghgaopcgcheaaGreatDoor
open Go.RowKit Go.Maps
theorem own_at {w : World} {v : Value} {L : List Jar} {k : Nat} {x : Jar} (h : Own Jar.cells 35 0 63 w v L) (hx : L[k]? = some x) :
    ∃ g cap, v = .slice (some ⟨g, 0, none⟩) L.length cap ∧ L.length ≤ cap ∧ cap ≤ maxLen ∧ w.rangeAt g (k * 35) x.cells := by
  obtain ⟨b, off, cap, hv, h1, h2, h3⟩ := (h.sl Jar.cells_length).cell hx; rcases h.2 with ⟨rfl, h0⟩ | ⟨g, cap', cur, hv', _⟩
  · have := (List.getElem?_eq_some_iff.1 hx).1; omega
  · rw [hv'] at hv; injection hv with e1 e2 e3
    injection e1 with e1
    injection e1 with e1 e4
    subst e1 e4 e3; refine ⟨g, cap', hv', h1, h2, fun j u hu => ?_⟩; have hj := (List.getElem?_eq_some_iff.1 hu).1; rw [Jar.cells_length] at hj; have := h3 j hj; rw [Nat.zero_add, hu] at this; exact this
def posL (L : List Jar) (d : Dig) : Int := match L.findIdx? (fun x => decide (x.dig = d)) with
  | none => -1
  | some i => (i : Nat)
theorem posL_at {L : List Jar} {d : Dig} {k : Nat} {x : Jar} (hx : L[k]? = some x) (hd : x.dig = d) (h : ∀ j, j < k → ∀ y, L[j]? = some y → y.dig ≠ d) : posL L d = (k : Nat) := by
  unfold posL
  have : L.findIdx? (fun x => decide (x.dig = d)) = some k := by
    rw [List.findIdx?_eq_some_iff_getElem]; obtain ⟨hl, he⟩ := List.getElem?_eq_some_iff.1 hx; refine ⟨hl, by simp [he, hd], fun j hj => ?_⟩; have := h j hj _ (List.getElem?_eq_getElem (by omega)); simpa using this
  rw [this]
theorem posL_no {L : List Jar} {d : Dig} (h : ∀ j, j < L.length → ∀ y, L[j]? = some y → y.dig ≠ d) : posL L d = -1 := by
  unfold posL
  have : L.findIdx? (fun x => decide (x.dig = d)) = none := by
    rw [List.findIdx?_eq_none_iff]; intro x hx; obtain ⟨j, hj⟩ := List.getElem?_of_mem hx; have := h j (List.getElem?_eq_some_iff.1 hj).1 x hj; simpa using this
  rw [this]
theorem ref_Good21 (j : Jar) (w : World) (hl : j.typ.length ≤ maxLen) : Calls Tryz.prog 119 #[.agg j.cells.toArray] w fun e w' => e = .returned (.bool (goodJ j)) ∧ Keep [] w w' := by
  have hb := Blk.newA w j.cells.toArray 63; have hk := (Keep.refl [] w).alloc (.cells j.cells.toArray 63); have c0 := hb.get (k := 32) (v := .string (S j.typ)) (by simp [Jar.cells, digC_length, List.getElem?_append]); have c1 := hb.get (k := 33) (v := .int .i64 j.size) (by simp [Jar.cells, digC_length, List.getElem?_append]); have c2 := hb.get (k := 34) (v := .int .i64 j.pins) (by simp [Jar.cells, digC_length, List.getElem?_append]); have hs := S_size j.typ; have hl' : j.typ.length ≤ 9223372036854775807 := hl
  have hg : goodJ j = (decide (((j.typ.length : Nat) : Int) ≤ 100) && decide (0 ≤ j.size) && decide (j.size ≤ 1048576) && (j.pins == 0)) := by
    unfold goodJ; rw [Bool.eq_iff_iff]; simp only [Bool.and_eq_true, decide_eq_true_eq, beq_iff_eq]; omega
  have HG := Lib.hid hg; have HK := Lib.hid hk; generalize j.cells = cs at hb c0 c1 c2 HK ⊢; generalize hwA : w.alloc (.cells cs.toArray 63) = wA at hb c0 c1 c2 HK; clear hb hk hg hl; go_enter Tryz.func119, Tryz.ntmps119; go_wp2_with fail
  all_goals
    go_ret; refine ⟨?_, HK.out⟩; rw [HG.out]
    first
      | (rename_i h1 h2 h3; simp [h1, h2, h3]; done)
      | (rename_i h1 h2 h3; simp [h1, h2, Int.not_le.2 h3]; done)
      | (rename_i h1 h2; simp [h1, Int.not_le.2 h2]; done)
      | (rename_i h1; simp [Int.not_le.2 h1]; done)
end Go.Proofs.YtkghgaopcgcheaaGreatDoor
