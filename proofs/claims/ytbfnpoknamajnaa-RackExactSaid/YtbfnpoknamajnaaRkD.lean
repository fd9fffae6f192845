/- Layer 21: Drop. No conditions. -/
import Derived.Test.YtbfnpoknamajnaaRkN
namespace Go.Proofs.Ytbfnpoknamajnaa
open Go.RowKit Go.Maps

/-- 'delete(m, k)', in a region that draws its order -/
theorem step_delete {P : Program} {ops : Array Oper} {o : Oper} {a : Act} {w w' : World} {K : Act → World → Prop} {Q : Exit → Act → World → Prop} {X : Prop} (hgd : o.guard = none) (m x : Operand) (t k : TypeId)
    (ho : o.op = .call { callee := .builtin .delete, args := #[m, x], argTypes := #[t, k] }) (u v : Value) (hm : a.eval m = u) (hx : a.eval x = v) (hrun : ∀ ty, (Builtin.delete_ #[t, k] ty #[u, v]).run P w = .ok (.tuple #[]) w') (h : K (a.put o.dst (.tuple #[])) w') :
    if Region.wanted o (yielded ops a.tmps) = true then Oper.wp P o a w K Q else X := by
  rw [if_pos (by simp [Region.wanted, hgd])]
  unfold Oper.wp
  simp [execOp, ho, resolve, invoke, builtin, hm, hx, hrun o.type, Result.andThen]
  exact h
theorem delete_ty (t k ty ty' : TypeId) (args : Array Value) : Builtin.delete_ #[t, k] ty args = Builtin.delete_ #[t, k] ty' args := by
  first | rfl | (unfold Builtin.delete_; rfl)
def dropE (L : List Jar) (d : Dig) : Int := match findL L d with
  | none => 7
  | some x => if 0 < x.pins then 8 else 0
def dropL (L : List Jar) (d : Dig) : List Jar := match findL L d with
  | none => L
  | some x => if 0 < x.pins then L else restL L d

set_option maxRecDepth 100000 in
set_option maxHeartbeats 2000000 in
theorem rack_Drop {S : List Nat} (b : Nat) (budget : Int) (L : List Jar) (d : Dig) (w : World) (h : Rk S w b budget L) :
    Calls Try.prog 20 #[.pointer (some ⟨b, 0, none⟩), .agg (digC d).toArray] w fun e w' => e = .returned (.int .i64 (dropE L d)) ∧ ∃ S', Rk S' w' b budget (dropL L d) ∧ Grow S w S' w' := by
  have h' := h
  obtain ⟨P, fv, bm, total, pinned, M, I, F, h1, hL, m1, m2, m3⟩ := h
  have hkA := (Keep.refl [] w).alloc (.cells (digC d).toArray 44)
  have hbA := Blk.newA w (digC d).toArray 44
  have hF := h1.find hkA d
  have hrg : (w.alloc (.cells (digC d).toArray 44)).rangeAt w.heap.size 0 (digC d) := hbA.rangeAt
  have hdl : (Try.prog.info? 44).map (·.size) = some (digC d).length := by rw [digC_length]; exact dig_size
  have hA := h1.keep0 hkA
  have hdr := fun (w' : World) (hm : MapIs w' bm M I.length) (h0 : M d ≠ 0) => hm.drop d h0 0
  generalize hwA : w.alloc (.cells (digC d).toArray 44) = wA at hkA hrg hF hA hbA
  have hbA : Blk wA w.heap.size 44 (digC d) := by simpa using hbA
  generalize digC d = dc at hrg hwA hdl hF hdr hbA
  have HRG := Lib.hid hrg
  have HDL := Lib.hid hdl
  by_cases h0 : M d = 0
  · have hf := h1.ring.find_no h0
    rw [← hL] at hf
    have e1 : dropE L d = 7 := by unfold dropE; rw [hf]
    have e2 : dropL L d = L := by unfold dropL; rw [hf]
    rw [e1, e2]
    rw [h0, if_pos rfl] at hF
    have HF := Lib.hid hF
    have HR := Lib.hid (And.intro h' hkA)
    clear h1 hL hrg hdl h0 hf e1 e2 hbA hA h' hF m1 m2 m3 hkA hdr
    go_enter Try.func20, Try.ntmps20
    go_wp2_with (first
      | (refine wpList_load_mid rfl 44 (.tmp 3) rfl w.heap.size 0 (by rfl) dc _ HRG.out Try.underlying44 rfl HDL.out ?_)
      | fail)
    try simp only [Act.put, List.setIfInBounds_toArray, List.set_cons_succ, List.set_cons_zero]
    try go_wp2_with fail
    refine HF.out.mono ?_
    rintro e w1 ⟨rfl, hk1⟩
    go_wp2_with fail
    go_ret
    exact ⟨rfl, S, HR.out.1.keep0 (HR.out.2.trans hk1), .of (HR.out.2.trans hk1)⟩
  · have hf := h1.ring.find_yes h0
    have hb65 := h1.ring.at0 h0
    have htw := h1.ring.two (h1.ring.m1 d h0).1
    have hrd := h1.ring.drop h0
    obtain ⟨p, hp⟩ : ∃ p, P[M d]? = some p := ⟨_, List.getElem?_eq_getElem (by have := h1.ring.len; omega)⟩
    have hpj : jarF P (M d) = p.jar := by unfold jarF; rw [getD_get hp]
    have hok := h1.good _ (find_mem hf).1
    rw [hpj] at hok hf
    have hsb := size_bound h1.good (by have := h1.ring.count; simp; omega)
    rw [← h1.tot] at hsb
    have hsum := fun f => sum_rest _ d _ h1.ring.digs hf f
    have hrest := sum_bound (·.size) 1048576 (restL (I.map (jarF P)) d) (fun j hj => by obtain ⟨_, h1, h2, _⟩ := h1.good j (rest_mem hj); exact ⟨h1, h2⟩)
    have htt : total - p.jar.size = sumL (restL (I.map (jarF P)) d) := by rw [h1.tot]; unfold sumL; rw [hsum (·.size)]; omega
    have hts : 0 ≤ total - p.jar.size := by rw [htt]; exact hrest.1
    have huu : p.jar.pins = 0 → pinned = usedL (restL (I.map (jarF P)) d) := fun hz => by rw [h1.use]; unfold usedL; rw [hsum]; simp [hz]
    have hFl : F.length ≤ 64 := by have := h1.ring.count; omega
    have hIp : 1 ≤ I.length := List.length_pos_of_mem (h1.ring.m1 d h0).1
    have hprm := (h1.ring.unlink h0).2.2.2.length_eq
    have e1 : dropE L d = if 0 < p.jar.pins then 8 else 0 := by unfold dropE; rw [hL, hf]
    have e2 : dropL L d = if 0 < p.jar.pins then L else restL (I.map (jarF P)) d := by unfold dropL; rw [hL, hf]
    rw [if_neg h0] at hF
    have hdr := fun w' hm => hdr w' hm h0
    obtain ⟨i, hMd⟩ : ∃ i, M d = i := ⟨_, rfl⟩
    rw [hMd] at hF hb65 hp hpj htw hrd hprm
    have HF := Lib.hid hF
    have HR := Lib.hid (And.intro hA hkA)
    have HM := Lib.hid (And.intro m1 (And.intro m2 m3))
    have HH := Lib.hid h'
    have HP := Lib.hid (And.intro hp hok)
    have HT := Lib.hid (And.intro htw (And.intro hrd (And.intro htt (And.intro huu (And.intro hIp hprm)))))
    have HG := Lib.hid h1.good
    have HD := Lib.hid hdr
    have hi0 : (0 : Int) ≤ (i : Int) := by omega
    have hi1 : (i : Int) < 65 := by omega
    have HE := Lib.hid (And.intro e1 e2)
    have HB := Lib.hid (And.intro hbA hb65)
    have hlt : b < w.heap.size ∧ bm < w.heap.size := ⟨h1.blk.2.lt, h1.map.lt⟩
    clear h1 hL hrg hdl h0 hf e1 e2 hA h' hF m1 m2 m3 hkA hb65 hp hpj hok hMd htw hrd htt huu hrest hsum hprm hIp hbA
    clear hdr
    obtain ⟨pn, hpn⟩ : ∃ pn, pn = p.jar.pins := ⟨_, rfl⟩
    obtain ⟨ps, hps⟩ : ∃ ps, ps = p.jar.size := ⟨_, rfl⟩
    have HPP := Lib.hid (And.intro hpn hps)
    rw [← hpn] at HE
    rw [← hps] at hts
    obtain ⟨_, hs1, hs2, hp1, hp2⟩ := HP.out.2
    rw [← hpn] at hp1 hp2
    rw [← hps] at hs1 hs2
    clear hpn hps
    have HSZ := Lib.hid (show (Try.prog.info? 46).map (·.size) = some p.jar.cells.length by rw [Jar.cells_length]; exact jar_size)
    have H1 := Lib.hid p.jar.one
    have HLN := Lib.hid (Jar.cells_length p.jar)
    go_enter Try.func20, Try.ntmps20
    go_wp2_with (first
      | (refine wpList_load_mid rfl 44 (.tmp 3) rfl w.heap.size 0 (by rfl) dc _ HRG.out Try.underlying44 rfl HDL.out ?_)
      | fail)
    try simp only [Act.put, List.setIfInBounds_toArray, List.set_cons_succ, List.set_cons_zero]
    try go_wp2_with fail
    refine HF.out.mono ?_
    rintro e w1 ⟨rfl, hk1⟩
    have HW1 := Lib.hid (HR.out.1.keep0 hk1)
    have HK1 := Lib.hid (HR.out.2.trans hk1)
    have HB1 := Lib.hid (hk1.blk HB.out.1 (by simp))
    have hR1 := HW1.out.blk.range HP.out.1
    have hR2 : Hid (w1.rangeAt b (i * 37) p.jar.cells) := fun j v hv => by
      refine hR1 j v ?_
      unfold Place.cells
      rw [List.getElem?_append_left (List.getElem?_eq_some_iff.1 hv).1]
      exact hv
    have hbJ := Blk.newA w1 p.jar.cells.toArray 46
    have c33 := hbJ.get (k := 33) (v := .int .i64 p.jar.size) (by simp [Jar.cells, digC_length, List.getElem?_append])
    have c34 := hbJ.get (k := 34) (v := .int .i64 p.jar.pins) (by simp [Jar.cells, digC_length, List.getElem?_append])
    rw [← HPP.out.2] at c33
    rw [← HPP.out.1] at c34
    have HBJ := Lib.hid hbJ
    have HKJ := Lib.hid ((Keep.refl [] w1).alloc (.cells p.jar.cells.toArray 46))
    clear hR1 hk1 HR hbJ
    go_upto_region 5 with (first
      | (refine wpList_load_mid rfl 46 (.tmp 22) rfl b (i * 37) (by rfl) p.jar.cells _ hR2.out Try.underlying46 rfl HSZ.out ?_)
      | (refine wpList_store_new rfl 46 (.tmp 7) (.tmp 23) rfl _ p.jar.cells (by rfl) (by rfl) HSZ.out (by rw [HLN.out]; rfl) H1.out ?_)
      | fail)
    try simp only [Act.put, List.setIfInBounds_toArray, List.set_cons_succ, List.set_cons_zero]
    have HWJ := Lib.hid (HW1.out.keep0 HKJ.out)
    have HBD := Lib.hid (HKJ.out.blk HB1.out (by simp))
    have HKJ' := Lib.hid (HK1.out.trans HKJ.out)
    have hs1' := HK1.out.size
    generalize w1.alloc (.cells p.jar.cells.toArray 46) = wJ at c33 c34 HBJ HKJ HWJ HBD HKJ'
    generalize hJB : w1.heap.size = jb at c33 c34 HBJ hs1'
    clear HW1 HB1 hR2 HKJ HK1 hwA
    by_cases hz : 0 < pn
    · have e1 := HE.out.1
      have e2 := HE.out.2
      rw [if_pos hz] at e1 e2
      have HN := Lib.hid (And.intro e1 e2)
      clear e1 e2
      go_wp2_with fail
      go_ret
      exact ⟨ret_int HN.out.1.symm, S, by rw [HN.out.2]; exact HH.out.keep0 HKJ'.out, .of HKJ'.out⟩
    · have e1 := HE.out.1
      have e2 := HE.out.2
      rw [if_neg hz] at e1 e2
      have HN := Lib.hid (And.intro e1 e2)
      have HZ := Lib.hid (show pn = 0 by omega)
      clear e1 e2
      go_wp2_with fail
      refine (rack_unlink b P fv bm budget total pinned i wJ HWJ.out.blk HB.out.2 HT.out.1.1 HT.out.1.2.1).mono ?_
      rintro e w3 ⟨rfl, hb3, hk3⟩
      have hbn : w.heap.size ∉ [b] := by simp; omega
      have hjn : jb ∉ [b] := by simp; omega
      have hmn : bm ∉ [b] := by simp; exact HWJ.out.ne
      have hr3 : w3.drew.rangeAt w.heap.size 0 dc := (hk3.blk HBD.out hbn).rangeAt
      have hc3 : w3.drew.cell? ⟨b, 2406, none⟩ = some (.map (some bm)) := hb3.tail 1
      obtain ⟨w4, hrun, hm4, ht4⟩ := HD.out w3.drew (HWJ.out.map.keep hk3.drew hmn)
      have hk4 : Keep [bm] w3.drew w4 := keep_turned ht4
      have hbn' : w.heap.size ∉ [bm] := by simp; omega
      have hjn' : jb ∉ [bm] := by simp; omega
      have hbm' : b ∉ [bm] := by simp; exact fun e => HWJ.out.ne e.symm
      have hr4 : w4.rangeAt w.heap.size 0 dc := (hk4.blk (show Blk w3.drew w.heap.size _ _ from hk3.blk HBD.out hbn) hbn').rangeAt
      have hb4 : RkBlk w4 b (unlinkP P i) fv bm budget total pinned := RkBlk.keep (w := w3.drew) hb3 hk4 hbm'
      have hc4 : w4.cell? ⟨b, 2406, none⟩ = some (.map (some bm)) := hb4.tail 1
      have hB4 := hk4.blk (show Blk w3.drew jb _ _ from hk3.blk HBJ.out hjn) hjn'
      have HB4 := Lib.hid (And.intro hb4 (And.intro hB4 hm4))
      have HK4 := Lib.hid (And.intro hk3 hk4)
      have hud := Try.underlying44
      have hdl := HDL.out
      clear hbn hjn hmn hbn' hjn' hbm' hb4 hB4 hm4 hk3 hk4 ht4 hb3 c33 c34
      go_wp2_with fail
      go_region_held3 (fun w' => w'.rangeAt w.heap.size 0 dc ∧ w'.cell? ⟨b, 2406, none⟩ = some (.map (some bm)))
        (first | assumption | (refine ⟨?_, ?_⟩ <;> assumption))
        (fail)
      obtain ⟨hb4, hB4, hm4⟩ := HB4.out
      obtain ⟨hk3, hk4⟩ := HK4.out
      have c8 : w4.cell? ⟨b, 2408, none⟩ = some (.int .i64 total) := hb4.tail 3
      have c33 := hB4.get (k := 33) (v := .int .i64 p.jar.size) (by simp [Jar.cells, digC_length, List.getElem?_append])
      rw [← HPP.out.2] at c33
      have f4 := hb4.2.frozen
      have hw := IntWalk.i64_in (total - ps) (by omega)
      clear hb4 hB4 hm4 hk3 hk4 hrun hr3 hc3 hr4 hc4 hud hdl
      go_wp2_with fail
      go_region
      have hk5 : Keep [b] w4 (w4.setCell ⟨b, 2408, none⟩ (.int .i64 (total - ps))).drew := ((Keep.refl _ _).setCell _ _ (by simp)).drew
      have hb5 : RkBlk (w4.setCell ⟨b, 2408, none⟩ (.int .i64 (total - ps))).drew b (unlinkP P i) fv bm budget (total - ps) pinned := HB4.out.1.setTail 3 _ _ _ _ _ _ rfl
      generalize (w4.setCell ⟨b, 2408, none⟩ (.int .i64 (total - ps))).drew = w5 at hk5 hb5
      have hnb : ∀ g, fv.ownBlock = some g → g ≠ b ∧ g ≠ bm := HWJ.out.nf
      have hmb := HWJ.out.ne
      obtain ⟨hk3, hk4⟩ := HK4.out
      have hk4 : Keep [bm] w3 w4 := ((Keep.refl [bm] w3).drew).trans hk4
      have ho5 : Own intC 1 0 3 w5 fv F := (((HWJ.out.own.keep hk3 (fun g hg => by simp; exact (hnb g hg).1)).keep (w := w3) (w' := w4) hk4 (fun g hg => by simp; exact (hnb g hg).2)).keep hk5 (fun g hg => by simp; exact (hnb g hg).1))
      have hm5 := HB4.out.2.2.keep hk5 (by simp; exact hmb)
      have hkS : Keep S w w5 := (((HKJ'.out.mono (by simp)).trans' hk3 (by intro x hx _; simp at hx; rw [hx]; exact HM.out.1)).trans' hk4 (by intro x hx _; simp at hx; rw [hx]; exact HM.out.2.1)).trans' hk5 (by intro x hx _; simp at hx; rw [hx]; exact HM.out.1)
      have c5 : w5.cell? ⟨b, 2405, none⟩ = some fv := hb5.tail 0
      have HB5 := Lib.hid (And.intro hb5 (And.intro hm5 (And.intro hkS (And.intro hnb hmb))))
      have HO5 := Lib.hid ho5
      obtain ⟨is, Hs⟩ := intinfo'
      clear hk5 hb5 hnb hmb hk3 hk4 ho5 hm5 hkS c8 c33 f4
      go_wp2_with (first
        | (at_builtin; go_must (refine wpList_append5 rfl _ _ 38 rfl is _ 8 Try.underlying38 Hs (by rfl) (by decide) intC_length intC_one w5 (by rfl) HO5.out (Nat.zero_le _) i _ (by rfl) _ (by rfl) (by show F.length + 1 ≤ 9223372036854775807; omega) (by omega) ?_); intro v' w6 hown' hg' hat'; obtain ⟨va, vc, rfl, _⟩ := hown'.shape; have hkr : Keep fv.ownBlock.toList w5 w6 := (Keep.refl _ _).grown hg' (fun g hgg _ => by simp [hgg]); have hb6 : RkBlk w6 b (unlinkP P i) fv bm budget (total - ps) pinned := HB5.out.1.keep hkr (fun hm => (HB5.out.2.2.2.1 b (by simpa using hm)).1 rfl); have d5 : w6.cell? ⟨b, 2405, none⟩ = some fv := hb6.tail 0; have f6 := hb6.2.frozen; have HB6 := Lib.hid (And.intro hb6 (And.intro hkr (And.intro hown' hat'))); clear hb6 hkr hown' hg' hat')
        | fail)
      go_ret
      obtain ⟨hb6, hkr, hown', hat'⟩ := HB6.out
      obtain ⟨hb5, hm5, hkS, hnb, hmb⟩ := HB5.out
      obtain ⟨htw, hrd, htt, huu, hIp, hprm⟩ := HT.out
      have hl5 := hb5.2.lt
      have hlm5 := hm5.lt
      have hnv : ∀ g, (Value.slice va (F ++ [i]).length vc).ownBlock = some g → g ≠ b ∧ g ≠ bm := fun g hg => by
        rcases hat' with e | e
        · exact hnb g (e ▸ hg)
        · rw [e] at hg
          simp at hg
          omega
      have hfl : (F ++ [i]).length = F.length + 1 := by simp
      rw [hfl] at hnv hown' hat'
      have hks : Keep [b] w6 (w6.setCell ⟨b, 2405, none⟩ (.slice va (F.length + 1) vc)) := (Keep.refl _ _).setCell _ _ (by simp)
      have hm6 : MapIs w6 bm _ (I.length - 1) := hm5.keep hkr (fun hm => (hnb bm (by simpa using hm)).2 rfl)
      refine ⟨ret_int HN.out.1.symm, (Value.slice va (F.length + 1) vc).ownBlock.toList ++ S, ⟨_, _, bm, total - ps, pinned, _, _, _, ⟨hb6.setTail 0 _ _ _ _ _ _ rfl, ?_, hown'.keep hks (fun g hg => by simp; exact (hnv g hg).1), hrd.1, hmb, hnv, ?_, ?_, ?_⟩, ?_, by simp [HM.out.1], by simp [HM.out.2.1], fun g hg => by simp [hg]⟩, ?_, ?_⟩
      · have := hm6.keep hks (by simp; exact hmb)
        rw [List.length_cons] at hprm
        have e : I.length - 1 = (List.filter (fun k => !decide (k = i)) I).length := by omega
        rwa [e] at this
      · rw [hrd.2, HPP.out.2]; exact htt
      · rw [hrd.2]; exact huu (by rw [← HPP.out.1]; exact HZ.out)
      · rw [hrd.2]; exact fun j hj => HG.out j (rest_mem hj)
      · rw [HN.out.2, hrd.2]
      · exact (hkS.trans' hkr (fun g hg _ => HM.out.2.2 g (by simpa using hg))).setCell _ _ (fun _ => HM.out.1)
      · intro k hk
        rcases List.mem_append.1 hk with hk | hk
        · rcases hat' with e | e
          · rw [e] at hk
            exact .inl (HM.out.2.2 k (by simpa using hk))
          · rw [e] at hk
            simp at hk
            have := hkS.size
            exact .inr (by omega)
        · exact .inl hk
end Go.Proofs.Ytbfnpoknamajnaa
