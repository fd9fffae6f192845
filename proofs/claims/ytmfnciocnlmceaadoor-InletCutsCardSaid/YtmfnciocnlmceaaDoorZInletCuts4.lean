/- Parts of the proof of InletCuts, in order. No conditions but those that each theorem states. -/
import Derived.Test.YtmfnciocnlmceaaDoorZInletCuts3
import Derived.Deep.MidRow
import Derived.Deep.LoopGhost
import Derived.DeepKeys4
/- Layer 12: head. No conditions but on lengths. -/
namespace Go.Proofs.YtmfnciocnlmceaaDoor
open Go.RowKit Go.Shelf

/-- what head leaves: the inlet with a request, its chunked body's reader new -/
theorem it_headed {B p : Nat} {w w' : World} {X R : List Nat} {I : InS} (h : It B w p X R I) (hr : I.req = none) (hc : I.chk = none) (hd : Hr) {v cv : Value} {rb : Nat} {cb : Option Nat}
    (k : Keep [p] w w') (hb : Blk w' p 100 (inC (headed I hd) (.pointer (some ⟨rb, 0, none⟩)) cv))
    (hq : Blk w' rb 65 (reqC hd.q.m hd.q.t v hd.q.cl)) (ho : Own Fld.cells 2 w.heap.size 26 w' v hd.q.F) (hrb : w.heap.size ≤ rb) (hB : B ≤ w.heap.size)
    (hck : match cb with | none => hd.ch = false ∧ cv = .pointer none | some c => hd.ch = true ∧ cv = .pointer (some ⟨c, 0, none⟩) ∧ w.heap.size ≤ c ∧ c ≠ rb ∧ (∀ g, v.ownBlock = some g → g ≠ c) ∧ Ct B w' c [] (ck0 4096) (.slice none 0 0)) :
    ∃ X' R', It B w' p X' R' (headed I hd) ∧ (∀ x ∈ X', x ∈ X ∨ w.heap.size ≤ x) ∧ ∀ x ∈ R', w.heap.size ≤ x := by
  have hp := h.lt
  have hg : ∀ g, v.ownBlock = some g → w.heap.size ≤ g ∧ g < w'.heap.size := fun g hg => ho.lt g hg
  have hreq : (headed I hd).req = some hd.q := rfl
  have hchk : (headed I hd).chk = if hd.ch then some (ck0 4096) else I.chk := rfl
  refine ⟨p :: cb.toList, rb :: v.ownBlock.toList, ⟨⟨_, cv, hb, ?_, ?_⟩, by simp, ?_, ?_⟩, ?_, ?_⟩
  · cases cb with
    | none =>
      obtain ⟨h1, h2⟩ := hck
      rw [hchk, h1, hc]
      exact h2
    | some c =>
      obtain ⟨h1, h2, h3, h4, h5, h6⟩ := hck
      rw [hchk, h1]
      exact ⟨c, _, h2, by omega, by simp, h6, by simp [Value.ownBlock]⟩
  · rw [hreq]
    exact ⟨rb, v, rfl, by simp, hq, ho.lower hB, fun g hg => by rw [hg]; simp⟩
  · intro x hx
    rcases List.mem_cons.1 hx with rfl | hx
    · exact ⟨h.base, hb.lt⟩
    · cases cb with
      | none => simp at hx
      | some c =>
        obtain ⟨h1, h2, h3, h4, h5, h6⟩ := hck
        have : x = c := by simpa using hx
        subst this
        exact ⟨by omega, h6.lt⟩
  · intro x hx
    have hx2 : w.heap.size ≤ x ∧ x < w'.heap.size := by
      rcases List.mem_cons.1 hx with rfl | hx
      · exact ⟨hrb, hq.lt⟩
      · exact hg x (by simpa using hx)
    refine ⟨by omega, hx2.2, fun hm => ?_⟩
    rcases List.mem_cons.1 hm with rfl | hm
    · omega
    · cases cb with
      | none => simp at hm
      | some c =>
        obtain ⟨h1, h2, h3, h4, h5, h6⟩ := hck
        have : x = c := by simpa using hm
        subst this
        rcases List.mem_cons.1 hx with rfl | hx
        · exact h4 rfl
        · exact h5 x (by simpa using hx) rfl
  · intro x hx
    rcases List.mem_cons.1 hx with rfl | hx
    · exact .inl h.mem
    · cases cb with
      | none => simp at hx
      | some c =>
        obtain ⟨h1, h2, h3, h4, h5, h6⟩ := hck
        have : x = c := by simpa using hx
        subst this
        exact .inr h3
  · intro x hx
    rcases List.mem_cons.1 hx with rfl | hx
    · exact hrb
    · exact (hg x (by simpa using hx)).1

set_option maxRecDepth 100000 in
set_option maxHeartbeats 4000000 in
theorem inlet_head {B p : Nat} {X R : List Nat} {I : InS} {w : World} (h : It B w p X R I) (hm : ML w) (hB : B ≤ w.heap.size) (hbig : 0 < B) (hl : I.inp.length ≤ 65536) (hr : I.req = none) (hc : I.chk = none) :
    Calls Tryd.prog 68 #[.pointer (some ⟨p, 0, none⟩)] w fun e w' => e = .returned (.int .i64 (headM I.inp).s) ∧ Keep [p] w w' ∧ ((headM I.inp).got = false → Keep [] w w') ∧ ((headM I.inp).got = true → ∃ X' R', It B w' p X' R' (headed I (headM I.inp)) ∧ (∀ x ∈ X', x ∈ X ∨ w.heap.size ≤ x) ∧ ∀ x ∈ R', w.heap.size ≤ x) := by
  obtain ⟨c0, _, _, _⟩ := h.at_
  have sz := S_size I.inp
  have HSp := Lib.hid (field_Split I.inp w hm (by omega))
  have hsm := split_small I.inp
  have hH : headM I.inp = if (splitM I.inp).e ≠ 0 then hr0 (toldE (splitM I.inp).e 431)
    else if (lnM (splitM I.inp).st).s ≠ 200 then hr0 (lnM (splitM I.inp).st).s
    else if 1 < getN (splitM I.inp).F nHost ∨ (getN (splitM I.inp).F nHost : Int) < (lnM (splitM I.inp).st).v then hr0 400
    else if (frameM (splitM I.inp).F 4096).e ≠ 0 then hr0 (toldE (frameM (splitM I.inp).F 4096).e 413)
    else ⟨0, true, (splitM I.inp).n, ⟨(lnM (splitM I.inp).st).m, (lnM (splitM I.inp).st).t, (splitM I.inp).F, closesM (splitM I.inp).F (lnM (splitM I.inp).st).v⟩, (max (frameM (splitM I.inp).F 4096).n 0).toNat, (frameM (splitM I.inp).F 4096).ch⟩ := rfl
  have H := Lib.hid h
  have HB := Lib.hid hB
  have HM := Lib.hid hm
  have HT := Lib.hid (fun e0 long w' => inlet_told e0 long w')
  have hnp := h.lt
  generalize headM I.inp = hd at *
  generalize splitM I.inp = r at *
  obtain ⟨rs, rF, rn, re⟩ := r
  dsimp only at hsm hH
  obtain ⟨⟨hf1, hf2⟩, hs1, hn1⟩ := hsm
  have HLn := Lib.hid (fun w' (k : Keep [] w w') => inlet_Line rs w' (HM.out.keep k (by simp)) (by omega))
  have HG := Lib.hid (fun w' va (ha : Sl Fld.cells 2 w' va rF) => field_Get va rF nHost w' ha (fun x hx => by have := (hf2 x hx).1; show _ ≤ 9223372036854775807; omega) (by decide))
  have HFr := Lib.hid (fun w' va (ha : Sl Fld.cells 2 w' va rF) => field_Frame va rF 4096 w' ha (fun x hx => by have := (hf2 x hx).1; show _ ≤ 9223372036854775807; omega) (fun x hx => by have := (hf2 x hx).2; show _ ≤ 9223372036854775807; omega) (by omega))
  have HCl := Lib.hid (fun w' va mi (ha : Sl Fld.cells 2 w' va rF) => field_Closes va rF mi w' ha (fun x hx => ⟨by have := (hf2 x hx).1; omega, by have := (hf2 x hx).2; omega⟩) (by omega))
  have hNr : getN rF nHost ≤ rF.length := getN_le _ _
  unfold SplitOut at HSp
  unfold GetOut at HG
  unfold Ln.out at HLn
  dsimp only at HSp
  clear h hB hm hf2
  by_cases e1 : re = 0
  case neg =>
    rw [if_pos e1] at hH
    have q1 := (int_ne e1).2
    have HH := Lib.hid hH
    have HTe := Lib.hid (HT.out re 431)
    clear hH e1
    go_enter Tryd.func68, Tryd.ntmps68
    go_wp2_with fail
    refine HSp.out.mono ?_
    rintro e w1 ⟨v1, rfl, ho, k1⟩
    have K1 := Lib.hid k1
    clear k1 ho
    go_wp2_with fail
    refine (HTe.out _).mono ?_
    rintro e w2 ⟨rfl, rfl⟩
    go_wp2_with fail
    go_ret
    rw [HH.out]
    exact ⟨rfl, K1.out.mono (by simp), fun _ => K1.out, fun hh => by cases hh⟩
  rw [if_neg (by simp [e1])] at hH
  generalize lnM rs = ln at *
  obtain ⟨lm, lt, lv, ls⟩ := ln
  dsimp only at hH HLn
  by_cases e2 : ls = 200
  case neg =>
    rw [if_pos e2] at hH
    have q1 := (int_ne e2).2
    have HH := Lib.hid hH
    subst e1
    clear hH e2
    go_enter Tryd.func68, Tryd.ntmps68
    go_wp2_with fail
    refine HSp.out.mono ?_
    rintro e w1 ⟨v1, rfl, ho, k1⟩
    have K1 := Lib.hid k1
    clear k1 ho
    go_wp2_with fail
    refine (HLn.out _ K1.out).mono ?_
    rintro e w2 ⟨rfl, k2⟩
    have K2 := Lib.hid (K1.out.trans k2)
    clear k2
    go_wp2_with fail
    go_ret
    rw [HH.out]
    exact ⟨rfl, K2.out.mono (by simp), fun _ => K2.out, fun hh => by cases hh⟩
  rw [if_neg (by simp [e2])] at hH
  subst e1 e2
  generalize getN rF nHost = nh at *
  by_cases e3 : 1 < nh ∨ (nh : Int) < lv
  case pos =>
    rw [if_pos e3] at hH
    have HH := Lib.hid hH
    have q3 : decide ((nh : Int) > 1) = decide (1 < nh) := by rw [decide_eq_decide]; omega
    by_cases e4 : 1 < nh
    all_goals
      first
        | rw [decide_eq_true e4] at q3
        | (rw [decide_eq_false e4] at q3
           have q4 : (nh : Int) < lv := by omega)
      clear hH e3 e4
      go_enter Tryd.func68, Tryd.ntmps68
      go_wp2_with fail
      refine HSp.out.mono ?_
      rintro e w1 ⟨v1, rfl, ho, k1⟩
      have K1 := Lib.hid k1
      have HO := Lib.hid ho
      clear k1 ho
      go_wp2_with fail
      refine (HLn.out _ K1.out).mono ?_
      rintro e w2 ⟨rfl, k2⟩
      have K2 := Lib.hid (K1.out.trans k2)
      have HO2 := Lib.hid ((HO.out.keep0 k2).sl Fld.cells_length)
      clear k2
      go_wp2_with fail
      refine (HG.out _ _ HO2.out).mono ?_
      rintro e w3 ⟨rfl, k3⟩
      have K3 := Lib.hid (K2.out.trans k3)
      clear k3
      go_wp2_with fail
      go_ret
      rw [HH.out]
      exact ⟨rfl, K3.out.mono (by simp), fun _ => K3.out, fun hh => by cases hh⟩
  rw [if_neg e3] at hH
  have q3 : decide ((nh : Int) > 1) = false := by simp; omega
  have q4 : decide ((nh : Int) < lv) = false := by simp; omega
  clear e3
  generalize frameM rF 4096 = fr at *
  obtain ⟨fn, fch, fe⟩ := fr
  dsimp only at hH HFr
  by_cases e5 : fe = 0
  case neg =>
    rw [if_pos e5] at hH
    have q5 := (int_ne e5).2
    have HH := Lib.hid hH
    have HTe := Lib.hid (HT.out fe 413)
    clear hH e5
    go_enter Tryd.func68, Tryd.ntmps68
    go_wp2_with fail
    refine HSp.out.mono ?_
    rintro e w1 ⟨v1, rfl, ho, k1⟩
    have K1 := Lib.hid k1
    have HO := Lib.hid ho
    clear k1 ho
    go_wp2_with fail
    refine (HLn.out _ K1.out).mono ?_
    rintro e w2 ⟨rfl, k2⟩
    have K2 := Lib.hid (K1.out.trans k2)
    have HO2 := Lib.hid (HO.out.keep0 k2)
    clear k2
    go_wp2_with fail
    refine (HG.out _ _ (HO2.out.sl Fld.cells_length)).mono ?_
    rintro e w3 ⟨rfl, k3⟩
    have K3 := Lib.hid (K2.out.trans k3)
    have HO3 := Lib.hid (HO2.out.keep0 k3)
    clear k3
    go_wp2_with fail
    refine (HFr.out _ _ (HO3.out.sl Fld.cells_length)).mono ?_
    rintro e w4 ⟨rfl, k4⟩
    have K4 := Lib.hid (K3.out.trans k4)
    clear k4
    go_wp2_with fail
    refine (HTe.out _).mono ?_
    rintro e w5 ⟨rfl, rfl⟩
    go_wp2_with fail
    go_ret
    rw [HH.out]
    exact ⟨rfl, K4.out.mono (by simp), fun _ => K4.out, fun hh => by cases hh⟩
  rw [if_neg (by simp [e5])] at hH
  subst e5
  have hx : (S I.inp).extract rn I.inp.length = S (I.inp.drop rn) := by rw [S_extract, List.take_length]
  obtain ⟨sk, hsk⟩ : ∃ sk : Nat, (max fn 0).toNat = sk := ⟨_, rfl⟩
  have hmx : max fn 0 = ((sk : Nat) : Int) := by omega
  rw [hsk] at hH
  have i0 : (0 : Int) ≤ (rn : Int) := by omega
  have i1 : (rn : Int) ≤ (I.inp.length : Int) := by omega
  have HH := Lib.hid hH
  have HN := Lib.hid (fun w' (k : B ≤ w'.heap.size) => chunk_New B 4096 w' k)
  clear hH
  cases fch with
  | false =>
    go_enter Tryd.func68, Tryd.ntmps68
    go_wp2_with fail
    refine HSp.out.mono ?_
    rintro e w1 ⟨v1, rfl, ho, k1⟩
    obtain ⟨sa, sc, rfl, hml⟩ := ho.shape
    clear hml
    have K1 := Lib.hid k1
    have HO := Lib.hid ho
    clear k1 ho
    go_wp2_with fail
    refine (HLn.out _ K1.out).mono ?_
    rintro e w2 ⟨rfl, k2⟩
    have K2 := Lib.hid (K1.out.trans k2)
    have HO2 := Lib.hid (HO.out.keep0 k2)
    clear k2
    go_wp2_with fail
    refine (HG.out _ _ (HO2.out.sl Fld.cells_length)).mono ?_
    rintro e w3 ⟨rfl, k3⟩
    have K3 := Lib.hid (K2.out.trans k3)
    have HO3 := Lib.hid (HO2.out.keep0 k3)
    clear k3
    go_wp2_with fail
    refine (HFr.out _ _ (HO3.out.sl Fld.cells_length)).mono ?_
    rintro e w4 ⟨rfl, k4⟩
    have K4 := Lib.hid (K3.out.trans k4)
    have HO4 := Lib.hid (HO3.out.keep0 k4)
    have HI4 := Lib.hid (H.out.keep0 K4.out)
    obtain ⟨c0, c1, c3, _⟩ := HI4.out.at_
    have f0 := HI4.out.free 0
    have f1 := HI4.out.free 1
    have f3 := HI4.out.free 3
    clear k4
    have hs := ((HI4.out.set (I' := { I with inp := I.inp.drop rn }) 0 (.string (S (I.inp.drop rn))) (fun _ _ => rfl) rfl rfl).set (I' := { I with inp := I.inp.drop rn, held := rn }) 1 (.int .i64 (rn : Nat)) (fun _ _ => rfl) rfl rfl).set (I' := { I with inp := I.inp.drop rn, held := rn, skip := sk }) 3 (.int .i64 (sk : Nat)) (fun _ _ => rfl) rfl rfl
    have k3s := ((Keep.refl [p] w4).setCell ⟨p, 0, none⟩ (.string (S (I.inp.drop rn))) (by simp)).setCell ⟨p, 1, none⟩ (.int .i64 (rn : Nat)) (by simp) |>.setCell ⟨p, 3, none⟩ (.int .i64 (sk : Nat)) (by simp)
    have ks := (K4.out.mono (S' := [p]) (by simp)).trans k3s
    have os := HO4.out.keep (S := [p]) k3s (fun g hg => by have := (HO4.out.lt g hg).1; simp; omega)
    have HS := Lib.hid hs
    have KS := Lib.hid ks
    have OS := Lib.hid os
    clear hs ks os k3s HI4 HO4
    obtain ⟨⟨rv, cv, b1, b2, b3⟩, _, _, _⟩ := HS.out
    rw [show ({ I with inp := I.inp.drop rn, held := rn, skip := sk } : InS).chk = none from hc] at b2
    have hcv : cv = .pointer none := b2
    subst hcv
    have BS := Lib.hid b1
    clear b1 b2 b3
    have HCl2 := Lib.hid (HCl.out _ _ lv (OS.out.sl Fld.cells_length))
    generalize closesM rF lv = cl at *
    go_wp2_with fail
    refine HCl2.out.mono ?_
    rintro e w5 ⟨rfl, k5⟩
    have K5 := Lib.hid (KS.out.trans (k5.mono (S' := [p]) (by simp)))
    have O5 := Lib.hid (OS.out.keep0 k5)
    have bA := (k5.blk BS.out (by simp)).alloc (.cells (reqC lm lt (Value.slice sa rF.length sc) cl).toArray 65)
    have qA := Blk.newA w5 (reqC lm lt (Value.slice sa rF.length sc) cl).toArray 65
    have kA := K5.out.alloc (.cells (reqC lm lt (Value.slice sa rF.length sc) cl).toArray 65)
    have oA := O5.out.alloc (.cells (reqC lm lt (Value.slice sa rF.length sc) cl).toArray 65)
    have hsz5 := Lib.hid K5.out.size
    have hwp := k5.size
    generalize hwA : w5.alloc (.cells #[.string (S lm), .string (S lt), (Value.slice sa rF.length sc), .bool cl] 65) = wA
    have hwA' : w5.alloc (.cells (reqC lm lt (Value.slice sa rF.length sc) cl).toArray 65) = wA := hwA
    rw [hwA'] at bA qA kA oA
    have c2 := bA.get (k := 2) rfl
    have f2 := bA.frozen 2
    have hne : w5.heap.size ≠ p := by have := H.out.lt; have := K5.out.size; omega
    have kp := (Keep.refl [p] wA).setCell ⟨p, 2, none⟩ (.pointer (some ⟨w5.heap.size, 0, none⟩)) (by simp)
    have HX := Lib.hid (And.intro (bA.set 2 (.pointer (some ⟨w5.heap.size, 0, none⟩))) (And.intro (kp.blk (show Blk wA w5.heap.size 65 (reqC lm lt (Value.slice sa rF.length sc) cl) from qA) (by simpa using hne)) (And.intro (kA.trans kp) (oA.keep kp (fun g hg => by have := (oA.lt g hg).1; simp; omega)))))
    clear bA qA kA oA k5 hwA' kp hne
    go_wp2_with fail
    clear hwA
    go_ret
    rw [HH.out]
    obtain ⟨x1, x2, x3, x4⟩ := HX.out
    refine ⟨rfl, x3, fun hh => (by cases hh), fun _ => ?_⟩
    exact it_headed H.out hr hc _ (cb := none) (v := .slice sa rF.length sc) x3 x1 x2 x4 hsz5.out HB.out ⟨rfl, rfl⟩
  | true =>
    go_enter Tryd.func68, Tryd.ntmps68
    go_wp2_with fail
    refine HSp.out.mono ?_
    rintro e w1 ⟨v1, rfl, ho, k1⟩
    obtain ⟨sa, sc, rfl, hml⟩ := ho.shape
    clear hml
    have K1 := Lib.hid k1
    have HO := Lib.hid ho
    clear k1 ho
    go_wp2_with fail
    refine (HLn.out _ K1.out).mono ?_
    rintro e w2 ⟨rfl, k2⟩
    have K2 := Lib.hid (K1.out.trans k2)
    have HO2 := Lib.hid (HO.out.keep0 k2)
    clear k2
    go_wp2_with fail
    refine (HG.out _ _ (HO2.out.sl Fld.cells_length)).mono ?_
    rintro e w3 ⟨rfl, k3⟩
    have K3 := Lib.hid (K2.out.trans k3)
    have HO3 := Lib.hid (HO2.out.keep0 k3)
    clear k3
    go_wp2_with fail
    refine (HFr.out _ _ (HO3.out.sl Fld.cells_length)).mono ?_
    rintro e w4 ⟨rfl, k4⟩
    have K4 := Lib.hid (K3.out.trans k4)
    have HO4 := Lib.hid (HO3.out.keep0 k4)
    have HI4 := Lib.hid (H.out.keep0 K4.out)
    obtain ⟨c0, c1, c3, _⟩ := HI4.out.at_
    have f0 := HI4.out.free 0
    have f1 := HI4.out.free 1
    have f3 := HI4.out.free 3
    clear k4
    have hs := ((HI4.out.set (I' := { I with inp := I.inp.drop rn }) 0 (.string (S (I.inp.drop rn))) (fun _ _ => rfl) rfl rfl).set (I' := { I with inp := I.inp.drop rn, held := rn }) 1 (.int .i64 (rn : Nat)) (fun _ _ => rfl) rfl rfl).set (I' := { I with inp := I.inp.drop rn, held := rn, skip := sk }) 3 (.int .i64 (sk : Nat)) (fun _ _ => rfl) rfl rfl
    have k3s := ((Keep.refl [p] w4).setCell ⟨p, 0, none⟩ (.string (S (I.inp.drop rn))) (by simp)).setCell ⟨p, 1, none⟩ (.int .i64 (rn : Nat)) (by simp) |>.setCell ⟨p, 3, none⟩ (.int .i64 (sk : Nat)) (by simp)
    have ks := (K4.out.mono (S' := [p]) (by simp)).trans k3s
    have os := HO4.out.keep (S := [p]) k3s (fun g hg => by have := (HO4.out.lt g hg).1; simp; omega)
    have HS := Lib.hid hs
    have KS := Lib.hid ks
    have OS := Lib.hid os
    clear hs ks os k3s HI4 HO4
    go_wp2_with fail
    refine (HN.out _ (Nat.le_trans HB.out KS.out.size)).mono ?_
    rintro e wn ⟨ck, rfl, hn1, hn2, hct, kn⟩
    obtain ⟨⟨rv, cv, b1, b2, b3⟩, _, _, _⟩ := (HS.out.keep0 kn)
    have c4 := b1.get (k := 4) rfl
    have f4 := b1.frozen 4
    have kp4 := (Keep.refl [p] wn).setCell ⟨p, 4, none⟩ (.pointer (some ⟨ck, 0, none⟩)) (by simp)
    have hckp : ck ≠ p := by have := H.out.lt; have := KS.out.size; omega
    have BS := Lib.hid (b1.set 4 (.pointer (some ⟨ck, 0, none⟩)))
    have KN := Lib.hid ((KS.out.trans (kn.mono (S' := [p]) (by simp))).trans kp4)
    have ON := Lib.hid ((OS.out.keep0 kn).keep kp4 (fun g hg => by have := (OS.out.lt g hg).1; have := H.out.lt; simp; omega))
    have CN := Lib.hid (hct.keep kp4 (by simpa using hckp) (by simp [Value.ownBlock]))
    have HG1 := Lib.hid (show (∀ g, (Value.slice sa rF.length sc).ownBlock = some g → g ≠ ck) ∧ w.heap.size ≤ ck from ⟨fun g hg => by have := (OS.out.lt g hg).2; omega, Nat.le_trans KS.out.size hn1⟩)
    clear b1 b2 b3 kp4 hct kn
    have HCl2 := Lib.hid (HCl.out _ _ lv (ON.out.sl Fld.cells_length))
    generalize closesM rF lv = cl at *
    go_wp2_with fail
    refine HCl2.out.mono ?_
    rintro e w5 ⟨rfl, k5⟩
    have K5 := Lib.hid (KN.out.trans (k5.mono (S' := [p]) (by simp)))
    have O5 := Lib.hid (ON.out.keep0 k5)
    have C5 := (CN.out.keep0 k5)
    have hck5 := C5.lt
    have CA := (C5.keep0 ((Keep.refl [] w5).alloc (.cells (reqC lm lt (Value.slice sa rF.length sc) cl).toArray 65)))
    have bA := (k5.blk BS.out (by simp)).alloc (.cells (reqC lm lt (Value.slice sa rF.length sc) cl).toArray 65)
    have qA := Blk.newA w5 (reqC lm lt (Value.slice sa rF.length sc) cl).toArray 65
    have kA := K5.out.alloc (.cells (reqC lm lt (Value.slice sa rF.length sc) cl).toArray 65)
    have oA := O5.out.alloc (.cells (reqC lm lt (Value.slice sa rF.length sc) cl).toArray 65)
    have hsz5 := Lib.hid K5.out.size
    have hwp := k5.size
    generalize hwA : w5.alloc (.cells #[.string (S lm), .string (S lt), (Value.slice sa rF.length sc), .bool cl] 65) = wA
    have hwA' : w5.alloc (.cells (reqC lm lt (Value.slice sa rF.length sc) cl).toArray 65) = wA := hwA
    rw [hwA'] at bA qA kA oA CA
    have c2 := bA.get (k := 2) rfl
    have f2 := bA.frozen 2
    have hne : w5.heap.size ≠ p := by have := H.out.lt; have := K5.out.size; omega
    have kp := (Keep.refl [p] wA).setCell ⟨p, 2, none⟩ (.pointer (some ⟨w5.heap.size, 0, none⟩)) (by simp)
    have HX := Lib.hid (And.intro (bA.set 2 (.pointer (some ⟨w5.heap.size, 0, none⟩))) (And.intro (kp.blk (show Blk wA w5.heap.size 65 (reqC lm lt (Value.slice sa rF.length sc) cl) from qA) (by simpa using hne)) (And.intro (kA.trans kp) (oA.keep kp (fun g hg => by have := (oA.lt g hg).1; simp; omega)))))
    have HCC := Lib.hid (And.intro (CA.keep kp (by simpa using hckp) (by simp [Value.ownBlock])) (show ck ≠ w5.heap.size by omega))
    clear CA C5
    clear bA qA kA oA k5 hwA' kp hne
    go_wp2_with fail
    clear hwA
    go_ret
    rw [HH.out]
    obtain ⟨x1, x2, x3, x4⟩ := HX.out
    refine ⟨rfl, x3, fun hh => (by cases hh), fun _ => ?_⟩
    exact it_headed H.out hr hc _ (cb := some ck) (v := .slice sa rF.length sc) x3 x1 x2 x4 hsz5.out HB.out ⟨rfl, rfl, HG1.out.2, HCC.out.2, HG1.out.1, HCC.out.1⟩
end Go.Proofs.YtmfnciocnlmceaaDoor

/- Layer 12: body, fail. No conditions but on lengths. -/
namespace Go.Proofs.YtmfnciocnlmceaaDoor
open Go.RowKit Go.Shelf

theorem it_ck {B p : Nat} {w : World} {X R : List Nat} {I : InS} {c : Ck} (h : It B w p X R I) (hc : I.chk = some c) : ∃ b, w.cell? ⟨p, 4, none⟩ = some (.pointer (some ⟨b, 0, none⟩)) := by
  obtain ⟨⟨rv, cv, b1, b2, b3⟩, h4, h5, h6⟩ := h
  rw [hc] at b2
  obtain ⟨b, v, rfl, _⟩ := b2
  exact ⟨b, b1.get (k := 4) rfl⟩
theorem it_noCk {B p : Nat} {w : World} {X R : List Nat} {I : InS} (h : It B w p X R I) (hc : I.chk = none) : w.cell? ⟨p, 4, none⟩ = some (.pointer none) := by
  obtain ⟨⟨rv, cv, b1, b2, b3⟩, h4, h5, h6⟩ := h
  rw [hc] at b2
  have : cv = .pointer none := b2
  subst this
  exact b1.get (k := 4) rfl
theorem it_Add {B p b : Nat} {w : World} {X R : List Nat} {I : InS} {c : Ck} (s : List UInt8) (h : It B w p X R I) (hc : I.chk = some c) (c4 : w.cell? ⟨p, 4, none⟩ = some (.pointer (some ⟨b, 0, none⟩)))
    (hm : ML w) (hB : B ≤ w.heap.size) (hbig : 0 < B) (hl : c.inp.length + c.dat.length + s.length ≤ 1048576) (hmost : (c.most : Int) ≤ 9223372036854775807) (hok : c.err = 0 → c.ok) :
    Calls Tryd.prog 27 #[.pointer (some ⟨b, 0, none⟩), .string (S s)] w fun e w' => e = .returned (.int .i64 (addC c s).err) ∧ Keep X w w' ∧ w'.cell? ⟨p, 4, none⟩ = some (.pointer (some ⟨b, 0, none⟩)) ∧ ∃ X', It B w' p X' R { I with chk := some (addC c s) } ∧ ∀ x ∈ X', x ∈ X ∨ w.heap.size ≤ x := by
  obtain ⟨⟨rv, cv, b1, b2, b3⟩, h4, h5, h6⟩ := h
  rw [hc] at b2
  obtain ⟨b', v, rfl, hbp, hbX, hct, hv⟩ := b2
  have c4' := b1.get (k := 4) (v := .pointer (some ⟨b', 0, none⟩)) rfl
  have hbb : b' = b := by rw [c4'] at c4; simpa using c4
  subst hbb
  refine (chunk_Add B b' [] s c (addC c s) v w hm (by have := (h5 _ hbX).1; omega) hct hB hbig hl hmost hok (addC_R hok)).mono ?_
  rintro e w' ⟨rfl, v', g1, g2, g3⟩
  have hown : ∀ g, v'.ownBlock = some g → (g ∈ X ∨ w.heap.size ≤ g) ∧ g ≠ p := fun g hg => by
    rcases g3 with e3 | ⟨g', e3, hg'⟩
    · rw [e3] at hg; exact ⟨.inl (hv g hg).1, (hv g hg).2⟩
    · rw [e3] at hg
      have : g' = g := by simpa using hg
      subst this
      have := (h5 p h4).2
      exact ⟨.inr hg', by omega⟩
  have hpn : p ∉ b' :: v.ownBlock.toList := by
    intro hh
    rcases List.mem_cons.1 hh with hh | hh
    · exact hbp hh.symm
    · exact (hv p (by simpa using hh)).2 rfl
  have b1' := g2.blk b1 hpn
  have gX : Keep X w w' := g2.mono (fun x hx _ => by
    rcases List.mem_cons.1 hx with rfl | hx
    · exact hbX
    · exact (hv x (by simpa using hx)).1)
  obtain ⟨_, _, gb, _⟩ := id g1
  refine ⟨rfl, gX, b1'.get (k := 4) rfl, X ++ v'.ownBlock.toList, ⟨⟨rv, _, b1', ?_, ?_⟩, by simp [h4], ?_, ?_⟩, ?_⟩
  · exact ⟨b', v', rfl, hbp, by simp [hbX], g1, fun g hg => ⟨by rw [hg]; simp, (hown g hg).2⟩⟩
  · exact b3.keep g2 (fun x hx hh => by
      rcases List.mem_cons.1 hh with rfl | hh
      · exact (h6 _ hx).2.2 hbX
      · exact (h6 _ hx).2.2 (hv x (by simpa using hh)).1)
  · intro x hx
    rcases List.mem_append.1 hx with hx | hx
    · exact ⟨(h5 x hx).1, Nat.lt_of_lt_of_le (h5 x hx).2 g2.size⟩
    · exact gb.own.lt x (by simpa using hx)
  · intro x hx
    refine ⟨(h6 x hx).1, Nat.lt_of_lt_of_le (h6 x hx).2.1 g2.size, fun hh => ?_⟩
    rcases List.mem_append.1 hh with hh | hh
    · exact (h6 x hx).2.2 hh
    · rcases (hown x (by simpa using hh)).1 with h1 | h1
      · exact (h6 x hx).2.2 h1
      · have := (h6 x hx).2.1; omega
  · intro x hx
    rcases List.mem_append.1 hx with hx | hx
    · exact .inl hx
    · exact (hown x (by simpa using hx)).1
theorem it_ct {B p b : Nat} {w : World} {X R : List Nat} {I : InS} {c : Ck} (h : It B w p X R I) (hc : I.chk = some c) (c4 : w.cell? ⟨p, 4, none⟩ = some (.pointer (some ⟨b, 0, none⟩))) : ∃ v, Ct B w b [] c v := by
  obtain ⟨⟨rv, cv, b1, b2, b3⟩, h4, h5, h6⟩ := h
  rw [hc] at b2
  obtain ⟨b', v, rfl, hbp, hbX, hct, hv⟩ := b2
  have c4' := b1.get (k := 4) (v := .pointer (some ⟨b', 0, none⟩)) rfl
  have hbb : b' = b := by rw [c4'] at c4; simpa using c4
  subst hbb
  exact ⟨v, hct⟩
theorem it_Done {B p b : Nat} {w : World} {X R : List Nat} {I : InS} {c : Ck} (h : It B w p X R I) (hc : I.chk = some c) (c4 : w.cell? ⟨p, 4, none⟩ = some (.pointer (some ⟨b, 0, none⟩))) (hs : c.st ≤ 4) :
    Calls Tryd.prog 29 #[.pointer (some ⟨b, 0, none⟩)] w fun e w' => e = .returned (.bool (decide (c.st = 4))) ∧ w = w' := let ⟨_, h1⟩ := it_ct h hc c4; chunk_Done h1 hs
theorem it_Rest {B p b : Nat} {w : World} {X R : List Nat} {I : InS} {c : Ck} (h : It B w p X R I) (hc : I.chk = some c) (c4 : w.cell? ⟨p, 4, none⟩ = some (.pointer (some ⟨b, 0, none⟩))) (hs : c.st ≤ 4) :
    Calls Tryd.prog 30 #[.pointer (some ⟨b, 0, none⟩)] w fun e w' => e = .returned (.string (S (if c.st = 4 then c.inp else []))) ∧ w = w' := let ⟨_, h1⟩ := it_ct h hc c4; chunk_Rest h1 hs
theorem it_unck {B p : Nat} {w : World} {X R : List Nat} {I : InS} (h : It B w p X R I) : It B (w.setCell ⟨p, 4, none⟩ (.pointer none)) p X R { I with chk := none } := by
  obtain ⟨⟨rv, cv, b1, b2, b3⟩, h4, h5, h6⟩ := h
  have hk : Keep [p] w (w.setCell ⟨p, 4, none⟩ (.pointer none)) := (Keep.refl _ _).setCell _ _ (by simp)
  exact ⟨⟨rv, _, b1.set 4 (.pointer none), rfl, b3.keep hk (fun y hy => by simp only [List.mem_singleton]; rintro rfl; exact (h6 _ hy).2.2 h4)⟩, h4, fun y hy => ⟨(h5 y hy).1, Nat.lt_of_lt_of_le (h5 y hy).2 hk.size⟩, fun y hy => ⟨(h6 y hy).1, Nat.lt_of_lt_of_le (h6 y hy).2.1 hk.size, (h6 y hy).2.2⟩⟩

set_option maxRecDepth 100000 in
set_option maxHeartbeats 4000000 in
theorem inlet_body {B p : Nat} {X R : List Nat} {I : InS} {w : World} (h : It B w p X R I) (hm : ML w) (hB : B ≤ w.heap.size) (hbig : 0 < B) (hl : I.inp.length + I.held ≤ 65536) (hsk : I.skip ≤ 65536)
    (hck : ∀ c, I.chk = some c → (c.err = 0 → c.ok) ∧ c.most = 4096 ∧ c.inp.length + c.dat.length ≤ 65536 ∧ (addC c I.inp).st ≤ 4) :
    Calls Tryd.prog 70 #[.pointer (some ⟨p, 0, none⟩)] w fun e w' => e = .returned (.tuple #[.bool (bodyB I).whole, .int .i64 (bodyB I).s]) ∧ Keep X w w' ∧ ∃ X', It B w' p X' R (bodyB I).p ∧ ∀ x ∈ X', x ∈ X ∨ w.heap.size ≤ x := by
  obtain ⟨c0, c1, c3, _⟩ := h.at_
  have f0 := h.free 0
  have f1 := h.free 1
  have f3 := h.free 3
  have sz := S_size I.inp
  cases hco : I.chk with
  | none =>
    have hb : bodyB I = ⟨{ I with inp := I.inp.drop (min I.skip I.inp.length), held := I.held + min I.skip I.inp.length, skip := I.skip - min I.skip I.inp.length }, decide (I.skip - min I.skip I.inp.length = 0), 0⟩ := by unfold bodyB; rw [hco]
    have c4 := it_noCk h hco
    have H := Lib.hid h
    obtain ⟨n, hn⟩ : ∃ n, min I.skip I.inp.length = n := ⟨_, rfl⟩
    have hmin : min ((I.skip : Nat) : Int) ((I.inp.length : Nat) : Int) = ((n : Nat) : Int) := by omega
    have i0 : (0 : Int) ≤ (n : Int) := by omega
    have i1 : (n : Int) ≤ (I.inp.length : Int) := by omega
    have hx : (S I.inp).extract n I.inp.length = S (I.inp.drop n) := by rw [S_extract, List.take_length]
    obtain ⟨r, hr⟩ : ∃ r, I.skip - n = r := ⟨_, rfl⟩
    have hrI : (I.skip : Int) - (n : Int) = ((r : Nat) : Int) := by omega
    have w1 := IntWalk.i64_in ((I.held : Int) + (n : Int)) (by omega)
    have w2 := IntWalk.i64_in ((r : Nat) : Int) (by omega)
    rw [hn, hr] at hb
    have HBd := Lib.hid hb
    have hh2 : ((I.held : Int) + (n : Int)) = ((I.held + n : Nat) : Int) := by omega
    clear hb h hm hco hck
    go_enter Tryd.func70, Tryd.ntmps70
    go_upto_region 2 with fail
    go_cut [4] (fun y wx => y = .int .i64 (n : Nat) ∧ Hid (Keep [] w wx))
    case first =>
      go_region_with fail
      all_goals
        go_wp2_with fail
        go_meet
        exact ⟨rfl, Lib.hid (by repeat (first | exact Keep.refl _ _ | apply Keep.drew))⟩
    case rest =>
    obtain ⟨rfl, KX⟩ := hcut
    have H1 := Lib.hid (H.out.keep0 KX.out)
    clear c0 c1 c3 f0 f1 f3 hmin c4
    obtain ⟨c0, c1, c3, _⟩ := H1.out.at_
    have f0 := H1.out.free 0
    have f1 := H1.out.free 1
    have f3 := H1.out.free 3
    have hs := ((H1.out.set (I' := { I with inp := I.inp.drop n }) 0 (.string (S (I.inp.drop n))) (fun _ _ => rfl) rfl rfl).set (I' := { I with inp := I.inp.drop n, held := I.held + n }) 1 (.int .i64 ((I.held : Int) + (n : Int))) (fun _ _ => by rw [hh2]; rfl) rfl rfl).set (I' := { I with inp := I.inp.drop n, held := I.held + n, skip := r }) 3 (.int .i64 (r : Nat)) (fun _ _ => rfl) rfl rfl
    have ks := ((KX.out.mono (S' := [p]) (by simp)).setCell ⟨p, 0, none⟩ (.string (S (I.inp.drop n))) (by simp)).setCell ⟨p, 1, none⟩ (.int .i64 ((I.held : Int) + (n : Int))) (by simp) |>.setCell ⟨p, 3, none⟩ (.int .i64 (r : Nat)) (by simp)
    have HS := Lib.hid (And.intro hs ks)
    clear hs ks hh2
    by_cases h0 : r = 0
    · have q := (nat_eq (show r = 0 from h0)).1
      have HF := Lib.hid (show decide (r = 0) = true by simp [h0])
      have q2 : (((r : Nat) : Int) == 0) = true := by simp [h0]
      clear h0
      go_wp2_with fail
      go_ret2
      rw [HBd.out, HF.out]
      exact ⟨rfl, H.out.keepX HS.out.2, X, HS.out.1, fun x hx => .inl hx⟩
    · have HF := Lib.hid (show decide (r = 0) = false by simp [h0])
      have q2 : (((r : Nat) : Int) == 0) = false := by simp [h0]
      clear h0
      go_wp2_with fail
      go_ret2
      rw [HBd.out, HF.out]
      exact ⟨rfl, H.out.keepX HS.out.2, X, HS.out.1, fun x hx => .inl hx⟩
  | some c =>
    obtain ⟨hk1, hk2, hk3, hk4⟩ := hck c hco
    obtain ⟨b, c4, c4s⟩ : ∃ b, w.cell? ⟨p, 4, none⟩ = some (.pointer (some ⟨b, 0, none⟩)) ∧ ((w.setCell ⟨p, 0, none⟩ (.string ⟨#[]⟩)).setCell ⟨p, 1, none⟩ (.int .i64 ((I.held : Int) + (I.inp.length : Int)))).cell? ⟨p, 4, none⟩ = some (.pointer (some ⟨b, 0, none⟩)) := by
      obtain ⟨⟨rv, cv, b1, b2, b3⟩, _⟩ := h
      rw [hco] at b2
      obtain ⟨b, v, rfl, _⟩ := b2
      exact ⟨b, b1.get (k := 4) rfl, ((b1.set 0 _).set 1 _).get (k := 4) rfl⟩
    have hb : bodyB I = if (addC c I.inp).err ≠ 0 then ⟨{ I with inp := [], held := I.held + I.inp.length, chk := some (addC c I.inp) }, false, toldE (addC c I.inp).err 413⟩
      else if (addC c I.inp).st ≠ 4 then ⟨{ I with inp := [], held := I.held + I.inp.length, chk := some (addC c I.inp) }, false, 0⟩
      else ⟨{ I with inp := (addC c I.inp).inp, held := I.held + I.inp.length, chk := none }, true, 0⟩ := by unfold bodyB; rw [hco]
    have H := Lib.hid h
    have HM := Lib.hid hm
    have w1 := IntWalk.i64_in ((I.held : Int) + (I.inp.length : Int)) (by omega)
    have hh2 : ((I.held : Int) + (I.inp.length : Int)) = ((I.held + I.inp.length : Nat) : Int) := by omega
    have hs := (h.set (I' := { I with inp := [] }) 0 (.string ⟨#[]⟩) (fun _ _ => rfl) rfl rfl).set (I' := { I with inp := [], held := I.held + I.inp.length }) 1 (.int .i64 ((I.held : Int) + (I.inp.length : Int))) (fun _ _ => by rw [hh2]; rfl) rfl rfl
    have ks := ((Keep.refl [p] w).setCell ⟨p, 0, none⟩ (.string ⟨#[]⟩) (by simp)).setCell ⟨p, 1, none⟩ (.int .i64 ((I.held : Int) + (I.inp.length : Int))) (by simp)
    have KS := Lib.hid (h.keepX ks)
    have HA := Lib.hid (it_Add (c := c) I.inp hs hco c4s (hm.keepB hbig KS.out (fun x hx => (h.lo x hx).1)) (Nat.le_trans hB ks.size) hbig (by omega) (by rw [hk2]; decide) hk1)
    have HR := Lib.hid h.lo
    have HT := Lib.hid (fun e0 w' => inlet_told e0 413 w')
    clear hs ks hh2 h hm hck hk1 hk2 hk3
    generalize addC c I.inp = d at *
    by_cases e1 : d.err = 0
    case neg =>
      rw [if_pos e1] at hb
      have HBd := Lib.hid hb
      have q1 := (int_ne e1).2
      clear hb e1 hk4
      go_enter Tryd.func70, Tryd.ntmps70
      go_wp2_with fail
      refine HA.out.mono ?_
      rintro e w2 ⟨rfl, k2, _, X2, hx2, n2⟩
      have HX := Lib.hid (And.intro k2 (And.intro hx2 n2))
      clear k2 hx2 n2
      go_wp2_with fail
      refine (HT.out _ _).mono ?_
      rintro e w3 ⟨rfl, rfl⟩
      go_wp2_with fail
      go_ret2
      rw [HBd.out]
      exact ⟨rfl, KS.out.trans HX.out.1, X2, HX.out.2.1, fun x hx => (HX.out.2.2 x hx).imp id (fun hh => Nat.le_trans KS.out.size hh)⟩
    rw [if_neg (by simp [e1])] at hb
    by_cases e2 : d.st = 4
    case neg =>
      rw [if_pos e2] at hb
      have HBd := Lib.hid hb
      have q1 := (int_eq e1).2
      have HD4 := Lib.hid (show decide (d.st = 4) = false by simp [e2])
      clear hb e1 e2
      go_enter Tryd.func70, Tryd.ntmps70
      go_wp2_with fail
      refine HA.out.mono ?_
      rintro e w2 ⟨rfl, k2, c42, X2, hx2, n2⟩
      have HD := Lib.hid (it_Done hx2 rfl c42 hk4)
      rw [HD4.out] at HD
      have HX := Lib.hid (And.intro k2 (And.intro hx2 n2))
      clear k2 hx2 n2
      go_wp2_with fail
      refine HD.out.mono ?_
      rintro e w3 ⟨rfl, rfl⟩
      go_wp2_with fail
      go_ret2
      rw [HBd.out]
      exact ⟨rfl, KS.out.trans HX.out.1, X2, HX.out.2.1, fun x hx => (HX.out.2.2 x hx).imp id (fun hh => Nat.le_trans KS.out.size hh)⟩
    rw [if_neg (by simp [e2])] at hb
    have HBd := Lib.hid hb
    have q1 := (int_eq e1).2
    have HD4 := Lib.hid (show decide (d.st = 4) = true by simp [e2])
    have HR4 := Lib.hid (show (if d.st = 4 then d.inp else []) = d.inp from if_pos e2)
    clear hb e1 e2
    go_enter Tryd.func70, Tryd.ntmps70
    go_wp2_with fail
    refine HA.out.mono ?_
    rintro e w2 ⟨rfl, k2, c42, X2, hx2, n2⟩
    have HD := Lib.hid (it_Done hx2 rfl c42 hk4)
    have HR2 := Lib.hid (it_Rest hx2 rfl c42 hk4)
    rw [HD4.out] at HD
    rw [HR4.out] at HR2
    have g0 := hx2.at_.1
    have g5 := hx2.free 0
    have g6 := hx2.free 4
    have hs2 := it_unck (hx2.set (I' := { I with inp := d.inp, held := I.held + I.inp.length, chk := some d }) 0 (.string (S d.inp)) (fun _ _ => rfl) rfl rfl)
    have ks2 := k2.trans' (hx2.keepX (((Keep.refl [p] w2).setCell ⟨p, 0, none⟩ (.string (S d.inp)) (by simp)).setCell ⟨p, 4, none⟩ (.pointer none) (by simp))) (fun x hx hlt => (n2 x hx).elim id (fun hh => absurd hlt (by omega)))
    have HX := Lib.hid (And.intro ks2 (And.intro hs2 n2))
    clear k2 hx2 n2 hs2 ks2
    go_wp2_with fail
    refine HD.out.mono ?_
    rintro e w3 ⟨rfl, rfl⟩
    go_wp2_with fail
    refine HR2.out.mono ?_
    rintro e w3 ⟨rfl, rfl⟩
    go_wp2_with fail
    go_ret2
    rw [HBd.out]
    exact ⟨rfl, KS.out.trans HX.out.1, X2, HX.out.2.1, fun x hx => (HX.out.2.2 x hx).imp id (fun hh => Nat.le_trans KS.out.size hh)⟩
end Go.Proofs.YtmfnciocnlmceaaDoor

/- Layer 11: the document's line, number, ended, last. No conditions but on lengths. -/
namespace Go.Proofs.YtmfnciocnlmceaaDoor
open Go.RowKit Go.Shelf

theorem int3_ret {s : List UInt8} {a b c d : Int} {t : List UInt8} (h1 : s = t) (h : a = c) (h2 : b = d) : Ending.returned (.tuple #[.string (S s), .int .i64 a, .int .i64 b]) = .returned (.tuple #[.string (S t), .int .i64 c, .int .i64 d]) := by rw [h1, h, h2]
set_option maxRecDepth 100000 in
set_option maxHeartbeats 2000000 in
theorem ref11_line (s : List UInt8) (a : Nat) (w : World) (ha : a ≤ s.length) (hl : s.length ≤ 1048576) :
    Calls Tryd.prog 55 #[.string (S s), .int .i64 (a : Nat)] w fun e w' => e = .returned (.tuple #[.string (S (lnC (s.drop a)).t), .int .i64 ((nxt s a : Nat) : Int), .int .i64 (lnC (s.drop a)).e]) ∧ w = w' := by
  have sz := S_size s
  have hld : (s.drop a).length = s.length - a := List.length_drop
  obtain ⟨m, hm⟩ : ∃ m, min s.length (a + 256) = m := ⟨_, rfl⟩
  have hmin : min ((s.length : Nat) : Int) ((a : Int) + 256) = ((m : Nat) : Int) := by omega
  have hx : (S s).extract a m = S ((s.drop a).take 256) := by
    rw [S_extract]
    congr 1
    rw [List.drop_take]
    rcases Nat.le_total s.length (a + 256) with hh | hh
    · rw [List.take_of_length_le (by rw [hld]; omega), List.take_of_length_le (by rw [hld]; omega)]
    · rw [show m - a = 256 by omega]
  have hF := Lib.hid (fun w1 => ref_Find ((s.drop a).take 256) 10 w1 (show ((s.drop a).take 256).length ≤ 9223372036854775807 by rw [List.length_take]; omega))
  have hw1 := IntWalk.i64_in ((a : Int) + 256) (by omega)
  have i0 : (0 : Int) ≤ (a : Int) := by omega
  have i1 : (a : Int) ≤ (m : Int) := by omega
  have i2 : (m : Int) ≤ (s.length : Int) := by omega
  have hcases := line_cases (s.drop a)
  have hshort := line_short (l := s.drop a)
  have hat := fun k => line_at (l := s.drop a) (k := k)
  have hN : nxt s a = if (lnC (s.drop a)).e = 0 then s.length - (lnC (s.drop a)).r.length else 0 := rfl
  have hsx : ∀ k : Nat, Lib.indexByte ((s.drop a).take 256) 10 = (k : Nat) → (s.drop a)[k]? = some 10 := by
    intro k hk
    have h := (Lib.indexByte_some hk).1
    rw [List.getElem?_take] at h
    split at h
    · exact h
    · cases h
  generalize nxt s a = nx at *
  rcases hcases with hn | ⟨k, hk, hkl, h256⟩
  · have hL := hshort hn
    generalize Lib.indexByte ((s.drop a).take 256) 10 = ix at *
    by_cases h2 : 256 ≤ (s.drop a).length
    · rw [if_pos h2] at hL
      rw [hL, if_neg (by simp)] at hN
      have HX := Lib.hid (And.intro hL hN)
      have h2' : decide (((s.length : Nat) : Int) - (a : Int) ≥ 256) = true := by simp; omega
      have hw2 := IntWalk.i64_in ((s.length : Int) - (a : Int)) (by omega)
      have hixn : decide (ix < 0) = true := by simp; omega
      clear hshort hat hsx hL hN hm
      go_enter Tryd.func55, Tryd.ntmps55
      go_wp2_with fail
      refine (hF.out _).mono ?_
      rintro e w1 ⟨rfl, rfl⟩
      go_wp2_with fail
      refine bodyPost_ret (results_tmp3 rfl _ _ _) rfl ⟨?_, rfl⟩
      rw [HX.out.1, HX.out.2]
      rfl
    · rw [if_neg h2] at hL
      rw [hL, if_neg (by simp)] at hN
      have HX := Lib.hid (And.intro hL hN)
      have h2' : decide (((s.length : Nat) : Int) - (a : Int) ≥ 256) = false := by simp; omega
      have hw2 := IntWalk.i64_in ((s.length : Int) - (a : Int)) (by omega)
      have hixn : decide (ix < 0) = true := by simp; omega
      clear hshort hat hsx hL hN hm
      go_enter Tryd.func55, Tryd.ntmps55
      go_wp2_with fail
      refine (hF.out _).mono ?_
      rintro e w1 ⟨rfl, rfl⟩
      go_wp2_with fail
      refine bodyPost_ret (results_tmp3 rfl _ _ _) rfl ⟨?_, rfl⟩
      rw [HX.out.1, HX.out.2]
      rfl
  · have hL := hat k hk
    have h10 := hsx k hk
    have hsu := suffix_crlf h10
    rw [hk] at hF
    rw [hsu] at hL
    have hak : a + k < s.length := by omega
    have ht : (S s).extract a (a + k) = S ((s.drop a).take k) := by rw [S_extract, List.drop_take, show a + k - a = k by omega]
    have hw2 := IntWalk.i64_in ((a : Int) + (k : Int)) (by omega)
    have hw3 := IntWalk.i64_in ((a : Int) + (k : Int) + 1) (by omega)
    have n2 : ((a : Int) + (k : Int)).toNat = a + k := by omega
    have i3 : (a : Int) ≤ (a : Int) + (k : Int) := by omega
    have i4 : (a : Int) + (k : Int) ≤ (s.length : Int) := by omega
    have i5 : (0 : Int) ≤ (a : Int) + (k : Int) := by omega
    have lk : ((s.drop a).take k).length = k := by rw [List.length_take]; omega
    have szt := S_size ((s.drop a).take k)
    have szl := S_toList ((s.drop a).take k)
    have hixn : decide ((k : Int) < 0) = false := by simp
    by_cases hk0 : k = 0
    · have hbad : (decide (0 < k) && decide ((s.drop a)[k - 1]? = some 13)) = false := by simp [hk0]
      rw [hbad, if_neg (by simp)] at hL
      rw [hL, if_neg (by simp)] at hN
      have HX := Lib.hid (And.intro hL hN)
      have hem : ((s.drop a).take k).isEmpty = true := by rw [hk0]; rfl
      clear hshort hat hsx hL hN hm h10 hsu hbad
      generalize (s.drop a).take k = tk at *
      go_enter Tryd.func55, Tryd.ntmps55
      go_wp2_with fail
      refine (hF.out _).mono ?_
      rintro e w1 ⟨rfl, rfl⟩
      go_wp2_with fail
      refine bodyPost_ret (results_tmp3 rfl _ _ _) rfl ⟨?_, rfl⟩
      rw [HX.out.1, HX.out.2]
      rfl
    · have hem : ((s.drop a).take k).isEmpty = false := by
        cases hh : (s.drop a).take k with
        | nil => rw [hh] at lk; simp at lk; omega
        | cons => rfl
      obtain ⟨j, rfl⟩ : ∃ j, k = j + 1 := ⟨k - 1, by omega⟩
      obtain ⟨c, hc⟩ : ∃ c, (s.drop a)[j]? = some c := ⟨_, List.getElem?_eq_getElem (by omega)⟩
      rw [show j + 1 - 1 = j by omega, hc, decide_eq_true (show 0 < j + 1 by omega), Bool.true_and] at hL
      have hcg := fun hk2 => S_get (l := (s.drop a).take (j + 1)) (k := j) (c := c) (by rw [List.getElem?_take, if_pos (by omega)]; exact hc) hk2
      have ht2 : (S ((s.drop a).take (j + 1))).extract 0 j = S ((s.drop a).take j) := by rw [S_extract, List.drop_zero, List.take_take]; congr 2; omega
      have hsub : (((j + 1 : Nat) : Int)) - 1 = (j : Int) := by omega
      have hws := IntWalk.i64_in (j : Int) (by omega)
      have j0 : (0 : Int) ≤ (j : Int) := by omega
      have j1 : (j : Int) < ((j + 1 : Nat) : Int) := by omega
      have j2 : (j : Int) ≤ ((j + 1 : Nat) : Int) := by omega
      have hts : Lib.trimSuffix ((s.drop a).take (j + 1 + 1)) crlfC = if Lib.hasSuffix ((s.drop a).take (j + 1 + 1)) crlfC then ((s.drop a).take (j + 1 + 1)).take (((s.drop a).take (j + 1 + 1)).length - crlfC.length) else (s.drop a).take (j + 1 + 1) := rfl
      by_cases h13 : c = 13
      · subst h13
        rw [if_pos (by simp)] at hL
        have hsut : Lib.hasSuffix ((s.drop a).take (j + 1 + 1)) crlfC = true := by rw [hsu, show j + 1 - 1 = j by omega, hc]; simp
        rw [hsut, if_pos rfl] at hts
        have htl : Lib.trimSuffix ((s.drop a).take (j + 1 + 1)) crlfC = (s.drop a).take j := by
          rw [hts, List.take_take]
          congr 1
          rw [List.length_take]
          show min (min (j + 1 + 1) (s.drop a).length - 2) (j + 1 + 1) = j
          omega
        rw [htl] at hL
        rw [hL, if_pos rfl] at hN
        have hnx : nx = a + (j + 1) + 1 := by rw [hN]; show s.length - ((s.drop a).drop (j + 1 + 1)).length = _; rw [List.length_drop, hld]; omega
        have HX := Lib.hid (And.intro hL hnx)
        have q1 : (((13 : UInt8).toNat : Int) != 13) = false := by decide
        clear hshort hat hsx hL hN hm h10 hsu hts htl hsut hnx hc
        generalize (s.drop a).take (j + 1) = tk at *
        generalize (s.drop a).take j = tj at *
        generalize hjj : j + 1 = j1' at *
        go_enter Tryd.func55, Tryd.ntmps55
        go_wp2_with fail
        refine (hF.out _).mono ?_
        rintro e w1 ⟨rfl, rfl⟩
        go_wp2_with fail
        refine bodyPost_ret (results_tmp3 rfl _ _ _) rfl ⟨?_, rfl⟩
        rw [HX.out.1, HX.out.2]
        exact int3_ret rfl (by omega) rfl
      · rw [if_neg (by simp [h13])] at hL
        rw [hL, if_neg (by simp)] at hN
        have HX := Lib.hid (And.intro hL hN)
        have hc13 : ((c.toNat : Nat) : Int) ≠ 13 := fun h => h13 (UInt8.toNat_inj.1 (show c.toNat = (13 : UInt8).toNat by show c.toNat = 13; omega))
        have q1 := (int_ne hc13).1
        have q2 := (int_ne hc13).2
        clear hshort hat hsx hL hN hm h10 hsu hts hc
        generalize (s.drop a).take (j + 1) = tk at *
        generalize (s.drop a).take j = tj at *
        generalize hjj : j + 1 = j1' at *
        go_enter Tryd.func55, Tryd.ntmps55
        go_wp2_with fail
        refine (hF.out _).mono ?_
        rintro e w1 ⟨rfl, rfl⟩
        go_wp2_with fail
        refine bodyPost_ret (results_tmp3 rfl _ _ _) rfl ⟨?_, rfl⟩
        rw [HX.out.1, HX.out.2]
        rfl
end Go.Proofs.YtmfnciocnlmceaaDoor

/- Layer 11: the document's number, ended, last. No conditions but on lengths. -/
namespace Go.Proofs.YtmfnciocnlmceaaDoor
open Go.RowKit Go.Shelf

theorem numE_bad {t : List UInt8} (m : Int) (h : restOk (numRest t) = false) : numE t m = 3 ∧ numV2 t m = 0 := by unfold numE numV2; rw [h]; exact ⟨rfl, rfl⟩
theorem numE_ok {t : List UInt8} (m : Int) (h : restOk (numRest t) = true) : numE t m = (if unhexE (numT t) m = 14 then 4 else unhexE (numT t) m) ∧ numV2 t m = unhexV (numT t) m := by unfold numE numV2; rw [h]; exact ⟨rfl, rfl⟩
theorem rest_cons (c : UInt8) (r : List UInt8) : restOk (c :: r) = (isTxt (c :: r) && (decide (c = 32) || decide (c = 9) || decide (c = 59))) := by
  unfold restOk
  rw [show (c :: r).getD 0 0 = c from rfl, sep_mem]
  rfl

set_option maxRecDepth 100000 in
set_option maxHeartbeats 6000000 in
theorem ref11_number (t : List UInt8) (m : Int) (w : World) (hl : t.length ≤ 1048576) :
    Calls Tryd.prog 57 #[.string (S t), .int .i64 m] w fun e w' => e = .returned (.tuple #[.int .i64 (numV2 t m), .int .i64 (numE t m)]) ∧ w = w' := by
  have hl' : t.length ≤ 9223372036854775807 := by omega
  have sz := S_size t
  have HV := Lib.hid (fun (b : UInt8) (w1 : World) => ref_Value b w1)
  go_enter Tryd.func57, Tryd.ntmps57
  go_wp2_with fail
  go_loopg [6] t.length (fun g i wr => ∃ k : Nat, i = .int .i64 k ∧ k ≤ t.length ∧ g = t.length - k ∧ w = wr ∧ Hid ((t.take k).all digOk = true))
  case atStart => exact ⟨0, rfl, Nat.zero_le _, by omega, rfl, by simp [Hid]⟩
  case round =>
    obtain ⟨k, rfl, hk, hgk, rfl, HA⟩ := hrel
    by_cases hlt : k < t.length
    · obtain ⟨c, hg⟩ : ∃ c, t[k]? = some c := ⟨_, List.getElem?_eq_getElem hlt⟩
      have hgc := fun hk2 => S_get (l := t) (k := k) (c := c) hg hk2
      have hdc := HV.out c
      have HG := Lib.hid hg
      have hh0 : (0 : Int) ≤ (k : Int) := by omega
      have hh1 : (k : Int) < (t.length : Int) := by omega
      have hkw := IntWalk.i64_in ((k : Int) + 1) (by omega)
      clear hg
      cases hd : digOk c with
      | true =>
        rw [hd, if_pos rfl] at hdc
        have HA2 := Lib.hid (show (t.take (k + 1)).all digOk = true by rw [take_snoc HG.out, List.all_append, HA.out]; simp [hd])
        obtain ⟨v0, _⟩ := digV_range c
        have v0' : decide (digV c ≥ 0) = true := by simp; omega
        generalize digV c = x at hdc v0 v0'
        have HDC := Lib.hid hdc
        clear hd hdc
        go_wp2_with fail
        refine (HDC.out _).mono ?_
        rintro e w1 ⟨rfl, rfl⟩
        go_wp2_with fail
        go_roundg (t.length - (k + 1))
        case measure => omega
        case rel => exact ⟨k + 1, by go_num, by omega, rfl, rfl, HA2⟩
      | false =>
        rw [hd, if_neg (by simp)] at hdc
        have hnr := numRest_at hk HA.out (fun b hb => by rw [HG.out] at hb; cases hb; exact hd)
        have hnt := numT_at hk hnr
        have hdr : t.drop k = c :: t.drop (k + 1) := drop_at HG.out
        have hrc := rest_cons c (t.drop (k + 1))
        rw [← hdr, ← hnr] at hrc
        have hx1 : (S t).extract k t.length = S (numRest t) := by rw [S_extract, List.take_length, hnr]
        have hx2 : (S t).extract 0 k = S (numT t) := by rw [S_extract, List.drop_zero, hnt]
        have lnr : (numRest t).length ≤ 1048576 := by have := num_len' t; omega
        have HT := Lib.hid (fun w1 => ref_Text (numRest t) w1 (show (numRest t).length ≤ 9223372036854775807 by omega))
        have HU := Lib.hid (fun w1 => ref_Unhexnum (numT t) m w1 (show (numT t).length ≤ 9223372036854775807 by rw [hnt, List.length_take]; omega))
        have hbad := numE_bad (t := t) m
        have hok := numE_ok (t := t) m
        have hur := (unhex_range (numT t) m).2
        have hcN := u8_nat c
        generalize hne : numE t m = ne at *
        generalize hnv : numV2 t m = nv at *
        have HN := Lib.hid (And.intro hnv hne)
        clear hne hnv
        generalize hro : restOk (numRest t) = ro at *
        generalize unhexE (numT t) m = ue at *
        generalize unhexV (numT t) m = uv at *
        generalize numT t = nt at *
        generalize numRest t = nr at *
        have HDC := Lib.hid hdc
        have kk2 : (k : Int) ≤ (t.length : Int) := by omega
        clear hd hdc hnr hnt hdr hro HV hl' HA
        by_cases hsep : c = 32 ∨ c = 9 ∨ c = 59
        · have hsb : (decide (c = 32) || decide (c = 9) || decide (c = 59)) = true := by rcases hsep with rfl | rfl | rfl <;> decide
          rw [hsb, Bool.and_true] at hrc
          have hsn : c.toNat = 32 ∨ c.toNat = 9 ∨ c.toNat = 59 := by rcases hsep with rfl | rfl | rfl <;> decide
          clear hsb hsep
          go_wp2_with fail
          refine (HDC.out _).mono ?_
          rintro e w1 ⟨rfl, rfl⟩
          go_upto_region 4 with fail
          go_cut [50] (fun y wx => y = .bool (!isTxt nr) ∧ w = wx)
          case first =>
            clear hbad hok hur hrc HU
            rcases hsn with hcn | hcn | hcn
            all_goals
              go_wp2_with fail
              refine (HT.out _).mono ?_
              rintro e w1 ⟨rfl, rfl⟩
              go_wp2_with fail
              go_meet
              exact ⟨rfl, rfl⟩
          case rest =>
          obtain ⟨rfl, rfl⟩ := hcut
          clear hsn hgc HDC HT
          cases htx : isTxt nr with
          | false =>
            rw [htx] at hrc
            obtain ⟨h1, h2⟩ := hbad hrc
            have HF := Lib.hid (And.intro h2 h1)
            clear hbad hok hur hrc htx h1 h2
            go_wp2_with fail
            go_ret2
            exact ⟨two_ret (HF.out.1.symm.trans HN.out.1.symm) (HF.out.2.symm.trans HN.out.2.symm), rfl⟩
          | true =>
            rw [htx] at hrc
            obtain ⟨h1, h2⟩ := hok hrc
            by_cases h14 : ue = 14
            · rw [if_pos h14] at h1
              have huv := (hur (by omega)).1
              have HF := Lib.hid (And.intro (h2.trans huv) h1)
              have q1 := (int_eq h14).1
              clear hbad hok hur hrc htx h1 h2 h14 huv
              go_wp2_with fail
              refine (HU.out _).mono ?_
              rintro e w1 ⟨rfl, rfl⟩
              go_wp2_with fail
              go_ret2
              exact ⟨two_ret (HF.out.1.symm.trans HN.out.1.symm) (HF.out.2.symm.trans HN.out.2.symm), rfl⟩
            · rw [if_neg h14] at h1
              have HF := Lib.hid (And.intro h2 h1)
              have q1 := (int_ne h14).1
              clear hbad hok hur hrc htx h1 h2 h14
              go_wp2_with fail
              refine (HU.out _).mono ?_
              rintro e w1 ⟨rfl, rfl⟩
              go_wp2_with fail
              go_ret2
              exact ⟨two_ret (HF.out.1.symm.trans HN.out.1.symm) (HF.out.2.symm.trans HN.out.2.symm), rfl⟩
        · have hsb : (decide (c = 32) || decide (c = 9) || decide (c = 59)) = false := by
            simp only [not_or] at hsep
            simp [hsep]
          rw [hsb, Bool.and_false] at hrc
          obtain ⟨h1, h2⟩ := hbad hrc
          have HF := Lib.hid (And.intro h2 h1)
          have n1 : ((c.toNat : Nat) : Int) ≠ 32 := fun h => hsep (.inl (UInt8.toNat_inj.1 (show c.toNat = 32 by omega)))
          have n2 : ((c.toNat : Nat) : Int) ≠ 9 := fun h => hsep (.inr (.inl (UInt8.toNat_inj.1 (show c.toNat = 9 by omega))))
          have n3 : ((c.toNat : Nat) : Int) ≠ 59 := fun h => hsep (.inr (.inr (UInt8.toNat_inj.1 (show c.toNat = 59 by omega))))
          have q1 := (int_ne n1).2
          have q2 := (int_ne n2).2
          have q3 := (int_ne n3).2
          clear hbad hok hur hrc h1 h2 hsb hsep n1 n2 n3
          go_wp2_with fail
          refine (HDC.out _).mono ?_
          rintro e w1 ⟨rfl, rfl⟩
          go_wp2_with fail
          go_ret2
          exact ⟨two_ret (HF.out.1.symm.trans HN.out.1.symm) (HF.out.2.symm.trans HN.out.2.symm), rfl⟩
    · have hkl : k = t.length := by omega
      have hnr := numRest_at hk HA.out (fun b hb => by have := (List.getElem?_eq_some_iff.1 hb).1; omega)
      have hnt := numT_at hk hnr
      have hdr : t.drop k = [] := List.drop_eq_nil_of_le (by omega)
      have hx1 : (S t).extract k t.length = S (numRest t) := by rw [S_extract, List.take_length, hnr]
      have hx2 : (S t).extract 0 k = S (numT t) := by rw [S_extract, List.drop_zero, hnt]
      rw [hdr] at hnr
      have HT := Lib.hid (fun w1 => ref_Text (numRest t) w1 (show (numRest t).length ≤ 9223372036854775807 by rw [hnr]; decide))
      have HU := Lib.hid (fun w1 => ref_Unhexnum (numT t) m w1 (show (numT t).length ≤ 9223372036854775807 by rw [hnt, List.length_take]; omega))
      have hok := numE_ok (t := t) m (by rw [hnr]; rfl)
      have hur := (unhex_range (numT t) m).2
      have htx : isTxt (numRest t) = true := by rw [hnr]; rfl
      rw [htx] at HT
      generalize hne : numE t m = ne at *
      generalize hnv : numV2 t m = nv at *
      have HN := Lib.hid (And.intro hnv hne)
      clear hne hnv
      generalize unhexE (numT t) m = ue at *
      generalize unhexV (numT t) m = uv at *
      generalize numT t = nt at *
      generalize numRest t = nr at *
      have kk0 : (0 : Int) ≤ (k : Int) := by omega
      have kk2 : (k : Int) ≤ (t.length : Int) := by omega
      have hge : ¬ (k : Int) < (t.length : Int) := by omega
      obtain ⟨h1, h2⟩ := hok
      clear hnr hnt hdr HV hl' HA htx hkl hlt
      by_cases h14 : ue = 14
      · rw [if_pos h14] at h1
        have huv := (hur (by omega)).1
        have HF := Lib.hid (And.intro (h2.trans huv) h1)
        have q1 := (int_eq h14).1
        clear hur h1 h2 h14 huv
        go_wp2_with fail
        refine (HT.out _).mono ?_
        rintro e w1 ⟨rfl, rfl⟩
        go_wp2_with fail
        refine (HU.out _).mono ?_
        rintro e w1 ⟨rfl, rfl⟩
        go_wp2_with fail
        go_ret2
        exact ⟨two_ret (HF.out.1.symm.trans HN.out.1.symm) (HF.out.2.symm.trans HN.out.2.symm), rfl⟩
      · rw [if_neg h14] at h1
        have HF := Lib.hid (And.intro h2 h1)
        have q1 := (int_ne h14).1
        clear hur h1 h2 h14
        go_wp2_with fail
        refine (HT.out _).mono ?_
        rintro e w1 ⟨rfl, rfl⟩
        go_wp2_with fail
        refine (HU.out _).mono ?_
        rintro e w1 ⟨rfl, rfl⟩
        go_wp2_with fail
        go_ret2
        exact ⟨two_ret (HF.out.1.symm.trans HN.out.1.symm) (HF.out.2.symm.trans HN.out.2.symm), rfl⟩

theorem Blk.there' {w : World} {b : Nat} {T : TypeId} {xs : List Value} (h : Blk w b T xs) (o n : Nat) (hl : o + n ≤ xs.length) : w.there b o n := fun j hj =>
  ⟨by rw [h.cell, List.getElem?_eq_getElem (by omega)]; rfl, h.frozen _⟩
theorem Blk.range' {w : World} {b : Nat} {T : TypeId} {xs : List Value} (h : Blk w b T xs) : w.rangeAt b 0 xs := fun j v hv => by rw [Nat.zero_add]; exact h.get hv
theorem Keep.setCells' {S : List Nat} {a : World} (b : Nat) (hb : b < a.heap.size → b ∈ S) : ∀ (vs : List Value) (o : Nat) (w : World), Keep S a w → Keep S a (w.setCells b o vs)
  | [], _, _, h => h
  | v :: r, o, w, h => by
    rw [World.setCells]
    exact Keep.setCells' b hb r (o + 1) _ (h.setCell _ _ hb)
theorem Bdy.len (b : Bdy) : b.cells.length = 4 := rfl
theorem bdy_size (b : Bdy) : (Tryd.prog.info? 46).map (·.size) = some b.cells.length := by kernel_rfl
theorem bdy_load {w : World} {b : Nat} {x : Bdy} (h : w.rangeAt b 0 x.cells) : (loadVar 46 ⟨b, 0, none⟩).run Tryd.prog w = .ok (.agg x.cells.toArray) w :=
  run_loadVar_mid (P := Tryd.prog) w b 0 46 x.cells _ h Tryd.underlying46 rfl (bdy_size x)
set_option maxRecDepth 100000 in
set_option maxHeartbeats 1000000 in
theorem ref11_ended (b : Bdy) (k : Int) (w : World) :
    Calls Tryd.prog 56 #[.agg b.cells.toArray, .int .i64 k] w fun e w' => e = .returned (.agg (endB b k).cells.toArray) ∧ Keep [] w w' := by
  obtain ⟨bd, bo, bs, be⟩ := b
  by_cases h : k = 17
  · have hE : endB ⟨bd, bo, bs, be⟩ k = ⟨bd, bo, bs, be⟩ := by unfold endB; rw [if_pos h]
    rw [hE]
    have q1 := (int_eq h).1
    have q2 := (int_eq h).2
    have hb := Blk.newA (w.alloc (.cells #[.string (S bd), .bool bo, .int .i64 (bs : Nat), .int .i64 be] 46)) (Bdy.cells ⟨bd, bo, bs, be⟩).toArray 46
    have hload := bdy_load (x := ⟨bd, bo, bs, be⟩) hb.range'
    have hsz : (w.alloc (.cells #[.string (S bd), .bool bo, .int .i64 (bs : Nat), .int .i64 be] 46)).heap.size = w.heap.size + 1 := by simp
    rw [hsz] at hload
    have HLo := Lib.hid hload
    clear h hload hb hsz
    dsimp only [Bdy.cells]
    go_enter Tryd.func56, Tryd.ntmps56
    go_wp2_with fail
    refine bodyPost_ret (v := .agg #[.string (S bd), .bool bo, .int .i64 (bs : Nat), .int .i64 be]) (by simp [results, Tryd.results56, asAddr, Result.andThen]; exact HLo.out) rfl ⟨rfl, ((Keep.refl [] w).alloc _).alloc _⟩
  · have hE : endB ⟨bd, bo, bs, be⟩ k = ⟨bd, bo, bs, k⟩ := by unfold endB; rw [if_neg h]
    rw [hE]
    have q1 := (int_ne h).1
    have q2 := (int_ne h).2
    have hb := Blk.newA (w.alloc (.cells #[.string (S bd), .bool bo, .int .i64 (bs : Nat), .int .i64 k] 46)) (Bdy.cells ⟨bd, bo, bs, k⟩).toArray 46
    have hload := bdy_load (x := ⟨bd, bo, bs, k⟩) hb.range'
    have hsz : (w.alloc (.cells #[.string (S bd), .bool bo, .int .i64 (bs : Nat), .int .i64 k] 46)).heap.size = w.heap.size + 1 := by simp
    rw [hsz] at hload
    have HLo := Lib.hid hload
    clear h hload hb hsz
    dsimp only [Bdy.cells]
    go_enter Tryd.func56, Tryd.ntmps56
    go_wp2_with fail
    refine bodyPost_ret (v := .agg #[.string (S bd), .bool bo, .int .i64 (bs : Nat), .int .i64 k]) (by simp [results, Tryd.results56, asAddr, Result.andThen]; exact HLo.out) rfl ⟨rfl, ((Keep.refl [] w).alloc _).alloc _⟩
end Go.Proofs.YtmfnciocnlmceaaDoor

/- Layer 12: fail, Next. No conditions but on lengths. -/
namespace Go.Proofs.YtmfnciocnlmceaaDoor
open Go.RowKit Go.Shelf

theorem reqC_len (m t : List UInt8) (v : Value) (cl : Bool) : (reqC m t v cl).length = 4 := rfl
theorem req_size : (Tryd.prog.info? 65).map (·.size) = some 4 := by kernel_rfl
theorem req_st (m t : List UInt8) {v : Value} (cl : Bool) (hv : v.oneCell' = true) : (Tryd.prog.info? 65).map (·.size) = some (reqC m t v cl).toArray.size ∧ (reqC m t v cl).toArray.all (·.oneCell') = true :=
  ⟨req_size, by simp [reqC, hv]; exact ⟨rfl, rfl, rfl⟩⟩
theorem req_load {w : World} {b : Nat} {m t : List UInt8} {v : Value} {cl : Bool} (h : w.rangeAt b 0 (reqC m t v cl)) : (loadVar 65 ⟨b, 0, none⟩).run Tryd.prog w = .ok (.agg (reqC m t v cl).toArray) w :=
  run_loadVar_mid (P := Tryd.prog) w b 0 65 (reqC m t v cl) _ h Tryd.underlying65 rfl req_size
def reqZ : List Value := reqC [] [] (.slice none 0 0) false
theorem req_back {w : World} {b : Nat} {m t : List UInt8} {v : Value} {cl : Bool} (h : w.there b 0 4) : (loadVar 65 ⟨b, 0, none⟩).run Tryd.prog (w.setCells b 0 (reqC m t v cl)) = .ok (.agg (reqC m t v cl).toArray) (w.setCells b 0 (reqC m t v cl)) := req_load (World.rangeAt_setCells_same _ b 0 (reqC m t v cl) h)
theorem reqZ_back {w : World} {b : Nat} (h : w.there b 0 4) : (loadVar 65 ⟨b, 0, none⟩).run Tryd.prog (w.setCells b 0 reqZ) = .ok (.agg reqZ.toArray) (w.setCells b 0 reqZ) := req_back h
theorem own_one {α : Type} {enc : α → List Value} {n B : Nat} {E : TypeId} {w : World} {v : Value} {L : List α} (h : Own enc n B E w v L) : v.oneCell' = true := by
  obtain ⟨a, cap, rfl, _⟩ := h.shape
  rfl
set_option maxRecDepth 100000 in
set_option maxHeartbeats 2000000 in
theorem inlet_fail {B p : Nat} {X R : List Nat} {I : InS} {w : World} (s : Int) (h : It B w p X R I) :
    Calls Tryd.prog 69 #[.pointer (some ⟨p, 0, none⟩), .int .i64 s] w fun e w' => e = .returned (.tuple #[.agg reqZ.toArray, .int .i64 s]) ∧ It B w' p X R { I with st := s } ∧ Keep [p] w w' := by
  have kA := (Keep.refl [] w).alloc (.cells reqZ.toArray 65)
  have bA := Blk.newA w reqZ.toArray 65
  have hne : w.heap.size ≠ p := by have := h.lt; omega
  have zst := req_st [] [] (v := .slice none 0 0) false rfl
  have H := Lib.hid h
  generalize hwA : w.alloc (.cells #[.string ⟨#[]⟩, .string ⟨#[]⟩, .slice none 0 0, .bool false] 65) = wA
  have hwA' : w.alloc (.cells reqZ.toArray 65) = wA := hwA
  rw [hwA'] at kA bA
  have hA := h.keep0 kA
  obtain ⟨_, _, _, c5⟩ := hA.at_
  have f5 := hA.free 5
  have hS := hA.set (I' := { I with st := s }) 5 (.int .i64 s) (fun _ _ => rfl) rfl rfl
  have kS := (kA.mono (S' := [p]) (by simp)).setCell ⟨p, 5, none⟩ (.int .i64 s) (by simp)
  have bS := (show Blk wA w.heap.size 65 reqZ from bA).setOther (a := ⟨p, 5, none⟩) (by simpa using hne) (.int .i64 s)
  have hT := bS.there' 0 4 (by simp [reqZ, reqC])
  have hload := reqZ_back hT
  have hlt : w.heap.size < (wA.setCell ⟨p, 5, none⟩ (.int .i64 s)).heap.size := bS.lt
  have HX := Lib.hid (And.intro hS (And.intro kS hload))
  have HT := Lib.hid hT
  have ZST := Lib.hid zst
  clear h kA bA hA hS kS bS hT hload hwA' zst
  go_enter Tryd.func69, Tryd.ntmps69
  go_wp2_with (first
    | (refine wpList_store_mid rfl 65 (.tmp 4) (.tmp 10) rfl w.heap.size 0 reqZ.toArray (by rfl) (by first | rfl | kernel_rfl) HT.out ZST.out.1 ZST.out.2 ?_
       try simp only [Act.put])
    | fail)
  refine bodyPost_ret (v := .tuple #[.agg reqZ.toArray, .int .i64 s]) (by have hl := HX.out.2.2; simp [Act.put, results, Tryd.results69, asAddr, Result.andThen, hl]) rfl ⟨rfl, ?_, ?_⟩
  · exact HX.out.1.keep (Keep.setCells' (S := [w.heap.size]) _ (by simp) _ _ _ (Keep.refl _ _)) (fun x hx => by have := (H.out.lo x hx).2; simp; omega) (fun x hx => by have := (H.out.ro x hx).2.1; simp; omega)
  · exact Keep.setCells' _ (fun hh => absurd hh (by omega)) _ _ _ HX.out.2.1

theorem wpList_store_fresh {P : Program} {ops : Array Oper} {rest : List Oper} {op : Oper} {a : Act} {w : World} {Q : Exit → Act → World → Prop} (hgd : op.guard = none) (ty : TypeId) (x y : Operand) (ho : op.op = .store ty x y)
    (Z : Array Value) (cells : List Value) (hx : a.eval x = .pointer (some ⟨w.heap.size, 0, none⟩)) (hy : a.eval y = .agg cells.toArray) (hi : (P.info? ty).map (·.size) = some cells.length) (hz : Z.size = cells.length)
    (h1 : ∀ v ∈ cells, v.oneCell' = true) (h : wpList P ops Q rest (a.put op.dst undef) (w.alloc (.cells cells.toArray ty))) : wpList P ops Q (op :: rest) a (w.alloc (.cells Z ty)) :=
  wpList_plain hgd fun _ hK => by
    unfold Oper.wp execOp
    simp only [ho, hx, hy, Instr.storeAt, Instr.sureAddr, Sem.run_bind, Sem.run_pure, Result.andThen_ok, run_storeVar_new (P := P) w ty Z cells.toArray (by simpa using hi) (by simpa using hz) (all_oneCell_toArray h1)]
    exact hK _ _ h
theorem reqC_one (m t : List UInt8) {v : Value} (cl : Bool) (hv : v.oneCell' = true) : ∀ x ∈ reqC m t v cl, x.oneCell' = true := by
  intro x hx
  simp [reqC] at hx
  rcases hx with rfl | rfl | rfl | rfl
  · rfl
  · rfl
  · exact hv
  · rfl

/-- Next under way: nb: the result's block -/
structure NxS (B : Nat) (w : World) (p : Nat) (X R : List Nat) (wt : World) (X1 R1 : List Nat) (J : InS) : Prop where
  it : It B wt p X1 R1 J
  kp : Keep X w wt
  nx : ∀ x ∈ X1, x ∈ X ∨ w.heap.size < x
  nr : ∀ x ∈ R1, x ∈ R ∨ w.heap.size < x
  bk : Blk wt w.heap.size 65 reqZ
theorem NxS.off {B p : Nat} {w wt : World} {X R X1 R1 : List Nat} {I J : InS} (h : NxS B w p X R wt X1 R1 J) (h0 : It B w p X R I) : w.heap.size ∉ X1 ∧ w.heap.size ∉ R1 :=
  ⟨fun hh => by rcases h.nx _ hh with h1 | h1; (have := (h0.lo _ h1).2; omega); omega, fun hh => by rcases h.nr _ hh with h1 | h1; (have := (h0.ro _ h1).2.1; omega); omega⟩
theorem NxS.step {B p : Nat} {w wt w2 : World} {X R X1 R1 X2 R2 : List Nat} {I J J2 : InS} (h : NxS B w p X R wt X1 R1 J) (h0 : It B w p X R I) (k : Keep X1 wt w2) (hi : It B w2 p X2 R2 J2)
    (hX : ∀ x ∈ X2, x ∈ X1 ∨ wt.heap.size ≤ x) (hR : ∀ x ∈ R2, x ∈ R1 ∨ wt.heap.size ≤ x) : NxS B w p X R w2 X2 R2 J2 := by
  have hl := h.bk.lt
  refine ⟨hi, h.kp.trans' k (fun x hx hlt => (h.nx x hx).elim id (fun hh => by omega)), fun x hx => ?_, fun x hx => ?_, k.blk h.bk (h.off h0).1⟩
  · rcases hX x hx with h1 | h1
    · exact h.nx x h1
    · exact .inr (by omega)
  · rcases hR x hx with h1 | h1
    · exact h.nr x h1
    · exact .inr (by omega)
/-- what Next comes to -/
def NextOut (B : Nat) (w : World) (p : Nat) (X R : List Nat) (r : NxR) (e : Ending) (w' : World) : Prop :=
  ∃ v X' R', e = .returned (.tuple #[.agg (reqC r.q.m r.q.t v r.q.cl).toArray, .int .i64 r.s]) ∧ It B w' p X' R' r.p ∧ Keep X w w' ∧ (∀ x ∈ X', x ∈ X ∨ w.heap.size ≤ x) ∧ (∀ x ∈ R', x ∈ R ∨ w.heap.size ≤ x) ∧ Own Fld.cells 2 B 26 w' v r.q.F ∧ ∀ g, v.ownBlock = some g → (g ∈ R ∨ w.heap.size ≤ g) ∧ g ∉ X'
theorem NextOut.of {B p : Nat} {w w' : World} {X R : List Nat} {r r' : NxR} {e : Ending} (h : NextOut B w p X R r e w') (hr : r' = r) : NextOut B w p X R r' e w' := hr ▸ h
theorem NxS.fin {B p : Nat} {w wt : World} {X R X1 R1 : List Nat} {I J : InS} (h : NxS B w p X R wt X1 R1 J) (h0 : It B w p X R I) (q : Req) (v : Value) (s : Int) (ho : Own Fld.cells 2 B 26 wt v q.F) (hg : ∀ g, v.ownBlock = some g → (g ∈ R ∨ w.heap.size < g) ∧ g ∉ X1) :
    NextOut B w p X R ⟨J, q, s⟩ (.returned (.tuple #[.agg (reqC q.m q.t v q.cl).toArray, .int .i64 s])) (wt.setCells w.heap.size 0 (reqC q.m q.t v q.cl)) := by
  have k : Keep [w.heap.size] wt (wt.setCells w.heap.size 0 (reqC q.m q.t v q.cl)) := Keep.setCells' (S := [w.heap.size]) _ (by simp) _ _ _ (Keep.refl _ _)
  obtain ⟨o1, o2⟩ := h.off h0
  refine ⟨v, X1, R1, rfl, h.it.keep k (fun x hx => by simp; rintro rfl; exact o1 hx) (fun x hx => by simp; rintro rfl; exact o2 hx), h.kp.trans' k (fun x hx hlt => by simp at hx; omega), fun x hx => (h.nx x hx).imp id (fun hh => by omega), fun x hx => (h.nr x hx).imp id (fun hh => by omega), ho.keep k (fun g hh => ?_), fun g hh => ⟨(hg g hh).1.imp id (fun hh => by omega), (hg g hh).2⟩⟩
  simp only [List.mem_singleton]
  rintro rfl
  rcases (hg _ hh).1 with h1 | h1
  · have := (h0.ro _ h1).2.1; omega
  · omega
theorem NxS.fin0 {B p : Nat} {w wt : World} {X R X1 R1 : List Nat} {I J : InS} (h : NxS B w p X R wt X1 R1 J) (h0 : It B w p X R I) (s : Int) :
    NextOut B w p X R ⟨J, req0, s⟩ (.returned (.tuple #[.agg reqZ.toArray, .int .i64 s])) (wt.setCells w.heap.size 0 reqZ) := h.fin h0 req0 (.slice none 0 0) s (Own.nil _ _ _ _ _) (by simp [Value.ownBlock])
/-- the request goes out of the inlet -/
theorem it_unreq {B p : Nat} {w : World} {X R : List Nat} {I : InS} (h : It B w p X R I) : It B ((w.setCell ⟨p, 2, none⟩ (.pointer none)).setCell ⟨p, 1, none⟩ (.int .i64 0)) p X [] { I with req := none, held := 0 } := by
  obtain ⟨⟨rv, cv, b1, b2, b3⟩, h4, h5, h6⟩ := h
  have hk : Keep [p] w ((w.setCell ⟨p, 2, none⟩ (.pointer none)).setCell ⟨p, 1, none⟩ (.int .i64 0)) := ((Keep.refl _ _).setCell _ _ (by simp)).setCell _ _ (by simp)
  exact ⟨⟨.pointer none, cv, (b1.set 2 (.pointer none)).set 1 (.int .i64 0), b2.keep hk (fun y _ hy => by simpa using hy), rfl⟩, h4, fun y hy => ⟨(h5 y hy).1, Nat.lt_of_lt_of_le (h5 y hy).2 hk.size⟩, by simp⟩
theorem it_req {B p : Nat} {w : World} {X R : List Nat} {I : InS} {q : Req} (h : It B w p X R I) (hq : I.req = some q) : ∃ rb a l c, w.cell? ⟨p, 2, none⟩ = some (.pointer (some ⟨rb, 0, none⟩)) ∧ Blk w rb 65 (reqC q.m q.t (.slice a l c) q.cl) ∧ Own Fld.cells 2 B 26 w (.slice a l c) q.F ∧ (∀ g, (Value.slice a l c).ownBlock = some g → g ∈ R) ∧ rb ∈ R := by
  obtain ⟨⟨rv, cv, b1, b2, b3⟩, h4, h5, h6⟩ := h
  rw [hq] at b3
  obtain ⟨rb, v, rfl, g1, g2, g3, g4⟩ := b3
  obtain ⟨a, c, rfl, _⟩ := g3.shape
  exact ⟨rb, a, _, c, b1.get (k := 2) rfl, g2, g3, g4, g1⟩
theorem it_noReq {B p : Nat} {w : World} {X R : List Nat} {I : InS} (h : It B w p X R I) (hq : I.req = none) : w.cell? ⟨p, 2, none⟩ = some (.pointer none) := by
  obtain ⟨⟨rv, cv, b1, b2, b3⟩, h4, h5, h6⟩ := h
  rw [hq] at b3
  have : rv = .pointer none := b3
  subst this
  exact b1.get (k := 2) rfl
theorem body_req (J : InS) : (bodyB J).p.req = J.req ∧ (bodyB J).p.st = J.st := by
  unfold bodyB
  cases J.chk with
  | none => exact ⟨rfl, rfl⟩
  | some c => dsimp only; split; exact ⟨rfl, rfl⟩; split <;> exact ⟨rfl, rfl⟩
end Go.Proofs.YtmfnciocnlmceaaDoor

/- Layer 12, plain laws: what holds of an inlet at any time. No program. No conditions but those that each theorem states. -/
namespace Go.Proofs.YtmfnciocnlmceaaDoor
open Go.RowKit

theorem frame_max (L : List Fld) : (frameM L 4096).e = 0 → (frameM L 4096).n ≤ 4096 := by
  unfold frameM
  split
  · intro h; simp at h
  · split
    · split
      · intro _; simp
      · intro h; simp at h
    · split
      · intro _; simp
      · have hu := undec_range (getV L nCL) 4096
        intro h
        simp only at h ⊢
        by_cases h0 : undecE (getV L nCL) 4096 = 0
        · exact (hu.1 h0).2
        · rcases (hu.2 h0).2 with h1 | h1 <;> rw [h1] at h <;> simp at h
theorem frame_e (L : List Fld) (m : Int) : (frameM L m).e = 0 ∨ (frameM L m).e = 3 ∨ (frameM L m).e = 4 := by
  unfold frameM
  split
  · simp
  · split
    · split <;> simp
    · split
      · simp
      · have hu := undec_range (getV L nCL) m
        simp only
        by_cases h0 : undecE (getV L nCL) m = 0
        · left; rw [h0]; simp
        · rcases (hu.2 h0).2 with h1 | h1 <;> rw [h1] <;> simp
theorem head_bounds (l : List UInt8) : ((headM l).got = true → (headM l).s = 0) ∧ ((headM l).got = true → (headM l).n ≤ l.length) ∧ ((headM l).got = true → (headM l).skip ≤ 4096) ∧ ((headM l).got = true → 2 ≤ (headM l).n) := by
  have hn := (split_small l).2.2
  have hp := split_pos l
  have hf := frame_max (splitM l).F
  unfold headM
  split
  · exact ⟨fun h => (by cases h), fun h => (by cases h), fun h => (by cases h), fun h => (by cases h)⟩
  rename_i h1
  split
  · exact ⟨fun h => (by cases h), fun h => (by cases h), fun h => (by cases h), fun h => (by cases h)⟩
  split
  · exact ⟨fun h => (by cases h), fun h => (by cases h), fun h => (by cases h), fun h => (by cases h)⟩
  split
  · exact ⟨fun h => (by cases h), fun h => (by cases h), fun h => (by cases h), fun h => (by cases h)⟩
  · rename_i h4
    have h5 := hf (by simpa using h4)
    exact ⟨fun _ => rfl, fun _ => hn, fun _ => by simp only; omega, fun _ => hp (by simpa using h1)⟩
theorem head_ne200 (l : List UInt8) : (headM l).s ≠ 200 := by
  unfold headM
  have ht : ∀ e long : Int, long ≠ 200 → toldE e long ≠ 200 := fun e long h => by unfold toldE; split; (simp); split; (exact h); simp
  split
  · exact ht _ _ (by decide)
  split
  · rename_i h; exact h
  split
  · simp [hr0]
  split
  · exact ht _ _ (by decide)
  · simp
theorem addC_sound {c : Ck} (s : List UInt8) (h : c.err = 0 → c.ok) (hs : c.st ≤ 4) : (addC c s).most = c.most ∧ (addC c s).inp.length + (addC c s).dat.length ≤ c.inp.length + c.dat.length + s.length ∧ (addC c s).st ≤ 4 ∧ ((addC c s).err = 0 → (addC c s).ok) := by
  have hr := addC_R (s := s) h
  unfold AddR at hr
  by_cases h0 : c.err = 0
  · rw [if_neg (by simp [h0])] at hr
    obtain ⟨d, e, hr, hc⟩ := hr
    have ho := runs_ok hr (add_ok (h h0) s)
    have hst := runs_st hr (show (c.add s).st ≤ 4 from hs)
    have hl := ho.2.2.2.1
    simp only [Ck.add, List.length_append] at hl
    rw [hc]
    refine ⟨ho.2.1, by simp only; omega, hst.1, fun he => ?_⟩
    simp only at he
    split at he
    · rename_i h17; exact ho.1 h17
    · exact absurd he (runs_ne hr)
  · rw [if_pos h0] at hr
    rw [hr]
    exact ⟨rfl, by omega, hs, h⟩
theorem next_hst {I : InS} (h : I.ok) : ∀ J c, J = I ∨ J = headed I (headM I.inp) → J.chk = some c → (addC c J.inp).st ≤ 4 ∧ (c.err = 0 → c.ok) := by
  intro J c hJ hc
  have key : (c.err = 0 → c.ok) ∧ c.st ≤ 4 := by
    rcases hJ with rfl | rfl
    · have := h.chk c hc; exact ⟨this.1, this.2.2.2⟩
    · have h2 : (if (headM I.inp).ch then some (ck0 4096) else I.chk) = some c := hc
      split at h2
      · cases h2; exact ⟨fun _ => ck0_ok _, by simp [ck0]⟩
      · have := h.chk c h2; exact ⟨this.1, this.2.2.2⟩
  exact ⟨(addC_sound _ key.1 key.2).2.2.1, key.1⟩
theorem in0_ok : in0.ok := ⟨by simp [in0], by simp [in0], by simp [in0], by simp [in0], by simp [in0], by simp [in0]⟩
theorem inAdd_ok {I : InS} (h : I.ok) (s : List UInt8) : (inAdd I s).1.ok := by
  unfold inAdd
  split
  · exact h
  · split
    · exact h
    · rename_i h1 h2
      have : I.left = I.inp.length + I.held := rfl
      exact ⟨by simp only [List.length_append]; omega, h.skp, h.chk, h.req, h.bad, h.hld⟩
theorem told_ne {e long : Int} (h : e ≠ 0) (h17 : e ≠ 17) (hl : long ≠ 0) : toldE e long ≠ 0 := by
  unfold toldE
  rw [if_neg (by omega)]
  split <;> omega
theorem addC_ne17 {c : Ck} (s : List UInt8) (h : c.err ≠ 17) : (addC c s).err ≠ 17 := by
  unfold addC
  split
  · exact h
  · simp only; split <;> omega
theorem toldE_ne {e : Int} (h : toldE e 413 = 0) : e = 0 ∨ e = 17 := by
  unfold toldE at h
  split at h
  · assumption
  · split at h <;> simp at h
theorem tail_none {p : InS} (q : Req) (hc : p.chk = none) (h : p.skip ≤ p.inp.length) : tailI p q = ⟨{ p with inp := p.inp.drop p.skip, held := 0, skip := 0, req := none }, q, 200⟩ := by
  have hb : bodyB p = ⟨{ p with inp := p.inp.drop p.skip, held := p.held + p.skip, skip := 0 }, true, 0⟩ := by
    unfold bodyB
    rw [hc]
    dsimp only
    rw [Nat.min_eq_left h, Nat.sub_self]
    rfl
  unfold tailI
  rw [hb]
  rfl
theorem tail_none' {p : InS} (q : Req) (hc : p.chk = none) (h : p.inp.length < p.skip) : tailI p q = ⟨{ p with inp := [], held := p.held + p.inp.length, skip := p.skip - p.inp.length }, req0, 0⟩ := by
  have hb : bodyB p = ⟨{ p with inp := [], held := p.held + p.inp.length, skip := p.skip - p.inp.length }, false, 0⟩ := by
    unfold bodyB
    rw [hc]
    dsimp only
    rw [Nat.min_eq_right (by omega), List.drop_length, decide_eq_false (by omega)]
  unfold tailI
  rw [hb]
  rfl
theorem tail_bad {p : InS} {c : Ck} (q : Req) (hc : p.chk = some c) (he : (addC c p.inp).err ≠ 0) (h17 : (addC c p.inp).err ≠ 17) :
    tailI p q = ⟨{ p with inp := [], held := p.held + p.inp.length, chk := some (addC c p.inp), st := toldE (addC c p.inp).err 413 }, req0, toldE (addC c p.inp).err 413⟩ := by
  have hb : bodyB p = ⟨{ p with inp := [], held := p.held + p.inp.length, chk := some (addC c p.inp) }, false, toldE (addC c p.inp).err 413⟩ := by
    unfold bodyB
    rw [hc]
    dsimp only
    rw [if_pos he]
  unfold tailI
  rw [hb]
  dsimp only
  rw [if_pos (told_ne he h17 (by decide))]
theorem tail_more {p : InS} {c : Ck} (q : Req) (hc : p.chk = some c) (he : (addC c p.inp).err = 0) (h4 : (addC c p.inp).st ≠ 4) :
    tailI p q = ⟨{ p with inp := [], held := p.held + p.inp.length, chk := some (addC c p.inp) }, req0, 0⟩ := by
  have hb : bodyB p = ⟨{ p with inp := [], held := p.held + p.inp.length, chk := some (addC c p.inp) }, false, 0⟩ := by
    unfold bodyB
    rw [hc]
    dsimp only
    rw [if_neg (by simp [he]), if_pos h4]
  unfold tailI
  rw [hb]
  rfl
theorem tail_done {p : InS} {c : Ck} (q : Req) (hc : p.chk = some c) (he : (addC c p.inp).err = 0) (h4 : (addC c p.inp).st = 4) :
    tailI p q = ⟨{ p with inp := (addC c p.inp).inp, held := 0, chk := none, req := none }, q, 200⟩ := by
  have hb : bodyB p = ⟨{ p with inp := (addC c p.inp).inp, held := p.held + p.inp.length, chk := none }, true, 0⟩ := by
    unfold bodyB
    rw [hc]
    dsimp only
    rw [if_neg (by simp [he]), if_neg (by simp [h4])]
  unfold tailI
  rw [hb]
  rfl
/-- a body's piece keeps what holds -/
theorem tail_ok {p : InS} (q : Req) (h : p.ok) (hq : p.req ≠ none) (h0 : p.st = 0) : (tailI p q).p.ok := by
  have hl := h.len
  have hs := h.skp
  cases hc : p.chk with
  | none =>
    rcases Nat.lt_or_ge p.inp.length p.skip with hlt | hge
    · rw [tail_none' q hc hlt]
      exact ⟨by simp only [List.length_nil]; omega, by simp only; omega, fun c hh => absurd (hc.symm.trans hh) (by simp), fun _ hh => absurd hh hq, fun c _ hh => absurd (hc.symm.trans hh) (by simp), fun _ _ => by have := h.hld h0 hq; simp only; omega⟩
    · rw [tail_none q hc hge]
      exact ⟨by simp only [List.length_drop]; omega, by simp only; omega, fun c hh => absurd (hc.symm.trans hh) (by simp), fun _ _ => ⟨hc, rfl⟩, fun c _ hh => absurd (hc.symm.trans hh) (by simp), fun _ hh => absurd rfl hh⟩
  | some c =>
    obtain ⟨k1, k2, k3, k4⟩ := h.chk c hc
    have ke := h.bad c h0 hc
    obtain ⟨d1, d2, d3, d4⟩ := addC_sound p.inp k1 k4
    have d5 := addC_ne17 (c := c) p.inp (by rw [ke]; decide)
    by_cases e1 : (addC c p.inp).err = 0
    · by_cases e2 : (addC c p.inp).st = 4
      · rw [tail_done q hc e1 e2]
        exact ⟨by simp only; omega, hs, fun c hh => by simp at hh, fun _ _ => ⟨rfl, rfl⟩, fun c _ hh => by simp at hh, fun _ hh => absurd rfl hh⟩
      · rw [tail_more q hc e1 e2]
        refine ⟨by simp only [List.length_nil]; omega, hs, fun c' hh => ?_, fun _ hh => absurd hh hq, fun c' _ hh => ?_, fun _ _ => by have := h.hld h0 hq; simp only; omega⟩
        · obtain rfl : addC c p.inp = c' := by simpa using hh
          exact ⟨d4, by rw [d1]; exact k2, by simp only; omega, d3⟩
        · obtain rfl : addC c p.inp = c' := by simpa using hh
          exact e1
    · have ht := told_ne (long := 413) e1 d5 (by decide)
      rw [tail_bad q hc e1 d5]
      refine ⟨by simp only [List.length_nil]; omega, hs, fun c' hh => ?_, fun hh => absurd hh ht, fun c' hh => absurd hh ht, fun hh => absurd hh ht⟩
      obtain rfl : addC c p.inp = c' := by simpa using hh
      exact ⟨d4, by rw [d1]; exact k2, by simp only; omega, d3⟩
theorem headed_ok {p : InS} (h : p.ok) (h0 : p.st = 0) (hr : p.req = none) (hg : (headM p.inp).got = true) : (headed p (headM p.inp)).ok := by
  obtain ⟨b1, b2, b3, b4⟩ := head_bounds p.inp
  have b4 := b4 hg
  have b2 := b2 hg
  have b3 := b3 hg
  have hl := h.len
  have hc := (h.req h0 hr).1
  generalize headM p.inp = hd at *
  have hk : ∀ c, (headed p hd).chk = some c → c = ck0 4096 := fun c hh => by
    have h2 : (if hd.ch then some (ck0 4096) else p.chk) = some c := hh
    rw [hc] at h2
    split at h2
    · cases h2; rfl
    · cases h2
  refine ⟨?_, b3, fun c hh => ?_, fun _ hh => (by cases hh), fun c _ hh => ?_, fun _ _ => b4⟩
  · show (p.inp.drop hd.n).length + hd.n ≤ 16384
    rw [List.length_drop]; omega
  · rw [hk c hh]
    exact ⟨fun _ => ck0_ok _, rfl, b4, by simp [ck0]⟩
  · rw [hk c hh]; rfl
theorem next_ok {p : InS} (h : p.ok) : (nextI p).p.ok := by
  unfold nextI
  by_cases h0 : p.st = 0
  · rw [if_neg (by simp [h0])]
    cases hr : p.req with
    | some q => exact tail_ok q h (by rw [hr]; simp) h0
    | none =>
      dsimp only
      by_cases hs : (headM p.inp).s = 0
      · rw [if_neg (by simp [hs])]
        cases hg : (headM p.inp).got with
        | false => exact h
        | true => exact tail_ok _ (headed_ok h h0 hr hg) (by simp [headed]) h0
      · rw [if_pos hs]
        exact ⟨h.len, h.skp, h.chk, fun hh => absurd hh hs, fun c hh => absurd hh hs, fun hh => absurd hh hs⟩
  · rw [if_pos h0]; exact h
/-- with a request that came whole nothing is wrong, and fewer bytes are left -/
theorem tail_200 {p : InS} {q : Req} (h : p.ok) (h0 : p.st = 0) (hq : p.req ≠ none) (hs : (tailI p q).s = 200) : (tailI p q).p.st = 0 ∧ (tailI p q).p.left + 2 ≤ p.left := by
  have hh := h.hld h0 hq
  unfold InS.left
  cases hc : p.chk with
  | none =>
    rcases Nat.lt_or_ge p.inp.length p.skip with hlt | hge
    · rw [tail_none' q hc hlt] at hs; simp at hs
    · rw [tail_none q hc hge]
      refine ⟨h0, ?_⟩
      simp only [List.length_drop]; omega
  | some c =>
    obtain ⟨k1, k2, k3, k4⟩ := h.chk c hc
    have ke := h.bad c h0 hc
    obtain ⟨d1, d2, d3, d4⟩ := addC_sound p.inp k1 k4
    have d5 := addC_ne17 (c := c) p.inp (by rw [ke]; decide)
    by_cases e1 : (addC c p.inp).err = 0
    · by_cases e2 : (addC c p.inp).st = 4
      · rw [tail_done q hc e1 e2]
        refine ⟨h0, ?_⟩
        simp only; omega
      · rw [tail_more q hc e1 e2] at hs; simp at hs
    · rw [tail_bad q hc e1 d5] at hs
      exfalso
      simp only at hs
      unfold toldE at hs
      split at hs
      · simp at hs
      · split at hs <;> simp at hs
theorem next_200 {p : InS} (h : p.ok) (h0 : p.st = 0) (hs : (nextI p).s = 200) : (nextI p).p.st = 0 ∧ (nextI p).p.left + 2 ≤ p.left := by
  unfold nextI at hs ⊢
  rw [if_neg (by simp [h0])] at hs ⊢
  cases hr : p.req with
  | some q =>
    rw [hr] at hs
    exact tail_200 h h0 (by rw [hr]; simp) hs
  | none =>
    rw [hr] at hs
    dsimp only at hs ⊢
    by_cases h1 : (headM p.inp).s = 0
    · rw [if_neg (by simp [h1])] at hs ⊢
      cases hg : (headM p.inp).got with
      | false => rw [hg] at hs; simp at hs
      | true =>
        rw [hg] at hs
        have := tail_200 (headed_ok h h0 hr hg) h0 (by simp [headed]) hs
        refine ⟨this.1, Nat.le_trans this.2 ?_⟩
        have hb := (head_bounds p.inp).2.1 hg
        unfold InS.left
        show (p.inp.drop (headM p.inp).n).length + (headM p.inp).n ≤ p.inp.length + p.held
        rw [List.length_drop]; omega
    · rw [if_pos h1] at hs
      exact absurd hs (head_ne200 p.inp)
theorem tail_le {p : InS} (q : Req) (h : p.ok) (h0 : p.st = 0) (hq : p.req ≠ none) : (tailI p q).p.left ≤ p.left := by
  cases hc : p.chk with
  | none =>
    rcases Nat.lt_or_ge p.inp.length p.skip with hlt | hge
    · rw [tail_none' q hc hlt]; unfold InS.left; simp only [List.length_nil]; omega
    · rw [tail_none q hc hge]; unfold InS.left; simp only [List.length_drop]; omega
  | some c =>
    obtain ⟨k1, k2, k3, k4⟩ := h.chk c hc
    have ke := h.bad c h0 hc
    obtain ⟨d1, d2, d3, d4⟩ := addC_sound p.inp k1 k4
    have d5 := addC_ne17 (c := c) p.inp (by rw [ke]; decide)
    by_cases e1 : (addC c p.inp).err = 0
    · by_cases e2 : (addC c p.inp).st = 4
      · rw [tail_done q hc e1 e2]; unfold InS.left; simp only; omega
      · rw [tail_more q hc e1 e2]; unfold InS.left; simp only [List.length_nil]; omega
    · rw [tail_bad q hc e1 d5]; unfold InS.left; simp only [List.length_nil]; omega
theorem next_le {p : InS} (h : p.ok) : (nextI p).p.left ≤ p.left := by
  unfold nextI
  by_cases h0 : p.st = 0
  · rw [if_neg (by simp [h0])]
    cases hr : p.req with
    | some q => exact tail_le q h h0 (by rw [hr]; simp)
    | none =>
      dsimp only
      by_cases hs : (headM p.inp).s = 0
      · rw [if_neg (by simp [hs])]
        cases hg : (headM p.inp).got with
        | false => exact Nat.le_refl _
        | true =>
          refine Nat.le_trans (tail_le _ (headed_ok h h0 hr hg) h0 (by simp [headed])) ?_
          have hb := (head_bounds p.inp).2.1 hg
          unfold InS.left
          show (p.inp.drop (headM p.inp).n).length + (headM p.inp).n ≤ p.inp.length + p.held
          rw [List.length_drop]; omega
      · rw [if_pos hs]; exact Nat.le_refl _
  · rw [if_pos h0]; exact Nat.le_refl _
theorem next_st {p : InS} (h : p.ok) (h0 : p.st = 0) (hs : (nextI p).s = 200) : (nextI p).p.st = 0 := (next_200 h h0 hs).1
end Go.Proofs.YtmfnciocnlmceaaDoor

/- Layer 12: Next, when nothing more can come, or nothing has come whole. No conditions but on lengths. -/
namespace Go.Proofs.YtmfnciocnlmceaaDoor
open Go.RowKit Go.Shelf


set_option maxRecDepth 100000 in
set_option maxHeartbeats 3000000 in
theorem next_neg {B p : Nat} {X R : List Nat} {I : InS} {w : World} (h : It B w p X R I) (hm : ML w) (hB : B ≤ w.heap.size) (hbig : 0 < B) (hok : I.ok) (hs0 : ¬ I.st = 0) :
    Calls Tryd.prog 42 #[.pointer (some ⟨p, 0, none⟩)] w (NextOut B w p X R (nextI I)) := by
  have hst := next_hst hok
  have kA := (Keep.refl [] w).alloc (.cells reqZ.toArray 65)
  have bA := Blk.newA w reqZ.toArray 65
  have zst := req_st [] [] (v := .slice none 0 0) false rfl
  have H := Lib.hid h
  generalize hwA : w.alloc (.cells #[.string ⟨#[]⟩, .string ⟨#[]⟩, .slice none 0 0, .bool false] 65) = wA
  have hwA' : w.alloc (.cells reqZ.toArray 65) = wA := hwA
  have hszA : wA.heap.size = w.heap.size + 1 := by rw [← hwA']; simp
  rw [hwA'] at kA bA
  have hA := h.keep0 kA
  have NA : NxS B w p X R wA X R I := ⟨hA, kA.mono (by simp), fun x hx => .inl hx, fun x hx => .inl hx, show Blk wA w.heap.size 65 reqZ from bA⟩
  obtain ⟨a0, a1, a3, a5⟩ := hA.at_
  have HNA := Lib.hid NA
  have MA := Lib.hid (hm.keep kA (by simp))
  have ZST := Lib.hid zst
  have HW := Lib.hid (inlet_wrong hA)
  have HFl := Lib.hid (fun s wt X1 R1 J (hh : It B wt p X1 R1 J) => inlet_fail (I := J) s hh)
  have hBA : B ≤ wA.heap.size := by omega
  have hlen := hok.len
  have HOK := Lib.hid hok
  have HLO := Lib.hid h.lo
  clear h kA bA hA NA hwA' zst hm hok
  have hN : nextI I = ⟨I, req0, I.st⟩ := by unfold nextI; rw [if_pos hs0]
  have q1 := (int_ne hs0).2
  have HF := Lib.hid (HNA.out.fin0 H.out I.st)
  have HT := Lib.hid (HNA.out.bk.there' 0 4 (by simp [reqZ, reqC]))
  have hload := reqZ_back HT.out
  have HLd := Lib.hid hload
  rw [hN]
  clear hs0 hN hload hst
  go_enter Tryd.func42, Tryd.ntmps42
  go_wp2_with fail
  refine HW.out.mono ?_
  rintro e w1 ⟨rfl, rfl⟩
  clear hwA
  go_wp2_with (first
    | (refine wpList_store_mid rfl 65 (.tmp 2) (.tmp 17) rfl w.heap.size 0 reqZ.toArray (by rfl) (by first | rfl | kernel_rfl) HT.out ZST.out.1 ZST.out.2 ?_
       try simp only [Act.put])
    | fail)
  refine bodyPost_ret (v := .tuple #[.agg reqZ.toArray, .int .i64 I.st]) (by have hl := HLd.out; simp [Act.put, results, Tryd.results42, asAddr, Result.andThen, hl]) rfl HF.out
set_option maxRecDepth 100000 in
set_option maxHeartbeats 3000000 in
theorem next_wrong {B p : Nat} {X R : List Nat} {I : InS} {w : World} (h : It B w p X R I) (hm : ML w) (hB : B ≤ w.heap.size) (hbig : 0 < B) (hok : I.ok) (hs0 : I.st = 0) (hrq : I.req = none) (hd0 : ¬ (headM I.inp).s = 0) :
    Calls Tryd.prog 42 #[.pointer (some ⟨p, 0, none⟩)] w (NextOut B w p X R (nextI I)) := by
  have hst := next_hst hok
  have kA := (Keep.refl [] w).alloc (.cells reqZ.toArray 65)
  have bA := Blk.newA w reqZ.toArray 65
  have zst := req_st [] [] (v := .slice none 0 0) false rfl
  have H := Lib.hid h
  generalize hwA : w.alloc (.cells #[.string ⟨#[]⟩, .string ⟨#[]⟩, .slice none 0 0, .bool false] 65) = wA
  have hwA' : w.alloc (.cells reqZ.toArray 65) = wA := hwA
  have hszA : wA.heap.size = w.heap.size + 1 := by rw [← hwA']; simp
  rw [hwA'] at kA bA
  have hA := h.keep0 kA
  have NA : NxS B w p X R wA X R I := ⟨hA, kA.mono (by simp), fun x hx => .inl hx, fun x hx => .inl hx, show Blk wA w.heap.size 65 reqZ from bA⟩
  obtain ⟨a0, a1, a3, a5⟩ := hA.at_
  have HNA := Lib.hid NA
  have MA := Lib.hid (hm.keep kA (by simp))
  have ZST := Lib.hid zst
  have HW := Lib.hid (inlet_wrong hA)
  have HFl := Lib.hid (fun s wt X1 R1 J (hh : It B wt p X1 R1 J) => inlet_fail (I := J) s hh)
  have hBA : B ≤ wA.heap.size := by omega
  have hlen := hok.len
  have HOK := Lib.hid hok
  have HLO := Lib.hid h.lo
  clear h kA bA hA NA hwA' zst hm hok
  have q1 := (int_eq hs0).2
  have hN : nextI I = if (headM I.inp).s ≠ 0 then ⟨{ I with st := (headM I.inp).s }, req0, (headM I.inp).s⟩
    else if (headM I.inp).got then tailI (headed I (headM I.inp)) (headM I.inp).q else ⟨I, req0, 0⟩ := by unfold nextI; rw [if_neg (by simp [hs0]), hrq]
  have hck := (HOK.out.req hs0 hrq).1
  have HH := Lib.hid (inlet_head HNA.out.it MA.out hBA hbig (by omega) hrq hck)
  have HX2 := Lib.hid (fun c => hst (headed I (headM I.inp)) c (.inr rfl))
  have hhd := head_bounds I.inp
  have c2 := it_noReq HNA.out.it hrq
  generalize headM I.inp = hd at *
  obtain ⟨hd1, hd2, hd3, _⟩ := hhd
  clear hst
  rw [if_pos hd0] at hN
  have hgot : hd.got = false := by cases hg : hd.got with | false => rfl | true => exact absurd (hd1 hg) hd0
  have q2 := (int_ne hd0).2
  rw [hN]
  clear hN hd0 hrq hs0 hck hd1
  go_enter Tryd.func42, Tryd.ntmps42
  go_wp2_with fail
  refine HH.out.mono ?_
  rintro e w1 ⟨rfl, _, k1, _⟩
  have HN1 := Lib.hid (HNA.out.step H.out (k1 hgot |>.mono (by simp)) (HNA.out.it.keep0 (k1 hgot)) (fun x hx => .inl hx) (fun x hx => .inl hx))
  clear k1 hwA
  go_wp2_with fail
  refine (HFl.out _ _ _ _ _ HN1.out.it).mono ?_
  rintro e w2 ⟨rfl, hi2, k2⟩
  have HN2 := Lib.hid (HN1.out.step H.out (HN1.out.it.keepX k2) hi2 (fun x hx => .inl hx) (fun x hx => .inl hx))
  have HF := Lib.hid (HN2.out.fin0 H.out hd.s)
  have HT := Lib.hid (HN2.out.bk.there' 0 4 (by simp [reqZ, reqC]))
  have hload := reqZ_back HT.out
  have HLd := Lib.hid hload
  clear hi2 k2 hload
  go_wp2_with (first
    | (refine wpList_store_mid rfl 65 (.tmp 2) (.tmp 32) rfl w.heap.size 0 reqZ.toArray (by rfl) (by first | rfl | kernel_rfl) HT.out ZST.out.1 ZST.out.2 ?_
       try simp only [Act.put])
    | fail)
  refine bodyPost_ret (v := .tuple #[.agg reqZ.toArray, .int .i64 hd.s]) (by have hl := HLd.out; simp [Act.put, results, Tryd.results42, asAddr, Result.andThen, hl]) rfl HF.out
set_option maxRecDepth 100000 in
set_option maxHeartbeats 3000000 in
theorem next_wait {B p : Nat} {X R : List Nat} {I : InS} {w : World} (h : It B w p X R I) (hm : ML w) (hB : B ≤ w.heap.size) (hbig : 0 < B) (hok : I.ok) (hs0 : I.st = 0) (hrq : I.req = none) (hd0 : (headM I.inp).s = 0) (hgot : (headM I.inp).got = false) :
    Calls Tryd.prog 42 #[.pointer (some ⟨p, 0, none⟩)] w (NextOut B w p X R (nextI I)) := by
  have hst := next_hst hok
  have kA := (Keep.refl [] w).alloc (.cells reqZ.toArray 65)
  have bA := Blk.newA w reqZ.toArray 65
  have zst := req_st [] [] (v := .slice none 0 0) false rfl
  have H := Lib.hid h
  generalize hwA : w.alloc (.cells #[.string ⟨#[]⟩, .string ⟨#[]⟩, .slice none 0 0, .bool false] 65) = wA
  have hwA' : w.alloc (.cells reqZ.toArray 65) = wA := hwA
  have hszA : wA.heap.size = w.heap.size + 1 := by rw [← hwA']; simp
  rw [hwA'] at kA bA
  have hA := h.keep0 kA
  have NA : NxS B w p X R wA X R I := ⟨hA, kA.mono (by simp), fun x hx => .inl hx, fun x hx => .inl hx, show Blk wA w.heap.size 65 reqZ from bA⟩
  obtain ⟨a0, a1, a3, a5⟩ := hA.at_
  have HNA := Lib.hid NA
  have MA := Lib.hid (hm.keep kA (by simp))
  have ZST := Lib.hid zst
  have HW := Lib.hid (inlet_wrong hA)
  have HFl := Lib.hid (fun s wt X1 R1 J (hh : It B wt p X1 R1 J) => inlet_fail (I := J) s hh)
  have hBA : B ≤ wA.heap.size := by omega
  have hlen := hok.len
  have HOK := Lib.hid hok
  have HLO := Lib.hid h.lo
  clear h kA bA hA NA hwA' zst hm hok
  have q1 := (int_eq hs0).2
  have hN : nextI I = if (headM I.inp).s ≠ 0 then ⟨{ I with st := (headM I.inp).s }, req0, (headM I.inp).s⟩
    else if (headM I.inp).got then tailI (headed I (headM I.inp)) (headM I.inp).q else ⟨I, req0, 0⟩ := by unfold nextI; rw [if_neg (by simp [hs0]), hrq]
  have hck := (HOK.out.req hs0 hrq).1
  have HH := Lib.hid (inlet_head HNA.out.it MA.out hBA hbig (by omega) hrq hck)
  have HX2 := Lib.hid (fun c => hst (headed I (headM I.inp)) c (.inr rfl))
  have hhd := head_bounds I.inp
  have c2 := it_noReq HNA.out.it hrq
  generalize headM I.inp = hd at *
  obtain ⟨hd1, hd2, hd3, _⟩ := hhd
  clear hst
  rw [if_neg (by simp [hd0])] at hN
  rw [hgot, if_neg (by simp)] at hN
  rw [hN]
  rw [hd0] at HH
  have HRQ := Lib.hid hrq
  clear hN hd0 hrq hs0 hck hd1
  go_enter Tryd.func42, Tryd.ntmps42
  go_wp2_with fail
  refine HH.out.mono ?_
  rintro e w1 ⟨rfl, _, k1, _⟩
  have HN2 := Lib.hid (HNA.out.step H.out (k1 hgot |>.mono (by simp)) (HNA.out.it.keep0 (k1 hgot)) (fun x hx => .inl hx) (fun x hx => .inl hx))
  have c22 := it_noReq HN2.out.it HRQ.out
  have HF := Lib.hid (HN2.out.fin0 H.out 0)
  have HT := Lib.hid (HN2.out.bk.there' 0 4 (by simp [reqZ, reqC]))
  have hload := reqZ_back HT.out
  have HLd := Lib.hid hload
  clear k1 hload hwA
  go_wp2_with (first
    | (refine wpList_store_mid rfl 65 (.tmp 2) (.tmp 39) rfl w.heap.size 0 reqZ.toArray (by rfl) (by first | rfl | kernel_rfl) HT.out ZST.out.1 ZST.out.2 ?_
       try simp only [Act.put])
    | fail)
  refine bodyPost_ret (v := .tuple #[.agg reqZ.toArray, .int .i64 0]) (by have hl := HLd.out; simp [Act.put, results, Tryd.results42, asAddr, Result.andThen, hl]) rfl HF.out
end Go.Proofs.YtmfnciocnlmceaaDoor

/- Layer 12: Next, when a request's head has come before. No conditions but on lengths. -/
namespace Go.Proofs.YtmfnciocnlmceaaDoor
open Go.RowKit Go.Shelf


set_option maxRecDepth 100000 in
set_option maxHeartbeats 3000000 in
theorem next_pend {B p : Nat} {X R : List Nat} {I : InS} {w : World} (h : It B w p X R I) (hm : ML w) (hB : B ≤ w.heap.size) (hbig : 0 < B) (hok : I.ok) {q : Req} (hs0 : I.st = 0) (hrq : I.req = some q) :
    Calls Tryd.prog 42 #[.pointer (some ⟨p, 0, none⟩)] w (NextOut B w p X R (nextI I)) := by
  have hst := next_hst hok
  have kA := (Keep.refl [] w).alloc (.cells reqZ.toArray 65)
  have bA := Blk.newA w reqZ.toArray 65
  have zst := req_st [] [] (v := .slice none 0 0) false rfl
  have H := Lib.hid h
  generalize hwA : w.alloc (.cells #[.string ⟨#[]⟩, .string ⟨#[]⟩, .slice none 0 0, .bool false] 65) = wA
  have hwA' : w.alloc (.cells reqZ.toArray 65) = wA := hwA
  have hszA : wA.heap.size = w.heap.size + 1 := by rw [← hwA']; simp
  rw [hwA'] at kA bA
  have hA := h.keep0 kA
  have NA : NxS B w p X R wA X R I := ⟨hA, kA.mono (by simp), fun x hx => .inl hx, fun x hx => .inl hx, show Blk wA w.heap.size 65 reqZ from bA⟩
  obtain ⟨a0, a1, a3, a5⟩ := hA.at_
  have HNA := Lib.hid NA
  have MA := Lib.hid (hm.keep kA (by simp))
  have ZST := Lib.hid zst
  have HW := Lib.hid (inlet_wrong hA)
  have HFl := Lib.hid (fun s wt X1 R1 J (hh : It B wt p X1 R1 J) => inlet_fail (I := J) s hh)
  have hBA : B ≤ wA.heap.size := by omega
  have hlen := hok.len
  have HOK := Lib.hid hok
  have HLO := Lib.hid h.lo
  clear h kA bA hA NA hwA' zst hm hok
  have q1 := (int_eq hs0).2
  have hN : nextI I = tailI I q := by unfold nextI; rw [if_neg (by simp [hs0]), hrq]
  have HNt := HNA
  have MT := MA
  have HOt := Lib.hid (show I.inp.length + I.held ≤ 65536 ∧ I.skip ≤ 65536 ∧ (∀ c, I.chk = some c → (c.err = 0 → c.ok) ∧ c.most = 4096 ∧ c.inp.length + c.dat.length ≤ 65536 ∧ (addC c I.inp).st ≤ 4) ∧ I.req = some q from
    ⟨by omega, by have := HOK.out.skp; omega, fun c hc => ⟨(hst I c (.inl rfl) hc).2, (HOK.out.chk c hc).2.1, by have := (HOK.out.chk c hc).2.2.1; omega, (hst I c (.inl rfl) hc).1⟩, hrq⟩)
  obtain ⟨rb, ra, rl, rc, c2, hjunk⟩ := it_req HNA.out.it hrq; clear hjunk
  rw [hN]
  clear hrq hN hst hs0
  go_enter Tryd.func42, Tryd.ntmps42
  go_wp2_with fail
  have HBd := Lib.hid (inlet_body HNt.out.it MT.out hBA hbig HOt.out.1 HOt.out.2.1 HOt.out.2.2.1)
  have hbr := body_req I
  have hT : tailI I q = if (bodyB I).s ≠ 0 then ⟨{ (bodyB I).p with st := (bodyB I).s }, req0, (bodyB I).s⟩
    else if (bodyB I).whole then ⟨{ (bodyB I).p with req := none, held := 0 }, q, 200⟩ else ⟨(bodyB I).p, req0, 0⟩ := rfl
  generalize bodyB I = bd at *
  obtain ⟨bp, bwh, bs⟩ := bd
  dsimp only at HBd hbr hT
  have hbq : bp.req = some q := hbr.1.trans HOt.out.2.2.2
  clear hbr c2
  refine HBd.out.mono ?_
  rintro e w5 ⟨rfl, k5, X5, hi5, n5⟩
  have HN5 := Lib.hid (HNt.out.step H.out k5 hi5 n5 (fun x hx => .inl hx))
  clear k5 hi5 n5 HBd
  by_cases hs5 : bs = 0
  case neg =>
    rw [if_pos hs5] at hT
    have q5 := (int_ne hs5).2
    clear hs5
    go_wp2_with fail
    refine (HFl.out _ _ _ _ _ HN5.out.it).mono ?_
    rintro e w6 ⟨rfl, hi2, k2⟩
    have HN2 := Lib.hid (HN5.out.step H.out (HN5.out.it.keepX k2) hi2 (fun x hx => .inl hx) (fun x hx => .inl hx))
    have HF := Lib.hid ((HN2.out.fin0 H.out bs).of hT)
    have HT := Lib.hid (HN2.out.bk.there' 0 4 (by simp [reqZ, reqC]))
    have hload := reqZ_back HT.out
    have HLd := Lib.hid hload
    clear hi2 k2 hload hT
    go_wp2_with (first
      | (with_reducible (show wpList _ _ _ ((⟨none, .store _ (.tmp 2) (.tmp 51), _, _, _, none⟩ : Oper) :: _) _ _)
         refine wpList_store_mid rfl 65 (.tmp 2) (.tmp 51) rfl w.heap.size 0 reqZ.toArray (by rfl) (by first | rfl | kernel_rfl) HT.out ZST.out.1 ZST.out.2 ?_
         try simp only [Act.put])
      | fail)
    refine bodyPost_ret (v := .tuple #[.agg reqZ.toArray, .int .i64 bs]) (by have hl := HLd.out; simp [Act.put, results, Tryd.results42, asAddr, Result.andThen, hl]) rfl HF.out
  rw [if_neg (by simp [hs5])] at hT
  subst hs5
  cases bwh with
  | false =>
    rw [if_neg (by simp)] at hT
    have HF := Lib.hid ((HN5.out.fin0 H.out 0).of hT)
    have HT := Lib.hid (HN5.out.bk.there' 0 4 (by simp [reqZ, reqC]))
    have hload := reqZ_back HT.out
    have HLd := Lib.hid hload
    clear hT hload
    go_wp2_with (first
      | (with_reducible (show wpList _ _ _ ((⟨none, .store _ (.tmp 2) (.tmp 56), _, _, _, none⟩ : Oper) :: _) _ _)
         refine wpList_store_mid rfl 65 (.tmp 2) (.tmp 56) rfl w.heap.size 0 reqZ.toArray (by rfl) (by first | rfl | kernel_rfl) HT.out ZST.out.1 ZST.out.2 ?_
         try simp only [Act.put])
      | fail)
    refine bodyPost_ret (v := .tuple #[.agg reqZ.toArray, .int .i64 0]) (by have hl := HLd.out; simp [Act.put, results, Tryd.results42, asAddr, Result.andThen, hl]) rfl HF.out
  | true =>
    rw [if_pos rfl] at hT
    obtain ⟨rb2, sa, sl, sc, c2, hq2, ho2, hg2, hrb2⟩ := it_req HN5.out.it hbq
    have hoff := HN5.out.off H.out
    have hbk := HN5.out.bk
    have kW := (Keep.refl [] w5).alloc (.cells (reqC q.m q.t (.slice sa sl sc) q.cl).toArray 65)
    have nW := Blk.newA w5 (reqC q.m q.t (.slice sa sl sc) q.cl).toArray 65
    have hp5 := HN5.out.it.lt
    have RNG := Lib.hid hq2.range'
    generalize hwW : w5.alloc (.cells (reqC q.m q.t (.slice sa sl sc) q.cl).toArray 65) = wW at kW nW
    have iW := HN5.out.it.keep0 kW
    have d2 : wW.cell? ⟨p, 2, none⟩ = some (.pointer (some ⟨rb2, 0, none⟩)) := kW.load c2
    have d1 := iW.at_.2.1
    have g1 := iW.free 1
    have g2 := iW.free 2
    have kP := ((Keep.refl [p] wW).setCell ⟨p, 2, none⟩ (.pointer none) (by simp)).setCell ⟨p, 1, none⟩ (.int .i64 0) (by simp)
    have hnep : w5.heap.size ≠ p := by omega
    have nP := kP.blk (show Blk wW w5.heap.size 65 (reqC q.m q.t (.slice sa sl sc) q.cl) from nW) (by simpa using hnep)
    have iP := it_unreq iW
    have HNP := Lib.hid ((HN5.out.step H.out (kW.mono (S' := X5) (by simp)) iW (fun x hx => .inl hx) (fun x hx => .inl hx)).step H.out (iW.keepX kP) iP (fun x hx => .inl hx) (by simp))
    have HT := Lib.hid (HNP.out.bk.there' 0 4 (by simp [reqZ, reqC]))
    have hload := req_back (m := q.m) (t := q.t) (v := .slice sa sl sc) (cl := q.cl) HT.out
    have HLd := Lib.hid hload
    have OP := ((ho2.keep0 kW).keep kP (fun g hg => by simp; rintro rfl; exact (HN5.out.it.ro _ (hg2 _ hg)).2.2 HN5.out.it.mem))
    have HF := Lib.hid ((HNP.out.fin H.out q (.slice sa sl sc) 200 OP (fun g hg => ⟨HN5.out.nr g (hg2 g hg), (HN5.out.it.ro g (hg2 g hg)).2.2⟩)).of hT)
    have HS1 := Lib.hid (reqC_one q.m q.t (v := .slice sa sl sc) q.cl rfl)
    have ST := Lib.hid (req_st q.m q.t (v := .slice sa sl sc) q.cl rfl)
    have RP := Lib.hid nP.range'
    clear hT hload hq2 ho2 hg2 hrb2 hoff hbk kW nW iW kP nP iP OP hp5
    go_wp2_with (first
      | (with_reducible (show wpList _ _ _ ((⟨_, .load _ (.tmp 61), _, _, _, none⟩ : Oper) :: _) _ _)
         refine wpList_load_mid rfl 65 (.tmp 61) rfl rb2 0 (by rfl) (reqC q.m q.t (.slice sa sl sc) q.cl) _ RNG.out Tryd.underlying65 rfl req_size ?_
         try simp only [Act.put, List.setIfInBounds_toArray, List.set_cons_succ, List.set_cons_zero])
      | (with_reducible (show wpList _ _ _ ((⟨none, .store _ (.tmp 7) (.tmp 62), _, _, _, none⟩ : Oper) :: _) _ _)
         refine wpList_store_fresh rfl 65 (.tmp 7) (.tmp 62) rfl _ (reqC q.m q.t (.slice sa sl sc) q.cl) (by rfl) (by rfl) req_size (by rfl) HS1.out ?_
         rw [hwW]
         try simp only [Act.put, List.setIfInBounds_toArray, List.set_cons_succ, List.set_cons_zero])
      | (with_reducible (show wpList _ _ _ ((⟨_, .load _ (.tmp 7), _, _, _, none⟩ : Oper) :: _) _ _)
         refine wpList_load_mid rfl 65 (.tmp 7) rfl w5.heap.size 0 (by rfl) (reqC q.m q.t (.slice sa sl sc) q.cl) _ RP.out Tryd.underlying65 rfl req_size ?_
         try simp only [Act.put, List.setIfInBounds_toArray, List.set_cons_succ, List.set_cons_zero])
      | (with_reducible (show wpList _ _ _ ((⟨none, .store _ (.tmp 2) (.tmp 69), _, _, _, none⟩ : Oper) :: _) _ _)
         refine wpList_store_mid rfl 65 (.tmp 2) (.tmp 69) rfl w.heap.size 0 (reqC q.m q.t (.slice sa sl sc) q.cl).toArray (by rfl) (by first | rfl | kernel_rfl) HT.out ST.out.1 ST.out.2 ?_
         try simp only [Act.put])
      | fail)
    refine bodyPost_ret (v := .tuple #[.agg (reqC q.m q.t (.slice sa sl sc) q.cl).toArray, .int .i64 200]) (by have hl := HLd.out; simp [Act.put, results, Tryd.results42, asAddr, Result.andThen, hl]) rfl HF.out
end Go.Proofs.YtmfnciocnlmceaaDoor

/- Layer 12: Next, when a request's head has come now. No conditions but on lengths. -/
namespace Go.Proofs.YtmfnciocnlmceaaDoor
open Go.RowKit Go.Shelf


set_option maxRecDepth 100000 in
set_option maxHeartbeats 3000000 in
theorem next_got {B p : Nat} {X R : List Nat} {I : InS} {w : World} (h : It B w p X R I) (hm : ML w) (hB : B ≤ w.heap.size) (hbig : 0 < B) (hok : I.ok) (hs0 : I.st = 0) (hrq : I.req = none) (hd0 : (headM I.inp).s = 0) (hgot : (headM I.inp).got = true) :
    Calls Tryd.prog 42 #[.pointer (some ⟨p, 0, none⟩)] w (NextOut B w p X R (nextI I)) := by
  have hst := next_hst hok
  have kA := (Keep.refl [] w).alloc (.cells reqZ.toArray 65)
  have bA := Blk.newA w reqZ.toArray 65
  have zst := req_st [] [] (v := .slice none 0 0) false rfl
  have H := Lib.hid h
  generalize hwA : w.alloc (.cells #[.string ⟨#[]⟩, .string ⟨#[]⟩, .slice none 0 0, .bool false] 65) = wA
  have hwA' : w.alloc (.cells reqZ.toArray 65) = wA := hwA
  have hszA : wA.heap.size = w.heap.size + 1 := by rw [← hwA']; simp
  rw [hwA'] at kA bA
  have hA := h.keep0 kA
  have NA : NxS B w p X R wA X R I := ⟨hA, kA.mono (by simp), fun x hx => .inl hx, fun x hx => .inl hx, show Blk wA w.heap.size 65 reqZ from bA⟩
  obtain ⟨a0, a1, a3, a5⟩ := hA.at_
  have HNA := Lib.hid NA
  have MA := Lib.hid (hm.keep kA (by simp))
  have ZST := Lib.hid zst
  have HW := Lib.hid (inlet_wrong hA)
  have HFl := Lib.hid (fun s wt X1 R1 J (hh : It B wt p X1 R1 J) => inlet_fail (I := J) s hh)
  have hBA : B ≤ wA.heap.size := by omega
  have hlen := hok.len
  have HOK := Lib.hid hok
  have HLO := Lib.hid h.lo
  clear h kA bA hA NA hwA' zst hm hok
  have q1 := (int_eq hs0).2
  have hN : nextI I = if (headM I.inp).s ≠ 0 then ⟨{ I with st := (headM I.inp).s }, req0, (headM I.inp).s⟩
    else if (headM I.inp).got then tailI (headed I (headM I.inp)) (headM I.inp).q else ⟨I, req0, 0⟩ := by unfold nextI; rw [if_neg (by simp [hs0]), hrq]
  have hck := (HOK.out.req hs0 hrq).1
  have HH := Lib.hid (inlet_head HNA.out.it MA.out hBA hbig (by omega) hrq hck)
  have HX2 := Lib.hid (fun c => hst (headed I (headM I.inp)) c (.inr rfl))
  have hhd := head_bounds I.inp
  have c2 := it_noReq HNA.out.it hrq
  generalize headM I.inp = hd at *
  obtain ⟨hd1, hd2, hd3, _⟩ := hhd
  clear hst
  rw [if_neg (by simp [hd0])] at hN
  rw [hgot, if_pos rfl] at hN
  rw [hN]
  rw [hd0] at HH
  have HOt' := Lib.hid (show (headed I hd).inp.length + (headed I hd).held ≤ 65536 ∧ (headed I hd).skip ≤ 65536 ∧ (∀ c, (headed I hd).chk = some c → (c.err = 0 → c.ok) ∧ c.most = 4096 ∧ c.inp.length + c.dat.length ≤ 65536 ∧ (addC c (headed I hd).inp).st ≤ 4) ∧ (headed I hd).req = some hd.q from
    ⟨by show (I.inp.drop hd.n).length + hd.n ≤ 65536; have := hd2 hgot; rw [List.length_drop]; omega, by have := hd3 hgot; show hd.skip ≤ 65536; omega, fun c hc => (by
      have h1 := HX2.out c hc
      have h2 : (if hd.ch then some (ck0 4096) else I.chk) = some c := hc
      rw [hck] at h2
      split at h2
      · cases h2; exact ⟨h1.2, rfl, by simp [ck0], h1.1⟩
      · cases h2), rfl⟩)
  clear hN hd0 hrq hs0 hck hd1 hd2 hd3 HX2
  generalize headed I hd = J at *
  generalize hd.q = q at *
  go_enter Tryd.func42, Tryd.ntmps42
  go_wp2_with fail
  refine HH.out.mono ?_
  rintro e w1 ⟨rfl, k1, _, hx1⟩
  obtain ⟨X1, R1, hi1, n1, r1⟩ := hx1 hgot
  have HN1 := Lib.hid (HNA.out.step H.out (HNA.out.it.keepX k1) hi1 n1 (fun x hx => .inr (r1 x hx)))
  have M1 := Lib.hid (MA.out.keepB hbig (HNA.out.it.keepX k1) (fun x hx => (HLO.out x hx).1))
  have hsz1 : B ≤ w1.heap.size := Nat.le_trans hBA k1.size
  clear k1 hx1 hi1 n1 r1 c2 a0 a1 a3 a5 q1 hwA HH
  obtain ⟨rb, ra, rl, rc, c2, hjunk⟩ := it_req HN1.out.it HOt'.out.2.2.2; clear hjunk
  go_wp2_with fail
  have HBd := Lib.hid (inlet_body HN1.out.it M1.out hsz1 hbig HOt'.out.1 HOt'.out.2.1 HOt'.out.2.2.1)
  have hbr := body_req J
  have hT : tailI J q = if (bodyB J).s ≠ 0 then ⟨{ (bodyB J).p with st := (bodyB J).s }, req0, (bodyB J).s⟩
    else if (bodyB J).whole then ⟨{ (bodyB J).p with req := none, held := 0 }, q, 200⟩ else ⟨(bodyB J).p, req0, 0⟩ := rfl
  generalize bodyB J = bd at *
  obtain ⟨bp, bwh, bs⟩ := bd
  dsimp only at HBd hbr hT
  have hbq : bp.req = some q := hbr.1.trans HOt'.out.2.2.2
  clear hbr c2
  refine HBd.out.mono ?_
  rintro e w5 ⟨rfl, k5, X5, hi5, n5⟩
  have HN5 := Lib.hid (HN1.out.step H.out k5 hi5 n5 (fun x hx => .inl hx))
  clear k5 hi5 n5 HBd
  by_cases hs5 : bs = 0
  case neg =>
    rw [if_pos hs5] at hT
    have q5 := (int_ne hs5).2
    clear hs5
    go_wp2_with fail
    refine (HFl.out _ _ _ _ _ HN5.out.it).mono ?_
    rintro e w6 ⟨rfl, hi2, k2⟩
    have HN2 := Lib.hid (HN5.out.step H.out (HN5.out.it.keepX k2) hi2 (fun x hx => .inl hx) (fun x hx => .inl hx))
    have HF := Lib.hid ((HN2.out.fin0 H.out bs).of hT)
    have HT := Lib.hid (HN2.out.bk.there' 0 4 (by simp [reqZ, reqC]))
    have hload := reqZ_back HT.out
    have HLd := Lib.hid hload
    clear hi2 k2 hload hT
    go_wp2_with (first
      | (with_reducible (show wpList _ _ _ ((⟨none, .store _ (.tmp 2) (.tmp 51), _, _, _, none⟩ : Oper) :: _) _ _)
         refine wpList_store_mid rfl 65 (.tmp 2) (.tmp 51) rfl w.heap.size 0 reqZ.toArray (by rfl) (by first | rfl | kernel_rfl) HT.out ZST.out.1 ZST.out.2 ?_
         try simp only [Act.put])
      | fail)
    refine bodyPost_ret (v := .tuple #[.agg reqZ.toArray, .int .i64 bs]) (by have hl := HLd.out; simp [Act.put, results, Tryd.results42, asAddr, Result.andThen, hl]) rfl HF.out
  rw [if_neg (by simp [hs5])] at hT
  subst hs5
  cases bwh with
  | false =>
    rw [if_neg (by simp)] at hT
    have HF := Lib.hid ((HN5.out.fin0 H.out 0).of hT)
    have HT := Lib.hid (HN5.out.bk.there' 0 4 (by simp [reqZ, reqC]))
    have hload := reqZ_back HT.out
    have HLd := Lib.hid hload
    clear hT hload
    go_wp2_with (first
      | (with_reducible (show wpList _ _ _ ((⟨none, .store _ (.tmp 2) (.tmp 56), _, _, _, none⟩ : Oper) :: _) _ _)
         refine wpList_store_mid rfl 65 (.tmp 2) (.tmp 56) rfl w.heap.size 0 reqZ.toArray (by rfl) (by first | rfl | kernel_rfl) HT.out ZST.out.1 ZST.out.2 ?_
         try simp only [Act.put])
      | fail)
    refine bodyPost_ret (v := .tuple #[.agg reqZ.toArray, .int .i64 0]) (by have hl := HLd.out; simp [Act.put, results, Tryd.results42, asAddr, Result.andThen, hl]) rfl HF.out
  | true =>
    rw [if_pos rfl] at hT
    obtain ⟨rb2, sa, sl, sc, c2, hq2, ho2, hg2, hrb2⟩ := it_req HN5.out.it hbq
    have hoff := HN5.out.off H.out
    have hbk := HN5.out.bk
    have kW := (Keep.refl [] w5).alloc (.cells (reqC q.m q.t (.slice sa sl sc) q.cl).toArray 65)
    have nW := Blk.newA w5 (reqC q.m q.t (.slice sa sl sc) q.cl).toArray 65
    have hp5 := HN5.out.it.lt
    have RNG := Lib.hid hq2.range'
    generalize hwW : w5.alloc (.cells (reqC q.m q.t (.slice sa sl sc) q.cl).toArray 65) = wW at kW nW
    have iW := HN5.out.it.keep0 kW
    have d2 : wW.cell? ⟨p, 2, none⟩ = some (.pointer (some ⟨rb2, 0, none⟩)) := kW.load c2
    have d1 := iW.at_.2.1
    have g1 := iW.free 1
    have g2 := iW.free 2
    have kP := ((Keep.refl [p] wW).setCell ⟨p, 2, none⟩ (.pointer none) (by simp)).setCell ⟨p, 1, none⟩ (.int .i64 0) (by simp)
    have hnep : w5.heap.size ≠ p := by omega
    have nP := kP.blk (show Blk wW w5.heap.size 65 (reqC q.m q.t (.slice sa sl sc) q.cl) from nW) (by simpa using hnep)
    have iP := it_unreq iW
    have HNP := Lib.hid ((HN5.out.step H.out (kW.mono (S' := X5) (by simp)) iW (fun x hx => .inl hx) (fun x hx => .inl hx)).step H.out (iW.keepX kP) iP (fun x hx => .inl hx) (by simp))
    have HT := Lib.hid (HNP.out.bk.there' 0 4 (by simp [reqZ, reqC]))
    have hload := req_back (m := q.m) (t := q.t) (v := .slice sa sl sc) (cl := q.cl) HT.out
    have HLd := Lib.hid hload
    have OP := ((ho2.keep0 kW).keep kP (fun g hg => by simp; rintro rfl; exact (HN5.out.it.ro _ (hg2 _ hg)).2.2 HN5.out.it.mem))
    have HF := Lib.hid ((HNP.out.fin H.out q (.slice sa sl sc) 200 OP (fun g hg => ⟨HN5.out.nr g (hg2 g hg), (HN5.out.it.ro g (hg2 g hg)).2.2⟩)).of hT)
    have HS1 := Lib.hid (reqC_one q.m q.t (v := .slice sa sl sc) q.cl rfl)
    have ST := Lib.hid (req_st q.m q.t (v := .slice sa sl sc) q.cl rfl)
    have RP := Lib.hid nP.range'
    clear hT hload hq2 ho2 hg2 hrb2 hoff hbk kW nW iW kP nP iP OP hp5
    go_wp2_with (first
      | (with_reducible (show wpList _ _ _ ((⟨_, .load _ (.tmp 61), _, _, _, none⟩ : Oper) :: _) _ _)
         refine wpList_load_mid rfl 65 (.tmp 61) rfl rb2 0 (by rfl) (reqC q.m q.t (.slice sa sl sc) q.cl) _ RNG.out Tryd.underlying65 rfl req_size ?_
         try simp only [Act.put, List.setIfInBounds_toArray, List.set_cons_succ, List.set_cons_zero])
      | (with_reducible (show wpList _ _ _ ((⟨none, .store _ (.tmp 7) (.tmp 62), _, _, _, none⟩ : Oper) :: _) _ _)
         refine wpList_store_fresh rfl 65 (.tmp 7) (.tmp 62) rfl _ (reqC q.m q.t (.slice sa sl sc) q.cl) (by rfl) (by rfl) req_size (by rfl) HS1.out ?_
         rw [hwW]
         try simp only [Act.put, List.setIfInBounds_toArray, List.set_cons_succ, List.set_cons_zero])
      | (with_reducible (show wpList _ _ _ ((⟨_, .load _ (.tmp 7), _, _, _, none⟩ : Oper) :: _) _ _)
         refine wpList_load_mid rfl 65 (.tmp 7) rfl w5.heap.size 0 (by rfl) (reqC q.m q.t (.slice sa sl sc) q.cl) _ RP.out Tryd.underlying65 rfl req_size ?_
         try simp only [Act.put, List.setIfInBounds_toArray, List.set_cons_succ, List.set_cons_zero])
      | (with_reducible (show wpList _ _ _ ((⟨none, .store _ (.tmp 2) (.tmp 69), _, _, _, none⟩ : Oper) :: _) _ _)
         refine wpList_store_mid rfl 65 (.tmp 2) (.tmp 69) rfl w.heap.size 0 (reqC q.m q.t (.slice sa sl sc) q.cl).toArray (by rfl) (by first | rfl | kernel_rfl) HT.out ST.out.1 ST.out.2 ?_
         try simp only [Act.put])
      | fail)
    refine bodyPost_ret (v := .tuple #[.agg (reqC q.m q.t (.slice sa sl sc) q.cl).toArray, .int .i64 200]) (by have hl := HLd.out; simp [Act.put, results, Tryd.results42, asAddr, Result.andThen, hl]) rfl HF.out
end Go.Proofs.YtmfnciocnlmceaaDoor

/- Layer 12: Next. No conditions but on lengths. -/
namespace Go.Proofs.YtmfnciocnlmceaaDoor

theorem inlet_Next {B p : Nat} {X R : List Nat} {I : InS} {w : World} (h : It B w p X R I) (hm : ML w) (hB : B ≤ w.heap.size) (hbig : 0 < B) (hok : I.ok) :
    Calls Tryd.prog 42 #[.pointer (some ⟨p, 0, none⟩)] w (NextOut B w p X R (nextI I)) := by
  by_cases hs0 : I.st = 0
  · cases hrq : I.req with
    | some q => exact next_pend h hm hB hbig hok hs0 hrq
    | none =>
      by_cases hd0 : (headM I.inp).s = 0
      · cases hgot : (headM I.inp).got with
        | true => exact next_got h hm hB hbig hok hs0 hrq hd0 hgot
        | false => exact next_wait h hm hB hbig hok hs0 hrq hd0 hgot
      · exact next_wrong h hm hB hbig hok hs0 hrq hd0
  · exact next_neg h hm hB hbig hok hs0
end Go.Proofs.YtmfnciocnlmceaaDoor

/- Layer 16: what the statements are awake to; the statements' own decimal numbers. No conditions but on sizes. -/
namespace Go.Proofs.YtmfnciocnlmceaaDoor
open Go.RowKit Go.Shelf

theorem cut_by (a b : List UInt8) (c : UInt8) (h : c ∉ a) : Lib.cut (a ++ c :: b) [c] = (a, b, true) := by
  unfold Lib.cut
  have hi : Lib.index (a ++ c :: b) [c] = (a.length : Int) := by
    rw [Lib.index_one]
    refine indexByte_at (by simp) (fun j hj => ?_)
    rw [List.getElem?_append_left hj]
    intro e
    exact h (List.mem_of_getElem? e)
  rw [hi, if_pos (by omega)]
  simp
theorem dec_no (u : Nat) {c : UInt8} (h : decB c = false) : c ∉ Lib.decDigits u := fun hm => by
  have := List.all_eq_true.1 (dec_all u) c hm
  rw [h] at this
  cases this
theorem unit_pre {u : List UInt8} (h6 : u.length = 6) (hu : (u.zip unitB).all (fun p => unitOk p.2 p.1) = true) (r : List UInt8) : isUnitM (u ++ r) = true ∧ (u ++ r).drop 6 = r := by
  refine ⟨?_, by rw [List.drop_append_of_le_length (by omega), List.drop_of_length_le (by omega)]; rfl⟩
  unfold isUnitM
  have : (u ++ r).zip unitB = u.zip unitB := by
    have e : unitB = unitB ++ [] := (List.append_nil _).symm
    rw [e, List.zip_append (by rw [h6]; rfl), List.zip_nil_right]
    simp
  rw [this, hu]
  simp; omega
/-- what a Range of two numbers is -/
theorem bds_of {u a b : List UInt8} (h6 : u.length = 6) (hu : (u.zip unitB).all (fun p => unitOk p.2 p.1) = true) (ha : (45 : UInt8) ∉ a) :
    bdsM (u ++ (a ++ 45 :: b)) = ⟨numN a, numI a, numN b, numI b, true && numK a && numK b && (numI a || numI b) && !(numI a && numI b && decide (numN b < numN a))⟩ := by
  unfold bdsM
  obtain ⟨h1, h2⟩ := unit_pre h6 hu (a ++ 45 :: b)
  rw [if_pos h1]
  simp only [h2, cut_by a b 45 ha]
theorem ask_get (l : List UInt8) : getV [⟨rangeB, l⟩] rangeB = l ∧ getN [⟨rangeB, l⟩] rangeB = 1 := by
  have : getS [⟨rangeB, l⟩] rangeB = [⟨rangeB, l⟩] := by
    unfold getS
    rw [List.filter_cons_of_pos (by simp [sameN]), List.filter_nil]
  unfold getV getN
  rw [this]
  exact ⟨rfl, rfl⟩
theorem ask_parse (l : List UInt8) (size : Int) : parseM [⟨rangeB, l⟩] size = prtM 1 (bdsM l) size := by
  unfold parseM
  rw [(ask_get l).1, (ask_get l).2]
  rfl

theorem nat_mod (n : Nat) : ((n : Int)).tmod 10 = ((n % 10 : Nat) : Int) := by rw [Int.tmod_eq_emod_of_nonneg (by omega)]; omega
theorem nat_div (n : Nat) : ((n : Int)).tdiv 10 = ((n / 10 : Nat) : Int) := by rw [Int.tdiv_eq_ediv_of_nonneg (by omega)]; omega
theorem dig_cut {r : Nat} (h : r < 10) : (⟨#[48, 49, 50, 51, 52, 53, 54, 55, 56, 57]⟩ : ByteArray).extract r (r + 1) = S [UInt8.ofNat (48 + r)] := by
  have : ∀ r : Fin 10, (⟨#[48, 49, 50, 51, 52, 53, 54, 55, 56, 57]⟩ : ByteArray).extract r.1 (r.1 + 1) = S [UInt8.ofNat (48 + r.1)] := by decide +kernel
  exact this ⟨r, h⟩
def decI (first : Bool) (n : Nat) : List UInt8 := if first = true ∨ 0 < n then Lib.decDigits n else []
theorem decI_step (first : Bool) (n : Nat) (h : first = true ∨ 0 < n) : decI first n = decI false (n / 10) ++ [UInt8.ofNat (48 + n % 10)] := by
  unfold decI
  rw [if_pos h]
  by_cases h1 : n < 10
  · rw [dec_small h1, if_neg (by simp; omega), Nat.mod_eq_of_lt h1]; rfl
  · rw [dec_big h1, if_pos (by right; omega)]

end Go.Proofs.YtmfnciocnlmceaaDoor

/- Layer 16: what the statements are awake to; the statement SliceCovers: its function answers true for every input. No conditions but on the library's tables. -/
namespace Go.Proofs.YtmfnciocnlmceaaDoor
open Go.RowKit Go.Shelf

def q1 : List UInt8 := [98, 121, 116, 101, 115, 61, 50, 45, 52]
def q2 : List UInt8 := [98, 121, 116, 101, 115, 61, 45, 51]
def q3 : List UInt8 := [98, 121, 116, 101, 115, 61, 49, 48, 45]
def q4 : List UInt8 := [98, 121, 116, 101, 115, 61, 49, 45, 50, 44, 52, 45, 53]
theorem awake16_parse : prtM 1 (bdsM q1) 10 = ⟨2, 2, 4⟩ ∧ prtM 1 (bdsM q2) 10 = ⟨2, 7, 9⟩ ∧ prtM 1 (bdsM q3) 10 = ⟨3, 0, 0⟩ ∧ prtM 1 (bdsM q4) 10 = ⟨1, 0, 9⟩ := by decide +kernel
theorem itoa_10 : Lib.itoa 10 = [49, 48] := by
  have := Lib.itoa_nonneg 10
  rw [show ((10 : Nat) : Int) = 10 from rfl] at this
  rw [this, dec_big (by omega), dec_small (by omega)]
  rfl
theorem itoa_1 {n : Nat} (h : n < 10) : Lib.itoa (n : Int) = [UInt8.ofNat (48 + n)] := by rw [Lib.itoa_nonneg, dec_small h]
theorem awake16_print : prnS 2 4 10 = [98, 121, 116, 101, 115, 32, 50, 45, 52, 47, 49, 48] ∧ prnE 2 4 10 = 0 ∧ unmetS 10 = [98, 121, 116, 101, 115, 32, 42, 47, 49, 48] := by
  have h2 : Lib.itoa 2 = [50] := itoa_1 (n := 2) (by omega)
  have h4 : Lib.itoa 4 = [52] := itoa_1 (n := 4) (by omega)
  refine ⟨?_, rfl, ?_⟩
  · unfold prnS
    rw [if_pos (show prnOk 2 4 10 = true by decide), h2, h4, itoa_10]; rfl
  · unfold unmetS
    rw [show max (10 : Int) 0 = 10 from rfl, itoa_10]; rfl

def unitC : List UInt8 := [66, 121, 116, 101, 115, 61]
theorem num_zero : numN [48] = 0 ∧ numI [48] = true ∧ numK [48] = true ∧ numN [] = 0 ∧ numI [] = false ∧ numK [] = true := by decide +kernel
/-- the three parts that are asked for -/
theorem covers_plain (size n : Nat) (h2 : 2 ≤ size) (hs : (size : Int) ≤ 4611686018427387904) (h1 : 1 ≤ n) (hn : n < size) :
    prtM 1 (bdsM (unitB ++ ([48] ++ 45 :: Lib.decDigits (n - 1)))) size = ⟨2, 0, (n : Int) - 1⟩ ∧ prtM 1 (bdsM (unitB ++ (Lib.decDigits n ++ 45 :: []))) size = ⟨2, n, (size : Int) - 1⟩ ∧ prtM 1 (bdsM (unitC ++ ([] ++ 45 :: Lib.decDigits (size - n)))) size = ⟨2, n, (size : Int) - 1⟩ := by
  obtain ⟨z1, z2, z3, z4, z5, z6⟩ := num_zero
  have hB : (unitB.zip unitB).all (fun p => unitOk p.2 p.1) = true := by decide
  have hC : (unitC.zip unitB).all (fun p => unitOk p.2 p.1) = true := by decide
  refine ⟨?_, ?_, ?_⟩
  · obtain ⟨n1, n2, n3⟩ := num_dec (n - 1) (by omega)
    rw [bds_of rfl hB (by decide), z1, z2, z3, n1, n2, n3]
    unfold prtM
    dsimp only
    rw [if_neg (by simp <;> omega), if_neg (by simp <;> omega), if_neg (by simp), if_pos rfl]
    congr 1
    omega
  · obtain ⟨n1, n2, n3⟩ := num_dec n (by omega)
    rw [bds_of rfl hB (dec_no n (by decide)), z4, z5, z6, n1, n2, n3]
    unfold prtM
    dsimp only
    rw [if_neg (by simp), if_neg (by simp <;> omega), if_neg (by simp), if_neg (by simp)]
    congr 1
    omega
  · obtain ⟨n1, n2, n3⟩ := num_dec (size - n) (by omega)
    rw [bds_of rfl hC (by simp), z4, z5, z6, n1, n2, n3]
    unfold prtM
    dsimp only
    rw [if_neg (by simp), if_neg (by simp <;> omega), if_pos rfl]
    congr 1
    · omega
    · omega
end Go.Proofs.YtmfnciocnlmceaaDoor

/- Layer 16: Read. No conditions but on lengths and the library's tables. -/
namespace Go.Proofs.YtmfnciocnlmceaaDoor
open Go.RowKit Go.Shelf

/-- what a Content-Range is read as -/
structure Rd3 where
  a : Int
  b : Int
  c : Int
  e : Int
  deriving DecidableEq
/-- the three texts -/
def rdA (l : List UInt8) : List UInt8 := (Lib.cut (Lib.trimPrefix l saidB) [45]).1
def rdB (l : List UInt8) : List UInt8 := (Lib.cut (Lib.cut (Lib.trimPrefix l saidB) [45]).2.1 [47]).1
def rdC (l : List UInt8) : List UInt8 := (Lib.cut (Lib.cut (Lib.trimPrefix l saidB) [45]).2.1 [47]).2.1
def rdcM (l : List UInt8) : Rd3 :=
  if undecE (rdA l) 4611686018427387904 ≠ 0 then ⟨0, 0, 0, 3⟩ else if undecE (rdB l) 4611686018427387904 ≠ 0 then ⟨0, 0, 0, 3⟩ else if undecE (rdC l) 4611686018427387904 ≠ 0 then ⟨0, 0, 0, 3⟩
  else if prnE (undecV (rdA l) 4611686018427387904) (undecV (rdB l) 4611686018427387904) (undecV (rdC l) 4611686018427387904) ≠ 0 ∨ prnS (undecV (rdA l) 4611686018427387904) (undecV (rdB l) 4611686018427387904) (undecV (rdC l) 4611686018427387904) ≠ l then ⟨0, 0, 0, 3⟩
  else ⟨undecV (rdA l) 4611686018427387904, undecV (rdB l) 4611686018427387904, undecV (rdC l) 4611686018427387904, 0⟩
def Rd3.asV (r : Rd3) : Value := .tuple #[.int .i64 r.a, .int .i64 r.b, .int .i64 r.c, .int .i64 r.e]
theorem trim_len (l p : List UInt8) : (Lib.trimPrefix l p).length ≤ l.length := by
  unfold Lib.trimPrefix
  split <;> simp

end Go.Proofs.YtmfnciocnlmceaaDoor

/- Layer 16: what is written is read as it was. Plain laws; arrays of three numbers. No conditions. -/
namespace Go.Proofs.YtmfnciocnlmceaaDoor
open Go.RowKit Go.Shelf

theorem trim_pre (p r : List UInt8) : Lib.trimPrefix (p ++ r) p = r := by
  unfold Lib.trimPrefix Lib.hasPrefix
  simp
theorem prn_nat {a b c : Int} (h : prnOk a b c = true) : ∃ x y z : Nat, a = x ∧ b = y ∧ c = z ∧ (x : Int) ≤ 4611686018427387904 ∧ (y : Int) ≤ 4611686018427387904 ∧ (z : Int) ≤ 4611686018427387904 := by
  unfold prnOk at h
  simp only [Bool.and_eq_true, decide_eq_true_eq] at h
  exact ⟨a.toNat, b.toNat, c.toNat, by omega, by omega, by omega, by omega, by omega, by omega⟩
theorem prn_parts {x y z : Nat} (h : prnOk x y z = true) : rdA (prnS x y z) = Lib.decDigits x ∧ rdB (prnS x y z) = Lib.decDigits y ∧ rdC (prnS x y z) = Lib.decDigits z := by
  have e : prnS x y z = saidB ++ (Lib.decDigits x ++ 45 :: (Lib.decDigits y ++ 47 :: Lib.decDigits z)) := by
    unfold prnS
    rw [if_pos h, Lib.itoa_nonneg, Lib.itoa_nonneg, Lib.itoa_nonneg]
    simp
  unfold rdA rdB rdC
  rw [e, trim_pre, cut_by _ _ _ (dec_no x (by decide)), cut_by _ _ _ (dec_no y (by decide))]
  exact ⟨rfl, rfl, rfl⟩
theorem rdc_ok {a b c : Int} (h : prnOk a b c = true) : rdcM (prnS a b c) = ⟨a, b, c, 0⟩ := by
  obtain ⟨x, y, z, rfl, rfl, rfl, h1, h2, h3⟩ := prn_nat h
  obtain ⟨p1, p2, p3⟩ := prn_parts h
  obtain ⟨u1, u2⟩ := undec_dec x 4611686018427387904 h1 (by omega)
  obtain ⟨u3, u4⟩ := undec_dec y 4611686018427387904 h2 (by omega)
  obtain ⟨u5, u6⟩ := undec_dec z 4611686018427387904 h3 (by omega)
  unfold rdcM
  rw [p1, p2, p3, u1, u2, u3, u4, u5, u6, if_neg (by simp), if_neg (by simp), if_neg (by simp), if_neg]
  have : prnE x y z = 0 := by unfold prnE; rw [if_pos h]
  simp [this]
theorem rdc_or (l : List UInt8) : rdcM l = ⟨0, 0, 0, 3⟩ ∨ ∃ a b c, rdcM l = ⟨a, b, c, 0⟩ ∧ prnOk a b c = true ∧ prnS a b c = l := by
  unfold rdcM
  split
  · exact .inl rfl
  · split
    · exact .inl rfl
    · split
      · exact .inl rfl
      · split
        · exact .inl rfl
        · rename_i h
          refine .inr ⟨_, _, _, rfl, ?_, ?_⟩
          · have h1 : prnE (undecV (rdA l) 4611686018427387904) (undecV (rdB l) 4611686018427387904) (undecV (rdC l) 4611686018427387904) = 0 := by
              by_cases hz : prnE (undecV (rdA l) 4611686018427387904) (undecV (rdB l) 4611686018427387904) (undecV (rdC l) 4611686018427387904) = 0
              · exact hz
              · exact absurd (Or.inl hz) h
            unfold prnE at h1
            split at h1
            · assumption
            · cases h1
          · by_cases hz : prnS (undecV (rdA l) 4611686018427387904) (undecV (rdB l) 4611686018427387904) (undecV (rdC l) 4611686018427387904) = l
            · exact hz
            · exact absurd (Or.inr hz) h
theorem prnE_iff (a b c : Int) : prnE a b c = 0 ↔ prnOk a b c = true := by
  unfold prnE
  split
  · rename_i h; simp [h]
  · rename_i h; simp [h]
theorem prn_inj {a b c a' b' c' : Int} (h : prnOk a b c = true) (h' : prnOk a' b' c' = true) : prnS a b c = prnS a' b' c' ↔ (a = a' ∧ b = b' ∧ c = c') := by
  constructor
  · intro e
    have h1 := rdc_ok h
    rw [e, rdc_ok h'] at h1
    injection h1 with e1 e2 e3
    exact ⟨e1.symm, e2.symm, e3.symm⟩
  · rintro ⟨rfl, rfl, rfl⟩; rfl
end Go.Proofs.YtmfnciocnlmceaaDoor

/- Layers 1 and 10: the document's Undec and Frame. No conditions but on lengths. -/
namespace Go.Proofs.YtmfnciocnlmceaaDoor
open Go.RowKit Go.Shelf

theorem digV_dec {c : UInt8} (h : 48 ≤ c.toNat ∧ c.toNat ≤ 57) : digV c = (c.toNat : Int) - 48 := by
  unfold digV
  rw [if_pos h]
/-- where the document's loop over digits stands -/
def UStage (l : List UInt8) (k : Nat) (n : Int) (b : Bool) : Prop :=
  (l.take k).all decB = true ∧ 0 ≤ n ∧ n ≤ 4611686018427387913 ∧ ((b = true ∧ gatherM 10 l 0 = none) ∨ (b = false ∧ ((gatherM 10 l 0 = gatherM 10 (l.drop k) n ∧ n ≤ 4611686018427387904) ∨ (gatherM 10 l 0 = none ∧ 4611686018427387904 < n))))

end Go.Proofs.YtmfnciocnlmceaaDoor

/- Layer 16: the document's Dec, Print, Read. No conditions but on lengths. -/
namespace Go.Proofs.YtmfnciocnlmceaaDoor
open Go.RowKit Go.Shelf

theorem dig_cut16 {r : Nat} (h : r < 10) : (⟨#[48, 49, 50, 51, 52, 53, 54, 55, 56, 57, 97, 98, 99, 100, 101, 102]⟩ : ByteArray).extract r (r + 1) = S [UInt8.ofNat (48 + r)] := by
  have : ∀ r : Fin 10, (⟨#[48, 49, 50, 51, 52, 53, 54, 55, 56, 57, 97, 98, 99, 100, 101, 102]⟩ : ByteArray).extract r.1 (r.1 + 1) = S [UInt8.ofNat (48 + r.1)] := by decide +kernel
  exact this ⟨r, h⟩
def decP (n : Nat) : List UInt8 := if 0 < n then Lib.decDigits n else []
theorem decP_step (n : Nat) (h : 0 < n) : decP n = decP (n / 10) ++ [UInt8.ofNat (48 + n % 10)] := by
  have := decI_step false n (.inr h)
  unfold decI at this
  unfold decP
  simpa using this
theorem dec_first (n : Nat) : Lib.decDigits n = decP (n / 10) ++ [UInt8.ofNat (48 + n % 10)] := by
  have := decI_step true n (.inl rfl)
  unfold decI at this
  unfold decP
  simpa using this

set_option maxHeartbeats 2000000 in
theorem ref_Dec (m : Nat) (w : World) (hm : (m : Int) ≤ 9223372036854775807) : Calls Tryd.prog 49 #[.int .i64 (m : Nat)] w fun e w' => e = .returned (.string (S (Lib.decDigits m))) ∧ w' = w := by
  have hlen : (Lib.decDigits m).length ≤ 21 := by rw [← Lib.itoa_nonneg]; exact itoa_len _ ⟨by omega, by omega⟩
  have hf := dec_first m
  have hmd := nat_mod m
  have hdv := nat_div m
  have hr10 : m % 10 < 10 := Nat.mod_lt _ (by omega)
  have hcut := dig_cut16 hr10
  have hq : m / 10 ≤ m := Nat.div_le_self _ _
  have hneg : ((m : Int) == -9223372036854775808) = false := beq_eq_false_iff_ne.2 (by omega)
  have hlz : decide ((m : Int) < 0) = false := decide_eq_false (by omega)
  generalize hL : Lib.decDigits m = L at hf hlen ⊢
  generalize m % 10 = r0 at *
  generalize m / 10 = q0 at *
  have hw0 := IntWalk.i64_in ((r0 : Int) + 1) (by omega)
  have htn0 : ((r0 : Int) + 1).toNat = r0 + 1 := by omega
  have hr00 : (0 : Int) ≤ (r0 : Int) := by omega
  have hr01 : (r0 : Int) + 1 ≤ 16 := by omega
  have hr02 : (r0 : Int) ≤ (r0 : Int) + 1 := by omega
  generalize UInt8.ofNat (48 + r0) = dg0 at *
  have HF := Lib.hid hf
  have HLL := Lib.hid hlen
  clear hf hL hlen
  go_enter Tryd.func49, Tryd.ntmps49
  go_wp2_with fail
  go_loopg [0, 3] q0 (fun g s0 s3 wr => ∃ (n : Nat) (acc : List UInt8), s0 = .int .i64 n ∧ s3 = .string (S acc) ∧ g = n ∧ (n : Int) ≤ 9223372036854775807 ∧ wr = w ∧ Hid (L = decP n ++ acc))
  case atStart => exact ⟨q0, _, rfl, rfl, rfl, by omega, rfl, HF⟩
  case round =>
    obtain ⟨n, acc, rfl, rfl, hg, hn, rfl, HI⟩ := hrel
    clear hmd hdv hcut hw0 htn0 hr00 hr01 hr02 HF hneg hlz
    by_cases hgo : 0 < n
    · have hI := HI.out
      rw [decP_step n hgo, List.append_assoc, List.singleton_append] at hI
      have hl2 := congrArg List.length hI
      simp only [List.length_append, List.length_cons] at hl2
      have hll := HLL.out
      have hmd := nat_mod n
      have hdv := nat_div n
      have hr10 : n % 10 < 10 := Nat.mod_lt _ (by omega)
      have hcut := dig_cut16 hr10
      have hap : S [UInt8.ofNat (48 + n % 10)] ++ S acc = S (UInt8.ofNat (48 + n % 10) :: acc) := S_append _ _
      have hq2 : n / 10 < n := Nat.div_lt_self hgo (by omega)
      have hn1 : decide ((n : Int) > 0) = true := by simp; omega
      have HN := Lib.hid hI
      clear hI HI
      generalize n % 10 = r at *
      generalize n / 10 = q at *
      have hs1 := S_size acc
      have hs2 := S_size [UInt8.ofNat (48 + r)]
      generalize UInt8.ofNat (48 + r) = dg at *
      simp only [List.length_singleton] at hs2
      have hw := IntWalk.i64_in ((r : Int) + 1) (by omega)
      have htn : ((r : Int) + 1).toNat = r + 1 := by omega
      have hr0 : (0 : Int) ≤ (r : Int) := by omega
      have hr1 : (r : Int) + 1 ≤ 16 := by omega
      have hr2 : (r : Int) ≤ (r : Int) + 1 := by omega
      go_wp2_with fail
      go_roundg q
      case measure => omega
      case rel => exact ⟨q, dg :: acc, rfl, rfl, rfl, by omega, rfl, HN⟩
    · have hn0 : n = 0 := by omega
      have hI := HI.out
      subst hn0
      rw [show decP 0 = [] from rfl, List.nil_append] at hI
      have HN := Lib.hid hI
      clear HI hI hgo
      go_wp2_with fail
      go_ret
      exact ⟨by rw [HN.out]; rfl, rfl⟩
theorem ref_DecI (n : Int) (w : World) (h0 : 0 ≤ n) (h1 : n ≤ 9223372036854775807) : Calls Tryd.prog 49 #[.int .i64 n] w fun e w' => e = .returned (.string (S (Lib.itoa n))) ∧ Keep [] w w' := by
  have := ref_Dec n.toNat w (by omega)
  rw [← Lib.itoa_nonneg, show ((n.toNat : Nat) : Int) = n by omega] at this
  exact this.mono fun e w' ⟨h, h2⟩ => ⟨h, by rw [h2]; exact Keep.refl _ _⟩
end Go.Proofs.YtmfnciocnlmceaaDoor

/- Layer 1: numbers in base 16 are written: FormatInt at base 16, Hexnum, the document's. No conditions but on the library's table. -/
namespace Go.Proofs.YtmfnciocnlmceaaDoor
open Go.RowKit Go.Shelf

def digL : List UInt8 := [48, 49, 50, 51, 52, 53, 54, 55, 56, 57, 97, 98, 99, 100, 101, 102]
def hexD (r : Nat) : UInt8 := digL.getD r 0
/-- the digits of a number in base 16; of 0: none -/
def hexP (n : Nat) : List UInt8 := if h : 0 < n then hexP (n / 16) ++ [hexD (n % 16)] else []
termination_by n
decreasing_by omega
def hexL (n : Nat) : List UInt8 := hexP (n / 16) ++ [hexD (n % 16)]
theorem hexP_pos {n : Nat} (h : 0 < n) : hexP n = hexP (n / 16) ++ [hexD (n % 16)] := by rw [hexP, dif_pos h]
theorem hexL_pos {n : Nat} (h : 0 < n) : hexP n = hexL n := hexP_pos h
theorem hexP_zero : hexP 0 = [] := by rw [hexP, dif_neg (by omega)]
theorem hex_cut16 {r : Nat} (h : r < 16) : (⟨#[48, 49, 50, 51, 52, 53, 54, 55, 56, 57, 97, 98, 99, 100, 101, 102]⟩ : ByteArray).extract r (r + 1) = S [hexD r] := by
  have : ∀ r : Fin 16, (⟨#[48, 49, 50, 51, 52, 53, 54, 55, 56, 57, 97, 98, 99, 100, 101, 102]⟩ : ByteArray).extract r.1 (r.1 + 1) = S [hexD r.1] := by decide +kernel
  exact this ⟨r, h⟩
theorem hexP_len : ∀ (k n : Nat), n < 16 ^ k → (hexP n).length ≤ k
  | 0, n, h => by
    have : n = 0 := by simpa using h
    subst this
    rw [hexP_zero]; simp
  | k + 1, n, h => by
    rcases Nat.eq_zero_or_pos n with rfl | hn
    · rw [hexP_zero]; simp
    · have := hexP_len k (n / 16) (by rw [Nat.pow_succ] at h; omega)
      rw [hexP_pos hn, List.length_append]
      simp
      omega
theorem hexL_len {n : Nat} (h : n < 9223372036854775808) : (hexL n).length ≤ 16 := by
  have := hexP_len 15 (n / 16) (by have : (16 : Nat) ^ 15 = 1152921504606846976 := by decide
                                   omega)
  unfold hexL
  rw [List.length_append]
  simp
  omega
theorem nat_mod16 (m : Nat) : (m : Int).tmod 16 = ((m % 16 : Nat) : Int) := by
  rw [Int.tmod_eq_emod_of_nonneg (by omega)]; omega
theorem nat_div16 (m : Nat) : (m : Int).tdiv 16 = ((m / 16 : Nat) : Int) := by
  rw [Int.tdiv_eq_ediv_of_nonneg (by omega)]; omega

set_option maxHeartbeats 2000000 in
theorem ref_Hexnum (m : Nat) (w : World) (hm : (m : Int) ≤ 9223372036854775807) : Calls Tryd.prog 64 #[.int .i64 (m : Nat)] w fun e w' => e = .returned (.string (S (hexL m))) ∧ w' = w := by
  have hlen : (hexL m).length ≤ 16 := hexL_len (by omega)
  have hf : hexL m = hexP (m / 16) ++ [hexD (m % 16)] := rfl
  have hmd := nat_mod16 m
  have hdv := nat_div16 m
  have hr10 : m % 16 < 16 := Nat.mod_lt _ (by omega)
  have hcut := hex_cut16 hr10
  have hq : m / 16 ≤ m := Nat.div_le_self _ _
  have hmx : max (m : Int) 0 = (m : Int) := by omega
  generalize hL : hexL m = L at hf hlen ⊢
  generalize m % 16 = r0 at *
  generalize m / 16 = q0 at *
  have hw0 := IntWalk.i64_in ((r0 : Int) + 1) (by omega)
  have htn0 : ((r0 : Int) + 1).toNat = r0 + 1 := by omega
  have hr00 : (0 : Int) ≤ (r0 : Int) := by omega
  have hr01 : (r0 : Int) + 1 ≤ 16 := by omega
  have hr02 : (r0 : Int) ≤ (r0 : Int) + 1 := by omega
  generalize hexD r0 = dg0 at *
  have HF := Lib.hid hf
  have HLL := Lib.hid hlen
  clear hf hL hlen
  go_enter Tryd.func64, Tryd.ntmps64
  go_wp2_with fail
  go_loopg [0, 3] q0 (fun g s0 s3 wr => ∃ (n : Nat) (acc : List UInt8), s0 = .int .i64 n ∧ s3 = .string (S acc) ∧ g = n ∧ (n : Int) ≤ 9223372036854775807 ∧ wr = w ∧ Hid (L = hexP n ++ acc))
  case atStart => exact ⟨q0, _, rfl, rfl, rfl, by omega, rfl, HF⟩
  case round =>
    obtain ⟨n, acc, rfl, rfl, hg, hn, rfl, HI⟩ := hrel
    clear hmd hdv hcut hw0 htn0 hr00 hr01 hr02 HF hmx
    by_cases hgo : 0 < n
    · have hI := HI.out
      rw [hexP_pos hgo, List.append_assoc, List.singleton_append] at hI
      have hl2 := congrArg List.length hI
      simp only [List.length_append, List.length_cons] at hl2
      have hll := HLL.out
      have hmd := nat_mod16 n
      have hdv := nat_div16 n
      have hr10 : n % 16 < 16 := Nat.mod_lt _ (by omega)
      have hcut := hex_cut16 hr10
      have hap : S [hexD (n % 16)] ++ S acc = S (hexD (n % 16) :: acc) := S_append _ _
      have hq2 : n / 16 < n := Nat.div_lt_self hgo (by omega)
      have hn1 : decide ((n : Int) > 0) = true := by simp; omega
      have HN := Lib.hid hI
      clear hI HI
      generalize n % 16 = r at *
      generalize n / 16 = q at *
      have hs1 := S_size acc
      have hs2 := S_size [hexD r]
      generalize hexD r = dg at *
      simp only [List.length_singleton] at hs2
      have hw := IntWalk.i64_in ((r : Int) + 1) (by omega)
      have htn : ((r : Int) + 1).toNat = r + 1 := by omega
      have hr0 : (0 : Int) ≤ (r : Int) := by omega
      have hr1 : (r : Int) + 1 ≤ 16 := by omega
      have hr2 : (r : Int) ≤ (r : Int) + 1 := by omega
      go_wp2_with fail
      go_roundg q
      case measure => omega
      case rel => exact ⟨q, dg :: acc, rfl, rfl, rfl, by omega, rfl, HN⟩
    · have hn0 : n = 0 := by omega
      have hI := HI.out
      subst hn0
      rw [hexP_zero, List.nil_append] at hI
      have HN := Lib.hid hI
      clear HI hI hgo
      go_wp2_with fail
      go_ret
      exact ⟨by rw [HN.out]; rfl, rfl⟩

/-- bits.TrailingZeros64's table -/
def db64 : List Int := [0, 1, 56, 2, 57, 49, 28, 3, 61, 58, 42, 50, 38, 29, 17, 4, 62, 47, 59, 36, 45, 43, 51, 22, 53, 39, 33, 30, 24, 18, 12, 5, 63, 55, 48, 27, 60, 41, 37, 16, 46, 35, 44, 21, 52, 32, 23, 11, 54, 26, 40, 15, 34, 20, 31, 10, 25, 14, 19, 9, 13, 8, 7, 6]
def P64 (w : World) : Prop := Lib.TabIs Tryd.prog w "math/bits.deBruijn64tab" .u8 db64
theorem P64.keep0 {w w' : World} (h : P64 w) (k : Keep [] w w') : P64 w' := by
  unfold P64 Lib.TabIs World.var? at *
  cases hg : Tryd.prog.globalNamed "math/bits.deBruijn64tab" with
  | none => simp [hg] at h
  | some g =>
    try rw [hg] at h
    simp only [Option.bind_some] at h ⊢
    cases ho : w.heap[g]? with
    | none => rw [ho] at h; simp at h
    | some o =>
      rw [k.heap ho (by simp)]
      rw [ho] at h
      exact h
theorem P64.laid {W : World} {laid : List (String × DataW Unit)} (h : laidMet Tryd.prog laid W) (hm : ("math/bits.deBruijn64tab", Lib.tabData .u8 db64) ∈ laid := by first | (repeat (first | exact List.Mem.head _ | exact List.Mem.tail _ (List.Mem.head _) | exact List.Mem.tail _ (List.Mem.tail _ (List.Mem.head _)))) | simp) : P64 W := by
  obtain ⟨ps, h, _⟩ := h
  exact laid_at (g := 5) (t := 166) (e := 5) (n := 64) (by kernel_rfl) rfl (by kernel_rfl) (by kernel_rfl) (by kernel_rfl) (by kernel_rfl) hm h

set_option maxRecDepth 100000 in
set_option maxHeartbeats 1000000 in
theorem bits_TZ64 (w : World) (h : P64 w) : Calls Tryd.prog 151 #[.int .u64 16] w fun e w' => e = .returned (.int .i64 4) ∧ w = w' := by
  have hc := Lib.TabIs.cell h (g := 5) (by kernel_rfl) 15 (by decide)
  have hb1 : bits BinOp.and IntKind.u64 16 (IntKind.u64.wrap (-16)) = 16 := by decide
  have hb2 : IntKind.u64.wrap 4573923408821661840 = 4573923408821661840 := by decide
  have hb3 : db64[15]?.getD 0 = 4 := rfl
  clear h
  go_enter Tryd.func151, Tryd.ntmps151
  go_wp2_with fail
  go_ret
  exact ⟨rfl, rfl⟩
set_option maxRecDepth 100000 in
set_option maxHeartbeats 1000000 in
theorem bits_TZ (w : World) (h : P64 w) : Calls Tryd.prog 146 #[.int .u64 16] w fun e w' => e = .returned (.int .i64 4) ∧ w = w' := by
  have H := Lib.hid (bits_TZ64 w h)
  clear h
  go_enter Tryd.func146, Tryd.ntmps146
  go_wp2_with fail
  refine H.out.mono ?_
  rintro e w1 ⟨rfl, rfl⟩
  go_wp2_with fail
  go_ret
  exact ⟨rfl, rfl⟩
set_option maxHeartbeats 1000000 in
theorem is_pow16 (w : World) : Calls Tryd.prog 145 #[.int .i64 16] w fun e w' => e = .returned (.bool true) ∧ w = w' := by
  have hb1 : bits BinOp.and IntKind.i64 16 15 = 0 := by decide
  go_enter Tryd.func145, Tryd.ntmps145
  go_wp2_with fail
  go_ret
  exact ⟨rfl, rfl⟩
end Go.Proofs.YtmfnciocnlmceaaDoor

/- Layer 11, plain laws: a body as it is written in chunks, and what a reader makes of it. No program. No conditions but those that each theorem states. -/
namespace Go.Proofs.YtmfnciocnlmceaaDoor
open Go.RowKit

/-- chunks of at most k + 1 bytes -/
def wrL (k : Nat) (s : List UInt8) : List UInt8 :=
  if h : s = [] then [] else hexL (min (k + 1) s.length) ++ crlfC ++ (s.take (k + 1) ++ crlfC) ++ wrL k (s.drop (k + 1))
termination_by s.length
decreasing_by
  cases s with
  | nil => exact absurd rfl h
  | cons => simp; omega
def endC : List UInt8 := [48, 13, 10, 13, 10]
theorem wrL_nil (k : Nat) : wrL k [] = [] := by rw [wrL, dif_pos rfl]
theorem wrL_cons (k : Nat) {s : List UInt8} (h : s ≠ []) : wrL k s = hexL (min (k + 1) s.length) ++ crlfC ++ (s.take (k + 1) ++ crlfC) ++ wrL k (s.drop (k + 1)) := by rw [wrL, dif_neg h]
theorem len_pos {s : List UInt8} (h : s ≠ []) : 0 < s.length := by cases s with | nil => exact absurd rfl h | cons => simp
theorem wrL_len (k : Nat) : ∀ (n : Nat) (s : List UInt8), s.length ≤ n → s.length ≤ 1048576 → (wrL k s).length ≤ 21 * s.length
  | n, s, hn, h => by
    by_cases h0 : s = []
    · subst h0; rw [wrL_nil]; simp
    · have hp := len_pos h0
      match n, hn with
      | 0, hn => omega
      | n + 1, hn =>
        have hd : (s.drop (k + 1)).length = s.length - (k + 1) := List.length_drop
        have ih := wrL_len k n (s.drop (k + 1)) (by omega) (by omega)
        have hx := hexL_len (n := min (k + 1) s.length) (by omega)
        have ht : (s.take (k + 1)).length = min (k + 1) s.length := List.length_take
        rw [wrL_cons k h0]
        simp only [List.length_append, ht, crlfC, List.length_cons, List.length_nil]
        omega
theorem wrL_clamp (k j : Nat) (s : List UInt8) (h : s.length ≤ k + 1) (h2 : s.length ≤ j + 1) : wrL k s = wrL j s := by
  by_cases h0 : s = []
  · subst h0; rw [wrL_nil, wrL_nil]
  · rw [wrL_cons k h0, wrL_cons j h0, List.take_of_length_le h, List.take_of_length_le h2, List.drop_eq_nil_of_le h, List.drop_eq_nil_of_le h2, wrL_nil, wrL_nil, Nat.min_eq_right h, Nat.min_eq_right h2]

theorem hexD_ok {r : Nat} (h : r < 16) : digOk (hexD r) = true ∧ digV (hexD r) = (r : Int) ∧ hexD r ≠ 10 := by
  have : ∀ r : Fin 16, digOk (hexD r.1) = true ∧ digV (hexD r.1) = ((r.1 : Nat) : Int) ∧ hexD r.1 ≠ 10 := by decide +kernel
  exact this ⟨r, h⟩
theorem hexP_ok (n : Nat) : (hexP n).all digOk = true ∧ hexN (hexP n) 0 = (n : Int) ∧ (10 : UInt8) ∉ hexP n := by
  induction n using Nat.strongRecOn with
  | _ n ih =>
    rcases Nat.eq_zero_or_pos n with rfl | hn
    · rw [hexP_zero]; exact ⟨rfl, rfl, by simp⟩
    · obtain ⟨h1, h2, h3⟩ := ih (n / 16) (by omega)
      obtain ⟨d1, d2, d3⟩ := hexD_ok (r := n % 16) (Nat.mod_lt _ (by omega))
      rw [hexP_pos hn]
      refine ⟨by rw [List.all_append, h1]; simp [d1], ?_, ?_⟩
      · unfold hexN at h2 ⊢
        rw [List.foldl_append, h2]
        simp only [List.foldl_cons, List.foldl_nil]
        rw [d2]; omega
      · simp only [List.mem_append, List.mem_singleton, not_or]
        exact ⟨h3, fun h => d3 h.symm⟩
theorem hexL_ok (n : Nat) : (hexL n).all digOk = true ∧ hexN (hexL n) 0 = (n : Int) ∧ (10 : UInt8) ∉ hexL n := by
  rcases Nat.eq_zero_or_pos n with rfl | hn
  · have : hexL 0 = [48] := by unfold hexL; rw [show 0 / 16 = 0 from rfl, hexP_zero]; rfl
    rw [this]; decide
  · rw [← hexL_pos hn]; exact hexP_ok n
theorem hexL_ne (n : Nat) : hexL n ≠ [] := by unfold hexL; simp
theorem num_hex (n : Nat) (m : Int) (hn : n ≤ 1048576) : numE (hexL n) m = (if m < n then 4 else 0) ∧ ((n : Int) ≤ m → numV (hexL n) m = n) := by
  obtain ⟨h1, h2, _⟩ := hexL_ok n
  have h3 := hexL_len (n := n) (by omega)
  have hne := hexL_ne n
  have hr : numRest (hexL n) = [] := by
    rw [numRest_at (k := (hexL n).length) (Nat.le_refl _) (by rw [List.take_length]; exact h1) (fun b hb => by have := (List.getElem?_eq_some_iff.1 hb).1; omega), List.drop_length]
  have ht : numT (hexL n) = hexL n := by rw [numT_at (k := (hexL n).length) (Nat.le_refl _) (by rw [hr, List.drop_length]), List.take_length]
  have hok : hexOk (hexL n) = true := by
    unfold hexOk
    rw [h1, decide_eq_true h3]
    cases hx : hexL n with
    | nil => exact absurd hx hne
    | cons => rfl
  obtain ⟨b1, b2⟩ := bound_fold (hexL n) m
  rw [h2] at b1 b2
  have hu : unhexE (hexL n) m = if m < (n : Int) then 14 else 0 := by
    unfold unhexE
    rw [hok, if_pos rfl, b2]
    by_cases hm : m < (n : Int)
    · rw [if_pos hm, if_pos (show (4611686018427387904 : Int) < (n : Int) ∨ m < (n : Int) from Or.inr hm)]
    · rw [if_neg hm, if_neg (by omega)]
  have hv : (n : Int) ≤ m → unhexV (hexL n) m = (n : Int) := fun hm => by
    unfold unhexV
    rw [hok, if_pos rfl, b1, if_neg (by omega)]
  have hro : restOk [] = true := rfl
  unfold numE numV
  rw [hr, ht, hro, if_pos rfl, hu]
  refine ⟨?_, hv⟩
  by_cases hm : m < (n : Int)
  · rw [if_pos hm, if_pos rfl, if_pos hm]
  · rw [if_neg hm, if_neg (by decide), if_neg hm]
/-- a line that stands first -/
theorem ln_first {t rest : List UInt8} (ht : (10 : UInt8) ∉ t) (hl : t.length ≤ 254) : lnC (t ++ crlfC ++ rest) = ⟨t, 0, rest⟩ := by
  have hg : ∀ j, j < t.length → (t ++ crlfC ++ rest)[j]? = t[j]? := fun j hj => by
    rw [List.append_assoc, List.getElem?_append_left hj]
  have e1 : (t ++ crlfC ++ rest)[t.length]? = some 13 := by rw [List.append_assoc, List.getElem?_append_right (Nat.le_refl _), Nat.sub_self]; rfl
  have e2 : (t ++ crlfC ++ rest)[t.length + 1]? = some 10 := by rw [List.append_assoc, List.getElem?_append_right (by omega), show t.length + 1 - t.length = 1 by omega]; rfl
  have hi : Lib.indexByte ((t ++ crlfC ++ rest).take 256) 10 = ((t.length + 1 : Nat) : Int) := by
    refine indexByte_at ?_ (fun j hj => ?_)
    · rw [List.getElem?_take, if_pos (by omega)]; exact e2
    · rw [List.getElem?_take, if_pos (by omega)]
      rcases Nat.lt_or_ge j t.length with h | h
      · rw [hg j h]; intro hh; exact ht (List.mem_of_getElem? hh)
      · rw [show j = t.length by omega, e1]; decide
  have hl2 : (t ++ crlfC ++ rest).take (t.length + 1 + 1) = t ++ crlfC := by
    rw [List.take_append_of_le_length (by simp [crlfC])]
    exact List.take_of_length_le (by simp [crlfC])
  have hd : (t ++ crlfC ++ rest).drop (t.length + 1 + 1) = rest := by
    have : t.length + 1 + 1 = (t ++ crlfC).length := by simp [crlfC]
    rw [this, List.drop_left]
  have hs : Lib.hasSuffix (t ++ crlfC) crlfC = true := by unfold Lib.hasSuffix; rw [List.isSuffixOf_iff_suffix]; exact List.suffix_append _ _
  rw [line_at hi, hl2, hd, if_pos hs]
  have : Lib.trimSuffix (t ++ crlfC) crlfC = t := by
    unfold Lib.trimSuffix
    rw [if_pos hs, List.length_append, show t.length + crlfC.length - crlfC.length = t.length by omega, List.take_left]
  rw [this]

theorem runs_more' {c c1 d : Ck} {e : Int} (h : stepM c = (c1, 0)) (hr : Runs c1 d e) : Runs c d e := .more (by rw [h]) (by rw [h]; exact hr)
theorem runs_stop' {c d : Ck} {e : Int} (h : stepM c = (d, e)) (he : e ≠ 0) : Runs c d e := by
  have := Runs.stop (c := c) (by rw [h]; exact he)
  rw [h] at this
  exact this
theorem begin_hex {lf most : Nat} {D rest : List UInt8} {er : Int} {n : Nat} (hn : n ≤ 1048576) (hm : D.length + n ≤ most) :
    stepM ⟨0, lf, most, 0, hexL n ++ crlfC ++ rest, D, er⟩ = (⟨if n = 0 then 3 else 1, n, most, 0, rest, D, er⟩, 0) := by
  have hl := ln_first (t := hexL n) (rest := rest) (hexL_ok n).2.2 (by have := hexL_len (n := n) (by omega); omega)
  obtain ⟨n1, n2⟩ := num_hex n ((most : Int) - D.length) hn
  rw [if_neg (by omega)] at n1
  have n2 := n2 (by omega)
  rw [step0 rfl]
  unfold beginM
  dsimp only
  rw [hl]
  dsimp only
  rw [if_neg (by simp), n1, n2, if_neg (by simp)]
  congr 2
  by_cases h : n = 0
  · rw [if_pos h, if_pos (by omega)]
  · rw [if_neg h, if_neg (by omega)]
theorem begin_long {lf most : Nat} {D rest : List UInt8} {er : Int} {n : Nat} (hn : n ≤ 1048576) (hm : most < D.length + n) :
    stepM ⟨0, lf, most, 0, hexL n ++ crlfC ++ rest, D, er⟩ = (⟨0, lf, most, 0, rest, D, er⟩, 4) := by
  have hl := ln_first (t := hexL n) (rest := rest) (hexL_ok n).2.2 (by have := hexL_len (n := n) (by omega); omega)
  obtain ⟨n1, _⟩ := num_hex n ((most : Int) - D.length) hn
  rw [if_pos (by omega)] at n1
  rw [step0 rfl]
  unfold beginM
  dsimp only
  rw [hl]
  dsimp only
  rw [if_neg (by simp), n1, if_pos (by simp)]
theorem data_hex {most : Nat} {D t rest : List UInt8} {er : Int} {n : Nat} (hn : t.length = n) :
    stepM ⟨1, n, most, 0, t ++ rest, D, er⟩ = (⟨2, 0, most, 0, rest, D ++ t, er⟩, 0) := by
  subst hn
  rw [step1 rfl, data_eq _ t.length (by show min t.length (t ++ rest).length = _; simp), if_neg (by show ¬ 0 < t.length - t.length; omega)]
  show (({ st := 2, left := t.length - t.length, most := most, flds := 0, inp := (t ++ rest).drop t.length, dat := D ++ (t ++ rest).take t.length, err := er } : Ck), (0 : Int)) = _
  rw [List.drop_left, List.take_left, Nat.sub_self]
theorem close_hex {lf most : Nat} {D rest : List UInt8} {er : Int} : stepM ⟨2, lf, most, 0, crlfC ++ rest, D, er⟩ = (⟨0, lf, most, 0, rest, D, er⟩, 0) := by
  rw [step2 rfl]
  unfold closeM
  have h1 : (crlfC ++ rest).take 2 = crlfC := rfl
  have h2 : crlfC.take (crlfC ++ rest).length = crlfC := List.take_of_length_le (by simp)
  have h3 : (crlfC ++ rest).drop 2 = rest := rfl
  dsimp only
  rw [h1, h2, h3, if_neg (by simp), if_neg (by simp [crlfC])]
theorem runs_end {lf most : Nat} {D more : List UInt8} {er : Int} (hm : D.length ≤ most) : Runs ⟨0, lf, most, 0, endC ++ more, D, er⟩ ⟨4, 0, most, 0, more, D, er⟩ 17 := by
  have h48 : hexL 0 = [48] := by unfold hexL; rw [show 0 / 16 = 0 from rfl, hexP_zero]; rfl
  have hb := begin_hex (lf := lf) (most := most) (D := D) (rest := crlfC ++ more) (er := er) (n := 0) (by omega) (by omega)
  rw [h48] at hb
  refine runs_more' (c1 := ⟨3, 0, most, 0, crlfC ++ more, D, er⟩) hb ?_
  have hl := ln_first (t := []) (rest := more) (by simp) (by simp)
  rw [List.nil_append] at hl
  have ht : stepM ⟨3, 0, most, 0, crlfC ++ more, D, er⟩ = (⟨4, 0, most, 0, more, D, er⟩, 0) := by
    rw [step3 rfl]
    unfold trailM
    dsimp only
    rw [hl]
    dsimp only
    rw [if_neg (by simp), if_pos rfl]
  exact runs_more' ht (runs_stop' (step4 rfl) (by decide))
/-- one chunk -/
theorem runs_chunk {lf k most : Nat} {s D R : List UInt8} {er : Int} {d : Ck} {e : Int} (h0 : s ≠ []) (hl : s.length ≤ 1048576) (hm : D.length + min (k + 1) s.length ≤ most)
    (hr : Runs ⟨0, 0, most, 0, wrL k (s.drop (k + 1)) ++ R, D ++ s.take (k + 1), er⟩ d e) : Runs ⟨0, lf, most, 0, wrL k s ++ R, D, er⟩ d e := by
  have hp := len_pos h0
  have ht : (s.take (k + 1)).length = min (k + 1) s.length := List.length_take
  rw [wrL_cons k h0]
  have hb := begin_hex (lf := lf) (most := most) (D := D) (rest := s.take (k + 1) ++ (crlfC ++ (wrL k (s.drop (k + 1)) ++ R))) (er := er) (n := min (k + 1) s.length) (by omega) hm
  rw [if_neg (by omega)] at hb
  refine runs_more' (c1 := ⟨1, min (k + 1) s.length, most, 0, s.take (k + 1) ++ (crlfC ++ (wrL k (s.drop (k + 1)) ++ R)), D, er⟩) ?_ (runs_more' (data_hex ht) (runs_more' close_hex hr))
  rw [← hb]
  simp only [List.append_assoc]
theorem runs_write (k most : Nat) (more : List UInt8) (er : Int) : ∀ (n : Nat) (s D : List UInt8) (lf : Nat), s.length ≤ n → s.length ≤ 1048576 → D.length + s.length ≤ most →
    Runs ⟨0, lf, most, 0, wrL k s ++ (endC ++ more), D, er⟩ ⟨4, 0, most, 0, more, D ++ s, er⟩ 17
  | n, s, D, lf, hn, hl, hm => by
    by_cases h0 : s = []
    · subst h0
      rw [wrL_nil, List.append_nil, List.nil_append]
      exact runs_end (by simp at hm; exact hm)
    · have hp := len_pos h0
      match n, hn with
      | 0, hn => omega
      | n + 1, hn =>
        have hd : (s.drop (k + 1)).length = s.length - (k + 1) := List.length_drop
        have ht : (s.take (k + 1)).length = min (k + 1) s.length := List.length_take
        refine runs_chunk h0 hl (by omega) ?_
        have := runs_write k most more er n (s.drop (k + 1)) (D ++ s.take (k + 1)) 0 (by omega) (by omega) (by rw [List.length_append]; omega)
        rw [List.append_assoc, List.take_append_drop] at this
        exact this
theorem runs_long (k most : Nat) (more : List UInt8) (er : Int) : ∀ (n : Nat) (s D : List UInt8) (lf : Nat), s.length ≤ n → s.length ≤ 1048576 → D.length ≤ most → most < D.length + s.length →
    ∃ d, Runs ⟨0, lf, most, 0, wrL k s ++ more, D, er⟩ d 4 ∧ d.st = 0 ∧ d.most = most ∧ d.dat.length ≤ most
  | n, s, D, lf, hn, hl, hD, hm => by
    by_cases h0 : s = []
    · subst h0; simp at hm; omega
    · have hp := len_pos h0
      match n, hn with
      | 0, hn => omega
      | n + 1, hn =>
        have hd : (s.drop (k + 1)).length = s.length - (k + 1) := List.length_drop
        have ht : (s.take (k + 1)).length = min (k + 1) s.length := List.length_take
        by_cases hf : D.length + min (k + 1) s.length ≤ most
        · obtain ⟨d, hr, h1, h2, h3⟩ := runs_long k most more er n (s.drop (k + 1)) (D ++ s.take (k + 1)) 0 (by omega) (by omega) (by rw [List.length_append]; omega) (by rw [List.length_append]; omega)
          exact ⟨d, runs_chunk h0 hl hf hr, h1, h2, h3⟩
        · have hb := begin_long (lf := lf) (most := most) (D := D) (rest := s.take (k + 1) ++ (crlfC ++ (wrL k (s.drop (k + 1)) ++ more))) (er := er) (n := min (k + 1) s.length) (by omega) (by omega)
          refine ⟨_, runs_stop' (d := ⟨0, lf, most, 0, s.take (k + 1) ++ (crlfC ++ (wrL k (s.drop (k + 1)) ++ more)), D, er⟩) ?_ (by decide), rfl, rfl, hD⟩
          rw [← hb, wrL_cons k h0]
          simp only [List.append_assoc]
end Go.Proofs.YtmfnciocnlmceaaDoor
