/- Parts of the proof of ErrandAsks, in order. No conditions but those that each theorem states. -/
import Derived.Test.YtlhnjkekjbbhcaaGreatDoorYErrandAsks0
import Derived.Lib.SlBytesConst
import Derived.Lib.LaidTab
import Derived.Lib.ItoaNum
import Derived.Lib.ItoaLen
import Derived.Sort.Grow
import Derived.Test.YtlhnjkekjbbhcaaGreatDoorYErrandAsks23
set_option linter.unusedSimpArgs false
set_option linter.unusedVariables false
namespace Go.Proofs.YtlhnjkekjbbhcaaGreatDoor
open Go.RowKit Go.Shelf
theorem it_headed {B p : Nat} {w w' : World} {X R : List Nat} {I : InS} (h : It B w p X R I) (_hr : I.req = none) (hc : I.chk = none) (hd : Hr) {v cv : Value} {rb : Nat} {cb : Option Nat}
    (k : Keep [p] w w') (hb : Blk w' p 117 (inC (headed I hd) (.pointer (some ⟨rb, 0, none⟩)) cv))
    (hq : Blk w' rb 73 (reqC hd.q.m hd.q.t v hd.q.cl)) (ho : Own Fld.cells 2 w.heap.size 89 w' v hd.q.F) (hrb : w.heap.size ≤ rb) (hB : B ≤ w.heap.size)
    (hck : match cb with | none => hd.ch = false ∧ cv = .pointer none | some c => hd.ch = true ∧ cv = .pointer (some ⟨c, 0, none⟩) ∧ w.heap.size ≤ c ∧ c ≠ rb ∧ (∀ g, v.ownBlock = some g → g ≠ c) ∧ Ct B w' c [] (ck0 4096) (.slice none 0 0)) :
    ∃ X' R', It B w' p X' R' (headed I hd) ∧ (∀ x ∈ X', x ∈ X ∨ w.heap.size ≤ x) ∧ ∀ x ∈ R', w.heap.size ≤ x := by
  have hp := h.lt; have hg : ∀ g, v.ownBlock = some g → w.heap.size ≤ g ∧ g < w'.heap.size := fun g hg => ho.lt g hg
  have hreq : (headed I hd).req = some hd.q := rfl; have hchk : (headed I hd).chk = if hd.ch then some (ck0 4096) else I.chk := rfl
  refine ⟨p :: cb.toList, rb :: v.ownBlock.toList, ⟨⟨_, cv, hb, ?_, ?_⟩, by simp, ?_, ?_⟩, ?_, ?_⟩
  · cases cb with
    | none =>
      obtain ⟨h1, h2⟩ := hck; rw [hchk, h1, hc]; exact h2
    | some c =>
      obtain ⟨h1, h2, h3, h4, h5, h6⟩ := hck; rw [hchk, h1]; exact ⟨c, _, h2, by omega, by simp, h6, by simp [Value.ownBlock]⟩
  · rw [hreq]; exact ⟨rb, v, rfl, by simp, hq, ho.lower hB, fun g hg => by rw [hg]; simp⟩
  · intro x hx; rcases List.mem_cons.1 hx with rfl | hx
    · exact ⟨h.base, hb.lt⟩
    · cases cb with
      | none => simp at hx
      | some c =>
        obtain ⟨h1, h2, h3, h4, h5, h6⟩ := hck; have : x = c := by simpa using hx
        subst this; exact ⟨by omega, h6.lt⟩
  · intro x hx
    have hx2 : w.heap.size ≤ x ∧ x < w'.heap.size := by
      rcases List.mem_cons.1 hx with rfl | hx
      · exact ⟨hrb, hq.lt⟩
      · exact hg x (by simpa using hx)
    refine ⟨by omega, hx2.2, fun hm => ?_⟩; rcases List.mem_cons.1 hm with rfl | hm
    · omega
    · cases cb with
      | none => simp at hm
      | some c =>
        obtain ⟨h1, h2, h3, h4, h5, h6⟩ := hck; have : x = c := by simpa using hm
        subst this; rcases List.mem_cons.1 hx with rfl | hx
        · exact h4 rfl
        · exact h5 x (by simpa using hx) rfl
  · intro x hx; rcases List.mem_cons.1 hx with rfl | hx
    · exact .inl h.mem
    · cases cb with
      | none => simp at hx
      | some c =>
        obtain ⟨h1, h2, h3, h4, h5, h6⟩ := hck; have : x = c := by simpa using hx
        subst this; exact .inr h3
  · intro x hx; rcases List.mem_cons.1 hx with rfl | hx
    · exact hrb
    · exact (hg x (by simpa using hx)).1
set_option maxRecDepth 100000 in
set_option maxHeartbeats 4000000 in
theorem inlet_head {B p : Nat} {X R : List Nat} {I : InS} {w : World} (h : It B w p X R I) (hm : ML w) (hB : B ≤ w.heap.size) (_hbig : 1 < B) (hl : I.inp.length ≤ 65536) (hr : I.req = none) (hc : I.chk = none) :
    Calls Tryz.prog 71 #[.pointer (some ⟨p, 0, none⟩)] w fun e w' => e = .returned (.int .i64 (headM I.inp).s) ∧ Keep [p] w w' ∧ ((headM I.inp).got = false → Keep [] w w') ∧ ((headM I.inp).got = true → ∃ X' R', It B w' p X' R' (headed I (headM I.inp)) ∧ (∀ x ∈ X', x ∈ X ∨ w.heap.size ≤ x) ∧ ∀ x ∈ R', w.heap.size ≤ x) := by
  obtain ⟨c0, _, _, _⟩ := h.at_; have sz := S_size I.inp; have HSp := Lib.hid (field_Split I.inp w hm (by omega)); have hsm := split_small I.inp
  have hH : headM I.inp = if (splitM I.inp).e ≠ 0 then hr0 (toldE (splitM I.inp).e 431)
    else if (lnM (splitM I.inp).st).s ≠ 200 then hr0 (lnM (splitM I.inp).st).s
    else if 1 < getN (splitM I.inp).F nHost ∨ (getN (splitM I.inp).F nHost : Int) < (lnM (splitM I.inp).st).v then hr0 400
    else if (frameM (splitM I.inp).F 4096).e ≠ 0 then hr0 (toldE (frameM (splitM I.inp).F 4096).e 413)
    else ⟨0, true, (splitM I.inp).n, ⟨(lnM (splitM I.inp).st).m, (lnM (splitM I.inp).st).t, (splitM I.inp).F, closesM (splitM I.inp).F (lnM (splitM I.inp).st).v⟩, (max (frameM (splitM I.inp).F 4096).n 0).toNat, (frameM (splitM I.inp).F 4096).ch⟩ := rfl
  have H := Lib.hid h; have HB := Lib.hid hB; have HM := Lib.hid hm; have HT := Lib.hid (fun e0 long w' => inlet_told e0 long w'); have hnp := h.lt; generalize headM I.inp = hd at *; generalize splitM I.inp = r at *; obtain ⟨rs, rF, rn, re⟩ := r; dsimp only at hsm hH; obtain ⟨⟨hf1, hf2⟩, hs1, hn1⟩ := hsm; have HLn := Lib.hid (fun w' (k : Keep [] w w') => inlet_Line rs w' (HM.out.keep k (by simp)) (by omega)); have HG := Lib.hid (fun w' va (ha : Sl Fld.cells 2 w' va rF) => field_Get va rF nHost w' ha (fun x hx => by have := (hf2 x hx).1; show _ ≤ 9223372036854775807; omega) (by decide)); have HFr := Lib.hid (fun w' va (ha : Sl Fld.cells 2 w' va rF) => field_Frame va rF 4096 w' ha (fun x hx => by have := (hf2 x hx).1; show _ ≤ 9223372036854775807; omega) (fun x hx => by have := (hf2 x hx).2; show _ ≤ 9223372036854775807; omega) (by omega)); have HCl := Lib.hid (fun w' va mi (ha : Sl Fld.cells 2 w' va rF) => field_Closes va rF mi w' ha (fun x hx => ⟨by have := (hf2 x hx).1; omega, by have := (hf2 x hx).2; omega⟩) (by omega)); have hNr : getN rF nHost ≤ rF.length := getN_le _ _; unfold SplitOut at HSp; unfold GetOut at HG; unfold Ln.out at HLn; dsimp only at HSp; clear h hB hm hf2; by_cases e1 : re = 0
  case neg =>
    rw [if_pos e1] at hH; have q1 := (int_ne e1).2; have HH := Lib.hid hH; have HTe := Lib.hid (HT.out re 431); clear hH e1; go_enter Tryz.func71, Tryz.ntmps71; go_wp2_with fail; refine HSp.out.mono ?_; rintro e w1 ⟨v1, rfl, ho, k1⟩; have K1 := Lib.hid k1; clear k1 ho; go_wp2_with fail; refine (HTe.out _).mono ?_; rintro e w2 ⟨rfl, rfl⟩; go_wp2_with fail; go_ret; rw [HH.out]; exact ⟨rfl, K1.out.mono (by simp), fun _ => K1.out, fun hh => by cases hh⟩
  rw [if_neg (by simp [e1])] at hH; generalize lnM rs = ln at *; obtain ⟨lm, lt, lv, ls⟩ := ln; dsimp only at hH HLn; by_cases e2 : ls = 200
  case neg =>
    rw [if_pos e2] at hH; have q1 := (int_ne e2).2; have HH := Lib.hid hH; subst e1; clear hH e2; go_enter Tryz.func71, Tryz.ntmps71; go_wp2_with fail; refine HSp.out.mono ?_; rintro e w1 ⟨v1, rfl, ho, k1⟩; have K1 := Lib.hid k1; clear k1 ho; go_wp2_with fail; refine (HLn.out _ K1.out).mono ?_; rintro e w2 ⟨rfl, k2⟩; have K2 := Lib.hid (K1.out.trans k2); clear k2; go_wp2_with fail; go_ret; rw [HH.out]; exact ⟨rfl, K2.out.mono (by simp), fun _ => K2.out, fun hh => by cases hh⟩
  rw [if_neg (by simp [e2])] at hH; subst e1 e2; generalize getN rF nHost = nh at *; by_cases e3 : 1 < nh ∨ (nh : Int) < lv
  case pos =>
    rw [if_pos e3] at hH; have HH := Lib.hid hH; have q3 : decide ((nh : Int) > 1) = decide (1 < nh) := by rw [decide_eq_decide]; omega
    by_cases e4 : 1 < nh
    all_goals
      first
        | rw [decide_eq_true e4] at q3
        | (rw [decide_eq_false e4] at q3
           have q4 : (nh : Int) < lv := by omega)
      clear hH e3 e4; go_enter Tryz.func71, Tryz.ntmps71; go_wp2_with fail; refine HSp.out.mono ?_; rintro e w1 ⟨v1, rfl, ho, k1⟩; have K1 := Lib.hid k1; have HO := Lib.hid ho; clear k1 ho; go_wp2_with fail; refine (HLn.out _ K1.out).mono ?_; rintro e w2 ⟨rfl, k2⟩; have K2 := Lib.hid (K1.out.trans k2); have HO2 := Lib.hid ((HO.out.keep0 k2).sl Fld.cells_length); clear k2; go_wp2_with fail; refine (HG.out _ _ HO2.out).mono ?_; rintro e w3 ⟨rfl, k3⟩; have K3 := Lib.hid (K2.out.trans k3); clear k3; go_wp2_with fail; go_ret; rw [HH.out]; exact ⟨rfl, K3.out.mono (by simp), fun _ => K3.out, fun hh => by cases hh⟩
  rw [if_neg e3] at hH; have q3 : decide ((nh : Int) > 1) = false := by simp; omega
  have q4 : decide ((nh : Int) < lv) = false := by simp; omega
  clear e3; generalize frameM rF 4096 = fr at *; obtain ⟨fn, fch, fe⟩ := fr; dsimp only at hH HFr; by_cases e5 : fe = 0
  case neg =>
    rw [if_pos e5] at hH; have q5 := (int_ne e5).2; have HH := Lib.hid hH; have HTe := Lib.hid (HT.out fe 413); clear hH e5; go_enter Tryz.func71, Tryz.ntmps71; go_wp2_with fail; refine HSp.out.mono ?_; rintro e w1 ⟨v1, rfl, ho, k1⟩; have K1 := Lib.hid k1; have HO := Lib.hid ho; clear k1 ho; go_wp2_with fail; refine (HLn.out _ K1.out).mono ?_; rintro e w2 ⟨rfl, k2⟩; have K2 := Lib.hid (K1.out.trans k2); have HO2 := Lib.hid (HO.out.keep0 k2); clear k2; go_wp2_with fail; refine (HG.out _ _ (HO2.out.sl Fld.cells_length)).mono ?_; rintro e w3 ⟨rfl, k3⟩; have K3 := Lib.hid (K2.out.trans k3); have HO3 := Lib.hid (HO2.out.keep0 k3); clear k3; go_wp2_with fail; refine (HFr.out _ _ (HO3.out.sl Fld.cells_length)).mono ?_; rintro e w4 ⟨rfl, k4⟩; have K4 := Lib.hid (K3.out.trans k4); clear k4; go_wp2_with fail; refine (HTe.out _).mono ?_; rintro e w5 ⟨rfl, rfl⟩; go_wp2_with fail; go_ret; rw [HH.out]; exact ⟨rfl, K4.out.mono (by simp), fun _ => K4.out, fun hh => by cases hh⟩
  rw [if_neg (by simp [e5])] at hH; subst e5; have hx : (S I.inp).extract rn I.inp.length = S (I.inp.drop rn) := by rw [S_extract, List.take_length]
  obtain ⟨sk, hsk⟩ : ∃ sk : Nat, (max fn 0).toNat = sk := ⟨_, rfl⟩
  have hmx : max fn 0 = ((sk : Nat) : Int) := by omega
  rw [hsk] at hH; have i0 : (0 : Int) ≤ (rn : Int) := by omega
  have i1 : (rn : Int) ≤ (I.inp.length : Int) := by omega
  have HH := Lib.hid hH; have HN := Lib.hid (fun w' (k : B ≤ w'.heap.size) => chunk_New B 4096 w' k); clear hH
  cases fch with
  | false =>
    go_enter Tryz.func71, Tryz.ntmps71; go_wp2_with fail; refine HSp.out.mono ?_; rintro e w1 ⟨v1, rfl, ho, k1⟩; obtain ⟨sa, sc, rfl, hml⟩ := ho.shape; clear hml; have K1 := Lib.hid k1; have HO := Lib.hid ho; clear k1 ho; go_wp2_with fail; refine (HLn.out _ K1.out).mono ?_; rintro e w2 ⟨rfl, k2⟩; have K2 := Lib.hid (K1.out.trans k2); have HO2 := Lib.hid (HO.out.keep0 k2); clear k2; go_wp2_with fail; refine (HG.out _ _ (HO2.out.sl Fld.cells_length)).mono ?_; rintro e w3 ⟨rfl, k3⟩; have K3 := Lib.hid (K2.out.trans k3); have HO3 := Lib.hid (HO2.out.keep0 k3); clear k3; go_wp2_with fail; refine (HFr.out _ _ (HO3.out.sl Fld.cells_length)).mono ?_; rintro e w4 ⟨rfl, k4⟩; have K4 := Lib.hid (K3.out.trans k4); have HO4 := Lib.hid (HO3.out.keep0 k4); have HI4 := Lib.hid (H.out.keep0 K4.out); obtain ⟨c0, c1, c3, _⟩ := HI4.out.at_; have f0 := HI4.out.free 0; have f1 := HI4.out.free 1; have f3 := HI4.out.free 3; clear k4; have hs := ((HI4.out.set (I' := { I with inp := I.inp.drop rn }) 0 (.string (S (I.inp.drop rn))) (fun _ _ => rfl) rfl rfl).set (I' := { I with inp := I.inp.drop rn, held := rn }) 1 (.int .i64 (rn : Nat)) (fun _ _ => rfl) rfl rfl).set (I' := { I with inp := I.inp.drop rn, held := rn, skip := sk }) 3 (.int .i64 (sk : Nat)) (fun _ _ => rfl) rfl rfl; have k3s := ((Keep.refl [p] w4).setCell ⟨p, 0, none⟩ (.string (S (I.inp.drop rn))) (by simp)).setCell ⟨p, 1, none⟩ (.int .i64 (rn : Nat)) (by simp) |>.setCell ⟨p, 3, none⟩ (.int .i64 (sk : Nat)) (by simp); have ks := (K4.out.mono (S' := [p]) (by simp)).trans k3s; have os := HO4.out.keep (S := [p]) k3s (fun g hg => by have := (HO4.out.lt g hg).1; simp; omega); have HS := Lib.hid hs; have KS := Lib.hid ks; have OS := Lib.hid os; clear hs ks os k3s HI4 HO4; obtain ⟨⟨rv, cv, b1, b2, b3⟩, _, _, _⟩ := HS.out; rw [show ({ I with inp := I.inp.drop rn, held := rn, skip := sk } : InS).chk = none from hc] at b2; have hcv : cv = .pointer none := b2; subst hcv; have BS := Lib.hid b1; clear b1 b2 b3; have HCl2 := Lib.hid (HCl.out _ _ lv (OS.out.sl Fld.cells_length)); generalize closesM rF lv = cl at *; go_wp2_with fail; refine HCl2.out.mono ?_; rintro e w5 ⟨rfl, k5⟩; have K5 := Lib.hid (KS.out.trans (k5.mono (S' := [p]) (by simp))); have O5 := Lib.hid (OS.out.keep0 k5); have bA := (k5.blk BS.out (by simp)).alloc (.cells (reqC lm lt (Value.slice sa rF.length sc) cl).toArray 73); have qA := Blk.newA w5 (reqC lm lt (Value.slice sa rF.length sc) cl).toArray 73; have kA := K5.out.alloc (.cells (reqC lm lt (Value.slice sa rF.length sc) cl).toArray 73); have oA := O5.out.alloc (.cells (reqC lm lt (Value.slice sa rF.length sc) cl).toArray 73); have hsz5 := Lib.hid K5.out.size; have hwp := k5.size; generalize hwA : w5.alloc (.cells #[.string (S lm), .string (S lt), (Value.slice sa rF.length sc), .bool cl] 73) = wA; have hwA' : w5.alloc (.cells (reqC lm lt (Value.slice sa rF.length sc) cl).toArray 73) = wA := hwA; rw [hwA'] at bA qA kA oA; have c2 := bA.get (k := 2) rfl; have f2 := bA.frozen 2; have hne : w5.heap.size ≠ p := by have := H.out.lt; have := K5.out.size; omega
    have kp := (Keep.refl [p] wA).setCell ⟨p, 2, none⟩ (.pointer (some ⟨w5.heap.size, 0, none⟩)) (by simp); have HX := Lib.hid (And.intro (bA.set 2 (.pointer (some ⟨w5.heap.size, 0, none⟩))) (And.intro (kp.blk (show Blk wA w5.heap.size 73 (reqC lm lt (Value.slice sa rF.length sc) cl) from qA) (by simpa using hne)) (And.intro (kA.trans kp) (oA.keep kp (fun g hg => by have := (oA.lt g hg).1; simp; omega))))); clear bA qA kA oA k5 hwA' kp hne; go_wp2_with fail; clear hwA; go_ret; rw [HH.out]; obtain ⟨x1, x2, x3, x4⟩ := HX.out; refine ⟨rfl, x3, fun hh => (by cases hh), fun _ => ?_⟩; exact it_headed H.out hr hc _ (cb := none) (v := .slice sa rF.length sc) x3 x1 x2 x4 hsz5.out HB.out ⟨rfl, rfl⟩
  | true =>
    go_enter Tryz.func71, Tryz.ntmps71; go_wp2_with fail; refine HSp.out.mono ?_; rintro e w1 ⟨v1, rfl, ho, k1⟩; obtain ⟨sa, sc, rfl, hml⟩ := ho.shape; clear hml; have K1 := Lib.hid k1; have HO := Lib.hid ho; clear k1 ho; go_wp2_with fail; refine (HLn.out _ K1.out).mono ?_; rintro e w2 ⟨rfl, k2⟩; have K2 := Lib.hid (K1.out.trans k2); have HO2 := Lib.hid (HO.out.keep0 k2); clear k2; go_wp2_with fail; refine (HG.out _ _ (HO2.out.sl Fld.cells_length)).mono ?_; rintro e w3 ⟨rfl, k3⟩; have K3 := Lib.hid (K2.out.trans k3); have HO3 := Lib.hid (HO2.out.keep0 k3); clear k3; go_wp2_with fail; refine (HFr.out _ _ (HO3.out.sl Fld.cells_length)).mono ?_; rintro e w4 ⟨rfl, k4⟩; have K4 := Lib.hid (K3.out.trans k4); have HO4 := Lib.hid (HO3.out.keep0 k4); have HI4 := Lib.hid (H.out.keep0 K4.out); obtain ⟨c0, c1, c3, _⟩ := HI4.out.at_; have f0 := HI4.out.free 0; have f1 := HI4.out.free 1; have f3 := HI4.out.free 3; clear k4; have hs := ((HI4.out.set (I' := { I with inp := I.inp.drop rn }) 0 (.string (S (I.inp.drop rn))) (fun _ _ => rfl) rfl rfl).set (I' := { I with inp := I.inp.drop rn, held := rn }) 1 (.int .i64 (rn : Nat)) (fun _ _ => rfl) rfl rfl).set (I' := { I with inp := I.inp.drop rn, held := rn, skip := sk }) 3 (.int .i64 (sk : Nat)) (fun _ _ => rfl) rfl rfl; have k3s := ((Keep.refl [p] w4).setCell ⟨p, 0, none⟩ (.string (S (I.inp.drop rn))) (by simp)).setCell ⟨p, 1, none⟩ (.int .i64 (rn : Nat)) (by simp) |>.setCell ⟨p, 3, none⟩ (.int .i64 (sk : Nat)) (by simp); have ks := (K4.out.mono (S' := [p]) (by simp)).trans k3s; have os := HO4.out.keep (S := [p]) k3s (fun g hg => by have := (HO4.out.lt g hg).1; simp; omega); have HS := Lib.hid hs; have KS := Lib.hid ks; have OS := Lib.hid os; clear hs ks os k3s HI4 HO4; go_wp2_with fail; refine (HN.out _ (Nat.le_trans HB.out KS.out.size)).mono ?_; rintro e wn ⟨ck, rfl, hn1, hn2, hct, kn⟩; obtain ⟨⟨rv, cv, b1, b2, b3⟩, _, _, _⟩ := (HS.out.keep0 kn)
    have c4 := b1.get (k := 4) rfl; have f4 := b1.frozen 4; have kp4 := (Keep.refl [p] wn).setCell ⟨p, 4, none⟩ (.pointer (some ⟨ck, 0, none⟩)) (by simp); have hckp : ck ≠ p := by have := H.out.lt; have := KS.out.size; omega
    have BS := Lib.hid (b1.set 4 (.pointer (some ⟨ck, 0, none⟩))); have KN := Lib.hid ((KS.out.trans (kn.mono (S' := [p]) (by simp))).trans kp4); have ON := Lib.hid ((OS.out.keep0 kn).keep kp4 (fun g hg => by have := (OS.out.lt g hg).1; have := H.out.lt; simp; omega)); have CN := Lib.hid (hct.keep kp4 (by simpa using hckp) (by simp [Value.ownBlock])); have HG1 := Lib.hid (show (∀ g, (Value.slice sa rF.length sc).ownBlock = some g → g ≠ ck) ∧ w.heap.size ≤ ck from ⟨fun g hg => by have := (OS.out.lt g hg).2; omega, Nat.le_trans KS.out.size hn1⟩); clear b1 b2 b3 kp4 hct kn; have HCl2 := Lib.hid (HCl.out _ _ lv (ON.out.sl Fld.cells_length)); generalize closesM rF lv = cl at *; go_wp2_with fail; refine HCl2.out.mono ?_; rintro e w5 ⟨rfl, k5⟩; have K5 := Lib.hid (KN.out.trans (k5.mono (S' := [p]) (by simp))); have O5 := Lib.hid (ON.out.keep0 k5); have C5 := (CN.out.keep0 k5)
    have hck5 := C5.lt; have CA := (C5.keep0 ((Keep.refl [] w5).alloc (.cells (reqC lm lt (Value.slice sa rF.length sc) cl).toArray 73)))
    have bA := (k5.blk BS.out (by simp)).alloc (.cells (reqC lm lt (Value.slice sa rF.length sc) cl).toArray 73); have qA := Blk.newA w5 (reqC lm lt (Value.slice sa rF.length sc) cl).toArray 73; have kA := K5.out.alloc (.cells (reqC lm lt (Value.slice sa rF.length sc) cl).toArray 73); have oA := O5.out.alloc (.cells (reqC lm lt (Value.slice sa rF.length sc) cl).toArray 73); have hsz5 := Lib.hid K5.out.size; have hwp := k5.size; generalize hwA : w5.alloc (.cells #[.string (S lm), .string (S lt), (Value.slice sa rF.length sc), .bool cl] 73) = wA; have hwA' : w5.alloc (.cells (reqC lm lt (Value.slice sa rF.length sc) cl).toArray 73) = wA := hwA; rw [hwA'] at bA qA kA oA CA; have c2 := bA.get (k := 2) rfl; have f2 := bA.frozen 2; have hne : w5.heap.size ≠ p := by have := H.out.lt; have := K5.out.size; omega
    have kp := (Keep.refl [p] wA).setCell ⟨p, 2, none⟩ (.pointer (some ⟨w5.heap.size, 0, none⟩)) (by simp); have HX := Lib.hid (And.intro (bA.set 2 (.pointer (some ⟨w5.heap.size, 0, none⟩))) (And.intro (kp.blk (show Blk wA w5.heap.size 73 (reqC lm lt (Value.slice sa rF.length sc) cl) from qA) (by simpa using hne)) (And.intro (kA.trans kp) (oA.keep kp (fun g hg => by have := (oA.lt g hg).1; simp; omega))))); have HCC := Lib.hid (And.intro (CA.keep kp (by simpa using hckp) (by simp [Value.ownBlock])) (show ck ≠ w5.heap.size by omega)); clear CA C5; clear bA qA kA oA k5 hwA' kp hne; go_wp2_with fail; clear hwA; go_ret; rw [HH.out]; obtain ⟨x1, x2, x3, x4⟩ := HX.out; refine ⟨rfl, x3, fun hh => (by cases hh), fun _ => ?_⟩; exact it_headed H.out hr hc _ (cb := some ck) (v := .slice sa rF.length sc) x3 x1 x2 x4 hsz5.out HB.out ⟨rfl, rfl, HG1.out.2, HCC.out.2, HG1.out.1, HCC.out.1⟩
end Go.Proofs.YtlhnjkekjbbhcaaGreatDoor
