/- Parts of the proof of ErrandTries, in order. No conditions but those that each theorem states. -/
import Derived.Test.YtlhnjkekjbbhcaaGreatDoorYErrandTries0
import Derived.Lib.SlBytesConst
import Derived.Lib.LaidTab
import Derived.Lib.ItoaNum
import Derived.Lib.ItoaLen
import Derived.Sort.Grow
import Derived.Test.YtlhnjkekjbbhcaaGreatDoorYErrandTries26
set_option linter.unusedSimpArgs false
set_option linter.unusedVariables false
namespace Go.Proofs.YtlhnjkekjbbhcaaGreatDoor
open Go.RowKit Go.Shelf
def FrOut (B : Nat) (w : World) (p ab : Nat) (X R : List Nat) (v : Value) (r : FrR) (e : Ending) (w' : World) : Prop :=
  e = .returned (.bool r.ok) ∧ Keep [p, ab] w w' ∧ Blk w' ab 30 (ansC r.a.st v r.a.len r.a.ch r.a.cl) ∧ ∃ X', Re B w' p X' R r.p ∧ ∀ x ∈ X', x ∈ X ∨ w.heap.size ≤ x
theorem Re.setChk {B p cb : Nat} {w : World} {X R : List Nat} {P : ReS} {c : Ck} (h : Re B w p X R P) (hct : Ct B w cb c.dat c (.slice Option.none 0 0)) (hp : cb ≠ p) (hR : cb ∉ R) (hB : B ≤ cb) :
    Re B (w.setCell ⟨p, 8, Option.none⟩ (.pointer (some ⟨cb, 0, Option.none⟩))) p (X ++ [cb]) R { P with chk := some c } := by
  obtain ⟨⟨cv, av, b1, b2, b3⟩, h4, h5, h6⟩ := h; have hk : Keep [p] w (w.setCell ⟨p, 8, Option.none⟩ (.pointer (some ⟨cb, 0, Option.none⟩))) := (Keep.refl _ _).setCell _ _ (by simp); refine ⟨⟨_, av, b1.set 8 (.pointer (some ⟨cb, 0, Option.none⟩)), ⟨cb, .slice Option.none 0 0, rfl, hp, by simp, hct.keep hk (by simpa using hp) (fun g hg => by simp [Value.ownBlock] at hg), fun g hg => by simp [Value.ownBlock] at hg⟩, b3.keep hk (fun y hy => by simp only [List.mem_singleton]; rintro rfl; exact (h6 _ hy).2.2 h4)⟩, by simp [h4], ?_, ?_⟩
  · intro y hy; rcases List.mem_append.1 hy with hy | hy
    · exact ⟨(h5 y hy).1, Nat.lt_of_lt_of_le (h5 y hy).2 hk.size⟩
    · have : y = cb := by simpa using hy
      subst this; exact ⟨hB, Nat.lt_of_lt_of_le hct.lt hk.size⟩
  · intro y hy; refine ⟨(h6 y hy).1, Nat.lt_of_lt_of_le (h6 y hy).2.1 hk.size, fun hh => ?_⟩; rcases List.mem_append.1 hh with hh | hh
    · exact (h6 y hy).2.2 hh
    · have : y = cb := by simpa using hh
      exact hR (this ▸ hy)
set_option maxHeartbeats 2000000 in
set_option maxRecDepth 100000 in
theorem reply_frame {B p ab : Nat} {X R : List Nat} {P : ReS} {w : World} (a : Ans) {v : Value} (h : Re B w p X R P) (_hc : P.chk = none) (hb : Blk w ab 30 (ansC a.st v a.len a.ch a.cl)) (hs : Sl Fld.cells 2 w v a.F) (hab : ab ≠ p) (hXab : ∀ x ∈ X, x ∉ [ab]) (hRab : ∀ x ∈ R, x ∉ [ab])
    (hn : ∀ x ∈ a.F, x.name.length ≤ maxLen) (hv : ∀ x ∈ a.F, x.value.length ≤ maxLen) (hF : a.F.length ≤ 4611686018427387904) (hB : B ≤ w.heap.size) :
    Calls Tryz.prog 219 #[.pointer (some ⟨p, 0, Option.none⟩), .pointer (some ⟨ab, 0, Option.none⟩)] w (FrOut B w p ab X R v (reFrame P a)) := by
  obtain ⟨c0, c1, c2, c3, c4, c5, c6, c7, c10, c11⟩ := h.at_; have H := Lib.hid h; have HB := Lib.hid hb; have a0 := hb.get (k := 0) rfl; have a1 := hb.get (k := 1) rfl
  have hE : reFrame P a = if noBody a.st P.head then ⟨{ P with st := 4 }, { a with len := max (frameM a.F 1048576).n 0 }, true⟩
    else if (frameM a.F P.most).e ≠ 0 then ⟨P, a, false⟩
    else if (frameM a.F P.most).ch then ⟨{ P with st := 1, chk := some (ck0 P.most) }, { a with ch := true }, true⟩
    else if (frameM a.F P.most).n < 0 then ⟨{ P with st := 3 }, { a with len := (frameM a.F P.most).n, cl := true }, true⟩
    else ⟨{ P with st := 2, left := (frameM a.F P.most).n.toNat }, { a with len := (frameM a.F P.most).n }, true⟩ := rfl
  have hBo := fun n => outlet_Bodyless a.st P.head (w.drewN n)
  change ∀ n, Calls _ _ _ _ (fun e w' => e = .returned (.bool (noBody a.st P.head)) ∧ w' = w.drewN n) at hBo
  have HBo := Lib.hid hBo; have HFr := Lib.hid (fun (most : Int) w' (k : Keep [] w w') => field_Frame v a.F most w' (hs.keep Fld.cells_length (by omega) hs k (by simp) (Nat.le_refl _)) hn hv hF); clear h hb hs hn hv hF hBo
  cases hnb : noBody a.st P.head with
  | true =>
    rw [hnb] at hE HBo; rw [if_pos rfl] at hE; have HE := Lib.hid hE; have HFr2 := Lib.hid (HFr.out 1048576); generalize frameM a.F 1048576 = fr at *; obtain ⟨fn, fch, fe⟩ := fr; dsimp only at HE HFr2; clear hE hnb HFr; go_enter Tryz.func219, Tryz.ntmps219
    go_upto_region 1 with fail
    go_quiet ((go_at_call 154; exact Calls.quiet_of_same (HBo.out _))); go_wp2_with fail; refine (HFr2.out _ ((Keep.refl [] w).drewN _)).mono ?_; rintro e w5 ⟨rfl, k5⟩; have K5 := Lib.hid (((Keep.refl [] w).drewN _).trans k5); clear k5 c0 c1 c2 c3 c4 c5 c6 c7 c10 c11 a0 a1 HBo HFr2; have H5 := Lib.hid (H.out.keep0 K5.out); have B5 := Lib.hid (K5.out.blk HB.out (by simp)); obtain ⟨c0, c1, c2, c3, c4, c5, c6, c7, c10, c11⟩ := H5.out.at_; have f2 := H5.out.free 2; have g2 := B5.out.get (k := 2) rfl; have gf2 := B5.out.frozen 2; have ka := (Keep.refl [ab] w5).setCell ⟨ab, 2, Option.none⟩ (.int .i64 (max fn 0)) (by simp); have h6 := Lib.hid ((H5.out.keep ka hXab hRab).set (P' := { P with st := 4 }) 2 (.int .i64 4) (fun _ _ => rfl) rfl rfl); have kp := (Keep.refl [p] (w5.setCell ⟨ab, 2, Option.none⟩ (.int .i64 (max fn 0)))).setCell ⟨p, 2, Option.none⟩ (.int .i64 4) (by simp); have b6 := Lib.hid (kp.blk (B5.out.set 2 (.int .i64 (max fn 0))) (by simpa using hab)); have k6 := Lib.hid ((K5.out.mono (S' := [p, ab]) (by simp)).trans (((Keep.refl [p, ab] w5).setCell ⟨ab, 2, Option.none⟩ (.int .i64 (max fn 0)) (by simp)).setCell ⟨p, 2, Option.none⟩ (.int .i64 4) (by simp))); clear ka kp; go_wp2_with fail; go_ret; rw [HE.out]; exact ⟨rfl, k6.out, b6.out, X, h6.out, fun x hx => .inl hx⟩
  | false =>
    rw [hnb] at hE HBo; rw [if_neg (by simp)] at hE; have HFr2 := Lib.hid (HFr.out (P.most : Int)); generalize frameM a.F (P.most : Int) = fr at *; obtain ⟨fn, fch, fe⟩ := fr; dsimp only at hE HFr2; clear hnb HFr; by_cases e1 : fe = 0
    case neg =>
      rw [if_pos e1] at hE; have HE := Lib.hid hE; have q1 := (int_ne e1).2; clear hE e1; go_enter Tryz.func219, Tryz.ntmps219
      go_upto_region 1 with fail
      go_quiet ((go_at_call 154; exact Calls.quiet_of_same (HBo.out _))); go_wp2_with fail; refine (HFr2.out _ ((Keep.refl [] w).drewN _)).mono ?_; rintro e w5 ⟨rfl, k5⟩; have K5 := Lib.hid (((Keep.refl [] w).drewN _).trans k5); clear k5 c0 c1 c2 c3 c4 c5 c6 c7 c10 c11 a0 a1 HBo HFr2; have H5 := Lib.hid (H.out.keep0 K5.out); have B5 := Lib.hid (K5.out.blk HB.out (by simp)); obtain ⟨c0, c1, c2, c3, c4, c5, c6, c7, c10, c11⟩ := H5.out.at_; go_wp2_with fail; go_ret; rw [HE.out]; exact ⟨rfl, K5.out.mono (by simp), B5.out, X, H5.out, fun x hx => .inl hx⟩
    rw [if_neg (by simp [e1])] at hE; subst e1
    cases fch with
    | true =>
      rw [if_pos rfl] at hE; have HE := Lib.hid hE; have HN := Lib.hid (fun w' (k : B ≤ w'.heap.size) => chunk_New B (P.most : Int) w' k); have HBw := Lib.hid hB; clear hE; go_enter Tryz.func219, Tryz.ntmps219
      go_upto_region 1 with fail
      go_quiet ((go_at_call 154; exact Calls.quiet_of_same (HBo.out _))); go_wp2_with fail; refine (HFr2.out _ ((Keep.refl [] w).drewN _)).mono ?_; rintro e w5 ⟨rfl, k5⟩; have K5 := Lib.hid (((Keep.refl [] w).drewN _).trans k5); clear k5 c0 c1 c2 c3 c4 c5 c6 c7 c10 c11 a0 a1 HBo HFr2; have H5 := Lib.hid (H.out.keep0 K5.out); have B5 := Lib.hid (K5.out.blk HB.out (by simp)); obtain ⟨c0, c1, c2, c3, c4, c5, c6, c7, c10, c11⟩ := H5.out.at_; go_wp2_with fail; refine (HN.out _ (Nat.le_trans HBw.out K5.out.size)).mono ?_; rintro e w6 ⟨cb, rfl, hcb, hclt, hct, k6⟩; have K6 := Lib.hid (K5.out.trans k6); have H6 := Lib.hid (H5.out.keep0 k6); have B6 := Lib.hid (k6.blk B5.out (by simp)); have hcp : cb ≠ p := by have := H5.out.lt; omega
      have hcab : cb ≠ ab := by have := B5.out.lt; omega
      have hcR : cb ∉ R := fun hh => by have := (H5.out.ro cb hh).2.1; omega
      have hcB : B ≤ cb := Nat.le_trans (Nat.le_trans HBw.out K5.out.size) hcb; have hcw : w.heap.size ≤ cb := Nat.le_trans K5.out.size hcb; clear c0 c1 c2 c3 c4 c5 c6 c7 c10 c11; obtain ⟨c0, c1, c2, c3, c4, c5, c6, c7, c10, c11⟩ := H6.out.at_
      have c8 : ∃ cv, w6.cell? ⟨p, 8, Option.none⟩ = some cv := by
        obtain ⟨⟨cv, _, b1, _⟩, _⟩ := H6.out; exact ⟨cv, b1.get (k := 8) rfl⟩
      obtain ⟨cv8, c8⟩ := c8; have f2 := H6.out.free 2; have f8 := H6.out.free 8; have g3 := B6.out.get (k := 3) rfl; have gf3 := B6.out.frozen 3; have ka := (Keep.refl [ab] w6).setCell ⟨ab, 3, Option.none⟩ (.bool true) (by simp); have kp := (Keep.refl [p] (w6.setCell ⟨ab, 3, Option.none⟩ (.bool true))).setCell ⟨p, 2, Option.none⟩ (.int .i64 1) (by simp); have kq := kp.setCell ⟨p, 8, Option.none⟩ (.pointer (some ⟨cb, 0, Option.none⟩)) (by simp); have hct2 := (hct.keep ka (by simpa using hcab) (fun g hg => by simp [Value.ownBlock] at hg)).keep kp (by simpa using hcp) (fun g hg => by simp [Value.ownBlock] at hg); have h7 := Lib.hid (Re.setChk (c := ck0 P.most) ((H6.out.keep ka hXab hRab).set (P' := { P with st := 1 }) 2 (.int .i64 1) (fun _ _ => rfl) rfl rfl) hct2 hcp hcR hcB); have b7 := Lib.hid (kq.blk (B6.out.set 3 (.bool true)) (by simpa using hab)); have k7 := Lib.hid ((K6.out.mono (S' := [p, ab]) (by simp)).trans ((((Keep.refl [p, ab] w6).setCell ⟨ab, 3, Option.none⟩ (.bool true) (by simp)).setCell ⟨p, 2, Option.none⟩ (.int .i64 1) (by simp)).setCell ⟨p, 8, Option.none⟩ (.pointer (some ⟨cb, 0, Option.none⟩)) (by simp))); have HCW := Lib.hid hcw; clear ka kp kq hct hct2 k6 hcb hclt hcp hcab hcR hcB hcw; go_wp2_with fail; go_ret; rw [HE.out]; refine ⟨rfl, k7.out, b7.out, X ++ [cb], h7.out, ?_⟩; intro x hx; rcases List.mem_append.1 hx with hh | hh
      · exact .inl hh
      · have e : x = cb := by simpa using hh
        rw [e]; exact .inr HCW.out
    | false =>
      rw [if_neg (by simp)] at hE; by_cases h0 : fn < 0
      · rw [if_pos h0] at hE; have HE := Lib.hid hE; have q2 : decide (fn < 0) = true := by simpa using h0
        clear hE h0; go_enter Tryz.func219, Tryz.ntmps219
        go_upto_region 1 with fail
        go_quiet ((go_at_call 154; exact Calls.quiet_of_same (HBo.out _))); go_wp2_with fail; refine (HFr2.out _ ((Keep.refl [] w).drewN _)).mono ?_; rintro e w5 ⟨rfl, k5⟩; have K5 := Lib.hid (((Keep.refl [] w).drewN _).trans k5); clear k5 c0 c1 c2 c3 c4 c5 c6 c7 c10 c11 a0 a1 HBo HFr2; have H5 := Lib.hid (H.out.keep0 K5.out); have B5 := Lib.hid (K5.out.blk HB.out (by simp)); obtain ⟨c0, c1, c2, c3, c4, c5, c6, c7, c10, c11⟩ := H5.out.at_; have f2 := H5.out.free 2; have g2 := B5.out.get (k := 2) rfl; have gf2 := B5.out.frozen 2; have gf4 := B5.out.frozen 4; have g4 := B5.out.get (k := 4) rfl; have ka := ((Keep.refl [ab] w5).setCell ⟨ab, 2, Option.none⟩ (.int .i64 fn) (by simp)).setCell ⟨ab, 4, Option.none⟩ (.bool true) (by simp); have h6 := Lib.hid ((H5.out.keep ka hXab hRab).set (P' := { P with st := 3 }) 2 (.int .i64 3) (fun _ _ => rfl) rfl rfl); have kp := (Keep.refl [p] ((w5.setCell ⟨ab, 2, Option.none⟩ (.int .i64 fn)).setCell ⟨ab, 4, Option.none⟩ (.bool true))).setCell ⟨p, 2, Option.none⟩ (.int .i64 3) (by simp); have b6 := Lib.hid (kp.blk ((B5.out.set 2 (.int .i64 fn)).set 4 (.bool true)) (by simpa using hab)); have k6 := Lib.hid ((K5.out.mono (S' := [p, ab]) (by simp)).trans ((((Keep.refl [p, ab] w5).setCell ⟨ab, 2, Option.none⟩ (.int .i64 fn) (by simp)).setCell ⟨ab, 4, Option.none⟩ (.bool true) (by simp)).setCell ⟨p, 2, Option.none⟩ (.int .i64 3) (by simp))); clear ka kp; go_wp2_with fail; go_ret; rw [HE.out]; exact ⟨rfl, k6.out, b6.out, X, h6.out, fun x hx => .inl hx⟩
      · rw [if_neg h0] at hE; obtain ⟨m, hm⟩ : ∃ m : Nat, fn = (m : Nat) := ⟨fn.toNat, by omega⟩
        subst hm; rw [Int.toNat_natCast] at hE; have HE := Lib.hid hE; have q2 : decide (((m : Nat) : Int) < 0) = false := by simp
        clear hE h0; go_enter Tryz.func219, Tryz.ntmps219
        go_upto_region 1 with fail
        go_quiet ((go_at_call 154; exact Calls.quiet_of_same (HBo.out _))); go_wp2_with fail; refine (HFr2.out _ ((Keep.refl [] w).drewN _)).mono ?_; rintro e w5 ⟨rfl, k5⟩; have K5 := Lib.hid (((Keep.refl [] w).drewN _).trans k5); clear k5 c0 c1 c2 c3 c4 c5 c6 c7 c10 c11 a0 a1 HBo HFr2; have H5 := Lib.hid (H.out.keep0 K5.out); have B5 := Lib.hid (K5.out.blk HB.out (by simp)); obtain ⟨c0, c1, c2, c3, c4, c5, c6, c7, c10, c11⟩ := H5.out.at_; have f2 := H5.out.free 2; have f5 := H5.out.free 5; have g2 := B5.out.get (k := 2) rfl; have gf2 := B5.out.frozen 2; have ka := (Keep.refl [ab] w5).setCell ⟨ab, 2, Option.none⟩ (.int .i64 (m : Nat)) (by simp); have h6 := Lib.hid (((H5.out.keep ka hXab hRab).set (P' := { P with left := m }) 5 (.int .i64 (m : Nat)) (fun _ _ => rfl) rfl rfl).set (P' := { P with left := m, st := 2 }) 2 (.int .i64 2) (fun _ _ => rfl) rfl rfl); have kp := ((Keep.refl [p] (w5.setCell ⟨ab, 2, Option.none⟩ (.int .i64 (m : Nat)))).setCell ⟨p, 5, Option.none⟩ (.int .i64 (m : Nat)) (by simp)).setCell ⟨p, 2, Option.none⟩ (.int .i64 2) (by simp); have b6 := Lib.hid (kp.blk (B5.out.set 2 (.int .i64 (m : Nat))) (by simpa using hab)); have k6 := Lib.hid ((K5.out.mono (S' := [p, ab]) (by simp)).trans ((((Keep.refl [p, ab] w5).setCell ⟨ab, 2, Option.none⟩ (.int .i64 (m : Nat)) (by simp)).setCell ⟨p, 5, Option.none⟩ (.int .i64 (m : Nat)) (by simp)).setCell ⟨p, 2, Option.none⟩ (.int .i64 2) (by simp))); clear ka kp; go_wp2_with fail; go_ret; rw [HE.out]; exact ⟨rfl, k6.out, b6.out, X, h6.out, fun x hx => .inl hx⟩
def RhOut (B : Nat) (w : World) (p : Nat) (X R : List Nat) (r : ReS × Bool) (e : Ending) (w' : World) : Prop :=
  e = .returned (.bool r.2) ∧ Keep [p] w w' ∧ ∃ X' R', Re B w' p X' R' r.1 ∧ (∀ x ∈ X', x ∈ X ∨ w.heap.size ≤ x) ∧ (∀ x ∈ R', x ∈ R ∨ w.heap.size ≤ x)
theorem reFrame_no {P : ReS} {a : Ans} (h : (reFrame P a).ok = false) : (reFrame P a).p = P := by
  unfold reFrame at h ⊢
  split at h
  · cases h
  · rename_i h1; rw [if_neg h1]
    split at h
    · rename_i h2; rw [if_pos h2]
    · split at h
      · cases h
      · split at h <;> cases h
theorem reFrame_F (P : ReS) (a : Ans) : (reFrame P a).a.F = a.F := by
  unfold reFrame
  split
  · rfl
  · split
    · rfl
    · split
      · rfl
      · split <;> rfl
theorem Re.setAns {B p ab : Nat} {w : World} {X R : List Nat} {P : ReS} (h : Re B w p X R P) (a : Ans) {v : Value} (hb : Blk w ab 30 (ansC a.st v a.len a.ch a.cl)) (ho : Own Fld.cells 2 B 89 w v a.F)
    (hB : B ≤ ab) (hX : ab ∉ X) (hg : ∀ g, v.ownBlock = some g → g ∉ X) :
    Re B (w.setCell ⟨p, 9, Option.none⟩ (.pointer (some ⟨ab, 0, Option.none⟩))) p X (R ++ ab :: v.ownBlock.toList) { P with ans := some a } := by
  obtain ⟨⟨cv, av, b1, b2, b3⟩, h4, h5, h6⟩ := h; have hk : Keep [p] w (w.setCell ⟨p, 9, Option.none⟩ (.pointer (some ⟨ab, 0, Option.none⟩))) := (Keep.refl _ _).setCell _ _ (by simp); have hap : ab ∉ [p] := by simp only [List.mem_singleton]; rintro rfl; exact hX h4
  have hgp : ∀ g, v.ownBlock = some g → g ∉ [p] := fun g hg' => by simp only [List.mem_singleton]; rintro rfl; exact hg _ hg' h4
  refine ⟨⟨cv, _, b1.set 9 (.pointer (some ⟨ab, 0, Option.none⟩)), b2.keep hk (fun y _ hy => by simpa using hy), ⟨ab, v, rfl, by simp, hk.blk hb hap, ho.keep hk hgp, fun g hg' => by simp [hg']⟩⟩, h4, fun y hy => ⟨(h5 y hy).1, Nat.lt_of_lt_of_le (h5 y hy).2 hk.size⟩, ?_⟩; intro y hy; rcases List.mem_append.1 hy with hy | hy
  · exact ⟨(h6 y hy).1, Nat.lt_of_lt_of_le (h6 y hy).2.1 hk.size, (h6 y hy).2.2⟩
  · rcases List.mem_cons.1 hy with rfl | hy
    · exact ⟨hB, Nat.lt_of_lt_of_le hb.lt hk.size, hX⟩
    · have hy' : v.ownBlock = some y := by simpa using hy
      exact ⟨(ho.lt y hy').1, Nat.lt_of_lt_of_le (ho.lt y hy').2 hk.size, hg y hy'⟩
set_option maxHeartbeats 4000000 in
set_option maxRecDepth 100000 in
theorem reply_readHead {B p : Nat} {X R : List Nat} {P : ReS} {w : World} (h : Re B w p X R P) (hm : ML w) (hB : B ≤ w.heap.size) (hl : P.inp.length ≤ 500000) (hc : P.chk = none) (_ha : P.ans = none) (hps : P.passed ≤ 1048576) :
    Calls Tryz.prog 189 #[.pointer (some ⟨p, 0, Option.none⟩)] w (RhOut B w p X R (readHeadR P)) := by
  obtain ⟨c0, c1, c2, c3, c4, c5, c6, c7, c10, c11⟩ := h.at_; have sz := S_size P.inp; have HSp := Lib.hid (field_Split P.inp w hm (by omega)); have hsm := split_small P.inp
  have hH : readHeadR P = if (splitM P.inp).e = 17 then (P, false)
    else if (splitM P.inp).e ≠ 0 ∨ (slM (splitM P.inp).st).ok = false ∨ (slM (splitM P.inp).st).n = 101 then (reFail P, true)
    else if (slM (splitM P.inp).st).n < 200 then (if 5 < P.passed + 1 then (reFail { headP P with passed := P.passed + 1 }, true) else ({ headP P with passed := P.passed + 1 }, true))
    else if (reFrame (headP P) (headA P)).ok then ({ (reFrame (headP P) (headA P)).p with ans := some (reFrame (headP P) (headA P)).a }, true)
    else (reFail (headP P), true) := rfl
  have hHP : headP P = { P with inp := P.inp.drop (splitM P.inp).n } := rfl; have hHA : headA P = ⟨(slM (splitM P.inp).st).n, (splitM P.inp).F, 0, false, closesM (splitM P.inp).F (slM (splitM P.inp).st).v⟩ := rfl; have H := Lib.hid h; have HB := Lib.hid hB; have HM := Lib.hid hm; have hnp := h.lt; generalize readHeadR P = rr at *; generalize headP P = hp at *; generalize headA P = hA at *; generalize splitM P.inp = r at *; obtain ⟨rs, rF, rn, re⟩ := r; dsimp only at hsm hH hHP hHA; obtain ⟨⟨hf1, hf2⟩, hs1, hn1⟩ := hsm; have HLn := Lib.hid (fun w' (k : Keep [] w w') => reply_Line rs w' (HM.out.keep k (by simp)) (by omega)); have HCl := Lib.hid (fun w' va mi (ha : Sl Fld.cells 2 w' va rF) => field_Closes va rF mi w' ha (fun x hx => ⟨by have := (hf2 x hx).1; omega, by have := (hf2 x hx).2; omega⟩) (by omega)); have HFl := Lib.hid (fun w' (k : Keep [] w w') => reply_fail (h.keep0 k)); unfold SplitOut at HSp; unfold StL.out at HLn; dsimp only at HSp; clear h hB hm; by_cases e17 : re = 17
  · rw [if_pos e17] at hH; have HH := Lib.hid hH; subst e17; clear hH; go_enter Tryz.func189, Tryz.ntmps189; go_wp2_with fail; refine HSp.out.mono ?_; rintro e w1 ⟨v1, rfl, ho, k1⟩; have K1 := Lib.hid k1; clear k1 ho; go_wp2_with fail; go_ret; rw [HH.out]; exact ⟨rfl, K1.out.mono (by simp), X, R, H.out.keep0 K1.out, fun x hx => .inl hx, fun x hx => .inl hx⟩
  rw [if_neg e17] at hH; have q17 := (int_ne e17).1; generalize slM rs = ln at *; obtain ⟨lc, lv, lk⟩ := ln; dsimp only at hH hHA HLn; by_cases hbad : re ≠ 0 ∨ lk = false ∨ lc = 101
  case pos =>
    rw [if_pos hbad] at hH; have HH := Lib.hid hH
    have hcs : ((re != 0) = true) ∨ ((re != 0) = false ∧ lk = false) ∨ ((re != 0) = false ∧ lk = true ∧ (lc == 101) = true) := by
      by_cases h0 : re = 0
      · rcases hbad with hb | hb | hb
        · exact absurd h0 hb
        · exact .inr (.inl ⟨(int_eq h0).2, hb⟩)
        · cases lk with
          | false => exact .inr (.inl ⟨(int_eq h0).2, rfl⟩)
          | true => exact .inr (.inr ⟨(int_eq h0).2, rfl, (int_eq hb).1⟩)
      · exact .inl (int_ne h0).2
    clear hH hbad e17; rcases hcs with q1 | ⟨q1, q2⟩ | ⟨q1, q2, q3⟩
    all_goals
      (try subst q2); go_enter Tryz.func189, Tryz.ntmps189; go_wp2_with fail; refine HSp.out.mono ?_; rintro e w1 ⟨v1, rfl, ho, k1⟩; have K1 := Lib.hid k1; clear k1 ho; go_wp2_with fail; refine (HLn.out _ K1.out).mono ?_; rintro e w2 ⟨rfl, k2⟩; have K2 := Lib.hid (K1.out.trans k2); clear k2; go_wp2_with fail; refine (HFl.out _ K2.out).mono ?_; rintro e w3 ⟨rfl, h3, k3⟩; have HX := Lib.hid (And.intro h3 ((K2.out.mono (S' := [p]) (by simp)).trans k3)); clear h3 k3; go_wp2_with fail; go_ret; rw [HH.out]; exact ⟨rfl, HX.out.2, X, R, HX.out.1, fun x hx => .inl hx, fun x hx => .inl hx⟩
  rw [if_neg hbad] at hH
  have h0 : re = 0 := by
    by_cases h : re = 0
    · exact h
    · exact absurd (.inl h) hbad
  have hk : lk = true := by
    cases lk with
    | true => rfl
    | false => exact absurd (.inr (.inl rfl)) hbad
  have h101 : lc ≠ 101 := fun h => hbad (.inr (.inr h))
  have q101 := (int_ne h101).1; subst h0 hk; clear hbad h101 e17 q17; have hx : (S P.inp).extract rn P.inp.length = S (P.inp.drop rn) := by rw [S_extract, List.take_length]
  have i0 : (0 : Int) ≤ (rn : Int) := by omega
  have i1 : (rn : Int) ≤ (P.inp.length : Int) := by omega
  have wp1 := IntWalk.i64_in ((P.passed : Int) + 1) (by omega); have hpi := Lib.hid (show ((P.passed : Int) + 1) = ((P.passed + 1 : Nat) : Int) by omega); by_cases h200 : lc < 200
  · rw [if_pos h200] at hH; have q200 : decide (lc < 200) = true := by simpa using h200
    rw [hHP] at hH
    have run5 : (5 < P.passed + 1 ∧ decide ((P.passed : Int) + 1 > 5) = true) ∨ (¬ 5 < P.passed + 1 ∧ decide ((P.passed : Int) + 1 > 5) = false) := by
      by_cases h : 5 < P.passed + 1
      · exact .inl ⟨h, by simp; omega⟩
      · exact .inr ⟨h, by simp; omega⟩
    clear h200; rcases run5 with ⟨h5, q5⟩ | ⟨h5, q5⟩
    · rw [if_pos h5] at hH; have HH := Lib.hid hH; clear hH h5; go_enter Tryz.func189, Tryz.ntmps189; go_wp2_with fail; refine HSp.out.mono ?_; rintro e w1 ⟨v1, rfl, ho, k1⟩; have K1 := Lib.hid k1; clear k1 ho; go_wp2_with fail; refine (HLn.out _ K1.out).mono ?_; rintro e w2 ⟨rfl, k2⟩; have K2 := Lib.hid (K1.out.trans k2); clear k2 c0 c1 c2 c3 c4 c5 c6 c7 c10 c11; have H2 := Lib.hid (H.out.keep0 K2.out); obtain ⟨c0, c1, c2, c3, c4, c5, c6, c7, c10, c11⟩ := H2.out.at_; have f3 := H2.out.free 3; have f7 := H2.out.free 7; have hs := (H2.out.set (P' := { P with inp := P.inp.drop rn }) 3 (.string (S (P.inp.drop rn))) (fun _ _ => rfl) rfl rfl).set (P' := { P with inp := P.inp.drop rn, passed := P.passed + 1 }) 7 (.int .i64 ((P.passed : Int) + 1)) (fun _ _ => by rw [hpi.out]; rfl) rfl rfl; have ks := ((K2.out.mono (S' := [p]) (by simp)).setCell ⟨p, 3, Option.none⟩ (.string (S (P.inp.drop rn))) (by simp)).setCell ⟨p, 7, Option.none⟩ (.int .i64 ((P.passed : Int) + 1)) (by simp); have HF := Lib.hid (reply_fail hs); have KS := Lib.hid ks; clear hs ks; go_wp2_with fail; refine HF.out.mono ?_; rintro e w3 ⟨rfl, h3, k3⟩; have HX := Lib.hid (And.intro h3 (KS.out.trans k3)); clear h3 k3; go_wp2_with fail; go_ret; rw [HH.out]; exact ⟨rfl, HX.out.2, X, R, HX.out.1, fun x hx => .inl hx, fun x hx => .inl hx⟩
    · rw [if_neg h5] at hH; have HH := Lib.hid hH; clear hH h5; go_enter Tryz.func189, Tryz.ntmps189; go_wp2_with fail; refine HSp.out.mono ?_; rintro e w1 ⟨v1, rfl, ho, k1⟩; have K1 := Lib.hid k1; clear k1 ho; go_wp2_with fail; refine (HLn.out _ K1.out).mono ?_; rintro e w2 ⟨rfl, k2⟩; have K2 := Lib.hid (K1.out.trans k2); clear k2 c0 c1 c2 c3 c4 c5 c6 c7 c10 c11; have H2 := Lib.hid (H.out.keep0 K2.out); obtain ⟨c0, c1, c2, c3, c4, c5, c6, c7, c10, c11⟩ := H2.out.at_; have f3 := H2.out.free 3; have f7 := H2.out.free 7; have hs := (H2.out.set (P' := { P with inp := P.inp.drop rn }) 3 (.string (S (P.inp.drop rn))) (fun _ _ => rfl) rfl rfl).set (P' := { P with inp := P.inp.drop rn, passed := P.passed + 1 }) 7 (.int .i64 ((P.passed : Int) + 1)) (fun _ _ => by rw [hpi.out]; rfl) rfl rfl; have ks := ((K2.out.mono (S' := [p]) (by simp)).setCell ⟨p, 3, Option.none⟩ (.string (S (P.inp.drop rn))) (by simp)).setCell ⟨p, 7, Option.none⟩ (.int .i64 ((P.passed : Int) + 1)) (by simp); have HX := Lib.hid (And.intro hs ks); clear hs ks; go_wp2_with fail; go_ret; rw [HH.out]; exact ⟨rfl, HX.out.2, X, R, HX.out.1, fun x hx => .inl hx, fun x hx => .inl hx⟩
  rw [if_neg h200] at hH; have q200 : decide (lc < 200) = false := by simpa using h200
  rw [hHP, hHA] at hH; clear h200 hHP hHA hpi wp1; generalize hcl : closesM rF lv = cl at *; have HCl2 := Lib.hid (fun w' va (ha : Sl Fld.cells 2 w' va rF) => HCl.out w' va lv ha); rw [hcl] at HCl2; have hno := @reFrame_no { P with inp := P.inp.drop rn } ⟨lc, rF, 0, false, cl⟩; have hfF := reFrame_F { P with inp := P.inp.drop rn } ⟨lc, rF, 0, false, cl⟩
  have HFm := Lib.hid (fun ab v w' (h : Re B w' p X R { P with inp := P.inp.drop rn }) (hb : Blk w' ab 30 (ansC lc v 0 false cl)) (hs : Sl Fld.cells 2 w' v rF) (hab : ab ≠ p) (h1 : ∀ x ∈ X, x ∉ [ab]) (h2 : ∀ x ∈ R, x ∉ [ab]) (hB : B ≤ w'.heap.size) =>
    reply_frame ⟨lc, rF, 0, false, cl⟩ h hc hb hs hab h1 h2 (fun x hx => by have := (hf2 x hx).1; show _ ≤ 9223372036854775807; omega) (fun x hx => by have := (hf2 x hx).2; show _ ≤ 9223372036854775807; omega) (by show rF.length ≤ _; omega) hB)
  generalize reFrame { P with inp := P.inp.drop rn } ⟨lc, rF, 0, false, cl⟩ = fr at *; obtain ⟨fp, fa, fo⟩ := fr; dsimp only at hH hno hfF; have HH := Lib.hid hH; clear hH HCl hcl hf2; go_enter Tryz.func189, Tryz.ntmps189; go_wp2_with fail; refine HSp.out.mono ?_; rintro e w1 ⟨v1, rfl, ho, k1⟩; obtain ⟨sa, sc, rfl, hml⟩ := ho.shape; clear hml; have K1 := Lib.hid k1; have HO := Lib.hid ho; clear k1 ho; go_wp2_with fail; refine (HLn.out _ K1.out).mono ?_; rintro e w2 ⟨rfl, k2⟩; have K2 := Lib.hid (K1.out.trans k2); have HO2 := Lib.hid (HO.out.keep0 k2); clear k2 c0 c1 c2 c3 c4 c5 c6 c7 c10 c11; have H2 := Lib.hid (H.out.keep0 K2.out); obtain ⟨c0, c1, c2, c3, c4, c5, c6, c7, c10, c11⟩ := H2.out.at_; have f3 := H2.out.free 3; have k3s := (Keep.refl [p] w2).setCell ⟨p, 3, Option.none⟩ (.string (S (P.inp.drop rn))) (by simp); have HS := Lib.hid (H2.out.set (P' := { P with inp := P.inp.drop rn }) 3 (.string (S (P.inp.drop rn))) (fun _ _ => rfl) rfl rfl); have KS := Lib.hid ((K2.out.mono (S' := [p]) (by simp)).trans k3s); have OS := Lib.hid (HO2.out.keep (S := [p]) k3s (fun g hg => by have := (HO2.out.lt g hg).1; simp; omega)); have HCl3 := Lib.hid (HCl2.out _ _ (OS.out.sl Fld.cells_length)); clear k3s; go_wp2_with fail; refine HCl3.out.mono ?_; rintro e w5 ⟨rfl, k5⟩; have K5 := Lib.hid (KS.out.trans (k5.mono (S' := [p]) (by simp))); have H5 := Lib.hid (HS.out.keep0 k5); have O5 := Lib.hid (OS.out.keep0 k5); have bA := Blk.newA w5 (ansC lc (Value.slice sa rF.length sc) 0 false cl).toArray 30; have kA := (Keep.refl [] w5).alloc (.cells (ansC lc (Value.slice sa rF.length sc) 0 false cl).toArray 30); generalize hwA : w5.alloc (.cells #[.int .i64 lc, (Value.slice sa rF.length sc), .int .i64 0, .bool false, .bool cl] 30) = wA; have hwA' : w5.alloc (.cells (ansC lc (Value.slice sa rF.length sc) 0 false cl).toArray 30) = wA := hwA; rw [hwA'] at bA kA; have hnX : ∀ x ∈ X, x ∉ [w5.heap.size] := fun x hx => by have := (H5.out.lo x hx).2; simp; omega
  have hnR : ∀ x ∈ R, x ∉ [w5.heap.size] := fun x hx => by have := (H5.out.ro x hx).2.1; simp; omega
  have hwp : w.heap.size ≤ w5.heap.size := K5.out.size; have HA := Lib.hid (H5.out.keep0 kA); have OA := Lib.hid (O5.out.keep0 kA); have HFm2 := Lib.hid (HFm.out w5.heap.size _ wA HA.out bA (OA.out.sl Fld.cells_length) (by have := H5.out.lt; omega) hnX hnR (Nat.le_trans HB.out (Nat.le_trans hwp kA.size))); have KA := Lib.hid (K5.out.trans (kA.mono (S' := [p]) (by simp))); have HW := Lib.hid hwp; have HSZ := Lib.hid (show w5.heap.size < wA.heap.size from bA.lt); clear k5 bA kA hwA' hnX hnR hwp; go_wp2_with fail; clear hwA; refine HFm2.out.mono ?_; rintro e w6 ⟨rfl, k6, b6, X6, h6, n6⟩; have habA := HSZ.out
  have K6 := Lib.hid (KA.out.trans' k6 (fun x hx hlt => by
    have hx' : x = p ∨ x = w5.heap.size := by simpa using hx
    rcases hx' with rfl | rfl
    · simp
    · exact absurd hlt (by have := HW.out; omega)))
  have hgw := OA.out.lt; have N6 := Lib.hid (fun x (hx : x ∈ X6) => (n6 x hx).imp id (fun hh => Nat.le_trans KA.out.size hh))
  cases fo with
  | false =>
    have hfp := hno rfl; have HF := Lib.hid (reply_fail h6); rw [hfp] at HF; clear k6 b6 h6 n6 hno hgw habA; go_wp2_with fail; refine HF.out.mono ?_; rintro e w7 ⟨rfl, h7, k7⟩; have HX := Lib.hid (And.intro h7 (K6.out.trans k7)); clear h7 k7; go_wp2_with fail; go_ret; rw [HH.out]; exact ⟨rfl, HX.out.2, X6, R, HX.out.1, N6.out, fun x hx => .inl hx⟩
  | true =>
    obtain ⟨av9, c9⟩ : ∃ av, w6.cell? ⟨p, 9, Option.none⟩ = some av := by
      obtain ⟨⟨cv, av, b1, _⟩, _⟩ := h6; exact ⟨av, b1.get (k := 9) rfl⟩
    have f9 := h6.free 9; have hXlt : ∀ x ∈ X6, x < w.heap.size ∨ wA.heap.size ≤ x := fun x hx => (n6 x hx).imp (fun hh => (H.out.lo x hh).2) id
    have o6 : Own Fld.cells 2 B 89 w6 (Value.slice sa rF.length sc) fa.F := by
      rw [hfF]
      exact (OA.out.keep k6 (fun g hg => by
        have h1 := hgw g hg; have h2 := O5.out.lt g hg; have h3 := H.out.lt
        simp; omega)).lower HB.out
    have hs := Re.setAns h6 fa b6 o6 (Nat.le_trans HB.out HW.out) (fun hh => by have := hXlt _ hh; have := HW.out; omega) (fun g hg hh => by have := hXlt _ hh; have := hgw g hg; omega); have HX := Lib.hid (And.intro hs (K6.out.setCell ⟨p, 9, Option.none⟩ (.pointer (some ⟨w5.heap.size, 0, Option.none⟩)) (by simp))); have HG := Lib.hid (fun g hg => (hgw g hg).1); clear k6 b6 h6 n6 hno hgw habA hXlt o6 hs; go_wp2_with fail; go_ret; rw [HH.out]; refine ⟨rfl, HX.out.2, X6, _, HX.out.1, N6.out, ?_⟩; intro x hx; rcases List.mem_append.1 hx with hx | hx
    · exact .inl hx
    · rcases List.mem_cons.1 hx with rfl | hx
      · exact .inr HW.out
      · exact .inr (HG.out x (by simpa using hx))
end Go.Proofs.YtlhnjkekjbbhcaaGreatDoor
