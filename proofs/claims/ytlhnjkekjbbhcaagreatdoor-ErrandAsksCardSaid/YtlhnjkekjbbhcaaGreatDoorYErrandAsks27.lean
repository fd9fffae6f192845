/- Parts of the proof of ErrandAsks, in order. No conditions but those that each theorem states. -/
import Derived.Test.YtlhnjkekjbbhcaaGreatDoorYErrandAsks0
import Derived.Lib.SlBytesConst
import Derived.Lib.LaidTab
import Derived.Lib.ItoaNum
import Derived.Lib.ItoaLen
import Derived.Sort.Grow
import Derived.Test.YtlhnjkekjbbhcaaGreatDoorYErrandAsks26
set_option linter.unusedSimpArgs false
set_option linter.unusedVariables false
namespace Go.Proofs.YtlhnjkekjbbhcaaGreatDoor
open Go.RowKit Go.Shelf
set_option maxHeartbeats 2000000 in
set_option maxRecDepth 100000 in
theorem reply_readLength {B p : Nat} {X R : List Nat} {P : ReS} {w : World} (h : Re B w p X R P) (hl : P.inp.length + P.dat.length ≤ 1048576) (hlf : (P.left : Int) ≤ 9223372036854775807) :
    Calls Tryz.prog 191 #[.pointer (some ⟨p, 0, Option.none⟩)] w fun e w' => e = .returned (.bool (readLengthR P).2) ∧ Re B w' p X R (readLengthR P).1 ∧ Keep [p] w w' := by
  obtain ⟨c0, c1, c2, c3, c4, c5, c6, c7, c10, c11⟩ := h.at_; have H := Lib.hid h; have sz2 := S_size P.inp; have sz3 := S_size P.dat
  have hE : readLengthR P = if P.left - min P.left P.inp.length = 0 then ({ P with dat := P.dat ++ P.inp.take (min P.left P.inp.length), inp := P.inp.drop (min P.left P.inp.length), left := 0, st := 4 }, true)
    else ({ P with dat := P.dat ++ P.inp.take (min P.left P.inp.length), inp := P.inp.drop (min P.left P.inp.length), left := P.left - min P.left P.inp.length }, decide (0 < min P.left P.inp.length)) := rfl
  obtain ⟨n, hn⟩ : ∃ n, min P.left P.inp.length = n := ⟨_, rfl⟩
  rw [hn] at hE; have hmin : min ((P.left : Nat) : Int) ((P.inp.length : Nat) : Int) = ((n : Nat) : Int) := by omega
  have hx1 : (S P.inp).extract 0 n = S (P.inp.take n) := by rw [S_extract]; rfl
  have hx2 : (S P.inp).extract n P.inp.length = S (P.inp.drop n) := by rw [S_extract, List.take_length]
  have sz4 : (S (P.inp.take n)).size = n := by rw [S_size, List.length_take]; omega
  have happ := S_append P.dat (P.inp.take n); have hov : ¬ 9223372036854775807 < P.dat.length + n := by omega
  have i0 : (0 : Int) ≤ (n : Int) := by omega
  have i1 : (n : Int) ≤ (P.inp.length : Int) := by omega
  obtain ⟨r, hr⟩ : ∃ r, P.left - n = r := ⟨_, rfl⟩
  have hrI : (P.left : Int) - (n : Int) = ((r : Nat) : Int) := by omega
  have w2 := IntWalk.i64_in ((r : Nat) : Int) (by omega); rw [hr] at hE; clear h hn hlf; go_enter Tryz.func191, Tryz.ntmps191
  go_upto_region 1 with fail
  go_cut [3] (fun y wx => y = .int .i64 (n : Nat) ∧ Hid (Keep [] w wx))
  case first =>
    go_region_with fail
    all_goals
      go_wp2_with fail; go_meet; exact ⟨rfl, Lib.hid (by repeat (first | exact Keep.refl _ _ | apply Keep.drew))⟩
  case rest =>
  obtain ⟨rfl, KX⟩ := hcut; have H1 := Lib.hid (H.out.keep0 KX.out); clear c0 c1 c2 c3 c4 c5 c6 c7 c10 c11 hmin; obtain ⟨c0, c1, c2, c3, c4, c5, c6, c7, c10, c11⟩ := H1.out.at_; have f4 := H1.out.free 4; have HS1 := Lib.hid (And.intro (H1.out.set (P' := { P with dat := P.dat ++ P.inp.take n }) 4 (.string (S (P.dat ++ P.inp.take n))) (fun _ _ => rfl) rfl rfl) ((KX.out.mono (S' := [p]) (by simp)).setCell ⟨p, 4, Option.none⟩ (.string (S (P.dat ++ P.inp.take n))) (by simp)))
  go_upto_region 2 with fail
  go_cut [3] (fun y wx => y = .int .i64 (n : Nat) ∧ Hid (Re B wx p X R { P with dat := P.dat ++ P.inp.take n } ∧ Keep [p] w wx))
  case first =>
    go_region_with fail
    all_goals
      go_wp2_with fail; go_meet; exact ⟨rfl, Lib.hid ⟨by repeat (first | exact HS1.out.1 | refine Re.keep0 ?_ (Keep.drew (Keep.refl _ _))), by repeat (first | exact HS1.out.2 | apply Keep.drew)⟩⟩
  case rest =>
  obtain ⟨rfl, HX⟩ := hcut; clear c0 c1 c2 c3 c4 c5 c6 c7 c10 c11 f4 HS1 H1 KX happ hov sz4; obtain ⟨c0, c1, c2, c3, c4, c5, c6, c7, c10, c11⟩ := HX.out.1.at_; have f2 := HX.out.1.free 2; have f3 := HX.out.1.free 3; have f5 := HX.out.1.free 5; have hs := (HX.out.1.set (P' := { P with dat := P.dat ++ P.inp.take n, inp := P.inp.drop n }) 3 (.string (S (P.inp.drop n))) (fun _ _ => rfl) rfl rfl).set (P' := { P with dat := P.dat ++ P.inp.take n, inp := P.inp.drop n, left := r }) 5 (.int .i64 (r : Nat)) (fun _ _ => rfl) rfl rfl; have ks := (HX.out.2.setCell ⟨p, 3, Option.none⟩ (.string (S (P.inp.drop n))) (by simp)).setCell ⟨p, 5, Option.none⟩ (.int .i64 (r : Nat)) (by simp); have HS := Lib.hid (And.intro hs ks); clear hs ks; by_cases h0 : r = 0
  · rw [if_pos h0] at hE; have HE := Lib.hid hE; have q2 : (((r : Nat) : Int) == 0) = true := by simp [h0]
    have h4 := Lib.hid ((HS.out.1.set (P' := { P with dat := P.dat ++ P.inp.take n, inp := P.inp.drop n, left := r, st := 4 }) 2 (.int .i64 4) (fun _ _ => rfl) rfl rfl)); have k4 := Lib.hid (HS.out.2.setCell ⟨p, 2, Option.none⟩ (.int .i64 4) (by simp)); have HR0 := Lib.hid h0; clear hE h0; go_wp2_with fail; go_ret; rw [HE.out]; refine ⟨rfl, ?_, k4.out⟩; have := h4.out; rw [HR0.out] at this; rw [HR0.out]; exact this
  · rw [if_neg h0] at hE; have HE := Lib.hid hE; have q2 : (((r : Nat) : Int) == 0) = false := by simp [h0]
    have q3 : decide ((n : Int) > 0) = decide (0 < n) := by rw [decide_eq_decide]; omega
    clear hE h0; go_wp2_with fail; go_ret; rw [HE.out]; exact ⟨rfl, HS.out.1, HS.out.2⟩
set_option maxHeartbeats 2000000 in
set_option maxRecDepth 100000 in
theorem reply_readClose {B p : Nat} {X R : List Nat} {P : ReS} {w : World} (h : Re B w p X R P) (hl : P.inp.length + P.dat.length ≤ 1048576) (hsz : P.size ≤ P.most) (hmo : (P.most : Int) ≤ 9223372036854775807) :
    Calls Tryz.prog 192 #[.pointer (some ⟨p, 0, Option.none⟩)] w fun e w' => e = .returned (.bool (readCloseR P).2) ∧ Re B w' p X R (readCloseR P).1 ∧ Keep [p] w w' := by
  obtain ⟨c0, c1, c2, c3, c4, c5, c6, c7, c10, c11⟩ := h.at_; have H := Lib.hid h; have sz2 := S_size P.inp; have sz3 := S_size P.dat; obtain ⟨n, hn⟩ : ∃ n, min (P.most - P.size) P.inp.length = n := ⟨_, rfl⟩
  have hC : closeP P = { P with dat := P.dat ++ P.inp.take n, size := P.size + n, inp := P.inp.drop n } := by unfold closeP; rw [hn]
  have hE : readCloseR P = if (closeP P).inp ≠ [] then (reFail (closeP P), true) else if P.shut then ({ closeP P with st := 4 }, true) else (closeP P, decide (0 < n)) := by unfold readCloseR; rw [hn]
  rw [hC] at hE; have wm := IntWalk.i64_in ((P.most : Int) - (P.size : Int)) (by omega); have hmin : min (((P.most : Nat) : Int) - ((P.size : Nat) : Int)) ((P.inp.length : Nat) : Int) = ((n : Nat) : Int) := by omega
  have hx1 : (S P.inp).extract 0 n = S (P.inp.take n) := by rw [S_extract]; rfl
  have hx2 : (S P.inp).extract n P.inp.length = S (P.inp.drop n) := by rw [S_extract, List.take_length]
  have sz4 : (S (P.inp.take n)).size = n := by rw [S_size, List.length_take]; omega
  have happ := S_append P.dat (P.inp.take n); have hov : ¬ 9223372036854775807 < P.dat.length + n := by omega
  have i0 : (0 : Int) ≤ (n : Int) := by omega
  have i1 : (n : Int) ≤ (P.inp.length : Int) := by omega
  have w2 := IntWalk.i64_in ((P.size : Int) + (n : Int)) (by omega); have hh2 := Lib.hid (show ((P.size : Int) + (n : Int)) = ((P.size + n : Nat) : Int) by omega); clear h hn hC hsz hmo; go_enter Tryz.func192, Tryz.ntmps192
  go_upto_region 1 with fail
  go_cut [3] (fun y wx => y = .int .i64 (n : Nat) ∧ Hid (Keep [] w wx))
  case first =>
    go_region_with fail
    all_goals
      go_wp2_with fail; go_meet; exact ⟨rfl, Lib.hid (by repeat (first | exact Keep.refl _ _ | apply Keep.drew))⟩
  case rest =>
  obtain ⟨rfl, KX⟩ := hcut; have H1 := Lib.hid (H.out.keep0 KX.out); clear c0 c1 c2 c3 c4 c5 c6 c7 c10 c11 hmin wm; obtain ⟨c0, c1, c2, c3, c4, c5, c6, c7, c10, c11⟩ := H1.out.at_; have f4 := H1.out.free 4; have HS1 := Lib.hid (And.intro (H1.out.set (P' := { P with dat := P.dat ++ P.inp.take n }) 4 (.string (S (P.dat ++ P.inp.take n))) (fun _ _ => rfl) rfl rfl) ((KX.out.mono (S' := [p]) (by simp)).setCell ⟨p, 4, Option.none⟩ (.string (S (P.dat ++ P.inp.take n))) (by simp)))
  go_upto_region 2 with fail
  go_cut [3] (fun y wx => y = .int .i64 (n : Nat) ∧ Hid (Re B wx p X R { P with dat := P.dat ++ P.inp.take n } ∧ Keep [p] w wx))
  case first =>
    go_region_with fail
    all_goals
      go_wp2_with fail; go_meet; exact ⟨rfl, Lib.hid ⟨by repeat (first | exact HS1.out.1 | refine Re.keep0 ?_ (Keep.drew (Keep.refl _ _))), by repeat (first | exact HS1.out.2 | apply Keep.drew)⟩⟩
  case rest =>
  obtain ⟨rfl, HX⟩ := hcut; clear c0 c1 c2 c3 c4 c5 c6 c7 c10 c11 f4 HS1 H1 KX happ hov sz4; obtain ⟨c0, c1, c2, c3, c4, c5, c6, c7, c10, c11⟩ := HX.out.1.at_; have f2 := HX.out.1.free 2; have f3 := HX.out.1.free 3; have f6 := HX.out.1.free 6; have hs := (HX.out.1.set (P' := { P with dat := P.dat ++ P.inp.take n, size := P.size + n }) 6 (.int .i64 ((P.size : Int) + (n : Int))) (fun _ _ => by rw [hh2.out]; rfl) rfl rfl).set (P' := { P with dat := P.dat ++ P.inp.take n, size := P.size + n, inp := P.inp.drop n }) 3 (.string (S (P.inp.drop n))) (fun _ _ => rfl) rfl rfl; have ks := (HX.out.2.setCell ⟨p, 6, Option.none⟩ (.int .i64 ((P.size : Int) + (n : Int))) (by simp)).setCell ⟨p, 3, Option.none⟩ (.string (S (P.inp.drop n))) (by simp); have HS := Lib.hid (And.intro hs ks); have HF := Lib.hid (reply_fail hs); clear hs ks; have tl := S_toList (P.inp.drop n); by_cases h0 : P.inp.drop n = []
  case neg =>
    rw [if_pos h0] at hE; have HE := Lib.hid hE; have te : (P.inp.drop n).isEmpty = false := by simpa [List.isEmpty_iff] using h0
    have te2 : (P.inp.drop n == []) = false := by simpa using h0
    clear hE h0; generalize hdr : P.inp.drop n = dr at *; go_wp2_with fail; refine HF.out.mono ?_; rintro e w5 ⟨rfl, h5, k5⟩; have K5 := Lib.hid (And.intro h5 (HS.out.2.trans k5)); clear h5 k5; go_wp2_with fail; go_ret; rw [HE.out]; exact ⟨rfl, K5.out.1, K5.out.2⟩
  have te : (P.inp.drop n).isEmpty = true := by rw [h0]; rfl
  have te2 : (P.inp.drop n == []) = true := by rw [h0]; rfl
  rw [if_neg (by rw [h0]; simp)] at hE; clear h0 HF
  cases hsh : P.shut with
  | true =>
    rw [if_pos hsh] at hE; have HE := Lib.hid hE; have c10' : _ := c10; rw [show ({ P with dat := P.dat ++ P.inp.take n } : ReS).shut = P.shut from rfl, hsh] at c10; have h4 := Lib.hid (And.intro (HS.out.1.set (P' := { P with dat := P.dat ++ P.inp.take n, size := P.size + n, inp := P.inp.drop n, st := 4 }) 2 (.int .i64 4) (fun _ _ => rfl) rfl rfl) (HS.out.2.setCell ⟨p, 2, Option.none⟩ (.int .i64 4) (by simp))); clear hE hsh c10'; generalize hdr : P.inp.drop n = dr at *; go_wp2_with fail; go_ret; rw [HE.out]; exact ⟨rfl, h4.out.1, h4.out.2⟩
  | false =>
    rw [if_neg (by simp [hsh])] at hE; have HE := Lib.hid hE; rw [show ({ P with dat := P.dat ++ P.inp.take n } : ReS).shut = P.shut from rfl, hsh] at c10; have q3 : decide ((n : Int) > 0) = decide (0 < n) := by rw [decide_eq_decide]; omega
    clear hE hsh; generalize hdr : P.inp.drop n = dr at *; go_wp2_with fail; go_ret; rw [HE.out]; exact ⟨rfl, HS.out.1, HS.out.2⟩
def FrOut (B : Nat) (w : World) (p ab : Nat) (X R : List Nat) (v : Value) (r : FrR) (e : Ending) (w' : World) : Prop :=
  e = .returned (.bool r.ok) ∧ Keep [p, ab] w w' ∧ Blk w' ab 30 (ansC r.a.st v r.a.len r.a.ch r.a.cl) ∧ ∃ X', Re B w' p X' R r.p ∧ ∀ x ∈ X', x ∈ X ∨ w.heap.size ≤ x
theorem Re.setChk {B p cb : Nat} {w : World} {X R : List Nat} {P : ReS} {c : Ck} (h : Re B w p X R P) (hct : Ct B w cb c.dat c (.slice Option.none 0 0)) (hp : cb ≠ p) (hR : cb ∉ R) (hB : B ≤ cb) :
    Re B (w.setCell ⟨p, 8, Option.none⟩ (.pointer (some ⟨cb, 0, Option.none⟩))) p (X ++ [cb]) R { P with chk := some c } := by
  obtain ⟨⟨cv, av, b1, b2, b3⟩, h4, h5, h6⟩ := h; have hk : Keep [p] w (w.setCell ⟨p, 8, Option.none⟩ (.pointer (some ⟨cb, 0, Option.none⟩))) := (Keep.refl _ _).setCell _ _ (by simp); refine ⟨⟨_, av, b1.set 8 (.pointer (some ⟨cb, 0, Option.none⟩)), ⟨cb, .slice Option.none 0 0, rfl, hp, by simp, hct.keep hk (by simpa using hp) (fun g hg => by simp [Value.ownBlock] at hg), fun g hg => by simp [Value.ownBlock] at hg⟩, b3.keep hk (fun y hy => by simp only [List.mem_singleton]; rintro rfl; exact (h6 _ hy).2.2 h4)⟩, by simp [h4], ?_, ?_⟩
  · intro y hy; rcases List.mem_append.1 hy with hy | hy
    · exact ⟨(h5 y hy).1, Nat.lt_of_lt_of_le (h5 y hy).2 hk.size⟩
    · have : y = cb := by simpa using hy
      subst this; exact ⟨hB, Nat.lt_of_lt_of_le hct.lt hk.size⟩
  · intro y hy; refine ⟨(h6 y hy).1, Nat.lt_of_lt_of_le (h6 y hy).2.1 hk.size, fun hh => ?_⟩; rcases List.mem_append.1 hh with hh | hh
    · exact (h6 y hy).2.2 hh
    · have : y = cb := by simpa using hh
      exact hR (this ▸ hy)
set_option maxHeartbeats 2000000 in
set_option maxRecDepth 100000 in
theorem reply_frame {B p ab : Nat} {X R : List Nat} {P : ReS} {w : World} (a : Ans) {v : Value} (h : Re B w p X R P) (_hc : P.chk = none) (hb : Blk w ab 30 (ansC a.st v a.len a.ch a.cl)) (hs : Sl Fld.cells 2 w v a.F) (hab : ab ≠ p) (hXab : ∀ x ∈ X, x ∉ [ab]) (hRab : ∀ x ∈ R, x ∉ [ab])
    (hn : ∀ x ∈ a.F, x.name.length ≤ maxLen) (hv : ∀ x ∈ a.F, x.value.length ≤ maxLen) (hF : a.F.length ≤ 4611686018427387904) (hB : B ≤ w.heap.size) :
    Calls Tryz.prog 219 #[.pointer (some ⟨p, 0, Option.none⟩), .pointer (some ⟨ab, 0, Option.none⟩)] w (FrOut B w p ab X R v (reFrame P a)) := by
  obtain ⟨c0, c1, c2, c3, c4, c5, c6, c7, c10, c11⟩ := h.at_; have H := Lib.hid h; have HB := Lib.hid hb; have a0 := hb.get (k := 0) rfl; have a1 := hb.get (k := 1) rfl
  have hE : reFrame P a = if noBody a.st P.head then ⟨{ P with st := 4 }, { a with len := max (frameM a.F 1048576).n 0 }, true⟩
    else if (frameM a.F P.most).e ≠ 0 then ⟨P, a, false⟩
    else if (frameM a.F P.most).ch then ⟨{ P with st := 1, chk := some (ck0 P.most) }, { a with ch := true }, true⟩
    else if (frameM a.F P.most).n < 0 then ⟨{ P with st := 3 }, { a with len := (frameM a.F P.most).n, cl := true }, true⟩
    else ⟨{ P with st := 2, left := (frameM a.F P.most).n.toNat }, { a with len := (frameM a.F P.most).n }, true⟩ := rfl
  have hBo := fun n => outlet_Bodyless a.st P.head (w.drewN n)
  change ∀ n, Calls _ _ _ _ (fun e w' => e = .returned (.bool (noBody a.st P.head)) ∧ w' = w.drewN n) at hBo
  have HBo := Lib.hid hBo; have HFr := Lib.hid (fun (most : Int) w' (k : Keep [] w w') => field_Frame v a.F most w' (hs.keep Fld.cells_length (by omega) hs k (by simp) (Nat.le_refl _)) hn hv hF); clear h hb hs hn hv hF hBo
  cases hnb : noBody a.st P.head with
  | true =>
    rw [hnb] at hE HBo; rw [if_pos rfl] at hE; have HE := Lib.hid hE; have HFr2 := Lib.hid (HFr.out 1048576); generalize frameM a.F 1048576 = fr at *; obtain ⟨fn, fch, fe⟩ := fr; dsimp only at HE HFr2; clear hE hnb HFr; go_enter Tryz.func219, Tryz.ntmps219
    go_upto_region 1 with fail
    go_quiet ((go_at_call 154; exact Calls.quiet_of_same (HBo.out _))); go_wp2_with fail; refine (HFr2.out _ ((Keep.refl [] w).drewN _)).mono ?_; rintro e w5 ⟨rfl, k5⟩; have K5 := Lib.hid (((Keep.refl [] w).drewN _).trans k5); clear k5 c0 c1 c2 c3 c4 c5 c6 c7 c10 c11 a0 a1 HBo HFr2; have H5 := Lib.hid (H.out.keep0 K5.out); have B5 := Lib.hid (K5.out.blk HB.out (by simp)); obtain ⟨c0, c1, c2, c3, c4, c5, c6, c7, c10, c11⟩ := H5.out.at_; have f2 := H5.out.free 2; have g2 := B5.out.get (k := 2) rfl; have gf2 := B5.out.frozen 2; have ka := (Keep.refl [ab] w5).setCell ⟨ab, 2, Option.none⟩ (.int .i64 (max fn 0)) (by simp); have h6 := Lib.hid ((H5.out.keep ka hXab hRab).set (P' := { P with st := 4 }) 2 (.int .i64 4) (fun _ _ => rfl) rfl rfl); have kp := (Keep.refl [p] (w5.setCell ⟨ab, 2, Option.none⟩ (.int .i64 (max fn 0)))).setCell ⟨p, 2, Option.none⟩ (.int .i64 4) (by simp); have b6 := Lib.hid (kp.blk (B5.out.set 2 (.int .i64 (max fn 0))) (by simpa using hab)); have k6 := Lib.hid ((K5.out.mono (S' := [p, ab]) (by simp)).trans (((Keep.refl [p, ab] w5).setCell ⟨ab, 2, Option.none⟩ (.int .i64 (max fn 0)) (by simp)).setCell ⟨p, 2, Option.none⟩ (.int .i64 4) (by simp))); clear ka kp; go_wp2_with fail; go_ret; rw [HE.out]; exact ⟨rfl, k6.out, b6.out, X, h6.out, fun x hx => .inl hx⟩
  | false =>
    rw [hnb] at hE HBo; rw [if_neg (by simp)] at hE; have HFr2 := Lib.hid (HFr.out (P.most : Int)); generalize frameM a.F (P.most : Int) = fr at *; obtain ⟨fn, fch, fe⟩ := fr; dsimp only at hE HFr2; clear hnb HFr; by_cases e1 : fe = 0
    case neg =>
      rw [if_pos e1] at hE; have HE := Lib.hid hE; have q1 := (int_ne e1).2; clear hE e1; go_enter Tryz.func219, Tryz.ntmps219
      go_upto_region 1 with fail
      go_quiet ((go_at_call 154; exact Calls.quiet_of_same (HBo.out _))); go_wp2_with fail; refine (HFr2.out _ ((Keep.refl [] w).drewN _)).mono ?_; rintro e w5 ⟨rfl, k5⟩; have K5 := Lib.hid (((Keep.refl [] w).drewN _).trans k5); clear k5 c0 c1 c2 c3 c4 c5 c6 c7 c10 c11 a0 a1 HBo HFr2; have H5 := Lib.hid (H.out.keep0 K5.out); have B5 := Lib.hid (K5.out.blk HB.out (by simp)); obtain ⟨c0, c1, c2, c3, c4, c5, c6, c7, c10, c11⟩ := H5.out.at_; go_wp2_with fail; go_ret; rw [HE.out]; exact ⟨rfl, K5.out.mono (by simp), B5.out, X, H5.out, fun x hx => .inl hx⟩
    rw [if_neg (by simp [e1])] at hE; subst e1
    cases fch with
    | true =>
      rw [if_pos rfl] at hE; have HE := Lib.hid hE; have HN := Lib.hid (fun w' (k : B ≤ w'.heap.size) => chunk_New B (P.most : Int) w' k); have HBw := Lib.hid hB; clear hE; go_enter Tryz.func219, Tryz.ntmps219
      go_upto_region 1 with fail
      go_quiet ((go_at_call 154; exact Calls.quiet_of_same (HBo.out _))); go_wp2_with fail; refine (HFr2.out _ ((Keep.refl [] w).drewN _)).mono ?_; rintro e w5 ⟨rfl, k5⟩; have K5 := Lib.hid (((Keep.refl [] w).drewN _).trans k5); clear k5 c0 c1 c2 c3 c4 c5 c6 c7 c10 c11 a0 a1 HBo HFr2; have H5 := Lib.hid (H.out.keep0 K5.out); have B5 := Lib.hid (K5.out.blk HB.out (by simp)); obtain ⟨c0, c1, c2, c3, c4, c5, c6, c7, c10, c11⟩ := H5.out.at_; go_wp2_with fail; refine (HN.out _ (Nat.le_trans HBw.out K5.out.size)).mono ?_; rintro e w6 ⟨cb, rfl, hcb, hclt, hct, k6⟩; have K6 := Lib.hid (K5.out.trans k6); have H6 := Lib.hid (H5.out.keep0 k6); have B6 := Lib.hid (k6.blk B5.out (by simp)); have hcp : cb ≠ p := by have := H5.out.lt; omega
      have hcab : cb ≠ ab := by have := B5.out.lt; omega
      have hcR : cb ∉ R := fun hh => by have := (H5.out.ro cb hh).2.1; omega
      have hcB : B ≤ cb := Nat.le_trans (Nat.le_trans HBw.out K5.out.size) hcb; have hcw : w.heap.size ≤ cb := Nat.le_trans K5.out.size hcb; clear c0 c1 c2 c3 c4 c5 c6 c7 c10 c11; obtain ⟨c0, c1, c2, c3, c4, c5, c6, c7, c10, c11⟩ := H6.out.at_
      have c8 : ∃ cv, w6.cell? ⟨p, 8, Option.none⟩ = some cv := by
        obtain ⟨⟨cv, _, b1, _⟩, _⟩ := H6.out; exact ⟨cv, b1.get (k := 8) rfl⟩
      obtain ⟨cv8, c8⟩ := c8; have f2 := H6.out.free 2; have f8 := H6.out.free 8; have g3 := B6.out.get (k := 3) rfl; have gf3 := B6.out.frozen 3; have ka := (Keep.refl [ab] w6).setCell ⟨ab, 3, Option.none⟩ (.bool true) (by simp); have kp := (Keep.refl [p] (w6.setCell ⟨ab, 3, Option.none⟩ (.bool true))).setCell ⟨p, 2, Option.none⟩ (.int .i64 1) (by simp); have kq := kp.setCell ⟨p, 8, Option.none⟩ (.pointer (some ⟨cb, 0, Option.none⟩)) (by simp); have hct2 := (hct.keep ka (by simpa using hcab) (fun g hg => by simp [Value.ownBlock] at hg)).keep kp (by simpa using hcp) (fun g hg => by simp [Value.ownBlock] at hg); have h7 := Lib.hid (Re.setChk (c := ck0 P.most) ((H6.out.keep ka hXab hRab).set (P' := { P with st := 1 }) 2 (.int .i64 1) (fun _ _ => rfl) rfl rfl) hct2 hcp hcR hcB); have b7 := Lib.hid (kq.blk (B6.out.set 3 (.bool true)) (by simpa using hab)); have k7 := Lib.hid ((K6.out.mono (S' := [p, ab]) (by simp)).trans ((((Keep.refl [p, ab] w6).setCell ⟨ab, 3, Option.none⟩ (.bool true) (by simp)).setCell ⟨p, 2, Option.none⟩ (.int .i64 1) (by simp)).setCell ⟨p, 8, Option.none⟩ (.pointer (some ⟨cb, 0, Option.none⟩)) (by simp))); have HCW := Lib.hid hcw; clear ka kp kq hct hct2 k6 hcb hclt hcp hcab hcR hcB hcw; go_wp2_with fail; go_ret; rw [HE.out]; refine ⟨rfl, k7.out, b7.out, X ++ [cb], h7.out, ?_⟩; intro x hx; rcases List.mem_append.1 hx with hh | hh
      · exact .inl hh
      · have e : x = cb := by simpa using hh
        rw [e]; exact .inr HCW.out
    | false =>
      rw [if_neg (by simp)] at hE; by_cases h0 : fn < 0
      · rw [if_pos h0] at hE; have HE := Lib.hid hE; have q2 : decide (fn < 0) = true := by simpa using h0
        clear hE h0; go_enter Tryz.func219, Tryz.ntmps219
        go_upto_region 1 with fail
        go_quiet ((go_at_call 154; exact Calls.quiet_of_same (HBo.out _))); go_wp2_with fail; refine (HFr2.out _ ((Keep.refl [] w).drewN _)).mono ?_; rintro e w5 ⟨rfl, k5⟩; have K5 := Lib.hid (((Keep.refl [] w).drewN _).trans k5); clear k5 c0 c1 c2 c3 c4 c5 c6 c7 c10 c11 a0 a1 HBo HFr2; have H5 := Lib.hid (H.out.keep0 K5.out); have B5 := Lib.hid (K5.out.blk HB.out (by simp)); obtain ⟨c0, c1, c2, c3, c4, c5, c6, c7, c10, c11⟩ := H5.out.at_; have f2 := H5.out.free 2; have g2 := B5.out.get (k := 2) rfl; have gf2 := B5.out.frozen 2; have gf4 := B5.out.frozen 4; have g4 := B5.out.get (k := 4) rfl; have ka := ((Keep.refl [ab] w5).setCell ⟨ab, 2, Option.none⟩ (.int .i64 fn) (by simp)).setCell ⟨ab, 4, Option.none⟩ (.bool true) (by simp); have h6 := Lib.hid ((H5.out.keep ka hXab hRab).set (P' := { P with st := 3 }) 2 (.int .i64 3) (fun _ _ => rfl) rfl rfl); have kp := (Keep.refl [p] ((w5.setCell ⟨ab, 2, Option.none⟩ (.int .i64 fn)).setCell ⟨ab, 4, Option.none⟩ (.bool true))).setCell ⟨p, 2, Option.none⟩ (.int .i64 3) (by simp); have b6 := Lib.hid (kp.blk ((B5.out.set 2 (.int .i64 fn)).set 4 (.bool true)) (by simpa using hab)); have k6 := Lib.hid ((K5.out.mono (S' := [p, ab]) (by simp)).trans ((((Keep.refl [p, ab] w5).setCell ⟨ab, 2, Option.none⟩ (.int .i64 fn) (by simp)).setCell ⟨ab, 4, Option.none⟩ (.bool true) (by simp)).setCell ⟨p, 2, Option.none⟩ (.int .i64 3) (by simp))); clear ka kp; go_wp2_with fail; go_ret; rw [HE.out]; exact ⟨rfl, k6.out, b6.out, X, h6.out, fun x hx => .inl hx⟩
      · rw [if_neg h0] at hE; obtain ⟨m, hm⟩ : ∃ m : Nat, fn = (m : Nat) := ⟨fn.toNat, by omega⟩
        subst hm; rw [Int.toNat_natCast] at hE; have HE := Lib.hid hE; have q2 : decide (((m : Nat) : Int) < 0) = false := by simp
        clear hE h0; go_enter Tryz.func219, Tryz.ntmps219
        go_upto_region 1 with fail
        go_quiet ((go_at_call 154; exact Calls.quiet_of_same (HBo.out _))); go_wp2_with fail; refine (HFr2.out _ ((Keep.refl [] w).drewN _)).mono ?_; rintro e w5 ⟨rfl, k5⟩; have K5 := Lib.hid (((Keep.refl [] w).drewN _).trans k5); clear k5 c0 c1 c2 c3 c4 c5 c6 c7 c10 c11 a0 a1 HBo HFr2; have H5 := Lib.hid (H.out.keep0 K5.out); have B5 := Lib.hid (K5.out.blk HB.out (by simp)); obtain ⟨c0, c1, c2, c3, c4, c5, c6, c7, c10, c11⟩ := H5.out.at_; have f2 := H5.out.free 2; have f5 := H5.out.free 5; have g2 := B5.out.get (k := 2) rfl; have gf2 := B5.out.frozen 2; have ka := (Keep.refl [ab] w5).setCell ⟨ab, 2, Option.none⟩ (.int .i64 (m : Nat)) (by simp); have h6 := Lib.hid (((H5.out.keep ka hXab hRab).set (P' := { P with left := m }) 5 (.int .i64 (m : Nat)) (fun _ _ => rfl) rfl rfl).set (P' := { P with left := m, st := 2 }) 2 (.int .i64 2) (fun _ _ => rfl) rfl rfl); have kp := ((Keep.refl [p] (w5.setCell ⟨ab, 2, Option.none⟩ (.int .i64 (m : Nat)))).setCell ⟨p, 5, Option.none⟩ (.int .i64 (m : Nat)) (by simp)).setCell ⟨p, 2, Option.none⟩ (.int .i64 2) (by simp); have b6 := Lib.hid (kp.blk (B5.out.set 2 (.int .i64 (m : Nat))) (by simpa using hab)); have k6 := Lib.hid ((K5.out.mono (S' := [p, ab]) (by simp)).trans ((((Keep.refl [p, ab] w5).setCell ⟨ab, 2, Option.none⟩ (.int .i64 (m : Nat)) (by simp)).setCell ⟨p, 5, Option.none⟩ (.int .i64 (m : Nat)) (by simp)).setCell ⟨p, 2, Option.none⟩ (.int .i64 2) (by simp))); clear ka kp; go_wp2_with fail; go_ret; rw [HE.out]; exact ⟨rfl, k6.out, b6.out, X, h6.out, fun x hx => .inl hx⟩
end Go.Proofs.YtlhnjkekjbbhcaaGreatDoor
