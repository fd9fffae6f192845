/- Parts of the proof, in order. No conditions but those that each theorem states. -/
import Derived.Test.YtdmffbefppjllaaGreatDoorZB3
import Derived.Deep.MidRow
/- Layer 14: readLength, readClose. No conditions but on lengths. -/
namespace Go.Proofs.YtdmffbefppjllaaGreatDoor
open Go.RowKit Go.Shelf

set_option maxHeartbeats 2000000 in
set_option maxRecDepth 100000 in
theorem reply_readLength {B p : Nat} {X R : List Nat} {P : ReS} {w : World} (h : Re B w p X R P) (hl : P.inp.length + P.dat.length ≤ 1048576) (hlf : (P.left : Int) ≤ 9223372036854775807) :
    Calls Tryz.prog 60 #[.pointer (some ⟨p, 0, Option.none⟩)] w fun e w' => e = .returned (.bool (readLengthR P).2) ∧ Re B w' p X R (readLengthR P).1 ∧ Keep [p] w w' := by
  obtain ⟨c0, c1, c2, c3, c4, c5, c6, c7, c10, c11⟩ := h.at_
  have H := Lib.hid h
  have sz2 := S_size P.inp
  have sz3 := S_size P.dat
  have hE : readLengthR P = if P.left - min P.left P.inp.length = 0 then ({ P with dat := P.dat ++ P.inp.take (min P.left P.inp.length), inp := P.inp.drop (min P.left P.inp.length), left := 0, st := 4 }, true)
    else ({ P with dat := P.dat ++ P.inp.take (min P.left P.inp.length), inp := P.inp.drop (min P.left P.inp.length), left := P.left - min P.left P.inp.length }, decide (0 < min P.left P.inp.length)) := rfl
  obtain ⟨n, hn⟩ : ∃ n, min P.left P.inp.length = n := ⟨_, rfl⟩
  rw [hn] at hE
  have hmin : min ((P.left : Nat) : Int) ((P.inp.length : Nat) : Int) = ((n : Nat) : Int) := by omega
  have hx1 : (S P.inp).extract 0 n = S (P.inp.take n) := by rw [S_extract]; rfl
  have hx2 : (S P.inp).extract n P.inp.length = S (P.inp.drop n) := by rw [S_extract, List.take_length]
  have sz4 : (S (P.inp.take n)).size = n := by rw [S_size, List.length_take]; omega
  have happ := S_append P.dat (P.inp.take n)
  have hov : ¬ 9223372036854775807 < P.dat.length + n := by omega
  have i0 : (0 : Int) ≤ (n : Int) := by omega
  have i1 : (n : Int) ≤ (P.inp.length : Int) := by omega
  obtain ⟨r, hr⟩ : ∃ r, P.left - n = r := ⟨_, rfl⟩
  have hrI : (P.left : Int) - (n : Int) = ((r : Nat) : Int) := by omega
  have w2 := IntWalk.i64_in ((r : Nat) : Int) (by omega)
  rw [hr] at hE
  clear h hn hlf
  go_enter Tryz.func60, Tryz.ntmps60
  go_upto_region 1 with fail
  go_cut [3] (fun y wx => y = .int .i64 (n : Nat) ∧ Hid (Keep [] w wx))
  case first =>
    go_region_with fail
    all_goals
      go_wp2_with fail
      go_meet
      exact ⟨rfl, Lib.hid (by repeat (first | exact Keep.refl _ _ | apply Keep.drew))⟩
  case rest =>
  obtain ⟨rfl, KX⟩ := hcut
  have H1 := Lib.hid (H.out.keep0 KX.out)
  clear c0 c1 c2 c3 c4 c5 c6 c7 c10 c11 hmin
  obtain ⟨c0, c1, c2, c3, c4, c5, c6, c7, c10, c11⟩ := H1.out.at_
  have f4 := H1.out.free 4
  have HS1 := Lib.hid (And.intro (H1.out.set (P' := { P with dat := P.dat ++ P.inp.take n }) 4 (.string (S (P.dat ++ P.inp.take n))) (fun _ _ => rfl) rfl rfl) ((KX.out.mono (S' := [p]) (by simp)).setCell ⟨p, 4, Option.none⟩ (.string (S (P.dat ++ P.inp.take n))) (by simp)))
  go_upto_region 2 with fail
  go_cut [3] (fun y wx => y = .int .i64 (n : Nat) ∧ Hid (Re B wx p X R { P with dat := P.dat ++ P.inp.take n } ∧ Keep [p] w wx))
  case first =>
    go_region_with fail
    all_goals
      go_wp2_with fail
      go_meet
      exact ⟨rfl, Lib.hid ⟨by repeat (first | exact HS1.out.1 | refine Re.keep0 ?_ (Keep.drew (Keep.refl _ _))), by repeat (first | exact HS1.out.2 | apply Keep.drew)⟩⟩
  case rest =>
  obtain ⟨rfl, HX⟩ := hcut
  clear c0 c1 c2 c3 c4 c5 c6 c7 c10 c11 f4 HS1 H1 KX happ hov sz4
  obtain ⟨c0, c1, c2, c3, c4, c5, c6, c7, c10, c11⟩ := HX.out.1.at_
  have f2 := HX.out.1.free 2
  have f3 := HX.out.1.free 3
  have f5 := HX.out.1.free 5
  have hs := (HX.out.1.set (P' := { P with dat := P.dat ++ P.inp.take n, inp := P.inp.drop n }) 3 (.string (S (P.inp.drop n))) (fun _ _ => rfl) rfl rfl).set (P' := { P with dat := P.dat ++ P.inp.take n, inp := P.inp.drop n, left := r }) 5 (.int .i64 (r : Nat)) (fun _ _ => rfl) rfl rfl
  have ks := (HX.out.2.setCell ⟨p, 3, Option.none⟩ (.string (S (P.inp.drop n))) (by simp)).setCell ⟨p, 5, Option.none⟩ (.int .i64 (r : Nat)) (by simp)
  have HS := Lib.hid (And.intro hs ks)
  clear hs ks
  by_cases h0 : r = 0
  · rw [if_pos h0] at hE
    have HE := Lib.hid hE
    have q2 : (((r : Nat) : Int) == 0) = true := by simp [h0]
    have h4 := Lib.hid ((HS.out.1.set (P' := { P with dat := P.dat ++ P.inp.take n, inp := P.inp.drop n, left := r, st := 4 }) 2 (.int .i64 4) (fun _ _ => rfl) rfl rfl))
    have k4 := Lib.hid (HS.out.2.setCell ⟨p, 2, Option.none⟩ (.int .i64 4) (by simp))
    have HR0 := Lib.hid h0
    clear hE h0
    go_wp2_with fail
    go_ret
    rw [HE.out]
    refine ⟨rfl, ?_, k4.out⟩
    have := h4.out
    rw [HR0.out] at this
    rw [HR0.out]
    exact this
  · rw [if_neg h0] at hE
    have HE := Lib.hid hE
    have q2 : (((r : Nat) : Int) == 0) = false := by simp [h0]
    have q3 : decide ((n : Int) > 0) = decide (0 < n) := by rw [decide_eq_decide]; omega
    clear hE h0
    go_wp2_with fail
    go_ret
    rw [HE.out]
    exact ⟨rfl, HS.out.1, HS.out.2⟩
set_option maxHeartbeats 2000000 in
set_option maxRecDepth 100000 in
theorem reply_readClose {B p : Nat} {X R : List Nat} {P : ReS} {w : World} (h : Re B w p X R P) (hl : P.inp.length + P.dat.length ≤ 1048576) (hsz : P.size ≤ P.most) (hmo : (P.most : Int) ≤ 9223372036854775807) :
    Calls Tryz.prog 61 #[.pointer (some ⟨p, 0, Option.none⟩)] w fun e w' => e = .returned (.bool (readCloseR P).2) ∧ Re B w' p X R (readCloseR P).1 ∧ Keep [p] w w' := by
  obtain ⟨c0, c1, c2, c3, c4, c5, c6, c7, c10, c11⟩ := h.at_
  have H := Lib.hid h
  have sz2 := S_size P.inp
  have sz3 := S_size P.dat
  obtain ⟨n, hn⟩ : ∃ n, min (P.most - P.size) P.inp.length = n := ⟨_, rfl⟩
  have hC : closeP P = { P with dat := P.dat ++ P.inp.take n, size := P.size + n, inp := P.inp.drop n } := by unfold closeP; rw [hn]
  have hE : readCloseR P = if (closeP P).inp ≠ [] then (reFail (closeP P), true) else if P.shut then ({ closeP P with st := 4 }, true) else (closeP P, decide (0 < n)) := by unfold readCloseR; rw [hn]
  rw [hC] at hE
  have wm := IntWalk.i64_in ((P.most : Int) - (P.size : Int)) (by omega)
  have hmin : min (((P.most : Nat) : Int) - ((P.size : Nat) : Int)) ((P.inp.length : Nat) : Int) = ((n : Nat) : Int) := by omega
  have hx1 : (S P.inp).extract 0 n = S (P.inp.take n) := by rw [S_extract]; rfl
  have hx2 : (S P.inp).extract n P.inp.length = S (P.inp.drop n) := by rw [S_extract, List.take_length]
  have sz4 : (S (P.inp.take n)).size = n := by rw [S_size, List.length_take]; omega
  have happ := S_append P.dat (P.inp.take n)
  have hov : ¬ 9223372036854775807 < P.dat.length + n := by omega
  have i0 : (0 : Int) ≤ (n : Int) := by omega
  have i1 : (n : Int) ≤ (P.inp.length : Int) := by omega
  have w2 := IntWalk.i64_in ((P.size : Int) + (n : Int)) (by omega)
  have hh2 := Lib.hid (show ((P.size : Int) + (n : Int)) = ((P.size + n : Nat) : Int) by omega)
  clear h hn hC hsz hmo
  go_enter Tryz.func61, Tryz.ntmps61
  go_upto_region 1 with fail
  go_cut [3] (fun y wx => y = .int .i64 (n : Nat) ∧ Hid (Keep [] w wx))
  case first =>
    go_region_with fail
    all_goals
      go_wp2_with fail
      go_meet
      exact ⟨rfl, Lib.hid (by repeat (first | exact Keep.refl _ _ | apply Keep.drew))⟩
  case rest =>
  obtain ⟨rfl, KX⟩ := hcut
  have H1 := Lib.hid (H.out.keep0 KX.out)
  clear c0 c1 c2 c3 c4 c5 c6 c7 c10 c11 hmin wm
  obtain ⟨c0, c1, c2, c3, c4, c5, c6, c7, c10, c11⟩ := H1.out.at_
  have f4 := H1.out.free 4
  have HS1 := Lib.hid (And.intro (H1.out.set (P' := { P with dat := P.dat ++ P.inp.take n }) 4 (.string (S (P.dat ++ P.inp.take n))) (fun _ _ => rfl) rfl rfl) ((KX.out.mono (S' := [p]) (by simp)).setCell ⟨p, 4, Option.none⟩ (.string (S (P.dat ++ P.inp.take n))) (by simp)))
  go_upto_region 2 with fail
  go_cut [3] (fun y wx => y = .int .i64 (n : Nat) ∧ Hid (Re B wx p X R { P with dat := P.dat ++ P.inp.take n } ∧ Keep [p] w wx))
  case first =>
    go_region_with fail
    all_goals
      go_wp2_with fail
      go_meet
      exact ⟨rfl, Lib.hid ⟨by repeat (first | exact HS1.out.1 | refine Re.keep0 ?_ (Keep.drew (Keep.refl _ _))), by repeat (first | exact HS1.out.2 | apply Keep.drew)⟩⟩
  case rest =>
  obtain ⟨rfl, HX⟩ := hcut
  clear c0 c1 c2 c3 c4 c5 c6 c7 c10 c11 f4 HS1 H1 KX happ hov sz4
  obtain ⟨c0, c1, c2, c3, c4, c5, c6, c7, c10, c11⟩ := HX.out.1.at_
  have f2 := HX.out.1.free 2
  have f3 := HX.out.1.free 3
  have f6 := HX.out.1.free 6
  have hs := (HX.out.1.set (P' := { P with dat := P.dat ++ P.inp.take n, size := P.size + n }) 6 (.int .i64 ((P.size : Int) + (n : Int))) (fun _ _ => by rw [hh2.out]; rfl) rfl rfl).set (P' := { P with dat := P.dat ++ P.inp.take n, size := P.size + n, inp := P.inp.drop n }) 3 (.string (S (P.inp.drop n))) (fun _ _ => rfl) rfl rfl
  have ks := (HX.out.2.setCell ⟨p, 6, Option.none⟩ (.int .i64 ((P.size : Int) + (n : Int))) (by simp)).setCell ⟨p, 3, Option.none⟩ (.string (S (P.inp.drop n))) (by simp)
  have HS := Lib.hid (And.intro hs ks)
  have HF := Lib.hid (reply_fail hs)
  clear hs ks
  have tl := S_toList (P.inp.drop n)
  by_cases h0 : P.inp.drop n = []
  case neg =>
    rw [if_pos h0] at hE
    have HE := Lib.hid hE
    have te : (P.inp.drop n).isEmpty = false := by simpa [List.isEmpty_iff] using h0
    have te2 : (P.inp.drop n == []) = false := by simpa using h0
    clear hE h0
    generalize hdr : P.inp.drop n = dr at *
    go_wp2_with fail
    refine HF.out.mono ?_
    rintro e w5 ⟨rfl, h5, k5⟩
    have K5 := Lib.hid (And.intro h5 (HS.out.2.trans k5))
    clear h5 k5
    go_wp2_with fail
    go_ret
    rw [HE.out]
    exact ⟨rfl, K5.out.1, K5.out.2⟩
  have te : (P.inp.drop n).isEmpty = true := by rw [h0]; rfl
  have te2 : (P.inp.drop n == []) = true := by rw [h0]; rfl
  rw [if_neg (by rw [h0]; simp)] at hE
  clear h0 HF
  cases hsh : P.shut with
  | true =>
    rw [if_pos hsh] at hE
    have HE := Lib.hid hE
    have c10' : _ := c10
    rw [show ({ P with dat := P.dat ++ P.inp.take n } : ReS).shut = P.shut from rfl, hsh] at c10
    have h4 := Lib.hid (And.intro (HS.out.1.set (P' := { P with dat := P.dat ++ P.inp.take n, size := P.size + n, inp := P.inp.drop n, st := 4 }) 2 (.int .i64 4) (fun _ _ => rfl) rfl rfl) (HS.out.2.setCell ⟨p, 2, Option.none⟩ (.int .i64 4) (by simp)))
    clear hE hsh c10'
    generalize hdr : P.inp.drop n = dr at *
    go_wp2_with fail
    go_ret
    rw [HE.out]
    exact ⟨rfl, h4.out.1, h4.out.2⟩
  | false =>
    rw [if_neg (by simp [hsh])] at hE
    have HE := Lib.hid hE
    rw [show ({ P with dat := P.dat ++ P.inp.take n } : ReS).shut = P.shut from rfl, hsh] at c10
    have q3 : decide ((n : Int) > 0) = decide (0 < n) := by rw [decide_eq_decide]; omega
    clear hE hsh
    generalize hdr : P.inp.drop n = dr at *
    go_wp2_with fail
    go_ret
    rw [HE.out]
    exact ⟨rfl, HS.out.1, HS.out.2⟩
end Go.Proofs.YtdmffbefppjllaaGreatDoor

/- Layer 14: frame. No conditions but on lengths. -/
namespace Go.Proofs.YtdmffbefppjllaaGreatDoor
open Go.RowKit Go.Shelf

/-- what frame leaves: the reply, the answer's block -/
def FrOut (B : Nat) (w : World) (p ab : Nat) (X R : List Nat) (v : Value) (r : FrR) (e : Ending) (w' : World) : Prop :=
  e = .returned (.bool r.ok) ∧ Keep [p, ab] w w' ∧ Blk w' ab 47 (ansC r.a.st v r.a.len r.a.ch r.a.cl) ∧ ∃ X', Re B w' p X' R r.p ∧ ∀ x ∈ X', x ∈ X ∨ w.heap.size ≤ x

/-- a new body's reader is laid into the reply -/
theorem Re.setChk {B p cb : Nat} {w : World} {X R : List Nat} {P : ReS} {c : Ck} (h : Re B w p X R P) (hct : Ct B w cb c.dat c (.slice Option.none 0 0)) (hp : cb ≠ p) (hR : cb ∉ R) (hB : B ≤ cb) :
    Re B (w.setCell ⟨p, 8, Option.none⟩ (.pointer (some ⟨cb, 0, Option.none⟩))) p (X ++ [cb]) R { P with chk := some c } := by
  obtain ⟨⟨cv, av, b1, b2, b3⟩, h4, h5, h6⟩ := h
  have hk : Keep [p] w (w.setCell ⟨p, 8, Option.none⟩ (.pointer (some ⟨cb, 0, Option.none⟩))) := (Keep.refl _ _).setCell _ _ (by simp)
  refine ⟨⟨_, av, b1.set 8 (.pointer (some ⟨cb, 0, Option.none⟩)), ⟨cb, .slice Option.none 0 0, rfl, hp, by simp, hct.keep hk (by simpa using hp) (fun g hg => by simp [Value.ownBlock] at hg), fun g hg => by simp [Value.ownBlock] at hg⟩, b3.keep hk (fun y hy => by simp only [List.mem_singleton]; rintro rfl; exact (h6 _ hy).2.2 h4)⟩, by simp [h4], ?_, ?_⟩
  · intro y hy
    rcases List.mem_append.1 hy with hy | hy
    · exact ⟨(h5 y hy).1, Nat.lt_of_lt_of_le (h5 y hy).2 hk.size⟩
    · have : y = cb := by simpa using hy
      subst this
      exact ⟨hB, Nat.lt_of_lt_of_le hct.lt hk.size⟩
  · intro y hy
    refine ⟨(h6 y hy).1, Nat.lt_of_lt_of_le (h6 y hy).2.1 hk.size, fun hh => ?_⟩
    rcases List.mem_append.1 hh with hh | hh
    · exact (h6 y hy).2.2 hh
    · have : y = cb := by simpa using hh
      exact hR (this ▸ hy)

set_option maxHeartbeats 2000000 in
set_option maxRecDepth 100000 in
theorem reply_frame {B p ab : Nat} {X R : List Nat} {P : ReS} {w : World} (a : Ans) {v : Value} (h : Re B w p X R P) (_hc : P.chk = none) (hb : Blk w ab 47 (ansC a.st v a.len a.ch a.cl)) (hs : Sl Fld.cells 2 w v a.F) (hab : ab ≠ p) (hXab : ∀ x ∈ X, x ∉ [ab]) (hRab : ∀ x ∈ R, x ∉ [ab])
    (hn : ∀ x ∈ a.F, x.name.length ≤ maxLen) (hv : ∀ x ∈ a.F, x.value.length ≤ maxLen) (hF : a.F.length ≤ 4611686018427387904) (hB : B ≤ w.heap.size) :
    Calls Tryz.prog 77 #[.pointer (some ⟨p, 0, Option.none⟩), .pointer (some ⟨ab, 0, Option.none⟩)] w (FrOut B w p ab X R v (reFrame P a)) := by
  obtain ⟨c0, c1, c2, c3, c4, c5, c6, c7, c10, c11⟩ := h.at_
  have H := Lib.hid h
  have HB := Lib.hid hb
  have a0 := hb.get (k := 0) rfl
  have a1 := hb.get (k := 1) rfl
  have hE : reFrame P a = if noBody a.st P.head then ⟨{ P with st := 4 }, { a with len := max (frameM a.F 1048576).n 0 }, true⟩
    else if (frameM a.F P.most).e ≠ 0 then ⟨P, a, false⟩
    else if (frameM a.F P.most).ch then ⟨{ P with st := 1, chk := some (ck0 P.most) }, { a with ch := true }, true⟩
    else if (frameM a.F P.most).n < 0 then ⟨{ P with st := 3 }, { a with len := (frameM a.F P.most).n, cl := true }, true⟩
    else ⟨{ P with st := 2, left := (frameM a.F P.most).n.toNat }, { a with len := (frameM a.F P.most).n }, true⟩ := rfl
  have hBo := fun n => outlet_Bodyless a.st P.head (w.drewN n)
  change ∀ n, Calls _ _ _ _ (fun e w' => e = .returned (.bool (noBody a.st P.head)) ∧ w' = w.drewN n) at hBo
  have HBo := Lib.hid hBo
  have HFr := Lib.hid (fun (most : Int) w' (k : Keep [] w w') => field_Frame v a.F most w' (hs.keep Fld.cells_length (by omega) hs k (by simp) (Nat.le_refl _)) hn hv hF)
  clear h hb hs hn hv hF hBo
  cases hnb : noBody a.st P.head with
  | true =>
    rw [hnb] at hE HBo
    rw [if_pos rfl] at hE
    have HE := Lib.hid hE
    have HFr2 := Lib.hid (HFr.out 1048576)
    generalize frameM a.F 1048576 = fr at *
    obtain ⟨fn, fch, fe⟩ := fr
    dsimp only at HE HFr2
    clear hE hnb HFr
    go_enter Tryz.func77, Tryz.ntmps77
    go_upto_region 1 with fail
    go_quiet ((go_at_call 23; exact Calls.quiet_of_same (HBo.out _)))
    go_wp2_with fail
    refine (HFr2.out _ ((Keep.refl [] w).drewN _)).mono ?_
    rintro e w5 ⟨rfl, k5⟩
    have K5 := Lib.hid (((Keep.refl [] w).drewN _).trans k5)
    clear k5 c0 c1 c2 c3 c4 c5 c6 c7 c10 c11 a0 a1 HBo HFr2
    have H5 := Lib.hid (H.out.keep0 K5.out)
    have B5 := Lib.hid (K5.out.blk HB.out (by simp))
    obtain ⟨c0, c1, c2, c3, c4, c5, c6, c7, c10, c11⟩ := H5.out.at_
    have f2 := H5.out.free 2
    have g2 := B5.out.get (k := 2) rfl
    have gf2 := B5.out.frozen 2
    have ka := (Keep.refl [ab] w5).setCell ⟨ab, 2, Option.none⟩ (.int .i64 (max fn 0)) (by simp)
    have h6 := Lib.hid ((H5.out.keep ka hXab hRab).set (P' := { P with st := 4 }) 2 (.int .i64 4) (fun _ _ => rfl) rfl rfl)
    have kp := (Keep.refl [p] (w5.setCell ⟨ab, 2, Option.none⟩ (.int .i64 (max fn 0)))).setCell ⟨p, 2, Option.none⟩ (.int .i64 4) (by simp)
    have b6 := Lib.hid (kp.blk (B5.out.set 2 (.int .i64 (max fn 0))) (by simpa using hab))
    have k6 := Lib.hid ((K5.out.mono (S' := [p, ab]) (by simp)).trans (((Keep.refl [p, ab] w5).setCell ⟨ab, 2, Option.none⟩ (.int .i64 (max fn 0)) (by simp)).setCell ⟨p, 2, Option.none⟩ (.int .i64 4) (by simp)))
    clear ka kp
    go_wp2_with fail
    go_ret
    rw [HE.out]
    exact ⟨rfl, k6.out, b6.out, X, h6.out, fun x hx => .inl hx⟩
  | false =>
    rw [hnb] at hE HBo
    rw [if_neg (by simp)] at hE
    have HFr2 := Lib.hid (HFr.out (P.most : Int))
    generalize frameM a.F (P.most : Int) = fr at *
    obtain ⟨fn, fch, fe⟩ := fr
    dsimp only at hE HFr2
    clear hnb HFr
    by_cases e1 : fe = 0
    case neg =>
      rw [if_pos e1] at hE
      have HE := Lib.hid hE
      have q1 := (int_ne e1).2
      clear hE e1
      go_enter Tryz.func77, Tryz.ntmps77
      go_upto_region 1 with fail
      go_quiet ((go_at_call 23; exact Calls.quiet_of_same (HBo.out _)))
      go_wp2_with fail
      refine (HFr2.out _ ((Keep.refl [] w).drewN _)).mono ?_
      rintro e w5 ⟨rfl, k5⟩
      have K5 := Lib.hid (((Keep.refl [] w).drewN _).trans k5)
      clear k5 c0 c1 c2 c3 c4 c5 c6 c7 c10 c11 a0 a1 HBo HFr2
      have H5 := Lib.hid (H.out.keep0 K5.out)
      have B5 := Lib.hid (K5.out.blk HB.out (by simp))
      obtain ⟨c0, c1, c2, c3, c4, c5, c6, c7, c10, c11⟩ := H5.out.at_
      go_wp2_with fail
      go_ret
      rw [HE.out]
      exact ⟨rfl, K5.out.mono (by simp), B5.out, X, H5.out, fun x hx => .inl hx⟩
    rw [if_neg (by simp [e1])] at hE
    subst e1
    cases fch with
    | true =>
      rw [if_pos rfl] at hE
      have HE := Lib.hid hE
      have HN := Lib.hid (fun w' (k : B ≤ w'.heap.size) => chunk_New B (P.most : Int) w' k)
      have HBw := Lib.hid hB
      clear hE
      go_enter Tryz.func77, Tryz.ntmps77
      go_upto_region 1 with fail
      go_quiet ((go_at_call 23; exact Calls.quiet_of_same (HBo.out _)))
      go_wp2_with fail
      refine (HFr2.out _ ((Keep.refl [] w).drewN _)).mono ?_
      rintro e w5 ⟨rfl, k5⟩
      have K5 := Lib.hid (((Keep.refl [] w).drewN _).trans k5)
      clear k5 c0 c1 c2 c3 c4 c5 c6 c7 c10 c11 a0 a1 HBo HFr2
      have H5 := Lib.hid (H.out.keep0 K5.out)
      have B5 := Lib.hid (K5.out.blk HB.out (by simp))
      obtain ⟨c0, c1, c2, c3, c4, c5, c6, c7, c10, c11⟩ := H5.out.at_
      go_wp2_with fail
      refine (HN.out _ (Nat.le_trans HBw.out K5.out.size)).mono ?_
      rintro e w6 ⟨cb, rfl, hcb, hclt, hct, k6⟩
      have K6 := Lib.hid (K5.out.trans k6)
      have H6 := Lib.hid (H5.out.keep0 k6)
      have B6 := Lib.hid (k6.blk B5.out (by simp))
      have hcp : cb ≠ p := by have := H5.out.lt; omega
      have hcab : cb ≠ ab := by have := B5.out.lt; omega
      have hcR : cb ∉ R := fun hh => by have := (H5.out.ro cb hh).2.1; omega
      have hcB : B ≤ cb := Nat.le_trans (Nat.le_trans HBw.out K5.out.size) hcb
      have hcw : w.heap.size ≤ cb := Nat.le_trans K5.out.size hcb
      clear c0 c1 c2 c3 c4 c5 c6 c7 c10 c11
      obtain ⟨c0, c1, c2, c3, c4, c5, c6, c7, c10, c11⟩ := H6.out.at_
      have c8 : ∃ cv, w6.cell? ⟨p, 8, Option.none⟩ = some cv := by
        obtain ⟨⟨cv, _, b1, _⟩, _⟩ := H6.out
        exact ⟨cv, b1.get (k := 8) rfl⟩
      obtain ⟨cv8, c8⟩ := c8
      have f2 := H6.out.free 2
      have f8 := H6.out.free 8
      have g3 := B6.out.get (k := 3) rfl
      have gf3 := B6.out.frozen 3
      have ka := (Keep.refl [ab] w6).setCell ⟨ab, 3, Option.none⟩ (.bool true) (by simp)
      have kp := (Keep.refl [p] (w6.setCell ⟨ab, 3, Option.none⟩ (.bool true))).setCell ⟨p, 2, Option.none⟩ (.int .i64 1) (by simp)
      have kq := kp.setCell ⟨p, 8, Option.none⟩ (.pointer (some ⟨cb, 0, Option.none⟩)) (by simp)
      have hct2 := (hct.keep ka (by simpa using hcab) (fun g hg => by simp [Value.ownBlock] at hg)).keep kp (by simpa using hcp) (fun g hg => by simp [Value.ownBlock] at hg)
      have h7 := Lib.hid (Re.setChk (c := ck0 P.most) ((H6.out.keep ka hXab hRab).set (P' := { P with st := 1 }) 2 (.int .i64 1) (fun _ _ => rfl) rfl rfl) hct2 hcp hcR hcB)
      have b7 := Lib.hid (kq.blk (B6.out.set 3 (.bool true)) (by simpa using hab))
      have k7 := Lib.hid ((K6.out.mono (S' := [p, ab]) (by simp)).trans ((((Keep.refl [p, ab] w6).setCell ⟨ab, 3, Option.none⟩ (.bool true) (by simp)).setCell ⟨p, 2, Option.none⟩ (.int .i64 1) (by simp)).setCell ⟨p, 8, Option.none⟩ (.pointer (some ⟨cb, 0, Option.none⟩)) (by simp)))
      have HCW := Lib.hid hcw
      clear ka kp kq hct hct2 k6 hcb hclt hcp hcab hcR hcB hcw
      go_wp2_with fail
      go_ret
      rw [HE.out]
      refine ⟨rfl, k7.out, b7.out, X ++ [cb], h7.out, ?_⟩
      intro x hx
      rcases List.mem_append.1 hx with hh | hh
      · exact .inl hh
      · have e : x = cb := by simpa using hh
        rw [e]; exact .inr HCW.out
    | false =>
      rw [if_neg (by simp)] at hE
      by_cases h0 : fn < 0
      · rw [if_pos h0] at hE
        have HE := Lib.hid hE
        have q2 : decide (fn < 0) = true := by simpa using h0
        clear hE h0
        go_enter Tryz.func77, Tryz.ntmps77
        go_upto_region 1 with fail
        go_quiet ((go_at_call 23; exact Calls.quiet_of_same (HBo.out _)))
        go_wp2_with fail
        refine (HFr2.out _ ((Keep.refl [] w).drewN _)).mono ?_
        rintro e w5 ⟨rfl, k5⟩
        have K5 := Lib.hid (((Keep.refl [] w).drewN _).trans k5)
        clear k5 c0 c1 c2 c3 c4 c5 c6 c7 c10 c11 a0 a1 HBo HFr2
        have H5 := Lib.hid (H.out.keep0 K5.out)
        have B5 := Lib.hid (K5.out.blk HB.out (by simp))
        obtain ⟨c0, c1, c2, c3, c4, c5, c6, c7, c10, c11⟩ := H5.out.at_
        have f2 := H5.out.free 2
        have g2 := B5.out.get (k := 2) rfl
        have gf2 := B5.out.frozen 2
        have gf4 := B5.out.frozen 4
        have g4 := B5.out.get (k := 4) rfl
        have ka := ((Keep.refl [ab] w5).setCell ⟨ab, 2, Option.none⟩ (.int .i64 fn) (by simp)).setCell ⟨ab, 4, Option.none⟩ (.bool true) (by simp)
        have h6 := Lib.hid ((H5.out.keep ka hXab hRab).set (P' := { P with st := 3 }) 2 (.int .i64 3) (fun _ _ => rfl) rfl rfl)
        have kp := (Keep.refl [p] ((w5.setCell ⟨ab, 2, Option.none⟩ (.int .i64 fn)).setCell ⟨ab, 4, Option.none⟩ (.bool true))).setCell ⟨p, 2, Option.none⟩ (.int .i64 3) (by simp)
        have b6 := Lib.hid (kp.blk ((B5.out.set 2 (.int .i64 fn)).set 4 (.bool true)) (by simpa using hab))
        have k6 := Lib.hid ((K5.out.mono (S' := [p, ab]) (by simp)).trans ((((Keep.refl [p, ab] w5).setCell ⟨ab, 2, Option.none⟩ (.int .i64 fn) (by simp)).setCell ⟨ab, 4, Option.none⟩ (.bool true) (by simp)).setCell ⟨p, 2, Option.none⟩ (.int .i64 3) (by simp)))
        clear ka kp
        go_wp2_with fail
        go_ret
        rw [HE.out]
        exact ⟨rfl, k6.out, b6.out, X, h6.out, fun x hx => .inl hx⟩
      · rw [if_neg h0] at hE
        obtain ⟨m, hm⟩ : ∃ m : Nat, fn = (m : Nat) := ⟨fn.toNat, by omega⟩
        subst hm
        rw [Int.toNat_natCast] at hE
        have HE := Lib.hid hE
        have q2 : decide (((m : Nat) : Int) < 0) = false := by simp
        clear hE h0
        go_enter Tryz.func77, Tryz.ntmps77
        go_upto_region 1 with fail
        go_quiet ((go_at_call 23; exact Calls.quiet_of_same (HBo.out _)))
        go_wp2_with fail
        refine (HFr2.out _ ((Keep.refl [] w).drewN _)).mono ?_
        rintro e w5 ⟨rfl, k5⟩
        have K5 := Lib.hid (((Keep.refl [] w).drewN _).trans k5)
        clear k5 c0 c1 c2 c3 c4 c5 c6 c7 c10 c11 a0 a1 HBo HFr2
        have H5 := Lib.hid (H.out.keep0 K5.out)
        have B5 := Lib.hid (K5.out.blk HB.out (by simp))
        obtain ⟨c0, c1, c2, c3, c4, c5, c6, c7, c10, c11⟩ := H5.out.at_
        have f2 := H5.out.free 2
        have f5 := H5.out.free 5
        have g2 := B5.out.get (k := 2) rfl
        have gf2 := B5.out.frozen 2
        have ka := (Keep.refl [ab] w5).setCell ⟨ab, 2, Option.none⟩ (.int .i64 (m : Nat)) (by simp)
        have h6 := Lib.hid (((H5.out.keep ka hXab hRab).set (P' := { P with left := m }) 5 (.int .i64 (m : Nat)) (fun _ _ => rfl) rfl rfl).set (P' := { P with left := m, st := 2 }) 2 (.int .i64 2) (fun _ _ => rfl) rfl rfl)
        have kp := ((Keep.refl [p] (w5.setCell ⟨ab, 2, Option.none⟩ (.int .i64 (m : Nat)))).setCell ⟨p, 5, Option.none⟩ (.int .i64 (m : Nat)) (by simp)).setCell ⟨p, 2, Option.none⟩ (.int .i64 2) (by simp)
        have b6 := Lib.hid (kp.blk (B5.out.set 2 (.int .i64 (m : Nat))) (by simpa using hab))
        have k6 := Lib.hid ((K5.out.mono (S' := [p, ab]) (by simp)).trans ((((Keep.refl [p, ab] w5).setCell ⟨ab, 2, Option.none⟩ (.int .i64 (m : Nat)) (by simp)).setCell ⟨p, 5, Option.none⟩ (.int .i64 (m : Nat)) (by simp)).setCell ⟨p, 2, Option.none⟩ (.int .i64 2) (by simp)))
        clear ka kp
        go_wp2_with fail
        go_ret
        rw [HE.out]
        exact ⟨rfl, k6.out, b6.out, X, h6.out, fun x hx => .inl hx⟩
end Go.Proofs.YtdmffbefppjllaaGreatDoor

/- Layer 10, plain law: what a head comes to is no longer than its bytes. No program. -/
namespace Go.Proofs.YtdmffbefppjllaaGreatDoor
open Go.RowKit

theorem trimW_le (l : List UInt8) : (trimW l).length ≤ l.length := by
  unfold trimW Lib.trimS Lib.trimLeftS Lib.trimRightS
  refine Nat.le_trans (List.dropWhile_sublist _).length_le ?_
  rw [List.length_reverse]
  refine Nat.le_trans (List.dropWhile_sublist _).length_le ?_
  simp
theorem parse_le {l : List UInt8} {f : Fld} (h : parseF l = some f) : f.name.length ≤ l.length ∧ f.value.length ≤ l.length := by
  unfold parseF at h
  dsimp only at h
  have hc := cut_len l [58]
  split at h
  · cases h
    exact ⟨hc.1, Nat.le_trans (trimW_le _) hc.2⟩
  · cases h
def Small (m : Nat) (F : List Fld) : Prop := F.length ≤ 32 ∧ ∀ x ∈ F, x.name.length ≤ m ∧ x.value.length ≤ m
theorem add_small {m : Nat} {F : List Fld} {l : List UInt8} (h : Small m F) (hl : l.length ≤ m) : Small m (addM F l).1 := by
  unfold addM
  split
  · exact h
  · rename_i f hf
    have hp := parse_le hf
    split
    · exact h
    · refine ⟨by simp; omega, fun x hx => ?_⟩
      rcases List.mem_append.1 hx with hx | hx
      · exact h.2 x hx
      · simp at hx; subst hx; exact ⟨by omega, by omega⟩
theorem loop_small (s st : List UInt8) : ∀ (k : Nat) (F : List Fld) (n : Nat), n ≤ s.length → n ≤ 4096 → Small s.length F → Small s.length (loopM s st k F n).F ∧ (loopM s st k F n).st = st
  | 0, F, n, h, _, hF => ⟨hF, rfl⟩
  | k + 1, F, n, h, h2, hF => by
    have hb := next_bounds h h2
    unfold loopM
    by_cases h4 : (nextM s n).2.2 ≠ 0
    · rw [if_pos h4]; exact ⟨hF, rfl⟩
    · rw [if_neg h4]
      by_cases h5 : (nextM s n).1 = []
      · rw [if_pos h5]; exact ⟨hF, rfl⟩
      · rw [if_neg h5]
        have ha := add_small hF hb.2.2.2
        by_cases h6 : (addM F (nextM s n).1).2 ≠ 0
        · rw [if_pos h6]; exact ⟨ha, rfl⟩
        · rw [if_neg h6]; exact loop_small s st k _ _ hb.1 hb.2.1 ha
theorem split_small (s : List UInt8) : Small s.length (splitM s).F ∧ (splitM s).st.length ≤ s.length ∧ (splitM s).n ≤ s.length := by
  have hb := next_bounds (s := s) (n := 0) (Nat.zero_le _) (Nat.zero_le _)
  have h0 : Small s.length [] := ⟨by simp, by simp⟩
  have hr : Small s.length (readM s).F ∧ (readM s).st.length ≤ s.length := by
    unfold readM
    by_cases h4 : (nextM s 0).2.2 ≠ 0
    · rw [if_pos h4]; exact ⟨h0, by simp⟩
    · rw [if_neg h4]
      by_cases h6 : beginE (nextM s 0).1 ≠ 0
      · rw [if_pos h6]; exact ⟨h0, by simp⟩
      · rw [if_neg h6]
        have := loop_small s (nextM s 0).1 4097 [] (nextM s 0).2.1 hb.1 hb.2.1 h0
        exact ⟨this.1, by rw [this.2]; exact hb.2.2.2⟩
  refine ⟨?_, ?_, split_n_le s⟩ <;> unfold splitM <;> split
  · exact h0
  · exact hr.1
  · simp
  · exact hr.2
theorem loop_pos (s st : List UInt8) : ∀ (k : Nat) (F : List Fld) (n : Nat), n ≤ s.length → n ≤ 4096 → (loopM s st k F n).e = 0 → n + 1 ≤ (loopM s st k F n).n
  | 0, F, n, h, _, he => by unfold loopM at he; simp at he
  | k + 1, F, n, h, h2, he => by
    have hb := next_bounds h h2
    unfold loopM at he ⊢
    by_cases h4 : (nextM s n).2.2 ≠ 0
    · rw [if_pos h4] at he; exact absurd he h4
    · rw [if_neg h4] at he ⊢
      have hn := hb.2.2.1 (by simpa using h4)
      by_cases h5 : (nextM s n).1 = []
      · rw [if_pos h5]; exact hn
      · rw [if_neg h5] at he ⊢
        by_cases h6 : (addM F (nextM s n).1).2 ≠ 0
        · rw [if_pos h6]; exact hn
        · rw [if_neg h6] at he ⊢
          have := loop_pos s st k _ _ hb.1 hb.2.1 he
          omega
theorem split_pos (s : List UInt8) : (splitM s).e = 0 → 2 ≤ (splitM s).n := by
  have hb := next_bounds (s := s) (n := 0) (Nat.zero_le _) (Nat.zero_le _)
  have hr : (readM s).e = 0 → 2 ≤ (readM s).n := by
    unfold readM
    by_cases h4 : (nextM s 0).2.2 ≠ 0
    · rw [if_pos h4]; intro h; exact absurd h h4
    · rw [if_neg h4]
      have := hb.2.2.1 (by simpa using h4)
      by_cases h6 : beginE (nextM s 0).1 ≠ 0
      · rw [if_pos h6]; intro h; exact absurd h h6
      · rw [if_neg h6]
        intro he
        have := loop_pos s _ _ _ _ hb.1 hb.2.1 he
        omega
  unfold splitM
  split
  · rename_i h; intro h2; exact absurd h2 h
  · exact hr
end Go.Proofs.YtdmffbefppjllaaGreatDoor

/- Layer 12: head. No conditions but on lengths. -/
namespace Go.Proofs.YtdmffbefppjllaaGreatDoor
open Go.RowKit Go.Shelf

/-- what head leaves: the inlet with a request, its chunked body's reader new -/
theorem it_headed {B p : Nat} {w w' : World} {X R : List Nat} {I : InS} (h : It B w p X R I) (_hr : I.req = none) (hc : I.chk = none) (hd : Hr) {v cv : Value} {rb : Nat} {cb : Option Nat}
    (k : Keep [p] w w') (hb : Blk w' p 64 (inC (headed I hd) (.pointer (some ⟨rb, 0, none⟩)) cv))
    (hq : Blk w' rb 36 (reqC hd.q.m hd.q.t v hd.q.cl)) (ho : Own Fld.cells 2 w.heap.size 26 w' v hd.q.F) (hrb : w.heap.size ≤ rb) (hB : B ≤ w.heap.size)
    (hck : match cb with | none => hd.ch = false ∧ cv = .pointer none | some c => hd.ch = true ∧ cv = .pointer (some ⟨c, 0, none⟩) ∧ w.heap.size ≤ c ∧ c ≠ rb ∧ (∀ g, v.ownBlock = some g → g ≠ c) ∧ Ct B w' c [] (ck0 4096) (.slice none 0 0)) :
    ∃ X' R', It B w' p X' R' (headed I hd) ∧ (∀ x ∈ X', x ∈ X ∨ w.heap.size ≤ x) ∧ ∀ x ∈ R', w.heap.size ≤ x := by
  have hp := h.lt
  have hg : ∀ g, v.ownBlock = some g → w.heap.size ≤ g ∧ g < w'.heap.size := fun g hg => ho.lt g hg
  have hreq : (headed I hd).req = some hd.q := rfl
  have hchk : (headed I hd).chk = if hd.ch then some (ck0 4096) else I.chk := rfl
  refine ⟨p :: cb.toList, rb :: v.ownBlock.toList, ⟨⟨_, cv, hb, ?_, ?_⟩, by simp, ?_, ?_⟩, ?_, ?_⟩
  · cases cb with
    | none =>
      obtain ⟨h1, h2⟩ := hck
      rw [hchk, h1, hc]
      exact h2
    | some c =>
      obtain ⟨h1, h2, h3, h4, h5, h6⟩ := hck
      rw [hchk, h1]
      exact ⟨c, _, h2, by omega, by simp, h6, by simp [Value.ownBlock]⟩
  · rw [hreq]
    exact ⟨rb, v, rfl, by simp, hq, ho.lower hB, fun g hg => by rw [hg]; simp⟩
  · intro x hx
    rcases List.mem_cons.1 hx with rfl | hx
    · exact ⟨h.base, hb.lt⟩
    · cases cb with
      | none => simp at hx
      | some c =>
        obtain ⟨h1, h2, h3, h4, h5, h6⟩ := hck
        have : x = c := by simpa using hx
        subst this
        exact ⟨by omega, h6.lt⟩
  · intro x hx
    have hx2 : w.heap.size ≤ x ∧ x < w'.heap.size := by
      rcases List.mem_cons.1 hx with rfl | hx
      · exact ⟨hrb, hq.lt⟩
      · exact hg x (by simpa using hx)
    refine ⟨by omega, hx2.2, fun hm => ?_⟩
    rcases List.mem_cons.1 hm with rfl | hm
    · omega
    · cases cb with
      | none => simp at hm
      | some c =>
        obtain ⟨h1, h2, h3, h4, h5, h6⟩ := hck
        have : x = c := by simpa using hm
        subst this
        rcases List.mem_cons.1 hx with rfl | hx
        · exact h4 rfl
        · exact h5 x (by simpa using hx) rfl
  · intro x hx
    rcases List.mem_cons.1 hx with rfl | hx
    · exact .inl h.mem
    · cases cb with
      | none => simp at hx
      | some c =>
        obtain ⟨h1, h2, h3, h4, h5, h6⟩ := hck
        have : x = c := by simpa using hx
        subst this
        exact .inr h3
  · intro x hx
    rcases List.mem_cons.1 hx with rfl | hx
    · exact hrb
    · exact (hg x (by simpa using hx)).1

set_option maxRecDepth 100000 in
set_option maxHeartbeats 4000000 in
theorem inlet_head {B p : Nat} {X R : List Nat} {I : InS} {w : World} (h : It B w p X R I) (hm : ML w) (hB : B ≤ w.heap.size) (_hbig : 0 < B) (hl : I.inp.length ≤ 65536) (hr : I.req = none) (hc : I.chk = none) :
    Calls Tryz.prog 29 #[.pointer (some ⟨p, 0, none⟩)] w fun e w' => e = .returned (.int .i64 (headM I.inp).s) ∧ Keep [p] w w' ∧ ((headM I.inp).got = false → Keep [] w w') ∧ ((headM I.inp).got = true → ∃ X' R', It B w' p X' R' (headed I (headM I.inp)) ∧ (∀ x ∈ X', x ∈ X ∨ w.heap.size ≤ x) ∧ ∀ x ∈ R', w.heap.size ≤ x) := by
  obtain ⟨c0, _, _, _⟩ := h.at_
  have sz := S_size I.inp
  have HSp := Lib.hid (field_Split I.inp w hm (by omega))
  have hsm := split_small I.inp
  have hH : headM I.inp = if (splitM I.inp).e ≠ 0 then hr0 (toldE (splitM I.inp).e 431)
    else if (lnM (splitM I.inp).st).s ≠ 200 then hr0 (lnM (splitM I.inp).st).s
    else if 1 < getN (splitM I.inp).F nHost ∨ (getN (splitM I.inp).F nHost : Int) < (lnM (splitM I.inp).st).v then hr0 400
    else if (frameM (splitM I.inp).F 4096).e ≠ 0 then hr0 (toldE (frameM (splitM I.inp).F 4096).e 413)
    else ⟨0, true, (splitM I.inp).n, ⟨(lnM (splitM I.inp).st).m, (lnM (splitM I.inp).st).t, (splitM I.inp).F, closesM (splitM I.inp).F (lnM (splitM I.inp).st).v⟩, (max (frameM (splitM I.inp).F 4096).n 0).toNat, (frameM (splitM I.inp).F 4096).ch⟩ := rfl
  have H := Lib.hid h
  have HB := Lib.hid hB
  have HM := Lib.hid hm
  have HT := Lib.hid (fun e0 long w' => inlet_told e0 long w')
  have hnp := h.lt
  generalize headM I.inp = hd at *
  generalize splitM I.inp = r at *
  obtain ⟨rs, rF, rn, re⟩ := r
  dsimp only at hsm hH
  obtain ⟨⟨hf1, hf2⟩, hs1, hn1⟩ := hsm
  have HLn := Lib.hid (fun w' (k : Keep [] w w') => inlet_Line rs w' (HM.out.keep k (by simp)) (by omega))
  have HG := Lib.hid (fun w' va (ha : Sl Fld.cells 2 w' va rF) => field_Get va rF nHost w' ha (fun x hx => by have := (hf2 x hx).1; show _ ≤ 9223372036854775807; omega) (by decide))
  have HFr := Lib.hid (fun w' va (ha : Sl Fld.cells 2 w' va rF) => field_Frame va rF 4096 w' ha (fun x hx => by have := (hf2 x hx).1; show _ ≤ 9223372036854775807; omega) (fun x hx => by have := (hf2 x hx).2; show _ ≤ 9223372036854775807; omega) (by omega))
  have HCl := Lib.hid (fun w' va mi (ha : Sl Fld.cells 2 w' va rF) => field_Closes va rF mi w' ha (fun x hx => ⟨by have := (hf2 x hx).1; omega, by have := (hf2 x hx).2; omega⟩) (by omega))
  have hNr : getN rF nHost ≤ rF.length := getN_le _ _
  unfold SplitOut at HSp
  unfold GetOut at HG
  unfold Ln.out at HLn
  dsimp only at HSp
  clear h hB hm hf2
  by_cases e1 : re = 0
  case neg =>
    rw [if_pos e1] at hH
    have q1 := (int_ne e1).2
    have HH := Lib.hid hH
    have HTe := Lib.hid (HT.out re 431)
    clear hH e1
    go_enter Tryz.func29, Tryz.ntmps29
    go_wp2_with fail
    refine HSp.out.mono ?_
    rintro e w1 ⟨v1, rfl, ho, k1⟩
    have K1 := Lib.hid k1
    clear k1 ho
    go_wp2_with fail
    refine (HTe.out _).mono ?_
    rintro e w2 ⟨rfl, rfl⟩
    go_wp2_with fail
    go_ret
    rw [HH.out]
    exact ⟨rfl, K1.out.mono (by simp), fun _ => K1.out, fun hh => by cases hh⟩
  rw [if_neg (by simp [e1])] at hH
  generalize lnM rs = ln at *
  obtain ⟨lm, lt, lv, ls⟩ := ln
  dsimp only at hH HLn
  by_cases e2 : ls = 200
  case neg =>
    rw [if_pos e2] at hH
    have q1 := (int_ne e2).2
    have HH := Lib.hid hH
    subst e1
    clear hH e2
    go_enter Tryz.func29, Tryz.ntmps29
    go_wp2_with fail
    refine HSp.out.mono ?_
    rintro e w1 ⟨v1, rfl, ho, k1⟩
    have K1 := Lib.hid k1
    clear k1 ho
    go_wp2_with fail
    refine (HLn.out _ K1.out).mono ?_
    rintro e w2 ⟨rfl, k2⟩
    have K2 := Lib.hid (K1.out.trans k2)
    clear k2
    go_wp2_with fail
    go_ret
    rw [HH.out]
    exact ⟨rfl, K2.out.mono (by simp), fun _ => K2.out, fun hh => by cases hh⟩
  rw [if_neg (by simp [e2])] at hH
  subst e1 e2
  generalize getN rF nHost = nh at *
  by_cases e3 : 1 < nh ∨ (nh : Int) < lv
  case pos =>
    rw [if_pos e3] at hH
    have HH := Lib.hid hH
    have q3 : decide ((nh : Int) > 1) = decide (1 < nh) := by rw [decide_eq_decide]; omega
    by_cases e4 : 1 < nh
    all_goals
      first
        | rw [decide_eq_true e4] at q3
        | (rw [decide_eq_false e4] at q3
           have q4 : (nh : Int) < lv := by omega)
      clear hH e3 e4
      go_enter Tryz.func29, Tryz.ntmps29
      go_wp2_with fail
      refine HSp.out.mono ?_
      rintro e w1 ⟨v1, rfl, ho, k1⟩
      have K1 := Lib.hid k1
      have HO := Lib.hid ho
      clear k1 ho
      go_wp2_with fail
      refine (HLn.out _ K1.out).mono ?_
      rintro e w2 ⟨rfl, k2⟩
      have K2 := Lib.hid (K1.out.trans k2)
      have HO2 := Lib.hid ((HO.out.keep0 k2).sl Fld.cells_length)
      clear k2
      go_wp2_with fail
      refine (HG.out _ _ HO2.out).mono ?_
      rintro e w3 ⟨rfl, k3⟩
      have K3 := Lib.hid (K2.out.trans k3)
      clear k3
      go_wp2_with fail
      go_ret
      rw [HH.out]
      exact ⟨rfl, K3.out.mono (by simp), fun _ => K3.out, fun hh => by cases hh⟩
  rw [if_neg e3] at hH
  have q3 : decide ((nh : Int) > 1) = false := by simp; omega
  have q4 : decide ((nh : Int) < lv) = false := by simp; omega
  clear e3
  generalize frameM rF 4096 = fr at *
  obtain ⟨fn, fch, fe⟩ := fr
  dsimp only at hH HFr
  by_cases e5 : fe = 0
  case neg =>
    rw [if_pos e5] at hH
    have q5 := (int_ne e5).2
    have HH := Lib.hid hH
    have HTe := Lib.hid (HT.out fe 413)
    clear hH e5
    go_enter Tryz.func29, Tryz.ntmps29
    go_wp2_with fail
    refine HSp.out.mono ?_
    rintro e w1 ⟨v1, rfl, ho, k1⟩
    have K1 := Lib.hid k1
    have HO := Lib.hid ho
    clear k1 ho
    go_wp2_with fail
    refine (HLn.out _ K1.out).mono ?_
    rintro e w2 ⟨rfl, k2⟩
    have K2 := Lib.hid (K1.out.trans k2)
    have HO2 := Lib.hid (HO.out.keep0 k2)
    clear k2
    go_wp2_with fail
    refine (HG.out _ _ (HO2.out.sl Fld.cells_length)).mono ?_
    rintro e w3 ⟨rfl, k3⟩
    have K3 := Lib.hid (K2.out.trans k3)
    have HO3 := Lib.hid (HO2.out.keep0 k3)
    clear k3
    go_wp2_with fail
    refine (HFr.out _ _ (HO3.out.sl Fld.cells_length)).mono ?_
    rintro e w4 ⟨rfl, k4⟩
    have K4 := Lib.hid (K3.out.trans k4)
    clear k4
    go_wp2_with fail
    refine (HTe.out _).mono ?_
    rintro e w5 ⟨rfl, rfl⟩
    go_wp2_with fail
    go_ret
    rw [HH.out]
    exact ⟨rfl, K4.out.mono (by simp), fun _ => K4.out, fun hh => by cases hh⟩
  rw [if_neg (by simp [e5])] at hH
  subst e5
  have hx : (S I.inp).extract rn I.inp.length = S (I.inp.drop rn) := by rw [S_extract, List.take_length]
  obtain ⟨sk, hsk⟩ : ∃ sk : Nat, (max fn 0).toNat = sk := ⟨_, rfl⟩
  have hmx : max fn 0 = ((sk : Nat) : Int) := by omega
  rw [hsk] at hH
  have i0 : (0 : Int) ≤ (rn : Int) := by omega
  have i1 : (rn : Int) ≤ (I.inp.length : Int) := by omega
  have HH := Lib.hid hH
  have HN := Lib.hid (fun w' (k : B ≤ w'.heap.size) => chunk_New B 4096 w' k)
  clear hH
  cases fch with
  | false =>
    go_enter Tryz.func29, Tryz.ntmps29
    go_wp2_with fail
    refine HSp.out.mono ?_
    rintro e w1 ⟨v1, rfl, ho, k1⟩
    obtain ⟨sa, sc, rfl, hml⟩ := ho.shape
    clear hml
    have K1 := Lib.hid k1
    have HO := Lib.hid ho
    clear k1 ho
    go_wp2_with fail
    refine (HLn.out _ K1.out).mono ?_
    rintro e w2 ⟨rfl, k2⟩
    have K2 := Lib.hid (K1.out.trans k2)
    have HO2 := Lib.hid (HO.out.keep0 k2)
    clear k2
    go_wp2_with fail
    refine (HG.out _ _ (HO2.out.sl Fld.cells_length)).mono ?_
    rintro e w3 ⟨rfl, k3⟩
    have K3 := Lib.hid (K2.out.trans k3)
    have HO3 := Lib.hid (HO2.out.keep0 k3)
    clear k3
    go_wp2_with fail
    refine (HFr.out _ _ (HO3.out.sl Fld.cells_length)).mono ?_
    rintro e w4 ⟨rfl, k4⟩
    have K4 := Lib.hid (K3.out.trans k4)
    have HO4 := Lib.hid (HO3.out.keep0 k4)
    have HI4 := Lib.hid (H.out.keep0 K4.out)
    obtain ⟨c0, c1, c3, _⟩ := HI4.out.at_
    have f0 := HI4.out.free 0
    have f1 := HI4.out.free 1
    have f3 := HI4.out.free 3
    clear k4
    have hs := ((HI4.out.set (I' := { I with inp := I.inp.drop rn }) 0 (.string (S (I.inp.drop rn))) (fun _ _ => rfl) rfl rfl).set (I' := { I with inp := I.inp.drop rn, held := rn }) 1 (.int .i64 (rn : Nat)) (fun _ _ => rfl) rfl rfl).set (I' := { I with inp := I.inp.drop rn, held := rn, skip := sk }) 3 (.int .i64 (sk : Nat)) (fun _ _ => rfl) rfl rfl
    have k3s := ((Keep.refl [p] w4).setCell ⟨p, 0, none⟩ (.string (S (I.inp.drop rn))) (by simp)).setCell ⟨p, 1, none⟩ (.int .i64 (rn : Nat)) (by simp) |>.setCell ⟨p, 3, none⟩ (.int .i64 (sk : Nat)) (by simp)
    have ks := (K4.out.mono (S' := [p]) (by simp)).trans k3s
    have os := HO4.out.keep (S := [p]) k3s (fun g hg => by have := (HO4.out.lt g hg).1; simp; omega)
    have HS := Lib.hid hs
    have KS := Lib.hid ks
    have OS := Lib.hid os
    clear hs ks os k3s HI4 HO4
    obtain ⟨⟨rv, cv, b1, b2, b3⟩, _, _, _⟩ := HS.out
    rw [show ({ I with inp := I.inp.drop rn, held := rn, skip := sk } : InS).chk = none from hc] at b2
    have hcv : cv = .pointer none := b2
    subst hcv
    have BS := Lib.hid b1
    clear b1 b2 b3
    have HCl2 := Lib.hid (HCl.out _ _ lv (OS.out.sl Fld.cells_length))
    generalize closesM rF lv = cl at *
    go_wp2_with fail
    refine HCl2.out.mono ?_
    rintro e w5 ⟨rfl, k5⟩
    have K5 := Lib.hid (KS.out.trans (k5.mono (S' := [p]) (by simp)))
    have O5 := Lib.hid (OS.out.keep0 k5)
    have bA := (k5.blk BS.out (by simp)).alloc (.cells (reqC lm lt (Value.slice sa rF.length sc) cl).toArray 36)
    have qA := Blk.newA w5 (reqC lm lt (Value.slice sa rF.length sc) cl).toArray 36
    have kA := K5.out.alloc (.cells (reqC lm lt (Value.slice sa rF.length sc) cl).toArray 36)
    have oA := O5.out.alloc (.cells (reqC lm lt (Value.slice sa rF.length sc) cl).toArray 36)
    have hsz5 := Lib.hid K5.out.size
    have hwp := k5.size
    generalize hwA : w5.alloc (.cells #[.string (S lm), .string (S lt), (Value.slice sa rF.length sc), .bool cl] 36) = wA
    have hwA' : w5.alloc (.cells (reqC lm lt (Value.slice sa rF.length sc) cl).toArray 36) = wA := hwA
    rw [hwA'] at bA qA kA oA
    have c2 := bA.get (k := 2) rfl
    have f2 := bA.frozen 2
    have hne : w5.heap.size ≠ p := by have := H.out.lt; have := K5.out.size; omega
    have kp := (Keep.refl [p] wA).setCell ⟨p, 2, none⟩ (.pointer (some ⟨w5.heap.size, 0, none⟩)) (by simp)
    have HX := Lib.hid (And.intro (bA.set 2 (.pointer (some ⟨w5.heap.size, 0, none⟩))) (And.intro (kp.blk (show Blk wA w5.heap.size 36 (reqC lm lt (Value.slice sa rF.length sc) cl) from qA) (by simpa using hne)) (And.intro (kA.trans kp) (oA.keep kp (fun g hg => by have := (oA.lt g hg).1; simp; omega)))))
    clear bA qA kA oA k5 hwA' kp hne
    go_wp2_with fail
    clear hwA
    go_ret
    rw [HH.out]
    obtain ⟨x1, x2, x3, x4⟩ := HX.out
    refine ⟨rfl, x3, fun hh => (by cases hh), fun _ => ?_⟩
    exact it_headed H.out hr hc _ (cb := none) (v := .slice sa rF.length sc) x3 x1 x2 x4 hsz5.out HB.out ⟨rfl, rfl⟩
  | true =>
    go_enter Tryz.func29, Tryz.ntmps29
    go_wp2_with fail
    refine HSp.out.mono ?_
    rintro e w1 ⟨v1, rfl, ho, k1⟩
    obtain ⟨sa, sc, rfl, hml⟩ := ho.shape
    clear hml
    have K1 := Lib.hid k1
    have HO := Lib.hid ho
    clear k1 ho
    go_wp2_with fail
    refine (HLn.out _ K1.out).mono ?_
    rintro e w2 ⟨rfl, k2⟩
    have K2 := Lib.hid (K1.out.trans k2)
    have HO2 := Lib.hid (HO.out.keep0 k2)
    clear k2
    go_wp2_with fail
    refine (HG.out _ _ (HO2.out.sl Fld.cells_length)).mono ?_
    rintro e w3 ⟨rfl, k3⟩
    have K3 := Lib.hid (K2.out.trans k3)
    have HO3 := Lib.hid (HO2.out.keep0 k3)
    clear k3
    go_wp2_with fail
    refine (HFr.out _ _ (HO3.out.sl Fld.cells_length)).mono ?_
    rintro e w4 ⟨rfl, k4⟩
    have K4 := Lib.hid (K3.out.trans k4)
    have HO4 := Lib.hid (HO3.out.keep0 k4)
    have HI4 := Lib.hid (H.out.keep0 K4.out)
    obtain ⟨c0, c1, c3, _⟩ := HI4.out.at_
    have f0 := HI4.out.free 0
    have f1 := HI4.out.free 1
    have f3 := HI4.out.free 3
    clear k4
    have hs := ((HI4.out.set (I' := { I with inp := I.inp.drop rn }) 0 (.string (S (I.inp.drop rn))) (fun _ _ => rfl) rfl rfl).set (I' := { I with inp := I.inp.drop rn, held := rn }) 1 (.int .i64 (rn : Nat)) (fun _ _ => rfl) rfl rfl).set (I' := { I with inp := I.inp.drop rn, held := rn, skip := sk }) 3 (.int .i64 (sk : Nat)) (fun _ _ => rfl) rfl rfl
    have k3s := ((Keep.refl [p] w4).setCell ⟨p, 0, none⟩ (.string (S (I.inp.drop rn))) (by simp)).setCell ⟨p, 1, none⟩ (.int .i64 (rn : Nat)) (by simp) |>.setCell ⟨p, 3, none⟩ (.int .i64 (sk : Nat)) (by simp)
    have ks := (K4.out.mono (S' := [p]) (by simp)).trans k3s
    have os := HO4.out.keep (S := [p]) k3s (fun g hg => by have := (HO4.out.lt g hg).1; simp; omega)
    have HS := Lib.hid hs
    have KS := Lib.hid ks
    have OS := Lib.hid os
    clear hs ks os k3s HI4 HO4
    go_wp2_with fail
    refine (HN.out _ (Nat.le_trans HB.out KS.out.size)).mono ?_
    rintro e wn ⟨ck, rfl, hn1, hn2, hct, kn⟩
    obtain ⟨⟨rv, cv, b1, b2, b3⟩, _, _, _⟩ := (HS.out.keep0 kn)
    have c4 := b1.get (k := 4) rfl
    have f4 := b1.frozen 4
    have kp4 := (Keep.refl [p] wn).setCell ⟨p, 4, none⟩ (.pointer (some ⟨ck, 0, none⟩)) (by simp)
    have hckp : ck ≠ p := by have := H.out.lt; have := KS.out.size; omega
    have BS := Lib.hid (b1.set 4 (.pointer (some ⟨ck, 0, none⟩)))
    have KN := Lib.hid ((KS.out.trans (kn.mono (S' := [p]) (by simp))).trans kp4)
    have ON := Lib.hid ((OS.out.keep0 kn).keep kp4 (fun g hg => by have := (OS.out.lt g hg).1; have := H.out.lt; simp; omega))
    have CN := Lib.hid (hct.keep kp4 (by simpa using hckp) (by simp [Value.ownBlock]))
    have HG1 := Lib.hid (show (∀ g, (Value.slice sa rF.length sc).ownBlock = some g → g ≠ ck) ∧ w.heap.size ≤ ck from ⟨fun g hg => by have := (OS.out.lt g hg).2; omega, Nat.le_trans KS.out.size hn1⟩)
    clear b1 b2 b3 kp4 hct kn
    have HCl2 := Lib.hid (HCl.out _ _ lv (ON.out.sl Fld.cells_length))
    generalize closesM rF lv = cl at *
    go_wp2_with fail
    refine HCl2.out.mono ?_
    rintro e w5 ⟨rfl, k5⟩
    have K5 := Lib.hid (KN.out.trans (k5.mono (S' := [p]) (by simp)))
    have O5 := Lib.hid (ON.out.keep0 k5)
    have C5 := (CN.out.keep0 k5)
    have hck5 := C5.lt
    have CA := (C5.keep0 ((Keep.refl [] w5).alloc (.cells (reqC lm lt (Value.slice sa rF.length sc) cl).toArray 36)))
    have bA := (k5.blk BS.out (by simp)).alloc (.cells (reqC lm lt (Value.slice sa rF.length sc) cl).toArray 36)
    have qA := Blk.newA w5 (reqC lm lt (Value.slice sa rF.length sc) cl).toArray 36
    have kA := K5.out.alloc (.cells (reqC lm lt (Value.slice sa rF.length sc) cl).toArray 36)
    have oA := O5.out.alloc (.cells (reqC lm lt (Value.slice sa rF.length sc) cl).toArray 36)
    have hsz5 := Lib.hid K5.out.size
    have hwp := k5.size
    generalize hwA : w5.alloc (.cells #[.string (S lm), .string (S lt), (Value.slice sa rF.length sc), .bool cl] 36) = wA
    have hwA' : w5.alloc (.cells (reqC lm lt (Value.slice sa rF.length sc) cl).toArray 36) = wA := hwA
    rw [hwA'] at bA qA kA oA CA
    have c2 := bA.get (k := 2) rfl
    have f2 := bA.frozen 2
    have hne : w5.heap.size ≠ p := by have := H.out.lt; have := K5.out.size; omega
    have kp := (Keep.refl [p] wA).setCell ⟨p, 2, none⟩ (.pointer (some ⟨w5.heap.size, 0, none⟩)) (by simp)
    have HX := Lib.hid (And.intro (bA.set 2 (.pointer (some ⟨w5.heap.size, 0, none⟩))) (And.intro (kp.blk (show Blk wA w5.heap.size 36 (reqC lm lt (Value.slice sa rF.length sc) cl) from qA) (by simpa using hne)) (And.intro (kA.trans kp) (oA.keep kp (fun g hg => by have := (oA.lt g hg).1; simp; omega)))))
    have HCC := Lib.hid (And.intro (CA.keep kp (by simpa using hckp) (by simp [Value.ownBlock])) (show ck ≠ w5.heap.size by omega))
    clear CA C5
    clear bA qA kA oA k5 hwA' kp hne
    go_wp2_with fail
    clear hwA
    go_ret
    rw [HH.out]
    obtain ⟨x1, x2, x3, x4⟩ := HX.out
    refine ⟨rfl, x3, fun hh => (by cases hh), fun _ => ?_⟩
    exact it_headed H.out hr hc _ (cb := some ck) (v := .slice sa rF.length sc) x3 x1 x2 x4 hsz5.out HB.out ⟨rfl, rfl, HG1.out.2, HCC.out.2, HG1.out.1, HCC.out.1⟩
end Go.Proofs.YtdmffbefppjllaaGreatDoor

/- Layer 14: readHead. No conditions but on lengths. -/
namespace Go.Proofs.YtdmffbefppjllaaGreatDoor
open Go.RowKit Go.Shelf

/-- what readHead leaves -/
def RhOut (B : Nat) (w : World) (p : Nat) (X R : List Nat) (r : ReS × Bool) (e : Ending) (w' : World) : Prop :=
  e = .returned (.bool r.2) ∧ Keep [p] w w' ∧ ∃ X' R', Re B w' p X' R' r.1 ∧ (∀ x ∈ X', x ∈ X ∨ w.heap.size ≤ x) ∧ (∀ x ∈ R', x ∈ R ∨ w.heap.size ≤ x)

theorem reFrame_no {P : ReS} {a : Ans} (h : (reFrame P a).ok = false) : (reFrame P a).p = P := by
  unfold reFrame at h ⊢
  split at h
  · cases h
  · rename_i h1
    rw [if_neg h1]
    split at h
    · rename_i h2
      rw [if_pos h2]
    · split at h
      · cases h
      · split at h <;> cases h
theorem reFrame_F (P : ReS) (a : Ans) : (reFrame P a).a.F = a.F := by
  unfold reFrame
  split
  · rfl
  · split
    · rfl
    · split
      · rfl
      · split <;> rfl
/-- a new answer is laid into the reply -/
theorem Re.setAns {B p ab : Nat} {w : World} {X R : List Nat} {P : ReS} (h : Re B w p X R P) (a : Ans) {v : Value} (hb : Blk w ab 47 (ansC a.st v a.len a.ch a.cl)) (ho : Own Fld.cells 2 B 26 w v a.F)
    (hB : B ≤ ab) (hX : ab ∉ X) (hg : ∀ g, v.ownBlock = some g → g ∉ X) :
    Re B (w.setCell ⟨p, 9, Option.none⟩ (.pointer (some ⟨ab, 0, Option.none⟩))) p X (R ++ ab :: v.ownBlock.toList) { P with ans := some a } := by
  obtain ⟨⟨cv, av, b1, b2, b3⟩, h4, h5, h6⟩ := h
  have hk : Keep [p] w (w.setCell ⟨p, 9, Option.none⟩ (.pointer (some ⟨ab, 0, Option.none⟩))) := (Keep.refl _ _).setCell _ _ (by simp)
  have hap : ab ∉ [p] := by simp only [List.mem_singleton]; rintro rfl; exact hX h4
  have hgp : ∀ g, v.ownBlock = some g → g ∉ [p] := fun g hg' => by simp only [List.mem_singleton]; rintro rfl; exact hg _ hg' h4
  refine ⟨⟨cv, _, b1.set 9 (.pointer (some ⟨ab, 0, Option.none⟩)), b2.keep hk (fun y _ hy => by simpa using hy), ⟨ab, v, rfl, by simp, hk.blk hb hap, ho.keep hk hgp, fun g hg' => by simp [hg']⟩⟩, h4, fun y hy => ⟨(h5 y hy).1, Nat.lt_of_lt_of_le (h5 y hy).2 hk.size⟩, ?_⟩
  intro y hy
  rcases List.mem_append.1 hy with hy | hy
  · exact ⟨(h6 y hy).1, Nat.lt_of_lt_of_le (h6 y hy).2.1 hk.size, (h6 y hy).2.2⟩
  · rcases List.mem_cons.1 hy with rfl | hy
    · exact ⟨hB, Nat.lt_of_lt_of_le hb.lt hk.size, hX⟩
    · have hy' : v.ownBlock = some y := by simpa using hy
      exact ⟨(ho.lt y hy').1, Nat.lt_of_lt_of_le (ho.lt y hy').2 hk.size, hg y hy'⟩

set_option maxHeartbeats 4000000 in
set_option maxRecDepth 100000 in
theorem reply_readHead {B p : Nat} {X R : List Nat} {P : ReS} {w : World} (h : Re B w p X R P) (hm : ML w) (hB : B ≤ w.heap.size) (hl : P.inp.length ≤ 65536) (hc : P.chk = none) (_ha : P.ans = none) (hps : P.passed ≤ 1048576) :
    Calls Tryz.prog 58 #[.pointer (some ⟨p, 0, Option.none⟩)] w (RhOut B w p X R (readHeadR P)) := by
  obtain ⟨c0, c1, c2, c3, c4, c5, c6, c7, c10, c11⟩ := h.at_
  have sz := S_size P.inp
  have HSp := Lib.hid (field_Split P.inp w hm (by omega))
  have hsm := split_small P.inp
  have hH : readHeadR P = if (splitM P.inp).e = 17 then (P, false)
    else if (splitM P.inp).e ≠ 0 ∨ (slM (splitM P.inp).st).ok = false ∨ (slM (splitM P.inp).st).n = 101 then (reFail P, true)
    else if (slM (splitM P.inp).st).n < 200 then (if 5 < P.passed + 1 then (reFail { headP P with passed := P.passed + 1 }, true) else ({ headP P with passed := P.passed + 1 }, true))
    else if (reFrame (headP P) (headA P)).ok then ({ (reFrame (headP P) (headA P)).p with ans := some (reFrame (headP P) (headA P)).a }, true)
    else (reFail (headP P), true) := rfl
  have hHP : headP P = { P with inp := P.inp.drop (splitM P.inp).n } := rfl
  have hHA : headA P = ⟨(slM (splitM P.inp).st).n, (splitM P.inp).F, 0, false, closesM (splitM P.inp).F (slM (splitM P.inp).st).v⟩ := rfl
  have H := Lib.hid h
  have HB := Lib.hid hB
  have HM := Lib.hid hm
  have hnp := h.lt
  generalize readHeadR P = rr at *
  generalize headP P = hp at *
  generalize headA P = hA at *
  generalize splitM P.inp = r at *
  obtain ⟨rs, rF, rn, re⟩ := r
  dsimp only at hsm hH hHP hHA
  obtain ⟨⟨hf1, hf2⟩, hs1, hn1⟩ := hsm
  have HLn := Lib.hid (fun w' (k : Keep [] w w') => reply_Line rs w' (HM.out.keep k (by simp)) (by omega))
  have HCl := Lib.hid (fun w' va mi (ha : Sl Fld.cells 2 w' va rF) => field_Closes va rF mi w' ha (fun x hx => ⟨by have := (hf2 x hx).1; omega, by have := (hf2 x hx).2; omega⟩) (by omega))
  have HFl := Lib.hid (fun w' (k : Keep [] w w') => reply_fail (h.keep0 k))
  unfold SplitOut at HSp
  unfold StL.out at HLn
  dsimp only at HSp
  clear h hB hm
  by_cases e17 : re = 17
  · rw [if_pos e17] at hH
    have HH := Lib.hid hH
    subst e17
    clear hH
    go_enter Tryz.func58, Tryz.ntmps58
    go_wp2_with fail
    refine HSp.out.mono ?_
    rintro e w1 ⟨v1, rfl, ho, k1⟩
    have K1 := Lib.hid k1
    clear k1 ho
    go_wp2_with fail
    go_ret
    rw [HH.out]
    exact ⟨rfl, K1.out.mono (by simp), X, R, H.out.keep0 K1.out, fun x hx => .inl hx, fun x hx => .inl hx⟩
  rw [if_neg e17] at hH
  have q17 := (int_ne e17).1
  generalize slM rs = ln at *
  obtain ⟨lc, lv, lk⟩ := ln
  dsimp only at hH hHA HLn
  by_cases hbad : re ≠ 0 ∨ lk = false ∨ lc = 101
  case pos =>
    rw [if_pos hbad] at hH
    have HH := Lib.hid hH
    have hcs : ((re != 0) = true) ∨ ((re != 0) = false ∧ lk = false) ∨ ((re != 0) = false ∧ lk = true ∧ (lc == 101) = true) := by
      by_cases h0 : re = 0
      · rcases hbad with hb | hb | hb
        · exact absurd h0 hb
        · exact .inr (.inl ⟨(int_eq h0).2, hb⟩)
        · cases lk with
          | false => exact .inr (.inl ⟨(int_eq h0).2, rfl⟩)
          | true => exact .inr (.inr ⟨(int_eq h0).2, rfl, (int_eq hb).1⟩)
      · exact .inl (int_ne h0).2
    clear hH hbad e17
    rcases hcs with q1 | ⟨q1, q2⟩ | ⟨q1, q2, q3⟩
    all_goals
      try subst q2
      go_enter Tryz.func58, Tryz.ntmps58
      go_wp2_with fail
      refine HSp.out.mono ?_
      rintro e w1 ⟨v1, rfl, ho, k1⟩
      have K1 := Lib.hid k1
      clear k1 ho
      go_wp2_with fail
      refine (HLn.out _ K1.out).mono ?_
      rintro e w2 ⟨rfl, k2⟩
      have K2 := Lib.hid (K1.out.trans k2)
      clear k2
      go_wp2_with fail
      refine (HFl.out _ K2.out).mono ?_
      rintro e w3 ⟨rfl, h3, k3⟩
      have HX := Lib.hid (And.intro h3 ((K2.out.mono (S' := [p]) (by simp)).trans k3))
      clear h3 k3
      go_wp2_with fail
      go_ret
      rw [HH.out]
      exact ⟨rfl, HX.out.2, X, R, HX.out.1, fun x hx => .inl hx, fun x hx => .inl hx⟩
  rw [if_neg hbad] at hH
  have h0 : re = 0 := by
    by_cases h : re = 0
    · exact h
    · exact absurd (.inl h) hbad
  have hk : lk = true := by
    cases lk with
    | true => rfl
    | false => exact absurd (.inr (.inl rfl)) hbad
  have h101 : lc ≠ 101 := fun h => hbad (.inr (.inr h))
  have q101 := (int_ne h101).1
  subst h0 hk
  clear hbad h101 e17 q17
  have hx : (S P.inp).extract rn P.inp.length = S (P.inp.drop rn) := by rw [S_extract, List.take_length]
  have i0 : (0 : Int) ≤ (rn : Int) := by omega
  have i1 : (rn : Int) ≤ (P.inp.length : Int) := by omega
  have wp1 := IntWalk.i64_in ((P.passed : Int) + 1) (by omega)
  have hpi := Lib.hid (show ((P.passed : Int) + 1) = ((P.passed + 1 : Nat) : Int) by omega)
  by_cases h200 : lc < 200
  · rw [if_pos h200] at hH
    have q200 : decide (lc < 200) = true := by simpa using h200
    rw [hHP] at hH
    have run5 : (5 < P.passed + 1 ∧ decide ((P.passed : Int) + 1 > 5) = true) ∨ (¬ 5 < P.passed + 1 ∧ decide ((P.passed : Int) + 1 > 5) = false) := by
      by_cases h : 5 < P.passed + 1
      · exact .inl ⟨h, by simp; omega⟩
      · exact .inr ⟨h, by simp; omega⟩
    clear h200
    rcases run5 with ⟨h5, q5⟩ | ⟨h5, q5⟩
    · rw [if_pos h5] at hH
      have HH := Lib.hid hH
      clear hH h5
      go_enter Tryz.func58, Tryz.ntmps58
      go_wp2_with fail
      refine HSp.out.mono ?_
      rintro e w1 ⟨v1, rfl, ho, k1⟩
      have K1 := Lib.hid k1
      clear k1 ho
      go_wp2_with fail
      refine (HLn.out _ K1.out).mono ?_
      rintro e w2 ⟨rfl, k2⟩
      have K2 := Lib.hid (K1.out.trans k2)
      clear k2 c0 c1 c2 c3 c4 c5 c6 c7 c10 c11
      have H2 := Lib.hid (H.out.keep0 K2.out)
      obtain ⟨c0, c1, c2, c3, c4, c5, c6, c7, c10, c11⟩ := H2.out.at_
      have f3 := H2.out.free 3
      have f7 := H2.out.free 7
      have hs := (H2.out.set (P' := { P with inp := P.inp.drop rn }) 3 (.string (S (P.inp.drop rn))) (fun _ _ => rfl) rfl rfl).set (P' := { P with inp := P.inp.drop rn, passed := P.passed + 1 }) 7 (.int .i64 ((P.passed : Int) + 1)) (fun _ _ => by rw [hpi.out]; rfl) rfl rfl
      have ks := ((K2.out.mono (S' := [p]) (by simp)).setCell ⟨p, 3, Option.none⟩ (.string (S (P.inp.drop rn))) (by simp)).setCell ⟨p, 7, Option.none⟩ (.int .i64 ((P.passed : Int) + 1)) (by simp)
      have HF := Lib.hid (reply_fail hs)
      have KS := Lib.hid ks
      clear hs ks
      go_wp2_with fail
      refine HF.out.mono ?_
      rintro e w3 ⟨rfl, h3, k3⟩
      have HX := Lib.hid (And.intro h3 (KS.out.trans k3))
      clear h3 k3
      go_wp2_with fail
      go_ret
      rw [HH.out]
      exact ⟨rfl, HX.out.2, X, R, HX.out.1, fun x hx => .inl hx, fun x hx => .inl hx⟩
    · rw [if_neg h5] at hH
      have HH := Lib.hid hH
      clear hH h5
      go_enter Tryz.func58, Tryz.ntmps58
      go_wp2_with fail
      refine HSp.out.mono ?_
      rintro e w1 ⟨v1, rfl, ho, k1⟩
      have K1 := Lib.hid k1
      clear k1 ho
      go_wp2_with fail
      refine (HLn.out _ K1.out).mono ?_
      rintro e w2 ⟨rfl, k2⟩
      have K2 := Lib.hid (K1.out.trans k2)
      clear k2 c0 c1 c2 c3 c4 c5 c6 c7 c10 c11
      have H2 := Lib.hid (H.out.keep0 K2.out)
      obtain ⟨c0, c1, c2, c3, c4, c5, c6, c7, c10, c11⟩ := H2.out.at_
      have f3 := H2.out.free 3
      have f7 := H2.out.free 7
      have hs := (H2.out.set (P' := { P with inp := P.inp.drop rn }) 3 (.string (S (P.inp.drop rn))) (fun _ _ => rfl) rfl rfl).set (P' := { P with inp := P.inp.drop rn, passed := P.passed + 1 }) 7 (.int .i64 ((P.passed : Int) + 1)) (fun _ _ => by rw [hpi.out]; rfl) rfl rfl
      have ks := ((K2.out.mono (S' := [p]) (by simp)).setCell ⟨p, 3, Option.none⟩ (.string (S (P.inp.drop rn))) (by simp)).setCell ⟨p, 7, Option.none⟩ (.int .i64 ((P.passed : Int) + 1)) (by simp)
      have HX := Lib.hid (And.intro hs ks)
      clear hs ks
      go_wp2_with fail
      go_ret
      rw [HH.out]
      exact ⟨rfl, HX.out.2, X, R, HX.out.1, fun x hx => .inl hx, fun x hx => .inl hx⟩
  rw [if_neg h200] at hH
  have q200 : decide (lc < 200) = false := by simpa using h200
  rw [hHP, hHA] at hH
  clear h200 hHP hHA hpi wp1
  generalize hcl : closesM rF lv = cl at *
  have HCl2 := Lib.hid (fun w' va (ha : Sl Fld.cells 2 w' va rF) => HCl.out w' va lv ha)
  rw [hcl] at HCl2
  have hno := @reFrame_no { P with inp := P.inp.drop rn } ⟨lc, rF, 0, false, cl⟩
  have hfF := reFrame_F { P with inp := P.inp.drop rn } ⟨lc, rF, 0, false, cl⟩
  have HFm := Lib.hid (fun ab v w' (h : Re B w' p X R { P with inp := P.inp.drop rn }) (hb : Blk w' ab 47 (ansC lc v 0 false cl)) (hs : Sl Fld.cells 2 w' v rF) (hab : ab ≠ p) (h1 : ∀ x ∈ X, x ∉ [ab]) (h2 : ∀ x ∈ R, x ∉ [ab]) (hB : B ≤ w'.heap.size) =>
    reply_frame ⟨lc, rF, 0, false, cl⟩ h hc hb hs hab h1 h2 (fun x hx => by have := (hf2 x hx).1; show _ ≤ 9223372036854775807; omega) (fun x hx => by have := (hf2 x hx).2; show _ ≤ 9223372036854775807; omega) (by show rF.length ≤ _; omega) hB)
  generalize reFrame { P with inp := P.inp.drop rn } ⟨lc, rF, 0, false, cl⟩ = fr at *
  obtain ⟨fp, fa, fo⟩ := fr
  dsimp only at hH hno hfF
  have HH := Lib.hid hH
  clear hH HCl hcl hf2
  go_enter Tryz.func58, Tryz.ntmps58
  go_wp2_with fail
  refine HSp.out.mono ?_
  rintro e w1 ⟨v1, rfl, ho, k1⟩
  obtain ⟨sa, sc, rfl, hml⟩ := ho.shape
  clear hml
  have K1 := Lib.hid k1
  have HO := Lib.hid ho
  clear k1 ho
  go_wp2_with fail
  refine (HLn.out _ K1.out).mono ?_
  rintro e w2 ⟨rfl, k2⟩
  have K2 := Lib.hid (K1.out.trans k2)
  have HO2 := Lib.hid (HO.out.keep0 k2)
  clear k2 c0 c1 c2 c3 c4 c5 c6 c7 c10 c11
  have H2 := Lib.hid (H.out.keep0 K2.out)
  obtain ⟨c0, c1, c2, c3, c4, c5, c6, c7, c10, c11⟩ := H2.out.at_
  have f3 := H2.out.free 3
  have k3s := (Keep.refl [p] w2).setCell ⟨p, 3, Option.none⟩ (.string (S (P.inp.drop rn))) (by simp)
  have HS := Lib.hid (H2.out.set (P' := { P with inp := P.inp.drop rn }) 3 (.string (S (P.inp.drop rn))) (fun _ _ => rfl) rfl rfl)
  have KS := Lib.hid ((K2.out.mono (S' := [p]) (by simp)).trans k3s)
  have OS := Lib.hid (HO2.out.keep (S := [p]) k3s (fun g hg => by have := (HO2.out.lt g hg).1; simp; omega))
  have HCl3 := Lib.hid (HCl2.out _ _ (OS.out.sl Fld.cells_length))
  clear k3s
  go_wp2_with fail
  refine HCl3.out.mono ?_
  rintro e w5 ⟨rfl, k5⟩
  have K5 := Lib.hid (KS.out.trans (k5.mono (S' := [p]) (by simp)))
  have H5 := Lib.hid (HS.out.keep0 k5)
  have O5 := Lib.hid (OS.out.keep0 k5)
  have bA := Blk.newA w5 (ansC lc (Value.slice sa rF.length sc) 0 false cl).toArray 47
  have kA := (Keep.refl [] w5).alloc (.cells (ansC lc (Value.slice sa rF.length sc) 0 false cl).toArray 47)
  generalize hwA : w5.alloc (.cells #[.int .i64 lc, (Value.slice sa rF.length sc), .int .i64 0, .bool false, .bool cl] 47) = wA
  have hwA' : w5.alloc (.cells (ansC lc (Value.slice sa rF.length sc) 0 false cl).toArray 47) = wA := hwA
  rw [hwA'] at bA kA
  have hnX : ∀ x ∈ X, x ∉ [w5.heap.size] := fun x hx => by have := (H5.out.lo x hx).2; simp; omega
  have hnR : ∀ x ∈ R, x ∉ [w5.heap.size] := fun x hx => by have := (H5.out.ro x hx).2.1; simp; omega
  have hwp : w.heap.size ≤ w5.heap.size := K5.out.size
  have HA := Lib.hid (H5.out.keep0 kA)
  have OA := Lib.hid (O5.out.keep0 kA)
  have HFm2 := Lib.hid (HFm.out w5.heap.size _ wA HA.out bA (OA.out.sl Fld.cells_length) (by have := H5.out.lt; omega) hnX hnR (Nat.le_trans HB.out (Nat.le_trans hwp kA.size)))
  have KA := Lib.hid (K5.out.trans (kA.mono (S' := [p]) (by simp)))
  have HW := Lib.hid hwp
  have HSZ := Lib.hid (show w5.heap.size < wA.heap.size from bA.lt)
  clear k5 bA kA hwA' hnX hnR hwp
  go_wp2_with fail
  clear hwA
  refine HFm2.out.mono ?_
  rintro e w6 ⟨rfl, k6, b6, X6, h6, n6⟩
  have habA := HSZ.out
  have K6 := Lib.hid (KA.out.trans' k6 (fun x hx hlt => by
    have hx' : x = p ∨ x = w5.heap.size := by simpa using hx
    rcases hx' with rfl | rfl
    · simp
    · exact absurd hlt (by have := HW.out; omega)))
  have hgw := OA.out.lt
  have N6 := Lib.hid (fun x (hx : x ∈ X6) => (n6 x hx).imp id (fun hh => Nat.le_trans KA.out.size hh))
  cases fo with
  | false =>
    have hfp := hno rfl
    have HF := Lib.hid (reply_fail h6)
    rw [hfp] at HF
    clear k6 b6 h6 n6 hno hgw habA
    go_wp2_with fail
    refine HF.out.mono ?_
    rintro e w7 ⟨rfl, h7, k7⟩
    have HX := Lib.hid (And.intro h7 (K6.out.trans k7))
    clear h7 k7
    go_wp2_with fail
    go_ret
    rw [HH.out]
    exact ⟨rfl, HX.out.2, X6, R, HX.out.1, N6.out, fun x hx => .inl hx⟩
  | true =>
    obtain ⟨av9, c9⟩ : ∃ av, w6.cell? ⟨p, 9, Option.none⟩ = some av := by
      obtain ⟨⟨cv, av, b1, _⟩, _⟩ := h6
      exact ⟨av, b1.get (k := 9) rfl⟩
    have f9 := h6.free 9
    have hXlt : ∀ x ∈ X6, x < w.heap.size ∨ wA.heap.size ≤ x := fun x hx => (n6 x hx).imp (fun hh => (H.out.lo x hh).2) id
    have o6 : Own Fld.cells 2 B 26 w6 (Value.slice sa rF.length sc) fa.F := by
      rw [hfF]
      exact (OA.out.keep k6 (fun g hg => by
        have h1 := hgw g hg
        have h2 := O5.out.lt g hg
        have h3 := H.out.lt
        simp; omega)).lower HB.out
    have hs := Re.setAns h6 fa b6 o6 (Nat.le_trans HB.out HW.out) (fun hh => by have := hXlt _ hh; have := HW.out; omega) (fun g hg hh => by have := hXlt _ hh; have := hgw g hg; omega)
    have HX := Lib.hid (And.intro hs (K6.out.setCell ⟨p, 9, Option.none⟩ (.pointer (some ⟨w5.heap.size, 0, Option.none⟩)) (by simp)))
    have HG := Lib.hid (fun g hg => (hgw g hg).1)
    clear k6 b6 h6 n6 hno hgw habA hXlt o6 hs
    go_wp2_with fail
    go_ret
    rw [HH.out]
    refine ⟨rfl, HX.out.2, X6, _, HX.out.1, N6.out, ?_⟩
    intro x hx
    rcases List.mem_append.1 hx with hx | hx
    · exact .inl hx
    · rcases List.mem_cons.1 hx with rfl | hx
      · exact .inr HW.out
      · exact .inr (HG.out x (by simpa using hx))
end Go.Proofs.YtdmffbefppjllaaGreatDoor

/- Layer 14: a reply whose chunked body's reader has data that was not taken; Add, Take, Done, Rest of that reader. No conditions but on lengths. -/
namespace Go.Proofs.YtdmffbefppjllaaGreatDoor
open Go.RowKit Go.Shelf

/-- a reply in memory, its reader c: 'pre' was taken of c's data; the reader lies in block b -/
structure ReQ (B : Nat) (w : World) (p b : Nat) (X R : List Nat) (P : ReS) (c : Ck) (pre : List UInt8) : Prop where
  at' : ∃ av v, Blk w p 73 (reC P (.pointer (some ⟨b, 0, Option.none⟩)) av) ∧ b ≠ p ∧ b ∈ X ∧ Ct B w b pre c v ∧ (∀ g, v.ownBlock = some g → g ∈ X ∧ g ≠ p) ∧ AnsAt B w R av P.ans
  mem : p ∈ X
  lo : ∀ x ∈ X, B ≤ x ∧ x < w.heap.size
  ro : ∀ x ∈ R, B ≤ x ∧ x < w.heap.size ∧ x ∉ X
theorem Re.q {B p : Nat} {w : World} {X R : List Nat} {P : ReS} {c : Ck} (h : Re B w p X R P) (hc : P.chk = some c) : ∃ b, ReQ B w p b X R P c c.dat := by
  obtain ⟨⟨cv, av, b1, b2, b3⟩, h4, h5, h6⟩ := h
  rw [hc] at b2
  obtain ⟨b, v, rfl, h7, h8, h9, h10⟩ := b2
  exact ⟨b, ⟨av, v, b1, h7, h8, h9, h10, b3⟩, h4, h5, h6⟩
theorem ReQ.re {B p b : Nat} {w : World} {X R : List Nat} {P : ReS} {c : Ck} (h : ReQ B w p b X R P c c.dat) : Re B w p X R { P with chk := some c } := by
  obtain ⟨⟨av, v, b1, h7, h8, h9, h10, b3⟩, h4, h5, h6⟩ := h
  exact ⟨⟨_, av, b1, ⟨b, v, rfl, h7, h8, h9, h10⟩, b3⟩, h4, h5, h6⟩
theorem ReQ.set {B p b : Nat} {w : World} {X R : List Nat} {P P' : ReS} {c : Ck} {pre : List UInt8} (h : ReQ B w p b X R P c pre) (k : Nat) (x : Value) (hc : ∀ cv av, (reC P cv av).set k x = reC P' cv av) (h1 : P'.ans = P.ans) : ReQ B (w.setCell ⟨p, k, Option.none⟩ x) p b X R P' c pre := by
  obtain ⟨⟨av, v, b1, h7, h8, h9, h10, b3⟩, h4, h5, h6⟩ := h
  have hk : Keep [p] w (w.setCell ⟨p, k, Option.none⟩ x) := (Keep.refl _ _).setCell _ _ (by simp)
  refine ⟨⟨av, v, ?_, h7, h8, h9.keep hk (by simpa using h7) (fun g hg => by simpa using (h10 g hg).2), h10, ?_⟩, h4, fun y hy => ⟨(h5 y hy).1, Nat.lt_of_lt_of_le (h5 y hy).2 hk.size⟩, fun y hy => ⟨(h6 y hy).1, Nat.lt_of_lt_of_le (h6 y hy).2.1 hk.size, (h6 y hy).2.2⟩⟩
  · rw [← hc]; exact b1.set k x
  · rw [h1]; exact b3.keep hk (fun y hy => by simp only [List.mem_singleton]; rintro rfl; exact (h6 _ hy).2.2 h4)
theorem ReQ.at_ {B p b : Nat} {w : World} {X R : List Nat} {P : ReS} {c : Ck} {pre : List UInt8} (h : ReQ B w p b X R P c pre) : w.cell? ⟨p, 2, Option.none⟩ = some (.int .i64 (P.st : Nat)) ∧ w.cell? ⟨p, 3, Option.none⟩ = some (.string (S P.inp)) ∧ w.cell? ⟨p, 4, Option.none⟩ = some (.string (S P.dat)) ∧ w.cell? ⟨p, 8, Option.none⟩ = some (.pointer (some ⟨b, 0, Option.none⟩)) := by
  obtain ⟨⟨av, v, b1, _⟩, _⟩ := h
  exact ⟨b1.get (k := 2) rfl, b1.get (k := 3) rfl, b1.get (k := 4) rfl, b1.get (k := 8) rfl⟩
theorem ReQ.free {B p b : Nat} {w : World} {X R : List Nat} {P : ReS} {c : Ck} {pre : List UInt8} (h : ReQ B w p b X R P c pre) (k : Nat) : w.frozen? ⟨p, k, Option.none⟩ = false := by
  obtain ⟨⟨av, v, b1, _⟩, _⟩ := h
  exact b1.frozen k
/-- a call on the reader: what it wrote, and what it has now -/
theorem reQ_core {B p b : Nat} {w w' : World} {X R : List Nat} {P : ReS} {c c' : Ck} {pre pre' : List UInt8} {av v v' : Value} (b1 : Blk w p 73 (reC P (.pointer (some ⟨b, 0, Option.none⟩)) av)) (h7 : b ≠ p) (h8 : b ∈ X) (_ : Ct B w b pre c v) (h10 : ∀ g, v.ownBlock = some g → g ∈ X ∧ g ≠ p) (b3 : AnsAt B w R av P.ans)
    (h4 : p ∈ X) (h5 : ∀ x ∈ X, B ≤ x ∧ x < w.heap.size) (h6 : ∀ x ∈ R, B ≤ x ∧ x < w.heap.size ∧ x ∉ X)
    (g1 : Ct B w' b pre' c' v') (g2 : Keep (b :: v.ownBlock.toList) w w') (g3 : v'.ownBlock = v.ownBlock ∨ v'.ownBlock = Option.none ∨ ∃ g, v'.ownBlock = some g ∧ w.heap.size ≤ g) :
    ∃ X', ReQ B w' p b X' R P c' pre' ∧ Keep X w w' ∧ ∀ x ∈ X', x ∈ X ∨ w.heap.size ≤ x := by
  have hown : ∀ g, v'.ownBlock = some g → (g ∈ X ∨ w.heap.size ≤ g) ∧ g ≠ p := fun g hg => by
    rcases g3 with e3 | e3 | ⟨g', e3, hg'⟩
    · rw [e3] at hg; exact ⟨.inl (h10 g hg).1, (h10 g hg).2⟩
    · rw [e3] at hg; cases hg
    · rw [e3] at hg
      have : g' = g := by simpa using hg
      subst this
      have := (h5 p h4).2
      exact ⟨.inr hg', by omega⟩
  have hpn : p ∉ b :: v.ownBlock.toList := by
    intro hh
    rcases List.mem_cons.1 hh with hh | hh
    · exact h7 hh.symm
    · exact (h10 p (by simpa using hh)).2 rfl
  have gX : Keep X w w' := g2.mono (fun x hx _ => by
    rcases List.mem_cons.1 hx with rfl | hx
    · exact h8
    · exact (h10 x (by simpa using hx)).1)
  obtain ⟨_, _, gb, _⟩ := id g1
  refine ⟨X ++ v'.ownBlock.toList, ⟨⟨av, v', g2.blk b1 hpn, h7, by simp [h8], g1, fun g hg => ⟨by rw [hg]; simp, (hown g hg).2⟩, ?_⟩, by simp [h4], ?_, ?_⟩, gX, ?_⟩
  · exact b3.keep g2 (fun x hx hh => by
      rcases List.mem_cons.1 hh with rfl | hh
      · exact (h6 _ hx).2.2 h8
      · exact (h6 _ hx).2.2 (h10 x (by simpa using hh)).1)
  · intro x hx
    rcases List.mem_append.1 hx with hx | hx
    · exact ⟨(h5 x hx).1, Nat.lt_of_lt_of_le (h5 x hx).2 g2.size⟩
    · exact gb.own.lt x (by simpa using hx)
  · intro x hx
    refine ⟨(h6 x hx).1, Nat.lt_of_lt_of_le (h6 x hx).2.1 g2.size, fun hh => ?_⟩
    rcases List.mem_append.1 hh with hh | hh
    · exact (h6 x hx).2.2 hh
    · rcases (hown x (by simpa using hh)).1 with h1 | h1
      · exact (h6 x hx).2.2 h1
      · have := (h6 x hx).2.1; omega
  · intro x hx
    rcases List.mem_append.1 hx with hx | hx
    · exact .inl hx
    · exact (hown x (by simpa using hx)).1
theorem reQ_Add {B p b : Nat} {w : World} {X R : List Nat} {P : ReS} {c : Ck} {pre : List UInt8} (s : List UInt8) (h : ReQ B w p b X R P c pre)
    (hm : ML w) (hB : B ≤ w.heap.size) (hbig : 0 < B) (hl : c.inp.length + c.dat.length + s.length ≤ 1048576) (hmost : (c.most : Int) ≤ 9223372036854775807) (hok : c.err = 0 → c.ok) :
    Calls Tryz.prog 52 #[.pointer (some ⟨b, 0, Option.none⟩), .string (S s)] w fun e w' => e = .returned (.int .i64 (addC c s).err) ∧ ∃ X', ReQ B w' p b X' R P (addC c s) pre ∧ Keep X w w' ∧ ∀ x ∈ X', x ∈ X ∨ w.heap.size ≤ x := by
  obtain ⟨⟨av, v, b1, h7, h8, h9, h10, b3⟩, h4, h5, h6⟩ := h
  refine (chunk_Add B b pre s c (addC c s) v w hm (by have := (h5 _ h8).1; omega) h9 hB hbig hl hmost hok (addC_R hok)).mono ?_
  rintro e w' ⟨rfl, v', g1, g2, g3⟩
  exact ⟨rfl, reQ_core b1 h7 h8 h9 h10 b3 h4 h5 h6 g1 g2 (g3.imp id .inr)⟩
theorem reQ_Take {B p b : Nat} {w : World} {X R : List Nat} {P : ReS} {c : Ck} {pre : List UInt8} (h : ReQ B w p b X R P c pre) :
    Calls Tryz.prog 78 #[.pointer (some ⟨b, 0, Option.none⟩)] w fun e w' => ∃ o, e = .returned (.string (S o)) ∧ c.dat = pre ++ o ∧ ∃ X', ReQ B w' p b X' R P c c.dat ∧ Keep X w w' ∧ ∀ x ∈ X', x ∈ X ∨ w.heap.size ≤ x := by
  obtain ⟨⟨av, v, b1, h7, h8, h9, h10, b3⟩, h4, h5, h6⟩ := h
  refine (chunk_Take h9).mono ?_
  rintro e w' ⟨o, rfl, ho, g1, g2⟩
  exact ⟨o, rfl, ho, reQ_core b1 h7 h8 h9 h10 b3 h4 h5 h6 g1 g2 (.inr (.inl rfl))⟩
theorem reQ_Done {B p b : Nat} {w : World} {X R : List Nat} {P : ReS} {c : Ck} {pre : List UInt8} (h : ReQ B w p b X R P c pre) (hs : c.st ≤ 4) :
    Calls Tryz.prog 53 #[.pointer (some ⟨b, 0, Option.none⟩)] w fun e w' => e = .returned (.bool (decide (c.st = 4))) ∧ w = w' := let ⟨⟨_, _, _, _, _, h9, _, _⟩, _, _, _⟩ := h; chunk_Done h9 hs
theorem reQ_Rest {B p b : Nat} {w : World} {X R : List Nat} {P : ReS} {c : Ck} {pre : List UInt8} (h : ReQ B w p b X R P c pre) (hs : c.st ≤ 4) :
    Calls Tryz.prog 54 #[.pointer (some ⟨b, 0, Option.none⟩)] w fun e w' => e = .returned (.string (S (if c.st = 4 then c.inp else []))) ∧ w = w' := let ⟨⟨_, _, _, _, _, h9, _, _⟩, _, _, _⟩ := h; chunk_Rest h9 hs
end Go.Proofs.YtdmffbefppjllaaGreatDoor

/- Layer 14: Next as a plain machine; the check's answers. No program. No conditions. -/
namespace Go.Proofs.YtdmffbefppjllaaGreatDoor
open Go.RowKit

def readChunksR (p : ReS) : ReS × Bool :=
  match p.chk with
  | none => (p, false)
  | some c =>
    if p.inp = [] then (p, false)
    else if (addC c p.inp).err ≠ 0 then (reFail { p with inp := [], dat := p.dat ++ (addC c p.inp).dat.drop c.dat.length, chk := some (addC c p.inp) }, true)
    else if (addC c p.inp).st = 4 then ({ p with inp := (addC c p.inp).inp, dat := p.dat ++ (addC c p.inp).dat.drop c.dat.length, chk := some (addC c p.inp), st := 4 }, true)
    else ({ p with inp := [], dat := p.dat ++ (addC c p.inp).dat.drop c.dat.length, chk := some (addC c p.inp) }, true)
def readR (p : ReS) : ReS × Bool :=
  if p.st = 0 then readHeadR p else if p.st = 1 then readChunksR p else if p.st = 2 then readLengthR p else if p.st = 3 then readCloseR p else (p, false)
def reLoop : Nat → ReS → ReS
  | 0, p => p
  | n + 1, p => if p.ans.isSome then p else if (readR p).2 then reLoop n (readR p).1 else (readR p).1
structure NrR where
  p : ReS
  k : Int
  a : Ans
  s : List UInt8
def nextR (p : ReS) : NrR :=
  match (reLoop (p.inp.length + 2) p).ans with
  | some a => ⟨{ reLoop (p.inp.length + 2) p with ans := none }, 1, a, []⟩
  | none =>
    if (reLoop (p.inp.length + 2) p).dat ≠ [] then ⟨{ reLoop (p.inp.length + 2) p with dat := [] }, 2, ans0, (reLoop (p.inp.length + 2) p).dat⟩
    else ⟨(reFinish (reLoop (p.inp.length + 2) p)).1, (reFinish (reLoop (p.inp.length + 2) p)).2, ans0, []⟩
/-! the check's two responses -/
def aw14a : List UInt8 := [72, 84, 84, 80, 47, 49, 46, 49, 32, 50, 48, 48, 32, 79, 75, 13, 10, 67, 111, 110, 116, 101, 110, 116, 45, 76, 101, 110, 103, 116, 104, 58, 32, 51, 13, 10, 13, 10, 97, 98, 99, 100]
def aw14b : List UInt8 := [72, 84, 84, 80, 47, 49, 46, 49, 32, 50, 48, 48, 32, 79, 75, 13, 10, 67, 111, 110, 116, 101, 110, 116, 45, 76, 101, 110, 103, 116, 104, 58, 32, 51, 13, 10, 13, 10]
def aw14P : ReS := (reAdd (reNew false 100) aw14a).1
def aw14Q : ReS := (reAdd (reNew true 100) aw14b).1
theorem aw14_line : slM [72, 84, 84, 80, 47, 49, 46, 48, 32, 52, 48, 52] = ⟨404, 0, true⟩ := by kernel_rfl
theorem aw14_1 : (nextR aw14P).k = 1 ∧ (nextR aw14P).a.st = 200 ∧ (nextR aw14P).a.len = 3 := by refine ⟨?_, ?_, ?_⟩ <;> kernel_rfl
theorem aw14_2 : (nextR (nextR aw14P).p).k = 2 ∧ (nextR (nextR aw14P).p).s = [97, 98, 99] := by refine ⟨?_, ?_⟩ <;> kernel_rfl
theorem aw14_3 : (nextR (nextR (nextR aw14P).p).p).k = 3 ∧ reRest (nextR (nextR (nextR aw14P).p).p).p = [100] := by refine ⟨?_, ?_⟩ <;> kernel_rfl
theorem aw14_4 : (nextR aw14Q).k = 1 ∧ (nextR aw14Q).a.len = 3 ∧ (nextR (nextR aw14Q).p).k = 3 := by refine ⟨?_, ?_, ?_⟩ <;> kernel_rfl
end Go.Proofs.YtdmffbefppjllaaGreatDoor

/- Layer 14: readChunks. No conditions but on lengths. -/
namespace Go.Proofs.YtdmffbefppjllaaGreatDoor
open Go.RowKit Go.Shelf

theorem ReQ.keep0 {B p b : Nat} {w w' : World} {X R : List Nat} {P : ReS} {c : Ck} {pre : List UInt8} (h : ReQ B w p b X R P c pre) (k : Keep [] w w') : ReQ B w' p b X R P c pre := by
  obtain ⟨⟨av, v, b1, h7, h8, h9, h10, b3⟩, h4, h5, h6⟩ := h
  exact ⟨⟨av, v, k.blk b1 (by simp), h7, h8, h9.keep k (by simp) (by simp), h10, b3.keep k (by simp)⟩, h4, fun y hy => ⟨(h5 y hy).1, Nat.lt_of_lt_of_le (h5 y hy).2 k.size⟩, fun y hy => ⟨(h6 y hy).1, Nat.lt_of_lt_of_le (h6 y hy).2.1 k.size, (h6 y hy).2.2⟩⟩

set_option maxHeartbeats 4000000 in
set_option maxRecDepth 100000 in
theorem reply_readChunks {B p : Nat} {X R : List Nat} {P : ReS} {c : Ck} {w : World} (h : Re B w p X R P) (hc : P.chk = some c) (hm : ML w) (hB : B ≤ w.heap.size) (hbig : 0 < B) (hl : P.inp.length + P.dat.length ≤ 65536)
    (hcl : c.inp.length + c.dat.length ≤ 65536) (hmost : (c.most : Int) ≤ 9223372036854775807) (hok : c.err = 0 → c.ok) (hst : (addC c P.inp).err = 0 → (addC c P.inp).st ≤ 4) (hdl : (addC c P.inp).dat.length ≤ 1048576) :
    Calls Tryz.prog 59 #[.pointer (some ⟨p, 0, Option.none⟩)] w fun e w' => e = .returned (.bool (readChunksR P).2) ∧ Keep X w w' ∧ ∃ X', Re B w' p X' R (readChunksR P).1 ∧ ∀ x ∈ X', x ∈ X ∨ w.heap.size ≤ x := by
  have hE : readChunksR P = if P.inp = [] then (P, false)
    else if (addC c P.inp).err ≠ 0 then (reFail { P with inp := [], dat := P.dat ++ (addC c P.inp).dat.drop c.dat.length, chk := some (addC c P.inp) }, true)
    else if (addC c P.inp).st = 4 then ({ P with inp := (addC c P.inp).inp, dat := P.dat ++ (addC c P.inp).dat.drop c.dat.length, chk := some (addC c P.inp), st := 4 }, true)
    else ({ P with inp := [], dat := P.dat ++ (addC c P.inp).dat.drop c.dat.length, chk := some (addC c P.inp) }, true) := by unfold readChunksR; rw [hc]
  obtain ⟨c0, c1, c2, c3, c4, c5, c6, c7, c10, c11⟩ := h.at_
  have tl := S_toList P.inp
  by_cases h0 : P.inp = []
  · rw [if_pos h0] at hE
    have HE := Lib.hid hE
    have te : P.inp.isEmpty = true := by rw [h0]; rfl
    have te2 : (P.inp == []) = true := by rw [h0]; rfl
    have H := Lib.hid h
    clear hE h0 h
    go_enter Tryz.func59, Tryz.ntmps59
    go_wp2_with fail
    go_ret
    rw [HE.out]
    exact ⟨rfl, Keep.refl _ _, X, H.out, fun x hx => .inl hx⟩
  rw [if_neg h0] at hE
  have te : P.inp.isEmpty = false := by simpa [List.isEmpty_iff] using h0
  have te2 : (P.inp == []) = false := by simpa using h0
  obtain ⟨b, hq⟩ := h.q hc
  have f3 := hq.free 3
  have hs := hq.set (P' := { P with inp := [] }) 3 (.string ⟨#[]⟩) (fun _ _ => rfl) rfl
  have ks := (Keep.refl [p] w).setCell ⟨p, 3, Option.none⟩ (.string ⟨#[]⟩) (by simp)
  have KS := Lib.hid (h.keepX ks)
  have HA := Lib.hid (reQ_Add P.inp hs (hm.keepB hbig KS.out (fun x hx => (h.lo x hx).1)) (Nat.le_trans hB ks.size) hbig (by omega) hmost hok)
  have c8 := hs.at_.2.2.2
  have HPX := Lib.hid h.mem
  clear h hq hs ks hm hok hc h0
  generalize addC c P.inp = d at *
  have HE := Lib.hid hE
  clear hE
  go_enter Tryz.func59, Tryz.ntmps59
  go_upto_region 6 with fail
  refine HA.out.mono ?_
  rintro e w2 ⟨rfl, X2, h2, k2, n2⟩
  go_upto_region 6 with fail
  have HT := Lib.hid (fun w' (k : Keep [] w2 w') => reQ_Take (h2.keep0 k))
  obtain ⟨a2, a3, a4, a8⟩ := h2.at_
  have H2 := Lib.hid (And.intro h2 (And.intro k2 n2))
  have sz3 := S_size P.dat
  clear c0 c1 c2 c3 c4 c5 c6 c7 c10 c11 c8 f3 te te2 tl h2 k2 n2 HA
  go_cut [4] (fun y wx => y = .int .i64 d.err ∧ Hid (∃ X3, ReQ B wx p b X3 R { P with inp := [], dat := P.dat ++ d.dat.drop c.dat.length } d d.dat ∧ Keep X2 w2 wx ∧ ∀ x ∈ X3, x ∈ X2 ∨ w2.heap.size ≤ x))
  case first =>
    go_region_with (first
      | (go_at_call 78
         refine (HT.out _ (by repeat (first | exact Keep.refl _ _ | apply Keep.drew))).mono ?_
         rintro e w3 ⟨o, rfl, ho, X3, h3, k3, n3⟩
         have ho2 := Lib.hid (show d.dat.drop c.dat.length = o by rw [ho, List.drop_left])
         have hol : o.length ≤ d.dat.length := by rw [ho]; simp
         have so := S_size o
         have happ := S_append P.dat o
         have hov : ¬ 9223372036854775807 < P.dat.length + o.length := by omega
         obtain ⟨e2, e3, e4, e8⟩ := h3.at_
         have ff := h3.free 4
         have H3 := Lib.hid (And.intro h3 (And.intro k3 n3))
         clear ho h3 k3 n3)
      | fail)
    all_goals
      go_wp2_with fail
      go_meet
      refine ⟨rfl, Lib.hid ⟨X3, ?_, ?_, H3.out.2.2⟩⟩
      · rw [ho2.out]
        exact H3.out.1.set (P' := { P with inp := [], dat := P.dat ++ o }) 4 (.string (S (P.dat ++ o))) (fun _ _ => rfl) rfl
      · exact ((((Keep.refl [] w2).drew).mono (S' := X2) (by simp)).trans H3.out.2.1).setCell _ _ (fun _ => H2.out.1.mem)
  case rest =>
  obtain ⟨rfl, HQ⟩ := hcut
  obtain ⟨X3, h3, k3, n3⟩ := HQ.out
  have K3 := Lib.hid (KS.out.trans (H2.out.2.1.trans' k3 (fun x hx hlt => (H2.out.2.2 x hx).elim id (fun hh => absurd hlt (by omega)))))
  have N3 := Lib.hid (fun x (hx : x ∈ X3) => (n3 x hx).elim (fun h1 => (H2.out.2.2 x h1).imp id (fun hh => Nat.le_trans KS.out.size hh)) (fun hh => (Or.inr (Nat.le_trans KS.out.size (Nat.le_trans H2.out.2.1.size hh)) : x ∈ X ∨ w.heap.size ≤ x)))
  clear a2 a3 a4 a8 HQ k3 n3 HT
  by_cases e1 : d.err = 0
  case neg =>
    have q1 := (int_ne e1).2
    have HH := Lib.hid (HE.out.trans (if_pos e1))
    have HF := Lib.hid (reply_fail h3.re)
    have HM3 := Lib.hid h3.mem
    clear HE e1 h3
    go_wp2_with fail
    refine HF.out.mono ?_
    rintro e w5 ⟨rfl, h5, k5⟩
    have HX := Lib.hid (And.intro h5 k5)
    clear h5 k5
    go_wp2_with fail
    go_ret
    rw [HH.out]
    exact ⟨rfl, K3.out.trans' HX.out.2 (fun x hx hlt => by
      have e : x = p := by simpa using hx
      rw [e]; exact HPX.out), X3, HX.out.1, N3.out⟩
  have q1 := (int_eq e1).2
  have hE1 := HE.out.trans (if_neg (by simp [e1]))
  have HD := Lib.hid (reQ_Done h3 (hst e1))
  have HR := Lib.hid (reQ_Rest h3 (hst e1))
  obtain ⟨b2, b3, b4, b8⟩ := h3.at_
  have f2 := h3.free 2
  have f3 := h3.free 3
  clear HE
  by_cases e2 : d.st = 4
  · have HH := Lib.hid (hE1.trans (if_pos e2))
    rw [decide_eq_true e2] at HD
    rw [if_pos e2] at HR
    have hs := (h3.set (P' := { P with inp := d.inp, dat := P.dat ++ d.dat.drop c.dat.length }) 3 (.string (S d.inp)) (fun _ _ => rfl) rfl).set (P' := { P with inp := d.inp, dat := P.dat ++ d.dat.drop c.dat.length, st := 4 }) 2 (.int .i64 4) (fun _ _ => rfl) rfl
    have HX := Lib.hid (And.intro hs.re ((K3.out.setCell ⟨p, 3, Option.none⟩ (.string (S d.inp)) (fun _ => HPX.out)).setCell ⟨p, 2, Option.none⟩ (.int .i64 4) (fun _ => HPX.out)))
    clear hs h3 e1 e2 hE1 hst
    go_wp2_with fail
    refine HD.out.mono ?_
    rintro e w5 ⟨rfl, rfl⟩
    go_wp2_with fail
    refine HR.out.mono ?_
    rintro e w5 ⟨rfl, rfl⟩
    go_wp2_with fail
    go_ret
    rw [HH.out]
    exact ⟨rfl, HX.out.2, X3, HX.out.1, N3.out⟩
  · have HH := Lib.hid (hE1.trans (if_neg e2))
    rw [decide_eq_false e2] at HD
    have HX := Lib.hid h3.re
    clear h3 e1 e2 hE1 hst HR
    go_wp2_with fail
    refine HD.out.mono ?_
    rintro e w5 ⟨rfl, rfl⟩
    go_wp2_with fail
    go_ret
    rw [HH.out]
    exact ⟨rfl, K3.out, X3, HX.out, N3.out⟩
end Go.Proofs.YtdmffbefppjllaaGreatDoor

/- Layer 12, plain laws: what holds of an inlet at any time. No program. No conditions but those that each theorem states. -/
namespace Go.Proofs.YtdmffbefppjllaaGreatDoor
open Go.RowKit

theorem frame_max (L : List Fld) : (frameM L 4096).e = 0 → (frameM L 4096).n ≤ 4096 := by
  unfold frameM
  split
  · intro h; simp at h
  · split
    · split
      · intro _; simp
      · intro h; simp at h
    · split
      · intro _; simp
      · have hu := undec_range (getV L nCL) 4096
        intro h
        simp only at h ⊢
        by_cases h0 : undecE (getV L nCL) 4096 = 0
        · exact (hu.1 h0).2
        · rcases (hu.2 h0).2 with h1 | h1 <;> rw [h1] at h <;> simp at h
theorem frame_e (L : List Fld) (m : Int) : (frameM L m).e = 0 ∨ (frameM L m).e = 3 ∨ (frameM L m).e = 4 := by
  unfold frameM
  split
  · simp
  · split
    · split <;> simp
    · split
      · simp
      · have hu := undec_range (getV L nCL) m
        simp only
        by_cases h0 : undecE (getV L nCL) m = 0
        · left; rw [h0]; simp
        · rcases (hu.2 h0).2 with h1 | h1 <;> rw [h1] <;> simp
theorem head_bounds (l : List UInt8) : ((headM l).got = true → (headM l).s = 0) ∧ ((headM l).got = true → (headM l).n ≤ l.length) ∧ ((headM l).got = true → (headM l).skip ≤ 4096) ∧ ((headM l).got = true → 2 ≤ (headM l).n) := by
  have hn := (split_small l).2.2
  have hp := split_pos l
  have hf := frame_max (splitM l).F
  unfold headM
  split
  · exact ⟨fun h => (by cases h), fun h => (by cases h), fun h => (by cases h), fun h => (by cases h)⟩
  rename_i h1
  split
  · exact ⟨fun h => (by cases h), fun h => (by cases h), fun h => (by cases h), fun h => (by cases h)⟩
  split
  · exact ⟨fun h => (by cases h), fun h => (by cases h), fun h => (by cases h), fun h => (by cases h)⟩
  split
  · exact ⟨fun h => (by cases h), fun h => (by cases h), fun h => (by cases h), fun h => (by cases h)⟩
  · rename_i h4
    have h5 := hf (by simpa using h4)
    exact ⟨fun _ => rfl, fun _ => hn, fun _ => by simp only; omega, fun _ => hp (by simpa using h1)⟩
theorem head_ne200 (l : List UInt8) : (headM l).s ≠ 200 := by
  unfold headM
  have ht : ∀ e long : Int, long ≠ 200 → toldE e long ≠ 200 := fun e long h => by unfold toldE; split; (simp); split; (exact h); simp
  split
  · exact ht _ _ (by decide)
  split
  · rename_i h; exact h
  split
  · simp [hr0]
  split
  · exact ht _ _ (by decide)
  · simp
theorem addC_sound {c : Ck} (s : List UInt8) (h : c.err = 0 → c.ok) (hs : c.st ≤ 4) : (addC c s).most = c.most ∧ (addC c s).inp.length + (addC c s).dat.length ≤ c.inp.length + c.dat.length + s.length ∧ (addC c s).st ≤ 4 ∧ ((addC c s).err = 0 → (addC c s).ok) := by
  have hr := addC_R (s := s) h
  unfold AddR at hr
  by_cases h0 : c.err = 0
  · rw [if_neg (by simp [h0])] at hr
    obtain ⟨d, e, hr, hc⟩ := hr
    have ho := runs_ok hr (add_ok (h h0) s)
    have hst := runs_st hr (show (c.add s).st ≤ 4 from hs)
    have hl := ho.2.2.2.1
    simp only [Ck.add, List.length_append] at hl
    rw [hc]
    refine ⟨ho.2.1, by simp only; omega, hst.1, fun he => ?_⟩
    simp only at he
    split at he
    · rename_i h17; exact ho.1 h17
    · exact absurd he (runs_ne hr)
  · rw [if_pos h0] at hr
    rw [hr]
    exact ⟨rfl, by omega, hs, h⟩
theorem next_hst {I : InS} (h : I.ok) : ∀ J c, J = I ∨ J = headed I (headM I.inp) → J.chk = some c → (addC c J.inp).st ≤ 4 ∧ (c.err = 0 → c.ok) := by
  intro J c hJ hc
  have key : (c.err = 0 → c.ok) ∧ c.st ≤ 4 := by
    rcases hJ with rfl | rfl
    · have := h.chk c hc; exact ⟨this.1, this.2.2.2⟩
    · have h2 : (if (headM I.inp).ch then some (ck0 4096) else I.chk) = some c := hc
      split at h2
      · cases h2; exact ⟨fun _ => ck0_ok _, by simp [ck0]⟩
      · have := h.chk c h2; exact ⟨this.1, this.2.2.2⟩
  exact ⟨(addC_sound _ key.1 key.2).2.2.1, key.1⟩
theorem in0_ok : in0.ok := ⟨by simp [in0], by simp [in0], by simp [in0], by simp [in0], by simp [in0], by simp [in0]⟩
theorem inAdd_ok {I : InS} (h : I.ok) (s : List UInt8) : (inAdd I s).1.ok := by
  unfold inAdd
  split
  · exact h
  · split
    · exact h
    · rename_i h1 h2
      have : I.left = I.inp.length + I.held := rfl
      exact ⟨by simp only [List.length_append]; omega, h.skp, h.chk, h.req, h.bad, h.hld⟩
theorem told_ne {e long : Int} (h : e ≠ 0) (h17 : e ≠ 17) (hl : long ≠ 0) : toldE e long ≠ 0 := by
  unfold toldE
  rw [if_neg (by omega)]
  split <;> omega
theorem addC_ne17 {c : Ck} (s : List UInt8) (h : c.err ≠ 17) : (addC c s).err ≠ 17 := by
  unfold addC
  split
  · exact h
  · simp only; split <;> omega
theorem toldE_ne {e : Int} (h : toldE e 413 = 0) : e = 0 ∨ e = 17 := by
  unfold toldE at h
  split at h
  · assumption
  · split at h <;> simp at h
theorem tail_none {p : InS} (q : Req) (hc : p.chk = none) (h : p.skip ≤ p.inp.length) : tailI p q = ⟨{ p with inp := p.inp.drop p.skip, held := 0, skip := 0, req := none }, q, 200⟩ := by
  have hb : bodyB p = ⟨{ p with inp := p.inp.drop p.skip, held := p.held + p.skip, skip := 0 }, true, 0⟩ := by
    unfold bodyB
    rw [hc]
    dsimp only
    rw [Nat.min_eq_left h, Nat.sub_self]
    rfl
  unfold tailI
  rw [hb]
  rfl
theorem tail_none' {p : InS} (q : Req) (hc : p.chk = none) (h : p.inp.length < p.skip) : tailI p q = ⟨{ p with inp := [], held := p.held + p.inp.length, skip := p.skip - p.inp.length }, req0, 0⟩ := by
  have hb : bodyB p = ⟨{ p with inp := [], held := p.held + p.inp.length, skip := p.skip - p.inp.length }, false, 0⟩ := by
    unfold bodyB
    rw [hc]
    dsimp only
    rw [Nat.min_eq_right (by omega), List.drop_length, decide_eq_false (by omega)]
  unfold tailI
  rw [hb]
  rfl
theorem tail_bad {p : InS} {c : Ck} (q : Req) (hc : p.chk = some c) (he : (addC c p.inp).err ≠ 0) (h17 : (addC c p.inp).err ≠ 17) :
    tailI p q = ⟨{ p with inp := [], held := p.held + p.inp.length, chk := some (addC c p.inp), st := toldE (addC c p.inp).err 413 }, req0, toldE (addC c p.inp).err 413⟩ := by
  have hb : bodyB p = ⟨{ p with inp := [], held := p.held + p.inp.length, chk := some (addC c p.inp) }, false, toldE (addC c p.inp).err 413⟩ := by
    unfold bodyB
    rw [hc]
    dsimp only
    rw [if_pos he]
  unfold tailI
  rw [hb]
  dsimp only
  rw [if_pos (told_ne he h17 (by decide))]
theorem tail_more {p : InS} {c : Ck} (q : Req) (hc : p.chk = some c) (he : (addC c p.inp).err = 0) (h4 : (addC c p.inp).st ≠ 4) :
    tailI p q = ⟨{ p with inp := [], held := p.held + p.inp.length, chk := some (addC c p.inp) }, req0, 0⟩ := by
  have hb : bodyB p = ⟨{ p with inp := [], held := p.held + p.inp.length, chk := some (addC c p.inp) }, false, 0⟩ := by
    unfold bodyB
    rw [hc]
    dsimp only
    rw [if_neg (by simp [he]), if_pos h4]
  unfold tailI
  rw [hb]
  rfl
theorem tail_done {p : InS} {c : Ck} (q : Req) (hc : p.chk = some c) (he : (addC c p.inp).err = 0) (h4 : (addC c p.inp).st = 4) :
    tailI p q = ⟨{ p with inp := (addC c p.inp).inp, held := 0, chk := none, req := none }, q, 200⟩ := by
  have hb : bodyB p = ⟨{ p with inp := (addC c p.inp).inp, held := p.held + p.inp.length, chk := none }, true, 0⟩ := by
    unfold bodyB
    rw [hc]
    dsimp only
    rw [if_neg (by simp [he]), if_neg (by simp [h4])]
  unfold tailI
  rw [hb]
  rfl
/-- a body's piece keeps what holds -/
theorem tail_ok {p : InS} (q : Req) (h : p.ok) (hq : p.req ≠ none) (h0 : p.st = 0) : (tailI p q).p.ok := by
  have hl := h.len
  have hs := h.skp
  cases hc : p.chk with
  | none =>
    rcases Nat.lt_or_ge p.inp.length p.skip with hlt | hge
    · rw [tail_none' q hc hlt]
      exact ⟨by simp only [List.length_nil]; omega, by simp only; omega, fun c hh => absurd (hc.symm.trans hh) (by simp), fun _ hh => absurd hh hq, fun c _ hh => absurd (hc.symm.trans hh) (by simp), fun _ _ => by have := h.hld h0 hq; simp only; omega⟩
    · rw [tail_none q hc hge]
      exact ⟨by simp only [List.length_drop]; omega, by simp only; omega, fun c hh => absurd (hc.symm.trans hh) (by simp), fun _ _ => ⟨hc, rfl⟩, fun c _ hh => absurd (hc.symm.trans hh) (by simp), fun _ hh => absurd rfl hh⟩
  | some c =>
    obtain ⟨k1, k2, k3, k4⟩ := h.chk c hc
    have ke := h.bad c h0 hc
    obtain ⟨d1, d2, d3, d4⟩ := addC_sound p.inp k1 k4
    have d5 := addC_ne17 (c := c) p.inp (by rw [ke]; decide)
    by_cases e1 : (addC c p.inp).err = 0
    · by_cases e2 : (addC c p.inp).st = 4
      · rw [tail_done q hc e1 e2]
        exact ⟨by simp only; omega, hs, fun c hh => by simp at hh, fun _ _ => ⟨rfl, rfl⟩, fun c _ hh => by simp at hh, fun _ hh => absurd rfl hh⟩
      · rw [tail_more q hc e1 e2]
        refine ⟨by simp only [List.length_nil]; omega, hs, fun c' hh => ?_, fun _ hh => absurd hh hq, fun c' _ hh => ?_, fun _ _ => by have := h.hld h0 hq; simp only; omega⟩
        · obtain rfl : addC c p.inp = c' := by simpa using hh
          exact ⟨d4, by rw [d1]; exact k2, by simp only; omega, d3⟩
        · obtain rfl : addC c p.inp = c' := by simpa using hh
          exact e1
    · have ht := told_ne (long := 413) e1 d5 (by decide)
      rw [tail_bad q hc e1 d5]
      refine ⟨by simp only [List.length_nil]; omega, hs, fun c' hh => ?_, fun hh => absurd hh ht, fun c' hh => absurd hh ht, fun hh => absurd hh ht⟩
      obtain rfl : addC c p.inp = c' := by simpa using hh
      exact ⟨d4, by rw [d1]; exact k2, by simp only; omega, d3⟩
theorem headed_ok {p : InS} (h : p.ok) (h0 : p.st = 0) (hr : p.req = none) (hg : (headM p.inp).got = true) : (headed p (headM p.inp)).ok := by
  obtain ⟨b1, b2, b3, b4⟩ := head_bounds p.inp
  have b4 := b4 hg
  have b2 := b2 hg
  have b3 := b3 hg
  have hl := h.len
  have hc := (h.req h0 hr).1
  generalize headM p.inp = hd at *
  have hk : ∀ c, (headed p hd).chk = some c → c = ck0 4096 := fun c hh => by
    have h2 : (if hd.ch then some (ck0 4096) else p.chk) = some c := hh
    rw [hc] at h2
    split at h2
    · cases h2; rfl
    · cases h2
  refine ⟨?_, b3, fun c hh => ?_, fun _ hh => (by cases hh), fun c _ hh => ?_, fun _ _ => b4⟩
  · show (p.inp.drop hd.n).length + hd.n ≤ 16384
    rw [List.length_drop]; omega
  · rw [hk c hh]
    exact ⟨fun _ => ck0_ok _, rfl, b4, by simp [ck0]⟩
  · rw [hk c hh]; rfl
theorem next_ok {p : InS} (h : p.ok) : (nextI p).p.ok := by
  unfold nextI
  by_cases h0 : p.st = 0
  · rw [if_neg (by simp [h0])]
    cases hr : p.req with
    | some q => exact tail_ok q h (by rw [hr]; simp) h0
    | none =>
      dsimp only
      by_cases hs : (headM p.inp).s = 0
      · rw [if_neg (by simp [hs])]
        cases hg : (headM p.inp).got with
        | false => exact h
        | true => exact tail_ok _ (headed_ok h h0 hr hg) (by simp [headed]) h0
      · rw [if_pos hs]
        exact ⟨h.len, h.skp, h.chk, fun hh => absurd hh hs, fun c hh => absurd hh hs, fun hh => absurd hh hs⟩
  · rw [if_pos h0]; exact h
/-- with a request that came whole nothing is wrong, and fewer bytes are left -/
theorem tail_200 {p : InS} {q : Req} (h : p.ok) (h0 : p.st = 0) (hq : p.req ≠ none) (hs : (tailI p q).s = 200) : (tailI p q).p.st = 0 ∧ (tailI p q).p.left + 2 ≤ p.left := by
  have hh := h.hld h0 hq
  unfold InS.left
  cases hc : p.chk with
  | none =>
    rcases Nat.lt_or_ge p.inp.length p.skip with hlt | hge
    · rw [tail_none' q hc hlt] at hs; simp at hs
    · rw [tail_none q hc hge]
      refine ⟨h0, ?_⟩
      simp only [List.length_drop]; omega
  | some c =>
    obtain ⟨k1, k2, k3, k4⟩ := h.chk c hc
    have ke := h.bad c h0 hc
    obtain ⟨d1, d2, d3, d4⟩ := addC_sound p.inp k1 k4
    have d5 := addC_ne17 (c := c) p.inp (by rw [ke]; decide)
    by_cases e1 : (addC c p.inp).err = 0
    · by_cases e2 : (addC c p.inp).st = 4
      · rw [tail_done q hc e1 e2]
        refine ⟨h0, ?_⟩
        simp only; omega
      · rw [tail_more q hc e1 e2] at hs; simp at hs
    · rw [tail_bad q hc e1 d5] at hs
      exfalso
      simp only at hs
      unfold toldE at hs
      split at hs
      · simp at hs
      · split at hs <;> simp at hs
theorem next_200 {p : InS} (h : p.ok) (h0 : p.st = 0) (hs : (nextI p).s = 200) : (nextI p).p.st = 0 ∧ (nextI p).p.left + 2 ≤ p.left := by
  unfold nextI at hs ⊢
  rw [if_neg (by simp [h0])] at hs ⊢
  cases hr : p.req with
  | some q =>
    rw [hr] at hs
    exact tail_200 h h0 (by rw [hr]; simp) hs
  | none =>
    rw [hr] at hs
    dsimp only at hs ⊢
    by_cases h1 : (headM p.inp).s = 0
    · rw [if_neg (by simp [h1])] at hs ⊢
      cases hg : (headM p.inp).got with
      | false => rw [hg] at hs; simp at hs
      | true =>
        rw [hg] at hs
        have := tail_200 (headed_ok h h0 hr hg) h0 (by simp [headed]) hs
        refine ⟨this.1, Nat.le_trans this.2 ?_⟩
        have hb := (head_bounds p.inp).2.1 hg
        unfold InS.left
        show (p.inp.drop (headM p.inp).n).length + (headM p.inp).n ≤ p.inp.length + p.held
        rw [List.length_drop]; omega
    · rw [if_pos h1] at hs
      exact absurd hs (head_ne200 p.inp)
theorem tail_le {p : InS} (q : Req) (h : p.ok) (h0 : p.st = 0) (_hq : p.req ≠ none) : (tailI p q).p.left ≤ p.left := by
  cases hc : p.chk with
  | none =>
    rcases Nat.lt_or_ge p.inp.length p.skip with hlt | hge
    · rw [tail_none' q hc hlt]; unfold InS.left; simp only [List.length_nil]; omega
    · rw [tail_none q hc hge]; unfold InS.left; simp only [List.length_drop]; omega
  | some c =>
    obtain ⟨k1, k2, k3, k4⟩ := h.chk c hc
    have ke := h.bad c h0 hc
    obtain ⟨d1, d2, d3, d4⟩ := addC_sound p.inp k1 k4
    have d5 := addC_ne17 (c := c) p.inp (by rw [ke]; decide)
    by_cases e1 : (addC c p.inp).err = 0
    · by_cases e2 : (addC c p.inp).st = 4
      · rw [tail_done q hc e1 e2]; unfold InS.left; simp only; omega
      · rw [tail_more q hc e1 e2]; unfold InS.left; simp only [List.length_nil]; omega
    · rw [tail_bad q hc e1 d5]; unfold InS.left; simp only [List.length_nil]; omega
theorem next_le {p : InS} (h : p.ok) : (nextI p).p.left ≤ p.left := by
  unfold nextI
  by_cases h0 : p.st = 0
  · rw [if_neg (by simp [h0])]
    cases hr : p.req with
    | some q => exact tail_le q h h0 (by rw [hr]; simp)
    | none =>
      dsimp only
      by_cases hs : (headM p.inp).s = 0
      · rw [if_neg (by simp [hs])]
        cases hg : (headM p.inp).got with
        | false => exact Nat.le_refl _
        | true =>
          refine Nat.le_trans (tail_le _ (headed_ok h h0 hr hg) h0 (by simp [headed])) ?_
          have hb := (head_bounds p.inp).2.1 hg
          unfold InS.left
          show (p.inp.drop (headM p.inp).n).length + (headM p.inp).n ≤ p.inp.length + p.held
          rw [List.length_drop]; omega
      · rw [if_pos hs]; exact Nat.le_refl _
  · rw [if_pos h0]; exact Nat.le_refl _
theorem next_st {p : InS} (h : p.ok) (h0 : p.st = 0) (hs : (nextI p).s = 200) : (nextI p).p.st = 0 := (next_200 h h0 hs).1
end Go.Proofs.YtdmffbefppjllaaGreatDoor

/- Layer 14, plain laws: what holds of a reply at any time; its loop. No program. No conditions but those that each theorem states. -/
namespace Go.Proofs.YtdmffbefppjllaaGreatDoor
open Go.RowKit

def ckW (o : Option Ck) : Nat := match o with | none => 0 | some c => 2 * c.inp.length + c.dat.length
def ReS.wt (P : ReS) : Nat := 2 * P.inp.length + P.dat.length + (if P.st = 1 then ckW P.chk else 0)
theorem wt_of {P : ReS} (h : P.st ≠ 1) : P.wt = 2 * P.inp.length + P.dat.length := by unfold ReS.wt; rw [if_neg h]; rfl
/-- what holds of a reply at any time; n bounds what it holds -/
structure ReS.ok (P : ReS) (n : Nat) : Prop where
  wt : P.wt ≤ n
  big : (P.most : Int) ≤ 9223372036854775807
  size : P.size ≤ P.most
  left : (P.left : Int) ≤ 9223372036854775807
  st : P.st ≤ 5
  head : P.st = 0 → P.chk = none ∧ P.ans = none ∧ P.passed ≤ 5
  chk : P.st = 1 → ∃ c, P.chk = some c ∧ (c.most : Int) ≤ 9223372036854775807 ∧ c.err = 0 ∧ c.ok
def ReS.mu (P : ReS) : Nat := if P.st ≤ 3 then P.inp.length + 1 else 0

theorem frame_le (L : List Fld) (m : Nat) : (frameM L m).e = 0 → (frameM L m).n ≤ (m : Int) := by
  unfold frameM
  split
  · intro h; simp at h
  · split
    · split
      · intro _; simp
      · intro h; simp at h
    · split
      · intro _; simp only; omega
      · have hu := undec_range (getV L nCL) m
        intro h
        simp only at h ⊢
        by_cases h0 : undecE (getV L nCL) m = 0
        · exact (hu.1 h0).2
        · rcases (hu.2 h0).2 with h1 | h1 <;> rw [h1] at h <;> simp at h
theorem addC_ok {c : Ck} (h0 : c.err = 0) (hok : c.ok) (s : List UInt8) : (addC c s).most = c.most ∧ (addC c s).inp.length + (addC c s).dat.length ≤ c.inp.length + s.length + c.dat.length ∧ c.dat <+: (addC c s).dat ∧ ((addC c s).err = 0 → (addC c s).ok) := by
  have hr := runF_runs _ _ (add_ok hok s) (Nat.le_refl _)
  obtain ⟨r1, r2, r3, r4, r5⟩ := runs_ok hr (add_ok hok s)
  have hne := runs_ne hr
  unfold addC
  rw [if_neg (by simp [h0])]
  generalize runF (c.add s).mu (c.add s) = x at *
  obtain ⟨d, e⟩ := x
  dsimp only at *
  refine ⟨r2, ?_, r5, fun h => ?_⟩
  · have : (c.add s).inp.length = c.inp.length + s.length := by simp [Ck.add]
    have h2 : (c.add s).dat = c.dat := rfl
    rw [this, h2] at r4
    exact r4
  · by_cases h17 : e = 17
    · exact r1 h17
    · rw [if_neg h17] at h; exact absurd h hne
theorem reNew_ok (hd : Bool) {most : Int} (h : in64 most) : (reNew hd most).ok 0 := by
  unfold in64 at h
  refine ⟨by simp [reNew, ReS.wt], by simp [reNew]; omega, by simp [reNew], by simp [reNew], by simp [reNew], fun _ => by simp [reNew], fun hh => by simp [reNew] at hh⟩
theorem reFail_ok {P : ReS} {n : Nat} (h : P.ok n) : (reFail P).ok n := by
  refine ⟨?_, h.big, h.size, h.left, by simp [reFail], fun hh => by simp [reFail] at hh, fun hh => by simp [reFail] at hh⟩
  have := h.wt
  simp only [reFail, ReS.wt] at this ⊢
  split at this <;> simp <;> omega
theorem fail_ok {P : ReS} {n : Nat} (hw : 2 * P.inp.length + P.dat.length ≤ n) (hb : (P.most : Int) ≤ 9223372036854775807) (hs : P.size ≤ P.most) (hl : (P.left : Int) ≤ 9223372036854775807) : (reFail P).ok n :=
  ⟨by rw [wt_of (show (5 : Nat) ≠ 1 by decide)]; exact hw, hb, hs, hl, Nat.le_refl 5, fun hh => absurd (show (5 : Nat) = 0 from hh) (by decide), fun hh => absurd (show (5 : Nat) = 1 from hh) (by decide)⟩
theorem reAdd_ok {P : ReS} {n : Nat} (h : P.ok n) (s : List UInt8) : (reAdd P s).1.ok (n + 2 * s.length) := by
  have hw := h.wt
  unfold reAdd
  split
  · exact ⟨by simp only; omega, h.big, h.size, h.left, h.st, h.head, h.chk⟩
  · split
    · exact ⟨by simp only; omega, h.big, h.size, h.left, h.st, h.head, h.chk⟩
    · refine ⟨?_, h.big, h.size, h.left, h.st, h.head, h.chk⟩
      simp only [ReS.wt, List.length_append] at hw ⊢
      omega
theorem ok_mono {P : ReS} {n m : Nat} (h : P.ok n) (hm : n ≤ m) : P.ok m := ⟨Nat.le_trans h.wt hm, h.big, h.size, h.left, h.st, h.head, h.chk⟩
theorem reFrame_inp (P : ReS) (a : Ans) : (reFrame P a).p.inp = P.inp ∧ (reFrame P a).p.dat = P.dat ∧ (reFrame P a).p.most = P.most ∧ (reFrame P a).p.size = P.size := by
  unfold reFrame
  split
  · exact ⟨rfl, rfl, rfl, rfl⟩
  · split
    · exact ⟨rfl, rfl, rfl, rfl⟩
    · split
      · exact ⟨rfl, rfl, rfl, rfl⟩
      · split <;> exact ⟨rfl, rfl, rfl, rfl⟩
theorem reFrame_st {P : ReS} {a : Ans} (h : (reFrame P a).ok = true) : 1 ≤ (reFrame P a).p.st ∧ (reFrame P a).p.st ≤ 4 := by
  unfold reFrame at h ⊢
  split
  · simp
  · rename_i h1
    rw [if_neg h1] at h
    split
    · rename_i h2; rw [if_pos h2] at h; simp at h
    · split
      · simp
      · split <;> simp
theorem reFrame_left {P : ReS} {a : Ans} {n : Nat} (hP : P.ok n) : ((reFrame P a).p.left : Int) ≤ 9223372036854775807 := by
  have hl := hP.left
  have hb := hP.big
  unfold reFrame
  split
  · exact hl
  · split
    · exact hl
    · rename_i h2
      have hf := frame_le a.F P.most (by simpa using h2)
      split
      · exact hl
      · split
        · exact hl
        · simp only
          omega
theorem reFrame_chk {P : ReS} {a : Ans} {n : Nat} (_hP : P.ok n) (h0 : P.st = 0) : (reFrame P a).p.st = 1 → (reFrame P a).p.chk = some (ck0 P.most) := by
  unfold reFrame
  split
  · intro h; simp at h
  · split
    · intro h; simp only at h; omega
    · split
      · intro _; rfl
      · split <;> (intro h; simp at h)
theorem readHead_ok {P : ReS} {n : Nat} (h : P.ok n) (h0 : P.st = 0) : (readHeadR P).1.ok n ∧ ((readHeadR P).2 = true → (readHeadR P).1.mu < P.mu) := by
  have hmu : P.mu = P.inp.length + 1 := by unfold ReS.mu; rw [if_pos (by omega)]
  have hw : 2 * P.inp.length + P.dat.length ≤ n := by have := h.wt; unfold ReS.wt at this; rw [if_neg (by omega)] at this; omega
  have hhd := h.head h0
  have hdl : (P.inp.drop (splitM P.inp).n).length = P.inp.length - (splitM P.inp).n := List.length_drop
  have hHok : (headP P).ok n := ⟨by unfold ReS.wt headP; simp only; rw [if_neg (by omega), hdl]; omega, h.big, h.size, h.left, h.st, fun _ => hhd, fun hh => absurd (show P.st = 1 from hh) (by omega)⟩
  unfold readHeadR
  split
  · exact ⟨h, fun hh => by simp at hh⟩
  · split
    · exact ⟨reFail_ok h, fun _ => by rw [hmu]; simp [reFail, ReS.mu]⟩
    · rename_i h1 h2
      have he : (splitM P.inp).e = 0 := by
        by_cases hh : (splitM P.inp).e = 0
        · exact hh
        · exact absurd (Or.inl hh) h2
      have hp := split_pos P.inp he
      have hn := (split_small P.inp).2.2
      split
      · split
        · exact ⟨fail_ok (by show 2 * (P.inp.drop (splitM P.inp).n).length + P.dat.length ≤ n; rw [hdl]; omega) hHok.big hHok.size hHok.left, fun _ => by rw [hmu]; simp [reFail, ReS.mu]⟩
        · rename_i h4
          refine ⟨⟨hHok.wt, hHok.big, hHok.size, hHok.left, hHok.st, fun _ => ⟨hhd.1, hhd.2.1, by show P.passed + 1 ≤ 5; omega⟩, hHok.chk⟩, fun _ => ?_⟩
          rw [hmu]
          simp only [ReS.mu, headP, hdl, h0]
          simp
          omega
      · split
        · rename_i h5
          obtain ⟨s1, s2⟩ := reFrame_st h5
          obtain ⟨i1, i2, i3, i4⟩ := reFrame_inp (headP P) (headA P)
          have hc := reFrame_chk (a := headA P) hHok (show (headP P).st = 0 from h0)
          have hll : (headP P).inp.length = P.inp.length - (splitM P.inp).n := hdl
          refine ⟨⟨?_, ?_, ?_, reFrame_left hHok, ?_, ?_, ?_⟩, fun _ => ?_⟩
          · have := hHok.wt
            unfold ReS.wt at this ⊢
            simp only
            rw [i1, i2]
            rw [if_neg (show ¬ (headP P).st = 1 by show ¬ P.st = 1; omega)] at this
            split
            · rename_i h6
              rw [hc h6]
              simp only [ckW, ck0, List.length_nil]
              omega
            · omega
          · simp only; rw [i3]; exact hHok.big
          · simp only; rw [i3, i4]; exact hHok.size
          · simp only; omega
          · intro hh; simp only at hh; omega
          · intro hh
            refine ⟨_, hc hh, ?_, rfl, ?_⟩
            · have := hHok.big
              simp only [ck0]
              omega
            · simp [Ck.ok, ck0]
          · rw [hmu]
            simp only [ReS.mu]
            rw [i1, hll]
            split <;> omega
        · exact ⟨reFail_ok hHok, fun _ => by rw [hmu]; simp [reFail, ReS.mu]⟩
theorem readChunks_ok {P : ReS} {n : Nat} (h : P.ok n) (h1 : P.st = 1) : (readChunksR P).1.ok n ∧ ((readChunksR P).2 = true → (readChunksR P).1.mu < P.mu) := by
  have hmu : P.mu = P.inp.length + 1 := by unfold ReS.mu; rw [if_pos (by omega)]
  obtain ⟨c, hc, cb, ce, co⟩ := h.chk h1
  have hw : 2 * P.inp.length + P.dat.length + (2 * c.inp.length + c.dat.length) ≤ n := by have := h.wt; unfold ReS.wt at this; rw [if_pos h1, hc] at this; exact this
  obtain ⟨a1, a2, a3, a4⟩ := addC_ok ce co P.inp
  have hpre := a3.length_le
  have hdrop : ((addC c P.inp).dat.drop c.dat.length).length = (addC c P.inp).dat.length - c.dat.length := List.length_drop
  unfold readChunksR
  rw [hc]
  dsimp only
  generalize addC c P.inp = d at *
  split
  · exact ⟨h, fun hh => by simp at hh⟩
  · rename_i h0
    split
    · exact ⟨fail_ok (by simp [hdrop]; omega) h.big h.size h.left, fun _ => by rw [hmu]; simp [reFail, ReS.mu]⟩
    · rename_i h2
      split
      · exact ⟨⟨by simp only [ReS.wt]; rw [if_neg (by omega)]; simp [hdrop]; omega, h.big, h.size, h.left, by simp, fun hh => by simp at hh, fun hh => by simp at hh⟩, fun _ => by rw [hmu]; simp [ReS.mu]⟩
      · refine ⟨⟨by simp only [ReS.wt]; rw [if_pos h1]; simp [hdrop, ckW]; omega, h.big, h.size, h.left, h.st, fun hh => by simp only at hh; omega, fun _ => ⟨d, rfl, by rw [a1]; exact cb, by simpa using h2, a4 (by simpa using h2)⟩⟩, fun _ => ?_⟩
        have hl : 0 < P.inp.length := List.length_pos_iff.2 h0
        rw [hmu]
        simp only [ReS.mu, h1]
        simp
        omega
theorem readLength_ok {P : ReS} {n : Nat} (h : P.ok n) (h2 : P.st = 2) : (readLengthR P).1.ok n ∧ ((readLengthR P).2 = true → (readLengthR P).1.mu < P.mu) := by
  have hmu : P.mu = P.inp.length + 1 := by unfold ReS.mu; rw [if_pos (by omega)]
  have hw : 2 * P.inp.length + P.dat.length ≤ n := by have := h.wt; unfold ReS.wt at this; rw [if_neg (by omega)] at this; omega
  have hl := h.left
  unfold readLengthR
  split
  · exact ⟨⟨by simp only [ReS.wt]; rw [if_neg (by omega)]; simp; omega, h.big, h.size, by simp, by simp, fun hh => by simp at hh, fun hh => by simp at hh⟩, fun _ => by rw [hmu]; simp [ReS.mu]⟩
  · refine ⟨⟨by simp only [ReS.wt]; rw [if_neg (by omega)]; simp; omega, h.big, h.size, by simp only; omega, h.st, fun hh => by simp only at hh; omega, fun hh => by simp only at hh; omega⟩, fun hh => ?_⟩
    simp only [decide_eq_true_eq] at hh
    rw [hmu]
    simp only [ReS.mu, h2, List.length_drop]
    simp
    omega
theorem readClose_ok {P : ReS} {n : Nat} (h : P.ok n) (h2 : P.st = 3) : (readCloseR P).1.ok n ∧ ((readCloseR P).2 = true → (readCloseR P).1.mu < P.mu) := by
  have hmu : P.mu = P.inp.length + 1 := by unfold ReS.mu; rw [if_pos (by omega)]
  have hw : 2 * P.inp.length + P.dat.length ≤ n := by have := h.wt; unfold ReS.wt at this; rw [if_neg (by omega)] at this; omega
  have hs := h.size
  have hC : (closeP P).ok n := ⟨by rw [wt_of (show (closeP P).st ≠ 1 from (by omega : P.st ≠ 1))]; simp only [closeP]; simp; omega, h.big, by simp only [closeP]; omega, h.left, h.st, fun hh => by simp only [closeP] at hh; omega, fun hh => by simp only [closeP] at hh; omega⟩
  unfold readCloseR
  split
  · exact ⟨reFail_ok hC, fun _ => by rw [hmu]; simp [reFail, ReS.mu]⟩
  · split
    · refine ⟨⟨?_, hC.big, hC.size, hC.left, by simp, fun hh => by simp at hh, fun hh => by simp at hh⟩, fun _ => by rw [hmu]; simp [ReS.mu]⟩
      have := hC.wt
      simp only [ReS.wt] at this ⊢
      rw [if_neg (by omega)]
      omega
    · refine ⟨hC, fun hh => ?_⟩
      simp only [decide_eq_true_eq] at hh
      rw [hmu]
      simp only [ReS.mu, closeP, h2, List.length_drop]
      simp
      omega
theorem read_ok {P : ReS} {n : Nat} (h : P.ok n) : (readR P).1.ok n ∧ ((readR P).2 = true → (readR P).1.mu < P.mu) := by
  unfold readR
  split
  · rename_i h0; exact readHead_ok h h0
  · split
    · rename_i h1; exact readChunks_ok h h1
    · split
      · rename_i h1; exact readLength_ok h h1
      · split
        · rename_i h1; exact readClose_ok h h1
        · exact ⟨h, fun hh => by simp at hh⟩
/-- enough steps are enough -/
theorem reLoop_fuel {n : Nat} : ∀ (i j : Nat) (P : ReS), P.ok n → P.mu < i → P.mu < j → reLoop i P = reLoop j P
  | 0, _, _, _, h, _ => absurd h (by omega)
  | _ + 1, 0, _, _, _, h => absurd h (by omega)
  | i + 1, j + 1, P, hP, hi, hj => by
    unfold reLoop
    split
    · rfl
    · split
      · rename_i h2
        have := read_ok hP
        have := this.2 h2
        exact reLoop_fuel i j _ (read_ok hP).1 (by omega) (by omega)
      · rfl
def reEnd (P : ReS) : ReS := reLoop (P.inp.length + 2) P
theorem mu_lt (P : ReS) : P.mu < P.inp.length + 2 := by unfold ReS.mu; split <;> omega
theorem reEnd_some {P : ReS} (h : P.ans.isSome = true) : reEnd P = P := by unfold reEnd reLoop; rw [if_pos h]
theorem reEnd_stop {P : ReS} (h : P.ans = none) (h2 : (readR P).2 = false) : reEnd P = (readR P).1 := by unfold reEnd reLoop; rw [if_neg (by simp [h]), if_neg (by simp [h2])]
theorem reEnd_more {P : ReS} {n : Nat} (hP : P.ok n) (h : P.ans = none) (h2 : (readR P).2 = true) : reEnd P = reEnd (readR P).1 := by
  have hr := read_ok hP
  have hlt := hr.2 h2
  have hm := mu_lt P
  have e1 : reEnd P = reLoop (P.inp.length + 1) (readR P).1 := by unfold reEnd; rw [reLoop, if_neg (by simp [h]), if_pos h2]
  rw [e1]
  exact reLoop_fuel _ _ _ hr.1 (by omega) (mu_lt _)
theorem reLoop_ok {n : Nat} : ∀ (i : Nat) (P : ReS), P.ok n → (reLoop i P).ok n
  | 0, P, h => h
  | i + 1, P, h => by
    unfold reLoop
    split
    · exact h
    · split
      · exact reLoop_ok i _ (read_ok h).1
      · exact (read_ok h).1
theorem reEnd_ok {P : ReS} {n : Nat} (h : P.ok n) : (reEnd P).ok n := reLoop_ok _ P h
theorem reFinish_ok {P : ReS} {n : Nat} (h : P.ok n) : (reFinish P).1.ok n := by
  unfold reFinish
  split
  · exact ⟨h.wt, h.big, h.size, h.left, h.st, h.head, h.chk⟩
  · split
    · exact reFail_ok h
    · exact h
theorem nextR_eq (P : ReS) : nextR P = match (reEnd P).ans with
  | some a => ⟨{ reEnd P with ans := none }, 1, a, []⟩
  | none => if (reEnd P).dat ≠ [] then ⟨{ reEnd P with dat := [] }, 2, ans0, (reEnd P).dat⟩ else ⟨(reFinish (reEnd P)).1, (reFinish (reEnd P)).2, ans0, []⟩ := rfl
theorem nextR_ok {P : ReS} {n : Nat} (h : P.ok n) : (nextR P).p.ok n := by
  have hE := reEnd_ok h
  rw [nextR_eq]
  generalize reEnd P = Q at *
  split
  · exact ⟨hE.wt, hE.big, hE.size, hE.left, hE.st, fun hh => ⟨(hE.head hh).1, rfl, (hE.head hh).2.2⟩, hE.chk⟩
  · split
    · refine ⟨?_, hE.big, hE.size, hE.left, hE.st, hE.head, hE.chk⟩
      have := hE.wt
      simp only [ReS.wt, List.length_nil] at this ⊢
      omega
    · exact reFinish_ok hE
end Go.Proofs.YtdmffbefppjllaaGreatDoor

/- Layer 14: read; the loop of Next. No conditions but on lengths. -/
namespace Go.Proofs.YtdmffbefppjllaaGreatDoor
open Go.RowKit Go.Shelf

/-- what read comes to -/
def RdOut (B : Nat) (w : World) (p : Nat) (X R : List Nat) (r : ReS × Bool) (e : Ending) (w' : World) : Prop :=
  e = .returned (.bool r.2) ∧ Keep X w w' ∧ ∃ X' R', Re B w' p X' R' r.1 ∧ (∀ x ∈ X', x ∈ X ∨ w.heap.size ≤ x) ∧ (∀ x ∈ R', x ∈ R ∨ w.heap.size ≤ x)
set_option maxHeartbeats 2000000 in
set_option maxRecDepth 100000 in
theorem reply_read {B p n : Nat} {X R : List Nat} {P : ReS} {w : World} (h : Re B w p X R P) (hm : ML w) (hB : B ≤ w.heap.size) (hbig : 0 < B) (hok : P.ok n) (hn : n ≤ 60000) :
    Calls Tryz.prog 35 #[.pointer (some ⟨p, 0, Option.none⟩)] w (RdOut B w p X R (readR P)) := by
  obtain ⟨c0, c1, c2, c3, c4, c5, c6, c7, c10, c11⟩ := h.at_
  have hwt := hok.wt
  have hlen : 2 * P.inp.length + P.dat.length ≤ n := by unfold ReS.wt at hwt; omega
  have HKX := Lib.hid (fun w' (k : Keep [p] w w') => h.keepX k)
  have H := Lib.hid h
  by_cases h0 : P.st = 0
  · have hE : readR P = readHeadR P := by unfold readR; rw [if_pos h0]
    obtain ⟨g1, g2, g3⟩ := hok.head h0
    have HC := Lib.hid (reply_readHead h hm hB (by omega) g1 g2 (by omega))
    unfold RhOut at HC
    rw [h0] at c2
    rw [hE]
    clear h hm hok hwt hE g1 g2 g3 h0
    go_enter Tryz.func35, Tryz.ntmps35
    go_wp2_with fail
    refine HC.out.mono ?_
    rintro e w1 ⟨rfl, k1, X1, R1, h1, n1, r1⟩
    have HX := Lib.hid (And.intro k1 (And.intro h1 (And.intro n1 r1)))
    clear k1 h1 n1 r1
    go_wp2_with fail
    go_ret
    exact ⟨rfl, HKX.out _ HX.out.1, X1, R1, HX.out.2⟩
  have q0 : (((P.st : Nat) : Int) == 0) = false := by simp; omega
  by_cases h1 : P.st = 1
  · have hE : readR P = readChunksR P := by unfold readR; rw [if_neg h0, if_pos h1]
    obtain ⟨c, hc, cb, ce, co⟩ := hok.chk h1
    have hw2 : 2 * c.inp.length + c.dat.length ≤ n := by unfold ReS.wt at hwt; rw [if_pos h1, hc] at hwt; unfold ckW at hwt; dsimp only at hwt; omega
    obtain ⟨a1, a2, a3, a4⟩ := addC_ok ce co P.inp
    have HC := Lib.hid (reply_readChunks h hc hm hB hbig (by omega) (by omega) cb (fun _ => co) (fun he => (a4 he).2.2) (by omega))
    rw [h1] at c2
    rw [hE]
    clear h hm hok hwt hE h0 h1 hc cb ce co hw2 a1 a2 a3 a4 q0
    go_enter Tryz.func35, Tryz.ntmps35
    go_wp2_with fail
    refine HC.out.mono ?_
    rintro e w1 ⟨rfl, k1, X1, h1, n1⟩
    have HX := Lib.hid (And.intro k1 (And.intro h1 n1))
    clear k1 h1 n1
    go_wp2_with fail
    go_ret
    exact ⟨rfl, HX.out.1, X1, R, HX.out.2.1, HX.out.2.2, fun x hx => .inl hx⟩
  have q1 : (((P.st : Nat) : Int) == 1) = false := by simp; omega
  by_cases h2 : P.st = 2
  · have hE : readR P = readLengthR P := by unfold readR; rw [if_neg h0, if_neg h1, if_pos h2]
    have HC := Lib.hid (reply_readLength h (by omega) hok.left)
    rw [h2] at c2
    rw [hE]
    clear h hm hok hwt hE h0 h1 h2 q0 q1
    go_enter Tryz.func35, Tryz.ntmps35
    go_wp2_with fail
    refine HC.out.mono ?_
    rintro e w1 ⟨rfl, h1, k1⟩
    have HX := Lib.hid (And.intro k1 h1)
    clear k1 h1
    go_wp2_with fail
    go_ret
    exact ⟨rfl, HKX.out _ HX.out.1, X, R, HX.out.2, fun x hx => .inl hx, fun x hx => .inl hx⟩
  have q2 : (((P.st : Nat) : Int) == 2) = false := by simp; omega
  by_cases h3 : P.st = 3
  · have hE : readR P = readCloseR P := by unfold readR; rw [if_neg h0, if_neg h1, if_neg h2, if_pos h3]
    have HC := Lib.hid (reply_readClose h (by omega) hok.size hok.big)
    rw [h3] at c2
    rw [hE]
    clear h hm hok hwt hE h0 h1 h2 h3 q0 q1 q2
    go_enter Tryz.func35, Tryz.ntmps35
    go_wp2_with fail
    refine HC.out.mono ?_
    rintro e w1 ⟨rfl, h1, k1⟩
    have HX := Lib.hid (And.intro k1 h1)
    clear k1 h1
    go_wp2_with fail
    go_ret
    exact ⟨rfl, HKX.out _ HX.out.1, X, R, HX.out.2, fun x hx => .inl hx, fun x hx => .inl hx⟩
  have q3 : (((P.st : Nat) : Int) == 3) = false := by simp; omega
  have hE := Lib.hid (show readR P = (P, false) by unfold readR; rw [if_neg h0, if_neg h1, if_neg h2, if_neg h3])
  clear h hm hok hwt h0 h1 h2 h3
  go_enter Tryz.func35, Tryz.ntmps35
  go_wp2_with fail
  go_ret
  rw [hE.out]
  exact ⟨rfl, Keep.refl _ _, X, R, H.out, fun x hx => .inl hx, fun x hx => .inl hx⟩
end Go.Proofs.YtdmffbefppjllaaGreatDoor

/- Layer 12: body, fail. No conditions but on lengths. -/
namespace Go.Proofs.YtdmffbefppjllaaGreatDoor
open Go.RowKit Go.Shelf

theorem it_ck {B p : Nat} {w : World} {X R : List Nat} {I : InS} {c : Ck} (h : It B w p X R I) (hc : I.chk = some c) : ∃ b, w.cell? ⟨p, 4, none⟩ = some (.pointer (some ⟨b, 0, none⟩)) := by
  obtain ⟨⟨rv, cv, b1, b2, b3⟩, h4, h5, h6⟩ := h
  rw [hc] at b2
  obtain ⟨b, v, rfl, _⟩ := b2
  exact ⟨b, b1.get (k := 4) rfl⟩
theorem it_noCk {B p : Nat} {w : World} {X R : List Nat} {I : InS} (h : It B w p X R I) (hc : I.chk = none) : w.cell? ⟨p, 4, none⟩ = some (.pointer none) := by
  obtain ⟨⟨rv, cv, b1, b2, b3⟩, h4, h5, h6⟩ := h
  rw [hc] at b2
  have : cv = .pointer none := b2
  subst this
  exact b1.get (k := 4) rfl
theorem it_Add {B p b : Nat} {w : World} {X R : List Nat} {I : InS} {c : Ck} (s : List UInt8) (h : It B w p X R I) (hc : I.chk = some c) (c4 : w.cell? ⟨p, 4, none⟩ = some (.pointer (some ⟨b, 0, none⟩)))
    (hm : ML w) (hB : B ≤ w.heap.size) (hbig : 0 < B) (hl : c.inp.length + c.dat.length + s.length ≤ 1048576) (hmost : (c.most : Int) ≤ 9223372036854775807) (hok : c.err = 0 → c.ok) :
    Calls Tryz.prog 52 #[.pointer (some ⟨b, 0, none⟩), .string (S s)] w fun e w' => e = .returned (.int .i64 (addC c s).err) ∧ Keep X w w' ∧ w'.cell? ⟨p, 4, none⟩ = some (.pointer (some ⟨b, 0, none⟩)) ∧ ∃ X', It B w' p X' R { I with chk := some (addC c s) } ∧ ∀ x ∈ X', x ∈ X ∨ w.heap.size ≤ x := by
  obtain ⟨⟨rv, cv, b1, b2, b3⟩, h4, h5, h6⟩ := h
  rw [hc] at b2
  obtain ⟨b', v, rfl, hbp, hbX, hct, hv⟩ := b2
  have c4' := b1.get (k := 4) (v := .pointer (some ⟨b', 0, none⟩)) rfl
  have hbb : b' = b := by rw [c4'] at c4; simpa using c4
  subst hbb
  refine (chunk_Add B b' [] s c (addC c s) v w hm (by have := (h5 _ hbX).1; omega) hct hB hbig hl hmost hok (addC_R hok)).mono ?_
  rintro e w' ⟨rfl, v', g1, g2, g3⟩
  have hown : ∀ g, v'.ownBlock = some g → (g ∈ X ∨ w.heap.size ≤ g) ∧ g ≠ p := fun g hg => by
    rcases g3 with e3 | ⟨g', e3, hg'⟩
    · rw [e3] at hg; exact ⟨.inl (hv g hg).1, (hv g hg).2⟩
    · rw [e3] at hg
      have : g' = g := by simpa using hg
      subst this
      have := (h5 p h4).2
      exact ⟨.inr hg', by omega⟩
  have hpn : p ∉ b' :: v.ownBlock.toList := by
    intro hh
    rcases List.mem_cons.1 hh with hh | hh
    · exact hbp hh.symm
    · exact (hv p (by simpa using hh)).2 rfl
  have b1' := g2.blk b1 hpn
  have gX : Keep X w w' := g2.mono (fun x hx _ => by
    rcases List.mem_cons.1 hx with rfl | hx
    · exact hbX
    · exact (hv x (by simpa using hx)).1)
  obtain ⟨_, _, gb, _⟩ := id g1
  refine ⟨rfl, gX, b1'.get (k := 4) rfl, X ++ v'.ownBlock.toList, ⟨⟨rv, _, b1', ?_, ?_⟩, by simp [h4], ?_, ?_⟩, ?_⟩
  · exact ⟨b', v', rfl, hbp, by simp [hbX], g1, fun g hg => ⟨by rw [hg]; simp, (hown g hg).2⟩⟩
  · exact b3.keep g2 (fun x hx hh => by
      rcases List.mem_cons.1 hh with rfl | hh
      · exact (h6 _ hx).2.2 hbX
      · exact (h6 _ hx).2.2 (hv x (by simpa using hh)).1)
  · intro x hx
    rcases List.mem_append.1 hx with hx | hx
    · exact ⟨(h5 x hx).1, Nat.lt_of_lt_of_le (h5 x hx).2 g2.size⟩
    · exact gb.own.lt x (by simpa using hx)
  · intro x hx
    refine ⟨(h6 x hx).1, Nat.lt_of_lt_of_le (h6 x hx).2.1 g2.size, fun hh => ?_⟩
    rcases List.mem_append.1 hh with hh | hh
    · exact (h6 x hx).2.2 hh
    · rcases (hown x (by simpa using hh)).1 with h1 | h1
      · exact (h6 x hx).2.2 h1
      · have := (h6 x hx).2.1; omega
  · intro x hx
    rcases List.mem_append.1 hx with hx | hx
    · exact .inl hx
    · exact (hown x (by simpa using hx)).1
theorem it_ct {B p b : Nat} {w : World} {X R : List Nat} {I : InS} {c : Ck} (h : It B w p X R I) (hc : I.chk = some c) (c4 : w.cell? ⟨p, 4, none⟩ = some (.pointer (some ⟨b, 0, none⟩))) : ∃ v, Ct B w b [] c v := by
  obtain ⟨⟨rv, cv, b1, b2, b3⟩, h4, h5, h6⟩ := h
  rw [hc] at b2
  obtain ⟨b', v, rfl, hbp, hbX, hct, hv⟩ := b2
  have c4' := b1.get (k := 4) (v := .pointer (some ⟨b', 0, none⟩)) rfl
  have hbb : b' = b := by rw [c4'] at c4; simpa using c4
  subst hbb
  exact ⟨v, hct⟩
theorem it_Done {B p b : Nat} {w : World} {X R : List Nat} {I : InS} {c : Ck} (h : It B w p X R I) (hc : I.chk = some c) (c4 : w.cell? ⟨p, 4, none⟩ = some (.pointer (some ⟨b, 0, none⟩))) (hs : c.st ≤ 4) :
    Calls Tryz.prog 53 #[.pointer (some ⟨b, 0, none⟩)] w fun e w' => e = .returned (.bool (decide (c.st = 4))) ∧ w = w' := let ⟨_, h1⟩ := it_ct h hc c4; chunk_Done h1 hs
theorem it_Rest {B p b : Nat} {w : World} {X R : List Nat} {I : InS} {c : Ck} (h : It B w p X R I) (hc : I.chk = some c) (c4 : w.cell? ⟨p, 4, none⟩ = some (.pointer (some ⟨b, 0, none⟩))) (hs : c.st ≤ 4) :
    Calls Tryz.prog 54 #[.pointer (some ⟨b, 0, none⟩)] w fun e w' => e = .returned (.string (S (if c.st = 4 then c.inp else []))) ∧ w = w' := let ⟨_, h1⟩ := it_ct h hc c4; chunk_Rest h1 hs
theorem it_unck {B p : Nat} {w : World} {X R : List Nat} {I : InS} (h : It B w p X R I) : It B (w.setCell ⟨p, 4, none⟩ (.pointer none)) p X R { I with chk := none } := by
  obtain ⟨⟨rv, cv, b1, b2, b3⟩, h4, h5, h6⟩ := h
  have hk : Keep [p] w (w.setCell ⟨p, 4, none⟩ (.pointer none)) := (Keep.refl _ _).setCell _ _ (by simp)
  exact ⟨⟨rv, _, b1.set 4 (.pointer none), rfl, b3.keep hk (fun y hy => by simp only [List.mem_singleton]; rintro rfl; exact (h6 _ hy).2.2 h4)⟩, h4, fun y hy => ⟨(h5 y hy).1, Nat.lt_of_lt_of_le (h5 y hy).2 hk.size⟩, fun y hy => ⟨(h6 y hy).1, Nat.lt_of_lt_of_le (h6 y hy).2.1 hk.size, (h6 y hy).2.2⟩⟩

set_option maxRecDepth 100000 in
set_option maxHeartbeats 4000000 in
theorem inlet_body {B p : Nat} {X R : List Nat} {I : InS} {w : World} (h : It B w p X R I) (hm : ML w) (hB : B ≤ w.heap.size) (hbig : 0 < B) (hl : I.inp.length + I.held ≤ 65536) (hsk : I.skip ≤ 65536)
    (hck : ∀ c, I.chk = some c → (c.err = 0 → c.ok) ∧ c.most = 4096 ∧ c.inp.length + c.dat.length ≤ 65536 ∧ (addC c I.inp).st ≤ 4) :
    Calls Tryz.prog 31 #[.pointer (some ⟨p, 0, none⟩)] w fun e w' => e = .returned (.tuple #[.bool (bodyB I).whole, .int .i64 (bodyB I).s]) ∧ Keep X w w' ∧ ∃ X', It B w' p X' R (bodyB I).p ∧ ∀ x ∈ X', x ∈ X ∨ w.heap.size ≤ x := by
  obtain ⟨c0, c1, c3, _⟩ := h.at_
  have f0 := h.free 0
  have f1 := h.free 1
  have f3 := h.free 3
  have sz := S_size I.inp
  cases hco : I.chk with
  | none =>
    have hb : bodyB I = ⟨{ I with inp := I.inp.drop (min I.skip I.inp.length), held := I.held + min I.skip I.inp.length, skip := I.skip - min I.skip I.inp.length }, decide (I.skip - min I.skip I.inp.length = 0), 0⟩ := by unfold bodyB; rw [hco]
    have c4 := it_noCk h hco
    have H := Lib.hid h
    obtain ⟨n, hn⟩ : ∃ n, min I.skip I.inp.length = n := ⟨_, rfl⟩
    have hmin : min ((I.skip : Nat) : Int) ((I.inp.length : Nat) : Int) = ((n : Nat) : Int) := by omega
    have i0 : (0 : Int) ≤ (n : Int) := by omega
    have i1 : (n : Int) ≤ (I.inp.length : Int) := by omega
    have hx : (S I.inp).extract n I.inp.length = S (I.inp.drop n) := by rw [S_extract, List.take_length]
    obtain ⟨r, hr⟩ : ∃ r, I.skip - n = r := ⟨_, rfl⟩
    have hrI : (I.skip : Int) - (n : Int) = ((r : Nat) : Int) := by omega
    have w1 := IntWalk.i64_in ((I.held : Int) + (n : Int)) (by omega)
    have w2 := IntWalk.i64_in ((r : Nat) : Int) (by omega)
    rw [hn, hr] at hb
    have HBd := Lib.hid hb
    have hh2 : ((I.held : Int) + (n : Int)) = ((I.held + n : Nat) : Int) := by omega
    clear hb h hm hco hck
    go_enter Tryz.func31, Tryz.ntmps31
    go_upto_region 2 with fail
    go_cut [4] (fun y wx => y = .int .i64 (n : Nat) ∧ Hid (Keep [] w wx))
    case first =>
      go_region_with fail
      all_goals
        go_wp2_with fail
        go_meet
        exact ⟨rfl, Lib.hid (by repeat (first | exact Keep.refl _ _ | apply Keep.drew))⟩
    case rest =>
    obtain ⟨rfl, KX⟩ := hcut
    have H1 := Lib.hid (H.out.keep0 KX.out)
    clear c0 c1 c3 f0 f1 f3 hmin c4
    obtain ⟨c0, c1, c3, _⟩ := H1.out.at_
    have f0 := H1.out.free 0
    have f1 := H1.out.free 1
    have f3 := H1.out.free 3
    have hs := ((H1.out.set (I' := { I with inp := I.inp.drop n }) 0 (.string (S (I.inp.drop n))) (fun _ _ => rfl) rfl rfl).set (I' := { I with inp := I.inp.drop n, held := I.held + n }) 1 (.int .i64 ((I.held : Int) + (n : Int))) (fun _ _ => by rw [hh2]; rfl) rfl rfl).set (I' := { I with inp := I.inp.drop n, held := I.held + n, skip := r }) 3 (.int .i64 (r : Nat)) (fun _ _ => rfl) rfl rfl
    have ks := ((KX.out.mono (S' := [p]) (by simp)).setCell ⟨p, 0, none⟩ (.string (S (I.inp.drop n))) (by simp)).setCell ⟨p, 1, none⟩ (.int .i64 ((I.held : Int) + (n : Int))) (by simp) |>.setCell ⟨p, 3, none⟩ (.int .i64 (r : Nat)) (by simp)
    have HS := Lib.hid (And.intro hs ks)
    clear hs ks hh2
    by_cases h0 : r = 0
    · have q := (nat_eq (show r = 0 from h0)).1
      have HF := Lib.hid (show decide (r = 0) = true by simp [h0])
      have q2 : (((r : Nat) : Int) == 0) = true := by simp [h0]
      clear h0
      go_wp2_with fail
      go_ret2
      rw [HBd.out, HF.out]
      exact ⟨rfl, H.out.keepX HS.out.2, X, HS.out.1, fun x hx => .inl hx⟩
    · have HF := Lib.hid (show decide (r = 0) = false by simp [h0])
      have q2 : (((r : Nat) : Int) == 0) = false := by simp [h0]
      clear h0
      go_wp2_with fail
      go_ret2
      rw [HBd.out, HF.out]
      exact ⟨rfl, H.out.keepX HS.out.2, X, HS.out.1, fun x hx => .inl hx⟩
  | some c =>
    obtain ⟨hk1, hk2, hk3, hk4⟩ := hck c hco
    obtain ⟨b, c4, c4s⟩ : ∃ b, w.cell? ⟨p, 4, none⟩ = some (.pointer (some ⟨b, 0, none⟩)) ∧ ((w.setCell ⟨p, 0, none⟩ (.string ⟨#[]⟩)).setCell ⟨p, 1, none⟩ (.int .i64 ((I.held : Int) + (I.inp.length : Int)))).cell? ⟨p, 4, none⟩ = some (.pointer (some ⟨b, 0, none⟩)) := by
      obtain ⟨⟨rv, cv, b1, b2, b3⟩, _⟩ := h
      rw [hco] at b2
      obtain ⟨b, v, rfl, _⟩ := b2
      exact ⟨b, b1.get (k := 4) rfl, ((b1.set 0 _).set 1 _).get (k := 4) rfl⟩
    have hb : bodyB I = if (addC c I.inp).err ≠ 0 then ⟨{ I with inp := [], held := I.held + I.inp.length, chk := some (addC c I.inp) }, false, toldE (addC c I.inp).err 413⟩
      else if (addC c I.inp).st ≠ 4 then ⟨{ I with inp := [], held := I.held + I.inp.length, chk := some (addC c I.inp) }, false, 0⟩
      else ⟨{ I with inp := (addC c I.inp).inp, held := I.held + I.inp.length, chk := none }, true, 0⟩ := by unfold bodyB; rw [hco]
    have H := Lib.hid h
    have HM := Lib.hid hm
    have w1 := IntWalk.i64_in ((I.held : Int) + (I.inp.length : Int)) (by omega)
    have hh2 : ((I.held : Int) + (I.inp.length : Int)) = ((I.held + I.inp.length : Nat) : Int) := by omega
    have hs := (h.set (I' := { I with inp := [] }) 0 (.string ⟨#[]⟩) (fun _ _ => rfl) rfl rfl).set (I' := { I with inp := [], held := I.held + I.inp.length }) 1 (.int .i64 ((I.held : Int) + (I.inp.length : Int))) (fun _ _ => by rw [hh2]; rfl) rfl rfl
    have ks := ((Keep.refl [p] w).setCell ⟨p, 0, none⟩ (.string ⟨#[]⟩) (by simp)).setCell ⟨p, 1, none⟩ (.int .i64 ((I.held : Int) + (I.inp.length : Int))) (by simp)
    have KS := Lib.hid (h.keepX ks)
    have HA := Lib.hid (it_Add (c := c) I.inp hs hco c4s (hm.keepB hbig KS.out (fun x hx => (h.lo x hx).1)) (Nat.le_trans hB ks.size) hbig (by omega) (by rw [hk2]; decide) hk1)
    have HR := Lib.hid h.lo
    have HT := Lib.hid (fun e0 w' => inlet_told e0 413 w')
    clear hs ks hh2 h hm hck hk1 hk2 hk3
    generalize addC c I.inp = d at *
    by_cases e1 : d.err = 0
    case neg =>
      rw [if_pos e1] at hb
      have HBd := Lib.hid hb
      have q1 := (int_ne e1).2
      clear hb e1 hk4
      go_enter Tryz.func31, Tryz.ntmps31
      go_wp2_with fail
      refine HA.out.mono ?_
      rintro e w2 ⟨rfl, k2, _, X2, hx2, n2⟩
      have HX := Lib.hid (And.intro k2 (And.intro hx2 n2))
      clear k2 hx2 n2
      go_wp2_with fail
      refine (HT.out _ _).mono ?_
      rintro e w3 ⟨rfl, rfl⟩
      go_wp2_with fail
      go_ret2
      rw [HBd.out]
      exact ⟨rfl, KS.out.trans HX.out.1, X2, HX.out.2.1, fun x hx => (HX.out.2.2 x hx).imp id (fun hh => Nat.le_trans KS.out.size hh)⟩
    rw [if_neg (by simp [e1])] at hb
    by_cases e2 : d.st = 4
    case neg =>
      rw [if_pos e2] at hb
      have HBd := Lib.hid hb
      have q1 := (int_eq e1).2
      have HD4 := Lib.hid (show decide (d.st = 4) = false by simp [e2])
      clear hb e1 e2
      go_enter Tryz.func31, Tryz.ntmps31
      go_wp2_with fail
      refine HA.out.mono ?_
      rintro e w2 ⟨rfl, k2, c42, X2, hx2, n2⟩
      have HD := Lib.hid (it_Done hx2 rfl c42 hk4)
      rw [HD4.out] at HD
      have HX := Lib.hid (And.intro k2 (And.intro hx2 n2))
      clear k2 hx2 n2
      go_wp2_with fail
      refine HD.out.mono ?_
      rintro e w3 ⟨rfl, rfl⟩
      go_wp2_with fail
      go_ret2
      rw [HBd.out]
      exact ⟨rfl, KS.out.trans HX.out.1, X2, HX.out.2.1, fun x hx => (HX.out.2.2 x hx).imp id (fun hh => Nat.le_trans KS.out.size hh)⟩
    rw [if_neg (by simp [e2])] at hb
    have HBd := Lib.hid hb
    have q1 := (int_eq e1).2
    have HD4 := Lib.hid (show decide (d.st = 4) = true by simp [e2])
    have HR4 := Lib.hid (show (if d.st = 4 then d.inp else []) = d.inp from if_pos e2)
    clear hb e1 e2
    go_enter Tryz.func31, Tryz.ntmps31
    go_wp2_with fail
    refine HA.out.mono ?_
    rintro e w2 ⟨rfl, k2, c42, X2, hx2, n2⟩
    have HD := Lib.hid (it_Done hx2 rfl c42 hk4)
    have HR2 := Lib.hid (it_Rest hx2 rfl c42 hk4)
    rw [HD4.out] at HD
    rw [HR4.out] at HR2
    have g0 := hx2.at_.1
    have g5 := hx2.free 0
    have g6 := hx2.free 4
    have hs2 := it_unck (hx2.set (I' := { I with inp := d.inp, held := I.held + I.inp.length, chk := some d }) 0 (.string (S d.inp)) (fun _ _ => rfl) rfl rfl)
    have ks2 := k2.trans' (hx2.keepX (((Keep.refl [p] w2).setCell ⟨p, 0, none⟩ (.string (S d.inp)) (by simp)).setCell ⟨p, 4, none⟩ (.pointer none) (by simp))) (fun x hx hlt => (n2 x hx).elim id (fun hh => absurd hlt (by omega)))
    have HX := Lib.hid (And.intro ks2 (And.intro hs2 n2))
    clear k2 hx2 n2 hs2 ks2
    go_wp2_with fail
    refine HD.out.mono ?_
    rintro e w3 ⟨rfl, rfl⟩
    go_wp2_with fail
    refine HR2.out.mono ?_
    rintro e w3 ⟨rfl, rfl⟩
    go_wp2_with fail
    go_ret2
    rw [HBd.out]
    exact ⟨rfl, KS.out.trans HX.out.1, X2, HX.out.2.1, fun x hx => (HX.out.2.2 x hx).imp id (fun hh => Nat.le_trans KS.out.size hh)⟩
end Go.Proofs.YtdmffbefppjllaaGreatDoor

/- Layer 11: the document's line, number, ended, last. No conditions but on lengths. -/
namespace Go.Proofs.YtdmffbefppjllaaGreatDoor
open Go.RowKit Go.Shelf

theorem int3_ret {s : List UInt8} {a b c d : Int} {t : List UInt8} (h1 : s = t) (h : a = c) (h2 : b = d) : Ending.returned (.tuple #[.string (S s), .int .i64 a, .int .i64 b]) = .returned (.tuple #[.string (S t), .int .i64 c, .int .i64 d]) := by rw [h1, h, h2]
end Go.Proofs.YtdmffbefppjllaaGreatDoor

/- Layer 11: the document's number, ended, last. No conditions but on lengths. -/
namespace Go.Proofs.YtdmffbefppjllaaGreatDoor
open Go.RowKit Go.Shelf

theorem numE_bad {t : List UInt8} (m : Int) (h : restOk (numRest t) = false) : numE t m = 3 ∧ numV2 t m = 0 := by unfold numE numV2; rw [h]; exact ⟨rfl, rfl⟩
theorem numE_ok {t : List UInt8} (m : Int) (h : restOk (numRest t) = true) : numE t m = (if unhexE (numT t) m = 14 then 4 else unhexE (numT t) m) ∧ numV2 t m = unhexV (numT t) m := by unfold numE numV2; rw [h]; exact ⟨rfl, rfl⟩
theorem rest_cons (c : UInt8) (r : List UInt8) : restOk (c :: r) = (isTxt (c :: r) && (decide (c = 32) || decide (c = 9) || decide (c = 59))) := by
  unfold restOk
  rw [show (c :: r).getD 0 0 = c from rfl, sep_mem]
  rfl

theorem Blk.there' {w : World} {b : Nat} {T : TypeId} {xs : List Value} (h : Blk w b T xs) (o n : Nat) (hl : o + n ≤ xs.length) : w.there b o n := fun j hj =>
  ⟨by rw [h.cell, List.getElem?_eq_getElem (by omega)]; rfl, h.frozen _⟩
theorem Blk.range' {w : World} {b : Nat} {T : TypeId} {xs : List Value} (h : Blk w b T xs) : w.rangeAt b 0 xs := fun j v hv => by rw [Nat.zero_add]; exact h.get hv
theorem Keep.setCells' {S : List Nat} {a : World} (b : Nat) (hb : b < a.heap.size → b ∈ S) : ∀ (vs : List Value) (o : Nat) (w : World), Keep S a w → Keep S a (w.setCells b o vs)
  | [], _, _, h => h
  | v :: r, o, w, h => by
    rw [World.setCells]
    exact Keep.setCells' b hb r (o + 1) _ (h.setCell _ _ hb)
theorem Bdy.len (b : Bdy) : b.cells.length = 4 := rfl
end Go.Proofs.YtdmffbefppjllaaGreatDoor

/- Layer 12: fail, Next. No conditions but on lengths. -/
namespace Go.Proofs.YtdmffbefppjllaaGreatDoor
open Go.RowKit Go.Shelf

theorem reqC_len (m t : List UInt8) (v : Value) (cl : Bool) : (reqC m t v cl).length = 4 := rfl
theorem req_size : (Tryz.prog.info? 36).map (·.size) = some 4 := by kernel_rfl
theorem req_st (m t : List UInt8) {v : Value} (cl : Bool) (hv : v.oneCell' = true) : (Tryz.prog.info? 36).map (·.size) = some (reqC m t v cl).toArray.size ∧ (reqC m t v cl).toArray.all (·.oneCell') = true :=
  ⟨req_size, by simp [reqC, hv]; exact ⟨rfl, rfl, rfl⟩⟩
theorem req_load {w : World} {b : Nat} {m t : List UInt8} {v : Value} {cl : Bool} (h : w.rangeAt b 0 (reqC m t v cl)) : (loadVar 36 ⟨b, 0, none⟩).run Tryz.prog w = .ok (.agg (reqC m t v cl).toArray) w :=
  run_loadVar_mid (P := Tryz.prog) w b 0 36 (reqC m t v cl) _ h Tryz.underlying36 rfl req_size
def reqZ : List Value := reqC [] [] (.slice none 0 0) false
theorem req_back {w : World} {b : Nat} {m t : List UInt8} {v : Value} {cl : Bool} (h : w.there b 0 4) : (loadVar 36 ⟨b, 0, none⟩).run Tryz.prog (w.setCells b 0 (reqC m t v cl)) = .ok (.agg (reqC m t v cl).toArray) (w.setCells b 0 (reqC m t v cl)) := req_load (World.rangeAt_setCells_same _ b 0 (reqC m t v cl) h)
theorem reqZ_back {w : World} {b : Nat} (h : w.there b 0 4) : (loadVar 36 ⟨b, 0, none⟩).run Tryz.prog (w.setCells b 0 reqZ) = .ok (.agg reqZ.toArray) (w.setCells b 0 reqZ) := req_back h
theorem own_one {α : Type} {enc : α → List Value} {n B : Nat} {E : TypeId} {w : World} {v : Value} {L : List α} (h : Own enc n B E w v L) : v.oneCell' = true := by
  obtain ⟨a, cap, rfl, _⟩ := h.shape
  rfl
set_option maxRecDepth 100000 in
set_option maxHeartbeats 2000000 in
theorem inlet_fail {B p : Nat} {X R : List Nat} {I : InS} {w : World} (s : Int) (h : It B w p X R I) :
    Calls Tryz.prog 30 #[.pointer (some ⟨p, 0, none⟩), .int .i64 s] w fun e w' => e = .returned (.tuple #[.agg reqZ.toArray, .int .i64 s]) ∧ It B w' p X R { I with st := s } ∧ Keep [p] w w' := by
  have kA := (Keep.refl [] w).alloc (.cells reqZ.toArray 36)
  have bA := Blk.newA w reqZ.toArray 36
  have hne : w.heap.size ≠ p := by have := h.lt; omega
  have zst := req_st [] [] (v := .slice none 0 0) false rfl
  have H := Lib.hid h
  generalize hwA : w.alloc (.cells #[.string ⟨#[]⟩, .string ⟨#[]⟩, .slice none 0 0, .bool false] 36) = wA
  have hwA' : w.alloc (.cells reqZ.toArray 36) = wA := hwA
  rw [hwA'] at kA bA
  have hA := h.keep0 kA
  obtain ⟨_, _, _, c5⟩ := hA.at_
  have f5 := hA.free 5
  have hS := hA.set (I' := { I with st := s }) 5 (.int .i64 s) (fun _ _ => rfl) rfl rfl
  have kS := (kA.mono (S' := [p]) (by simp)).setCell ⟨p, 5, none⟩ (.int .i64 s) (by simp)
  have bS := (show Blk wA w.heap.size 36 reqZ from bA).setOther (a := ⟨p, 5, none⟩) (by simpa using hne) (.int .i64 s)
  have hT := bS.there' 0 4 (by simp [reqZ, reqC])
  have hload := reqZ_back hT
  have hlt : w.heap.size < (wA.setCell ⟨p, 5, none⟩ (.int .i64 s)).heap.size := bS.lt
  have HX := Lib.hid (And.intro hS (And.intro kS hload))
  have HT := Lib.hid hT
  have ZST := Lib.hid zst
  clear h kA bA hA hS kS bS hT hload hwA' zst
  go_enter Tryz.func30, Tryz.ntmps30
  go_wp2_with (first
    | (refine wpList_store_mid rfl 36 (.tmp 4) (.tmp 10) rfl w.heap.size 0 reqZ.toArray (by rfl) (by first | rfl | kernel_rfl) HT.out ZST.out.1 ZST.out.2 ?_
       try simp only [Act.put])
    | fail)
  refine bodyPost_ret (v := .tuple #[.agg reqZ.toArray, .int .i64 s]) (by have hl := HX.out.2.2; simp [results, Tryz.results30, asAddr, Result.andThen, hl]) rfl ⟨rfl, ?_, ?_⟩
  · exact HX.out.1.keep (Keep.setCells' (S := [w.heap.size]) _ (by simp) _ _ _ (Keep.refl _ _)) (fun x hx => by have := (H.out.lo x hx).2; simp; omega) (fun x hx => by have := (H.out.ro x hx).2.1; simp; omega)
  · exact Keep.setCells' _ (fun hh => absurd hh (by omega)) _ _ _ HX.out.2.1

theorem wpList_store_fresh {P : Program} {ops : Array Oper} {rest : List Oper} {op : Oper} {a : Act} {w : World} {Q : Exit → Act → World → Prop} (hgd : op.guard = none) (ty : TypeId) (x y : Operand) (ho : op.op = .store ty x y)
    (Z : Array Value) (cells : List Value) (hx : a.eval x = .pointer (some ⟨w.heap.size, 0, none⟩)) (hy : a.eval y = .agg cells.toArray) (hi : (P.info? ty).map (·.size) = some cells.length) (hz : Z.size = cells.length)
    (h1 : ∀ v ∈ cells, v.oneCell' = true) (h : wpList P ops Q rest (a.put op.dst undef) (w.alloc (.cells cells.toArray ty))) : wpList P ops Q (op :: rest) a (w.alloc (.cells Z ty)) :=
  wpList_plain hgd fun _ hK => by
    unfold Oper.wp execOp
    simp only [ho, hx, hy, Instr.storeAt, Instr.sureAddr, Sem.run_bind, Sem.run_pure, Result.andThen_ok, run_storeVar_new (P := P) w ty Z cells.toArray (by simpa using hi) (by simpa using hz) (all_oneCell_toArray h1)]
    exact hK _ _ h
theorem reqC_one (m t : List UInt8) {v : Value} (cl : Bool) (hv : v.oneCell' = true) : ∀ x ∈ reqC m t v cl, x.oneCell' = true := by
  intro x hx
  simp [reqC] at hx
  rcases hx with rfl | rfl | rfl | rfl
  · rfl
  · rfl
  · exact hv
  · rfl

/-- Next under way: nb: the result's block -/
structure NxS (B : Nat) (w : World) (p : Nat) (X R : List Nat) (wt : World) (X1 R1 : List Nat) (J : InS) : Prop where
  it : It B wt p X1 R1 J
  kp : Keep X w wt
  nx : ∀ x ∈ X1, x ∈ X ∨ w.heap.size < x
  nr : ∀ x ∈ R1, x ∈ R ∨ w.heap.size < x
  bk : Blk wt w.heap.size 36 reqZ
theorem NxS.off {B p : Nat} {w wt : World} {X R X1 R1 : List Nat} {I J : InS} (h : NxS B w p X R wt X1 R1 J) (h0 : It B w p X R I) : w.heap.size ∉ X1 ∧ w.heap.size ∉ R1 :=
  ⟨fun hh => by rcases h.nx _ hh with h1 | h1; (have := (h0.lo _ h1).2; omega); omega, fun hh => by rcases h.nr _ hh with h1 | h1; (have := (h0.ro _ h1).2.1; omega); omega⟩
theorem NxS.step {B p : Nat} {w wt w2 : World} {X R X1 R1 X2 R2 : List Nat} {I J J2 : InS} (h : NxS B w p X R wt X1 R1 J) (h0 : It B w p X R I) (k : Keep X1 wt w2) (hi : It B w2 p X2 R2 J2)
    (hX : ∀ x ∈ X2, x ∈ X1 ∨ wt.heap.size ≤ x) (hR : ∀ x ∈ R2, x ∈ R1 ∨ wt.heap.size ≤ x) : NxS B w p X R w2 X2 R2 J2 := by
  have hl := h.bk.lt
  refine ⟨hi, h.kp.trans' k (fun x hx hlt => (h.nx x hx).elim id (fun hh => by omega)), fun x hx => ?_, fun x hx => ?_, k.blk h.bk (h.off h0).1⟩
  · rcases hX x hx with h1 | h1
    · exact h.nx x h1
    · exact .inr (by omega)
  · rcases hR x hx with h1 | h1
    · exact h.nr x h1
    · exact .inr (by omega)
/-- what Next comes to -/
def NextOut (B : Nat) (w : World) (p : Nat) (X R : List Nat) (r : NxR) (e : Ending) (w' : World) : Prop :=
  ∃ v X' R', e = .returned (.tuple #[.agg (reqC r.q.m r.q.t v r.q.cl).toArray, .int .i64 r.s]) ∧ It B w' p X' R' r.p ∧ Keep X w w' ∧ (∀ x ∈ X', x ∈ X ∨ w.heap.size ≤ x) ∧ (∀ x ∈ R', x ∈ R ∨ w.heap.size ≤ x) ∧ Own Fld.cells 2 B 26 w' v r.q.F ∧ ∀ g, v.ownBlock = some g → (g ∈ R ∨ w.heap.size ≤ g) ∧ g ∉ X'
theorem NextOut.of {B p : Nat} {w w' : World} {X R : List Nat} {r r' : NxR} {e : Ending} (h : NextOut B w p X R r e w') (hr : r' = r) : NextOut B w p X R r' e w' := hr ▸ h
theorem NxS.fin {B p : Nat} {w wt : World} {X R X1 R1 : List Nat} {I J : InS} (h : NxS B w p X R wt X1 R1 J) (h0 : It B w p X R I) (q : Req) (v : Value) (s : Int) (ho : Own Fld.cells 2 B 26 wt v q.F) (hg : ∀ g, v.ownBlock = some g → (g ∈ R ∨ w.heap.size < g) ∧ g ∉ X1) :
    NextOut B w p X R ⟨J, q, s⟩ (.returned (.tuple #[.agg (reqC q.m q.t v q.cl).toArray, .int .i64 s])) (wt.setCells w.heap.size 0 (reqC q.m q.t v q.cl)) := by
  have k : Keep [w.heap.size] wt (wt.setCells w.heap.size 0 (reqC q.m q.t v q.cl)) := Keep.setCells' (S := [w.heap.size]) _ (by simp) _ _ _ (Keep.refl _ _)
  obtain ⟨o1, o2⟩ := h.off h0
  refine ⟨v, X1, R1, rfl, h.it.keep k (fun x hx => by simp; rintro rfl; exact o1 hx) (fun x hx => by simp; rintro rfl; exact o2 hx), h.kp.trans' k (fun x hx hlt => by simp at hx; omega), fun x hx => (h.nx x hx).imp id (fun hh => by omega), fun x hx => (h.nr x hx).imp id (fun hh => by omega), ho.keep k (fun g hh => ?_), fun g hh => ⟨(hg g hh).1.imp id (fun hh => by omega), (hg g hh).2⟩⟩
  simp only [List.mem_singleton]
  rintro rfl
  rcases (hg _ hh).1 with h1 | h1
  · have := (h0.ro _ h1).2.1; omega
  · omega
theorem NxS.fin0 {B p : Nat} {w wt : World} {X R X1 R1 : List Nat} {I J : InS} (h : NxS B w p X R wt X1 R1 J) (h0 : It B w p X R I) (s : Int) :
    NextOut B w p X R ⟨J, req0, s⟩ (.returned (.tuple #[.agg reqZ.toArray, .int .i64 s])) (wt.setCells w.heap.size 0 reqZ) := h.fin h0 req0 (.slice none 0 0) s (Own.nil _ _ _ _ _) (by simp [Value.ownBlock])
/-- the request goes out of the inlet -/
theorem it_unreq {B p : Nat} {w : World} {X R : List Nat} {I : InS} (h : It B w p X R I) : It B ((w.setCell ⟨p, 2, none⟩ (.pointer none)).setCell ⟨p, 1, none⟩ (.int .i64 0)) p X [] { I with req := none, held := 0 } := by
  obtain ⟨⟨rv, cv, b1, b2, b3⟩, h4, h5, h6⟩ := h
  have hk : Keep [p] w ((w.setCell ⟨p, 2, none⟩ (.pointer none)).setCell ⟨p, 1, none⟩ (.int .i64 0)) := ((Keep.refl _ _).setCell _ _ (by simp)).setCell _ _ (by simp)
  exact ⟨⟨.pointer none, cv, (b1.set 2 (.pointer none)).set 1 (.int .i64 0), b2.keep hk (fun y _ hy => by simpa using hy), rfl⟩, h4, fun y hy => ⟨(h5 y hy).1, Nat.lt_of_lt_of_le (h5 y hy).2 hk.size⟩, by simp⟩
theorem it_req {B p : Nat} {w : World} {X R : List Nat} {I : InS} {q : Req} (h : It B w p X R I) (hq : I.req = some q) : ∃ rb a l c, w.cell? ⟨p, 2, none⟩ = some (.pointer (some ⟨rb, 0, none⟩)) ∧ Blk w rb 36 (reqC q.m q.t (.slice a l c) q.cl) ∧ Own Fld.cells 2 B 26 w (.slice a l c) q.F ∧ (∀ g, (Value.slice a l c).ownBlock = some g → g ∈ R) ∧ rb ∈ R := by
  obtain ⟨⟨rv, cv, b1, b2, b3⟩, h4, h5, h6⟩ := h
  rw [hq] at b3
  obtain ⟨rb, v, rfl, g1, g2, g3, g4⟩ := b3
  obtain ⟨a, c, rfl, _⟩ := g3.shape
  exact ⟨rb, a, _, c, b1.get (k := 2) rfl, g2, g3, g4, g1⟩
theorem it_noReq {B p : Nat} {w : World} {X R : List Nat} {I : InS} (h : It B w p X R I) (hq : I.req = none) : w.cell? ⟨p, 2, none⟩ = some (.pointer none) := by
  obtain ⟨⟨rv, cv, b1, b2, b3⟩, h4, h5, h6⟩ := h
  rw [hq] at b3
  have : rv = .pointer none := b3
  subst this
  exact b1.get (k := 2) rfl
theorem body_req (J : InS) : (bodyB J).p.req = J.req ∧ (bodyB J).p.st = J.st := by
  unfold bodyB
  cases J.chk with
  | none => exact ⟨rfl, rfl⟩
  | some c => dsimp only; split; exact ⟨rfl, rfl⟩; split <;> exact ⟨rfl, rfl⟩
end Go.Proofs.YtdmffbefppjllaaGreatDoor
