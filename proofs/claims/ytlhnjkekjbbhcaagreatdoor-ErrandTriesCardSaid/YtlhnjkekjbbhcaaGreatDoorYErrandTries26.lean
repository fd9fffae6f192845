/- Parts of the proof of ErrandTries, in order. No conditions but those that each theorem states. -/
import Derived.Test.YtlhnjkekjbbhcaaGreatDoorYErrandTries0
import Derived.Lib.SlBytesConst
import Derived.Lib.LaidTab
import Derived.Lib.ItoaNum
import Derived.Lib.ItoaLen
import Derived.Sort.Grow
import Derived.Test.YtlhnjkekjbbhcaaGreatDoorYErrandTries15
set_option linter.unusedSimpArgs false
set_option linter.unusedVariables false
namespace Go.Proofs.YtlhnjkekjbbhcaaGreatDoor
open Go.RowKit Go.Shelf
def ansC (st : Int) (v : Value) (len : Int) (ch cl : Bool) : List Value := [.int .i64 st, v, .int .i64 len, .bool ch, .bool cl]
def reC (P : ReS) (cv av : Value) : List Value := [.bool P.head, .int .i64 (P.most : Nat), .int .i64 (P.st : Nat), .string (S P.inp), .string (S P.dat), .int .i64 (P.left : Nat), .int .i64 (P.size : Nat), .int .i64 (P.passed : Nat), cv, av, .bool P.shut, .bool P.ended]
def AnsAt (B : Nat) (w : World) (R : List Nat) (av : Value) (o : Option Ans) : Prop :=
  match o with
  | none => av = .pointer none
  | some a => ∃ b v, av = .pointer (some ⟨b, 0, none⟩) ∧ b ∈ R ∧ Blk w b 30 (ansC a.st v a.len a.ch a.cl) ∧ Own Fld.cells 2 B 89 w v a.F ∧ ∀ g, v.ownBlock = some g → g ∈ R
def RckAt (B : Nat) (w : World) (p : Nat) (X : List Nat) (cv : Value) (o : Option Ck) : Prop :=
  match o with
  | none => cv = .pointer none
  | some c => ∃ b v, cv = .pointer (some ⟨b, 0, none⟩) ∧ b ≠ p ∧ b ∈ X ∧ Ct B w b c.dat c v ∧ ∀ g, v.ownBlock = some g → g ∈ X ∧ g ≠ p
theorem RckAt.keep {B p : Nat} {w w' : World} {X T : List Nat} {cv : Value} {o : Option Ck} (h : RckAt B w p X cv o) (k : Keep T w w') (hX : ∀ x ∈ X, x ≠ p → x ∉ T) : RckAt B w' p X cv o := by
  cases o with
  | none => exact h
  | some c =>
    obtain ⟨b, v, h1, h2, h3, h4, h5⟩ := h; exact ⟨b, v, h1, h2, h3, h4.keep k (hX b h3 h2) (fun g hg => hX g (h5 g hg).1 (h5 g hg).2), h5⟩
structure Re (B : Nat) (w : World) (p : Nat) (X R : List Nat) (P : ReS) : Prop where
  at' : ∃ cv av, Blk w p 150 (reC P cv av) ∧ RckAt B w p X cv P.chk ∧ AnsAt B w R av P.ans
  mem : p ∈ X
  lo : ∀ x ∈ X, B ≤ x ∧ x < w.heap.size
  ro : ∀ x ∈ R, B ≤ x ∧ x < w.heap.size ∧ x ∉ X
theorem AnsAt.keep {B : Nat} {w w' : World} {R T : List Nat} {av : Value} {o : Option Ans} (h : AnsAt B w R av o) (k : Keep T w w') (hR : ∀ x ∈ R, x ∉ T) : AnsAt B w' R av o := by
  cases o with
  | none => exact h
  | some a =>
    obtain ⟨b, v, h1, h2, h3, h4, h5⟩ := h; exact ⟨b, v, h1, h2, k.blk h3 (hR b h2), h4.keep k (fun g hg => hR g (h5 g hg)), h5⟩
theorem Re.keep {B p : Nat} {w w' : World} {X R T : List Nat} {P : ReS} (h : Re B w p X R P) (k : Keep T w w') (hX : ∀ x ∈ X, x ∉ T) (hR : ∀ x ∈ R, x ∉ T) : Re B w' p X R P := by
  obtain ⟨⟨cv, av, h1, h2, h3⟩, h4, h5, h6⟩ := h; exact ⟨⟨cv, av, k.blk h1 (hX p h4), h2.keep k (fun x hx _ => hX x hx), h3.keep k hR⟩, h4, fun x hx => ⟨(h5 x hx).1, Nat.lt_of_lt_of_le (h5 x hx).2 k.size⟩, fun x hx => ⟨(h6 x hx).1, Nat.lt_of_lt_of_le (h6 x hx).2.1 k.size, (h6 x hx).2.2⟩⟩
theorem Re.keep0 {B p : Nat} {w w' : World} {X R : List Nat} {P : ReS} (h : Re B w p X R P) (k : Keep [] w w') : Re B w' p X R P := h.keep k (by simp) (by simp)
theorem Re.lt {B p : Nat} {w : World} {X R : List Nat} {P : ReS} (h : Re B w p X R P) : p < w.heap.size := (h.lo p h.mem).2
theorem Re.base {B p : Nat} {w : World} {X R : List Nat} {P : ReS} (h : Re B w p X R P) : B ≤ p := (h.lo p h.mem).1
theorem Re.set {B p : Nat} {w : World} {X R : List Nat} {P P' : ReS} (h : Re B w p X R P) (k : Nat) (x : Value) (hc : ∀ cv av, (reC P cv av).set k x = reC P' cv av) (h1 : P'.ans = P.ans) (h2 : P'.chk = P.chk) : Re B (w.setCell ⟨p, k, none⟩ x) p X R P' := by
  obtain ⟨⟨cv, av, b1, b2, b3⟩, h4, h5, h6⟩ := h; have hk : Keep [p] w (w.setCell ⟨p, k, none⟩ x) := (Keep.refl _ _).setCell _ _ (by simp); refine ⟨⟨cv, av, ?_, ?_, ?_⟩, h4, fun y hy => ⟨(h5 y hy).1, Nat.lt_of_lt_of_le (h5 y hy).2 hk.size⟩, fun y hy => ⟨(h6 y hy).1, Nat.lt_of_lt_of_le (h6 y hy).2.1 hk.size, (h6 y hy).2.2⟩⟩
  · rw [← hc]; exact b1.set k x
  · rw [h2]; exact b2.keep hk (fun y _ hy => by simpa using hy)
  · rw [h1]; exact b3.keep hk (fun y hy => by simp only [List.mem_singleton]; rintro rfl; exact (h6 _ hy).2.2 h4)
theorem Re.at_ {B p : Nat} {w : World} {X R : List Nat} {P : ReS} (h : Re B w p X R P) : w.cell? ⟨p, 0, Option.none⟩ = some (.bool P.head) ∧ w.cell? ⟨p, 1, Option.none⟩ = some (.int .i64 (P.most : Nat)) ∧ w.cell? ⟨p, 2, Option.none⟩ = some (.int .i64 (P.st : Nat)) ∧ w.cell? ⟨p, 3, Option.none⟩ = some (.string (S P.inp)) ∧ w.cell? ⟨p, 4, Option.none⟩ = some (.string (S P.dat)) ∧
    w.cell? ⟨p, 5, Option.none⟩ = some (.int .i64 (P.left : Nat)) ∧ w.cell? ⟨p, 6, Option.none⟩ = some (.int .i64 (P.size : Nat)) ∧ w.cell? ⟨p, 7, Option.none⟩ = some (.int .i64 (P.passed : Nat)) ∧ w.cell? ⟨p, 10, Option.none⟩ = some (.bool P.shut) ∧ w.cell? ⟨p, 11, Option.none⟩ = some (.bool P.ended) := by
  obtain ⟨⟨cv, av, b1, _⟩, _⟩ := h; exact ⟨b1.get (k := 0) rfl, b1.get (k := 1) rfl, b1.get (k := 2) rfl, b1.get (k := 3) rfl, b1.get (k := 4) rfl, b1.get (k := 5) rfl, b1.get (k := 6) rfl, b1.get (k := 7) rfl, b1.get (k := 10) rfl, b1.get (k := 11) rfl⟩
theorem Re.free {B p : Nat} {w : World} {X R : List Nat} {P : ReS} (h : Re B w p X R P) (k : Nat) : w.frozen? ⟨p, k, Option.none⟩ = false := let ⟨⟨_, _, b1, _⟩, _, _, _⟩ := h; b1.frozen k
theorem Re.keepX {B p : Nat} {w w' : World} {X R : List Nat} {P : ReS} (h : Re B w p X R P) (k : Keep [p] w w') : Keep X w w' := k.mono (fun x hx _ => by simp at hx; subst hx; exact h.mem)
set_option maxHeartbeats 1000000 in
set_option maxRecDepth 100000 in
theorem reply_New (B : Nat) (hd : Bool) (most : Int) (w : World) (hB : B ≤ w.heap.size) :
    Calls Tryz.prog 60 #[.bool hd, .int .i64 most] w fun e w' => ∃ p, e = .returned (.pointer (some ⟨p, 0, Option.none⟩)) ∧ w.heap.size ≤ p ∧ Re B w' p [p] [] (reNew hd most) ∧ Keep [] w w' := by
  obtain ⟨m, hm⟩ : ∃ m : Nat, (max most 0).toNat = m := ⟨_, rfl⟩
  have hmx : max most 0 = (m : Int) := by omega
  have HE := Lib.hid (show reNew hd most = ⟨hd, m, 0, [], [], 0, 0, 0, none, none, false, false⟩ by unfold reNew; rw [hm]); have H := Lib.hid (Blk.newA w (reC ⟨hd, m, 0, [], [], 0, 0, 0, none, none, false, false⟩ (.pointer Option.none) (.pointer Option.none)).toArray 150); clear hm; go_enter Tryz.func60, Tryz.ntmps60; go_wp2_with fail; go_ret; rw [HE.out]; exact ⟨w.heap.size, rfl, Nat.le_refl _, ⟨⟨.pointer Option.none, .pointer Option.none, H.out, rfl, rfl⟩, by simp, fun x hx => by simp at hx; subst hx; simp; omega, by simp⟩, (Keep.refl [] w).alloc _⟩
set_option maxHeartbeats 1000000 in
set_option maxRecDepth 100000 in
theorem reply_fail {B p : Nat} {X R : List Nat} {P : ReS} {w : World} (h : Re B w p X R P) :
    Calls Tryz.prog 218 #[.pointer (some ⟨p, 0, Option.none⟩)] w fun e w' => e = .returned (.bool true) ∧ Re B w' p X R (reFail P) ∧ Keep [p] w w' := by
  obtain ⟨c0, c1, c2, c3, c4, c5, c6, c7, c10, c11⟩ := h.at_; have f2 := h.free 2; have H := Lib.hid h; clear h; go_enter Tryz.func218, Tryz.ntmps218; go_wp2_with fail; go_ret; exact ⟨rfl, H.out.set 2 (.int .i64 5) (fun _ _ => rfl) rfl rfl, (Keep.refl _ _).setCell _ _ (by simp)⟩
set_option maxHeartbeats 1000000 in
set_option maxRecDepth 100000 in
theorem reply_Rest {B p : Nat} {X R : List Nat} {P : ReS} {w : World} (h : Re B w p X R P) :
    Calls Tryz.prog 156 #[.pointer (some ⟨p, 0, Option.none⟩)] w fun e w' => e = .returned (.string (S (reRest P))) ∧ w = w' := by
  obtain ⟨c0, c1, c2, c3, c4, c5, c6, c7, c10, c11⟩ := h.at_; have HE : reRest P = if P.ended then P.inp else [] := rfl
  clear h
  cases he : P.ended with
  | false =>
    rw [he] at c11 HE; have HR := Lib.hid HE; clear HE he; go_enter Tryz.func156, Tryz.ntmps156; go_wp2_with fail; go_ret; rw [HR.out]; exact ⟨rfl, rfl⟩
  | true =>
    rw [he] at c11 HE; have HR := Lib.hid HE; clear HE he; go_enter Tryz.func156, Tryz.ntmps156; go_wp2_with fail; go_ret; rw [HR.out]; exact ⟨rfl, rfl⟩
set_option maxHeartbeats 1000000 in
set_option maxRecDepth 100000 in
theorem reply_finish {B p : Nat} {X R : List Nat} {P : ReS} {w : World} (h : Re B w p X R P) (_hs : P.st ≤ 5) :
    Calls Tryz.prog 153 #[.pointer (some ⟨p, 0, Option.none⟩)] w fun e w' => e = .returned (.int .i64 (reFinish P).2) ∧ Re B w' p X R (reFinish P).1 ∧ Keep [p] w w' := by
  obtain ⟨c0, c1, c2, c3, c4, c5, c6, c7, c10, c11⟩ := h.at_; have f11 := h.free 11; have f2 := h.free 2; have hE : reFinish P = if P.st = 4 then ({ P with ended := true }, 3) else if P.st == 5 || P.shut then (reFail P, 4) else (P, 0) := rfl
  have H := Lib.hid h; clear h; by_cases h4 : P.st = 4
  · rw [if_pos h4] at hE; have HE := Lib.hid hE; rw [h4] at c2; clear hE h4; go_enter Tryz.func153, Tryz.ntmps153; go_wp2_with fail; go_ret; rw [HE.out]; exact ⟨rfl, H.out.set 11 (.bool true) (fun _ _ => rfl) rfl rfl, (Keep.refl _ _).setCell _ _ (by simp)⟩
  rw [if_neg h4] at hE; by_cases h5 : P.st = 5
  · rw [h5] at hE; have HE := Lib.hid (show reFinish P = (reFail P, 4) from hE); rw [h5] at c2; clear hE h4 h5; go_enter Tryz.func153, Tryz.ntmps153; go_wp2_with fail; go_ret; rw [HE.out]; exact ⟨rfl, H.out.set 2 (.int .i64 5) (fun _ _ => rfl) rfl rfl, (Keep.refl _ _).setCell _ _ (by simp)⟩
  have q1 : (((P.st : Nat) : Int) == 4) = false := by simp; omega
  have q2 : (((P.st : Nat) : Int) == 5) = false := by simp; omega
  have q3 : (P.st == 5) = false := by simpa using h5
  rw [q3] at hE
  cases hsh : P.shut with
  | true =>
    rw [hsh] at hE c10; have HE := Lib.hid (show reFinish P = (reFail P, 4) from hE); clear hE h4 h5 q3 hsh; go_enter Tryz.func153, Tryz.ntmps153; go_wp2_with fail; go_ret; rw [HE.out]; exact ⟨rfl, H.out.set 2 (.int .i64 5) (fun _ _ => rfl) rfl rfl, (Keep.refl _ _).setCell _ _ (by simp)⟩
  | false =>
    rw [hsh] at hE c10; have HE := Lib.hid (show reFinish P = (P, 0) from hE); clear hE h4 h5 q3 hsh; go_enter Tryz.func153, Tryz.ntmps153; go_wp2_with fail; go_ret; rw [HE.out]; exact ⟨rfl, H.out, Keep.refl _ _⟩
set_option maxHeartbeats 2000000 in
set_option maxRecDepth 100000 in
theorem reply_Add {B p : Nat} {X R : List Nat} {P : ReS} {w : World} (s : List UInt8) (h : Re B w p X R P) (hl : P.inp.length + P.dat.length ≤ 1048576) (hs : s.length ≤ 1048576) :
    Calls Tryz.prog 61 #[.pointer (some ⟨p, 0, Option.none⟩), .string (S s)] w fun e w' => e = .returned (.int .i64 (reAdd P s).2) ∧ Re B w' p X R (reAdd P s).1 ∧ Keep [p] w w' := by
  obtain ⟨c0, c1, c2, c3, c4, c5, c6, c7, c10, c11⟩ := h.at_; have f3 := h.free 3; have sz := S_size s; have sz2 := S_size P.inp; have sz3 := S_size P.dat; have hA : reAdd P s = if (16384 : Int) - P.inp.length - P.dat.length < s.length then (P, 6) else if P.shut || P.st == 5 then (P, 0) else ({ P with inp := P.inp ++ s }, 0) := rfl
  have H := Lib.hid h; have w1 := IntWalk.i64_in ((16384 : Int) - (P.inp.length : Int)) (by omega); have w2 := IntWalk.i64_in ((16384 : Int) - (P.inp.length : Int) - (P.dat.length : Int)) (by omega); have q3 := S_append P.inp s; have hov : ¬ 9223372036854775807 < P.inp.length + s.length := by omega
  clear h; by_cases h6 : (16384 : Int) - P.inp.length - P.dat.length < s.length
  · rw [if_pos h6] at hA; have HA := Lib.hid hA; have q2 : decide ((s.length : Int) > (16384 : Int) - P.inp.length - P.dat.length) = true := by simp; omega
    clear hA; go_enter Tryz.func61, Tryz.ntmps61; go_wp2_with fail
    go_region_with fail
    all_goals
      go_wp2_with fail; go_ret; rw [HA.out]; exact ⟨rfl, by repeat (first | exact H.out | apply Re.keep0 _ (Keep.drew (Keep.refl _ _))), by repeat (first | exact Keep.refl _ _ | apply Keep.drew)⟩
  rw [if_neg h6] at hA; have q2 : decide ((s.length : Int) > (16384 : Int) - P.inp.length - P.dat.length) = false := by simp; omega
  clear h6
  cases hsh : P.shut with
  | true =>
    rw [hsh] at c10; have HA := Lib.hid (show reAdd P s = (P, 0) by rw [hA, if_pos (by simp [hsh])]); clear hA hsh; go_enter Tryz.func61, Tryz.ntmps61; go_wp2_with fail
    go_region_with fail
    all_goals
      go_wp2_with fail; go_ret; rw [HA.out]; exact ⟨rfl, H.out.keep0 ((Keep.refl _ _).drew), (Keep.refl _ _).drew⟩
  | false =>
    rw [hsh] at c10; by_cases h5 : P.st = 5
    · have HA := Lib.hid (show reAdd P s = (P, 0) by rw [hA, if_pos (by simp [h5])]); rw [h5] at c2; clear hA hsh h5; go_enter Tryz.func61, Tryz.ntmps61; go_wp2_with fail
      go_region_with fail
      all_goals
        go_wp2_with fail; go_ret; rw [HA.out]; exact ⟨rfl, H.out.keep0 ((Keep.refl _ _).drew), (Keep.refl _ _).drew⟩
    · have HA := Lib.hid (show reAdd P s = ({ P with inp := P.inp ++ s }, 0) by rw [hA, if_neg (by simp [hsh, h5])]); have q4 : (((P.st : Nat) : Int) == 5) = false := by simp; omega
      clear hA hsh h5; go_enter Tryz.func61, Tryz.ntmps61; go_wp2_with fail
      go_region_with fail
      all_goals
        go_wp2_with fail; go_ret; rw [HA.out]; exact ⟨rfl, (H.out.keep0 ((Keep.refl _ _).drew)).set 3 (.string (S (P.inp ++ s))) (fun _ _ => rfl) rfl rfl, ((Keep.refl _ _).drew).setCell _ _ (by simp)⟩
set_option maxHeartbeats 2000000 in
set_option maxRecDepth 100000 in
theorem reply_readLength {B p : Nat} {X R : List Nat} {P : ReS} {w : World} (h : Re B w p X R P) (hl : P.inp.length + P.dat.length ≤ 1048576) (hlf : (P.left : Int) ≤ 9223372036854775807) :
    Calls Tryz.prog 191 #[.pointer (some ⟨p, 0, Option.none⟩)] w fun e w' => e = .returned (.bool (readLengthR P).2) ∧ Re B w' p X R (readLengthR P).1 ∧ Keep [p] w w' := by
  obtain ⟨c0, c1, c2, c3, c4, c5, c6, c7, c10, c11⟩ := h.at_; have H := Lib.hid h; have sz2 := S_size P.inp; have sz3 := S_size P.dat
  have hE : readLengthR P = if P.left - min P.left P.inp.length = 0 then ({ P with dat := P.dat ++ P.inp.take (min P.left P.inp.length), inp := P.inp.drop (min P.left P.inp.length), left := 0, st := 4 }, true)
    else ({ P with dat := P.dat ++ P.inp.take (min P.left P.inp.length), inp := P.inp.drop (min P.left P.inp.length), left := P.left - min P.left P.inp.length }, decide (0 < min P.left P.inp.length)) := rfl
  obtain ⟨n, hn⟩ : ∃ n, min P.left P.inp.length = n := ⟨_, rfl⟩
  rw [hn] at hE; have hmin : min ((P.left : Nat) : Int) ((P.inp.length : Nat) : Int) = ((n : Nat) : Int) := by omega
  have hx1 : (S P.inp).extract 0 n = S (P.inp.take n) := by rw [S_extract]; rfl
  have hx2 : (S P.inp).extract n P.inp.length = S (P.inp.drop n) := by rw [S_extract, List.take_length]
  have sz4 : (S (P.inp.take n)).size = n := by rw [S_size, List.length_take]; omega
  have happ := S_append P.dat (P.inp.take n); have hov : ¬ 9223372036854775807 < P.dat.length + n := by omega
  have i0 : (0 : Int) ≤ (n : Int) := by omega
  have i1 : (n : Int) ≤ (P.inp.length : Int) := by omega
  obtain ⟨r, hr⟩ : ∃ r, P.left - n = r := ⟨_, rfl⟩
  have hrI : (P.left : Int) - (n : Int) = ((r : Nat) : Int) := by omega
  have w2 := IntWalk.i64_in ((r : Nat) : Int) (by omega); rw [hr] at hE; clear h hn hlf; go_enter Tryz.func191, Tryz.ntmps191
  go_upto_region 1 with fail
  go_cut [3] (fun y wx => y = .int .i64 (n : Nat) ∧ Hid (Keep [] w wx))
  case first =>
    go_region_with fail
    all_goals
      go_wp2_with fail; go_meet; exact ⟨rfl, Lib.hid (by repeat (first | exact Keep.refl _ _ | apply Keep.drew))⟩
  case rest =>
  obtain ⟨rfl, KX⟩ := hcut; have H1 := Lib.hid (H.out.keep0 KX.out); clear c0 c1 c2 c3 c4 c5 c6 c7 c10 c11 hmin; obtain ⟨c0, c1, c2, c3, c4, c5, c6, c7, c10, c11⟩ := H1.out.at_; have f4 := H1.out.free 4; have HS1 := Lib.hid (And.intro (H1.out.set (P' := { P with dat := P.dat ++ P.inp.take n }) 4 (.string (S (P.dat ++ P.inp.take n))) (fun _ _ => rfl) rfl rfl) ((KX.out.mono (S' := [p]) (by simp)).setCell ⟨p, 4, Option.none⟩ (.string (S (P.dat ++ P.inp.take n))) (by simp)))
  go_upto_region 2 with fail
  go_cut [3] (fun y wx => y = .int .i64 (n : Nat) ∧ Hid (Re B wx p X R { P with dat := P.dat ++ P.inp.take n } ∧ Keep [p] w wx))
  case first =>
    go_region_with fail
    all_goals
      go_wp2_with fail; go_meet; exact ⟨rfl, Lib.hid ⟨by repeat (first | exact HS1.out.1 | refine Re.keep0 ?_ (Keep.drew (Keep.refl _ _))), by repeat (first | exact HS1.out.2 | apply Keep.drew)⟩⟩
  case rest =>
  obtain ⟨rfl, HX⟩ := hcut; clear c0 c1 c2 c3 c4 c5 c6 c7 c10 c11 f4 HS1 H1 KX happ hov sz4; obtain ⟨c0, c1, c2, c3, c4, c5, c6, c7, c10, c11⟩ := HX.out.1.at_; have f2 := HX.out.1.free 2; have f3 := HX.out.1.free 3; have f5 := HX.out.1.free 5; have hs := (HX.out.1.set (P' := { P with dat := P.dat ++ P.inp.take n, inp := P.inp.drop n }) 3 (.string (S (P.inp.drop n))) (fun _ _ => rfl) rfl rfl).set (P' := { P with dat := P.dat ++ P.inp.take n, inp := P.inp.drop n, left := r }) 5 (.int .i64 (r : Nat)) (fun _ _ => rfl) rfl rfl; have ks := (HX.out.2.setCell ⟨p, 3, Option.none⟩ (.string (S (P.inp.drop n))) (by simp)).setCell ⟨p, 5, Option.none⟩ (.int .i64 (r : Nat)) (by simp); have HS := Lib.hid (And.intro hs ks); clear hs ks; by_cases h0 : r = 0
  · rw [if_pos h0] at hE; have HE := Lib.hid hE; have q2 : (((r : Nat) : Int) == 0) = true := by simp [h0]
    have h4 := Lib.hid ((HS.out.1.set (P' := { P with dat := P.dat ++ P.inp.take n, inp := P.inp.drop n, left := r, st := 4 }) 2 (.int .i64 4) (fun _ _ => rfl) rfl rfl)); have k4 := Lib.hid (HS.out.2.setCell ⟨p, 2, Option.none⟩ (.int .i64 4) (by simp)); have HR0 := Lib.hid h0; clear hE h0; go_wp2_with fail; go_ret; rw [HE.out]; refine ⟨rfl, ?_, k4.out⟩; have := h4.out; rw [HR0.out] at this; rw [HR0.out]; exact this
  · rw [if_neg h0] at hE; have HE := Lib.hid hE; have q2 : (((r : Nat) : Int) == 0) = false := by simp [h0]
    have q3 : decide ((n : Int) > 0) = decide (0 < n) := by rw [decide_eq_decide]; omega
    clear hE h0; go_wp2_with fail; go_ret; rw [HE.out]; exact ⟨rfl, HS.out.1, HS.out.2⟩
set_option maxHeartbeats 2000000 in
set_option maxRecDepth 100000 in
theorem reply_readClose {B p : Nat} {X R : List Nat} {P : ReS} {w : World} (h : Re B w p X R P) (hl : P.inp.length + P.dat.length ≤ 1048576) (hsz : P.size ≤ P.most) (hmo : (P.most : Int) ≤ 9223372036854775807) :
    Calls Tryz.prog 192 #[.pointer (some ⟨p, 0, Option.none⟩)] w fun e w' => e = .returned (.bool (readCloseR P).2) ∧ Re B w' p X R (readCloseR P).1 ∧ Keep [p] w w' := by
  obtain ⟨c0, c1, c2, c3, c4, c5, c6, c7, c10, c11⟩ := h.at_; have H := Lib.hid h; have sz2 := S_size P.inp; have sz3 := S_size P.dat; obtain ⟨n, hn⟩ : ∃ n, min (P.most - P.size) P.inp.length = n := ⟨_, rfl⟩
  have hC : closeP P = { P with dat := P.dat ++ P.inp.take n, size := P.size + n, inp := P.inp.drop n } := by unfold closeP; rw [hn]
  have hE : readCloseR P = if (closeP P).inp ≠ [] then (reFail (closeP P), true) else if P.shut then ({ closeP P with st := 4 }, true) else (closeP P, decide (0 < n)) := by unfold readCloseR; rw [hn]
  rw [hC] at hE; have wm := IntWalk.i64_in ((P.most : Int) - (P.size : Int)) (by omega); have hmin : min (((P.most : Nat) : Int) - ((P.size : Nat) : Int)) ((P.inp.length : Nat) : Int) = ((n : Nat) : Int) := by omega
  have hx1 : (S P.inp).extract 0 n = S (P.inp.take n) := by rw [S_extract]; rfl
  have hx2 : (S P.inp).extract n P.inp.length = S (P.inp.drop n) := by rw [S_extract, List.take_length]
  have sz4 : (S (P.inp.take n)).size = n := by rw [S_size, List.length_take]; omega
  have happ := S_append P.dat (P.inp.take n); have hov : ¬ 9223372036854775807 < P.dat.length + n := by omega
  have i0 : (0 : Int) ≤ (n : Int) := by omega
  have i1 : (n : Int) ≤ (P.inp.length : Int) := by omega
  have w2 := IntWalk.i64_in ((P.size : Int) + (n : Int)) (by omega); have hh2 := Lib.hid (show ((P.size : Int) + (n : Int)) = ((P.size + n : Nat) : Int) by omega); clear h hn hC hsz hmo; go_enter Tryz.func192, Tryz.ntmps192
  go_upto_region 1 with fail
  go_cut [3] (fun y wx => y = .int .i64 (n : Nat) ∧ Hid (Keep [] w wx))
  case first =>
    go_region_with fail
    all_goals
      go_wp2_with fail; go_meet; exact ⟨rfl, Lib.hid (by repeat (first | exact Keep.refl _ _ | apply Keep.drew))⟩
  case rest =>
  obtain ⟨rfl, KX⟩ := hcut; have H1 := Lib.hid (H.out.keep0 KX.out); clear c0 c1 c2 c3 c4 c5 c6 c7 c10 c11 hmin wm; obtain ⟨c0, c1, c2, c3, c4, c5, c6, c7, c10, c11⟩ := H1.out.at_; have f4 := H1.out.free 4; have HS1 := Lib.hid (And.intro (H1.out.set (P' := { P with dat := P.dat ++ P.inp.take n }) 4 (.string (S (P.dat ++ P.inp.take n))) (fun _ _ => rfl) rfl rfl) ((KX.out.mono (S' := [p]) (by simp)).setCell ⟨p, 4, Option.none⟩ (.string (S (P.dat ++ P.inp.take n))) (by simp)))
  go_upto_region 2 with fail
  go_cut [3] (fun y wx => y = .int .i64 (n : Nat) ∧ Hid (Re B wx p X R { P with dat := P.dat ++ P.inp.take n } ∧ Keep [p] w wx))
  case first =>
    go_region_with fail
    all_goals
      go_wp2_with fail; go_meet; exact ⟨rfl, Lib.hid ⟨by repeat (first | exact HS1.out.1 | refine Re.keep0 ?_ (Keep.drew (Keep.refl _ _))), by repeat (first | exact HS1.out.2 | apply Keep.drew)⟩⟩
  case rest =>
  obtain ⟨rfl, HX⟩ := hcut; clear c0 c1 c2 c3 c4 c5 c6 c7 c10 c11 f4 HS1 H1 KX happ hov sz4; obtain ⟨c0, c1, c2, c3, c4, c5, c6, c7, c10, c11⟩ := HX.out.1.at_; have f2 := HX.out.1.free 2; have f3 := HX.out.1.free 3; have f6 := HX.out.1.free 6; have hs := (HX.out.1.set (P' := { P with dat := P.dat ++ P.inp.take n, size := P.size + n }) 6 (.int .i64 ((P.size : Int) + (n : Int))) (fun _ _ => by rw [hh2.out]; rfl) rfl rfl).set (P' := { P with dat := P.dat ++ P.inp.take n, size := P.size + n, inp := P.inp.drop n }) 3 (.string (S (P.inp.drop n))) (fun _ _ => rfl) rfl rfl; have ks := (HX.out.2.setCell ⟨p, 6, Option.none⟩ (.int .i64 ((P.size : Int) + (n : Int))) (by simp)).setCell ⟨p, 3, Option.none⟩ (.string (S (P.inp.drop n))) (by simp); have HS := Lib.hid (And.intro hs ks); have HF := Lib.hid (reply_fail hs); clear hs ks; have tl := S_toList (P.inp.drop n); by_cases h0 : P.inp.drop n = []
  case neg =>
    rw [if_pos h0] at hE; have HE := Lib.hid hE; have te : (P.inp.drop n).isEmpty = false := by simpa [List.isEmpty_iff] using h0
    have te2 : (P.inp.drop n == []) = false := by simpa using h0
    clear hE h0; generalize hdr : P.inp.drop n = dr at *; go_wp2_with fail; refine HF.out.mono ?_; rintro e w5 ⟨rfl, h5, k5⟩; have K5 := Lib.hid (And.intro h5 (HS.out.2.trans k5)); clear h5 k5; go_wp2_with fail; go_ret; rw [HE.out]; exact ⟨rfl, K5.out.1, K5.out.2⟩
  have te : (P.inp.drop n).isEmpty = true := by rw [h0]; rfl
  have te2 : (P.inp.drop n == []) = true := by rw [h0]; rfl
  rw [if_neg (by rw [h0]; simp)] at hE; clear h0 HF
  cases hsh : P.shut with
  | true =>
    rw [if_pos hsh] at hE; have HE := Lib.hid hE; have c10' : _ := c10; rw [show ({ P with dat := P.dat ++ P.inp.take n } : ReS).shut = P.shut from rfl, hsh] at c10; have h4 := Lib.hid (And.intro (HS.out.1.set (P' := { P with dat := P.dat ++ P.inp.take n, size := P.size + n, inp := P.inp.drop n, st := 4 }) 2 (.int .i64 4) (fun _ _ => rfl) rfl rfl) (HS.out.2.setCell ⟨p, 2, Option.none⟩ (.int .i64 4) (by simp))); clear hE hsh c10'; generalize hdr : P.inp.drop n = dr at *; go_wp2_with fail; go_ret; rw [HE.out]; exact ⟨rfl, h4.out.1, h4.out.2⟩
  | false =>
    rw [if_neg (by simp [hsh])] at hE; have HE := Lib.hid hE; rw [show ({ P with dat := P.dat ++ P.inp.take n } : ReS).shut = P.shut from rfl, hsh] at c10; have q3 : decide ((n : Int) > 0) = decide (0 < n) := by rw [decide_eq_decide]; omega
    clear hE hsh; generalize hdr : P.inp.drop n = dr at *; go_wp2_with fail; go_ret; rw [HE.out]; exact ⟨rfl, HS.out.1, HS.out.2⟩
end Go.Proofs.YtlhnjkekjbbhcaaGreatDoor
