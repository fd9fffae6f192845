/- Parts of the proof of ErrandTries, in order. No conditions but those that each theorem states. -/
import Derived.Test.YtlhnjkekjbbhcaaGreatDoorYErrandTries0
import Derived.Lib.SlBytesConst
import Derived.Lib.LaidTab
import Derived.Lib.ItoaNum
import Derived.Lib.ItoaLen
import Derived.Sort.Grow
import Derived.Deep.MidRow
import Derived.Test.YtlhnjkekjbbhcaaGreatDoorYErrandTries16
import Derived.Test.YtlhnjkekjbbhcaaGreatDoorYErrandTries27
set_option linter.unusedSimpArgs false
set_option linter.unusedVariables false
namespace Go.Proofs.YtlhnjkekjbbhcaaGreatDoor
open Go.RowKit Go.Shelf
structure ReQ (B : Nat) (w : World) (p b : Nat) (X R : List Nat) (P : ReS) (c : Ck) (pre : List UInt8) : Prop where
  at' : ∃ av v, Blk w p 150 (reC P (.pointer (some ⟨b, 0, Option.none⟩)) av) ∧ b ≠ p ∧ b ∈ X ∧ Ct B w b pre c v ∧ (∀ g, v.ownBlock = some g → g ∈ X ∧ g ≠ p) ∧ AnsAt B w R av P.ans
  mem : p ∈ X
  lo : ∀ x ∈ X, B ≤ x ∧ x < w.heap.size
  ro : ∀ x ∈ R, B ≤ x ∧ x < w.heap.size ∧ x ∉ X
theorem Re.q {B p : Nat} {w : World} {X R : List Nat} {P : ReS} {c : Ck} (h : Re B w p X R P) (hc : P.chk = some c) : ∃ b, ReQ B w p b X R P c c.dat := by
  obtain ⟨⟨cv, av, b1, b2, b3⟩, h4, h5, h6⟩ := h; rw [hc] at b2; obtain ⟨b, v, rfl, h7, h8, h9, h10⟩ := b2; exact ⟨b, ⟨av, v, b1, h7, h8, h9, h10, b3⟩, h4, h5, h6⟩
theorem ReQ.re {B p b : Nat} {w : World} {X R : List Nat} {P : ReS} {c : Ck} (h : ReQ B w p b X R P c c.dat) : Re B w p X R { P with chk := some c } := by
  obtain ⟨⟨av, v, b1, h7, h8, h9, h10, b3⟩, h4, h5, h6⟩ := h; exact ⟨⟨_, av, b1, ⟨b, v, rfl, h7, h8, h9, h10⟩, b3⟩, h4, h5, h6⟩
theorem ReQ.set {B p b : Nat} {w : World} {X R : List Nat} {P P' : ReS} {c : Ck} {pre : List UInt8} (h : ReQ B w p b X R P c pre) (k : Nat) (x : Value) (hc : ∀ cv av, (reC P cv av).set k x = reC P' cv av) (h1 : P'.ans = P.ans) : ReQ B (w.setCell ⟨p, k, Option.none⟩ x) p b X R P' c pre := by
  obtain ⟨⟨av, v, b1, h7, h8, h9, h10, b3⟩, h4, h5, h6⟩ := h; have hk : Keep [p] w (w.setCell ⟨p, k, Option.none⟩ x) := (Keep.refl _ _).setCell _ _ (by simp); refine ⟨⟨av, v, ?_, h7, h8, h9.keep hk (by simpa using h7) (fun g hg => by simpa using (h10 g hg).2), h10, ?_⟩, h4, fun y hy => ⟨(h5 y hy).1, Nat.lt_of_lt_of_le (h5 y hy).2 hk.size⟩, fun y hy => ⟨(h6 y hy).1, Nat.lt_of_lt_of_le (h6 y hy).2.1 hk.size, (h6 y hy).2.2⟩⟩
  · rw [← hc]; exact b1.set k x
  · rw [h1]; exact b3.keep hk (fun y hy => by simp only [List.mem_singleton]; rintro rfl; exact (h6 _ hy).2.2 h4)
theorem ReQ.at_ {B p b : Nat} {w : World} {X R : List Nat} {P : ReS} {c : Ck} {pre : List UInt8} (h : ReQ B w p b X R P c pre) : w.cell? ⟨p, 2, Option.none⟩ = some (.int .i64 (P.st : Nat)) ∧ w.cell? ⟨p, 3, Option.none⟩ = some (.string (S P.inp)) ∧ w.cell? ⟨p, 4, Option.none⟩ = some (.string (S P.dat)) ∧ w.cell? ⟨p, 8, Option.none⟩ = some (.pointer (some ⟨b, 0, Option.none⟩)) := by
  obtain ⟨⟨av, v, b1, _⟩, _⟩ := h; exact ⟨b1.get (k := 2) rfl, b1.get (k := 3) rfl, b1.get (k := 4) rfl, b1.get (k := 8) rfl⟩
theorem ReQ.free {B p b : Nat} {w : World} {X R : List Nat} {P : ReS} {c : Ck} {pre : List UInt8} (h : ReQ B w p b X R P c pre) (k : Nat) : w.frozen? ⟨p, k, Option.none⟩ = false := by
  obtain ⟨⟨av, v, b1, _⟩, _⟩ := h; exact b1.frozen k
theorem reQ_core {B p b : Nat} {w w' : World} {X R : List Nat} {P : ReS} {c c' : Ck} {pre pre' : List UInt8} {av v v' : Value} (b1 : Blk w p 150 (reC P (.pointer (some ⟨b, 0, Option.none⟩)) av)) (h7 : b ≠ p) (h8 : b ∈ X) (_ : Ct B w b pre c v) (h10 : ∀ g, v.ownBlock = some g → g ∈ X ∧ g ≠ p) (b3 : AnsAt B w R av P.ans)
    (h4 : p ∈ X) (h5 : ∀ x ∈ X, B ≤ x ∧ x < w.heap.size) (h6 : ∀ x ∈ R, B ≤ x ∧ x < w.heap.size ∧ x ∉ X)
    (g1 : Ct B w' b pre' c' v') (g2 : Keep (b :: v.ownBlock.toList) w w') (g3 : v'.ownBlock = v.ownBlock ∨ v'.ownBlock = Option.none ∨ ∃ g, v'.ownBlock = some g ∧ w.heap.size ≤ g) :
    ∃ X', ReQ B w' p b X' R P c' pre' ∧ Keep X w w' ∧ ∀ x ∈ X', x ∈ X ∨ w.heap.size ≤ x := by
  have hown : ∀ g, v'.ownBlock = some g → (g ∈ X ∨ w.heap.size ≤ g) ∧ g ≠ p := fun g hg => by
    rcases g3 with e3 | e3 | ⟨g', e3, hg'⟩
    · rw [e3] at hg; exact ⟨.inl (h10 g hg).1, (h10 g hg).2⟩
    · rw [e3] at hg; cases hg
    · rw [e3] at hg; have : g' = g := by simpa using hg
      subst this; have := (h5 p h4).2; exact ⟨.inr hg', by omega⟩
  have hpn : p ∉ b :: v.ownBlock.toList := by
    intro hh; rcases List.mem_cons.1 hh with hh | hh
    · exact h7 hh.symm
    · exact (h10 p (by simpa using hh)).2 rfl
  have gX : Keep X w w' := g2.mono (fun x hx _ => by
    rcases List.mem_cons.1 hx with rfl | hx
    · exact h8
    · exact (h10 x (by simpa using hx)).1)
  obtain ⟨_, _, gb, _⟩ := id g1; refine ⟨X ++ v'.ownBlock.toList, ⟨⟨av, v', g2.blk b1 hpn, h7, by simp [h8], g1, fun g hg => ⟨by rw [hg]; simp, (hown g hg).2⟩, ?_⟩, by simp [h4], ?_, ?_⟩, gX, ?_⟩
  · exact b3.keep g2 (fun x hx hh => by
      rcases List.mem_cons.1 hh with rfl | hh
      · exact (h6 _ hx).2.2 h8
      · exact (h6 _ hx).2.2 (h10 x (by simpa using hh)).1)
  · intro x hx; rcases List.mem_append.1 hx with hx | hx
    · exact ⟨(h5 x hx).1, Nat.lt_of_lt_of_le (h5 x hx).2 g2.size⟩
    · exact gb.own.lt x (by simpa using hx)
  · intro x hx; refine ⟨(h6 x hx).1, Nat.lt_of_lt_of_le (h6 x hx).2.1 g2.size, fun hh => ?_⟩; rcases List.mem_append.1 hh with hh | hh
    · exact (h6 x hx).2.2 hh
    · rcases (hown x (by simpa using hh)).1 with h1 | h1
      · exact (h6 x hx).2.2 h1
      · have := (h6 x hx).2.1; omega
  · intro x hx; rcases List.mem_append.1 hx with hx | hx
    · exact .inl hx
    · exact (hown x (by simpa using hx)).1
theorem reQ_Add {B p b : Nat} {w : World} {X R : List Nat} {P : ReS} {c : Ck} {pre : List UInt8} (s : List UInt8) (h : ReQ B w p b X R P c pre)
    (hm : ML w) (hB : B ≤ w.heap.size) (hbig : 1 < B) (hl : c.inp.length + c.dat.length + s.length ≤ 1048576) (hmost : (c.most : Int) ≤ 9223372036854775807) (hok : c.err = 0 → c.ok) :
    Calls Tryz.prog 118 #[.pointer (some ⟨b, 0, Option.none⟩), .string (S s)] w fun e w' => e = .returned (.int .i64 (addC c s).err) ∧ ∃ X', ReQ B w' p b X' R P (addC c s) pre ∧ Keep X w w' ∧ ∀ x ∈ X', x ∈ X ∨ w.heap.size ≤ x := by
  obtain ⟨⟨av, v, b1, h7, h8, h9, h10, b3⟩, h4, h5, h6⟩ := h; refine (chunk_Add B b pre s c (addC c s) v w hm (by have := (h5 _ h8).1; omega) h9 hB hbig hl hmost hok (addC_R hok)).mono ?_; rintro e w' ⟨rfl, v', g1, g2, g3⟩; exact ⟨rfl, reQ_core b1 h7 h8 h9 h10 b3 h4 h5 h6 g1 g2 (g3.imp id .inr)⟩
theorem reQ_Take {B p b : Nat} {w : World} {X R : List Nat} {P : ReS} {c : Ck} {pre : List UInt8} (h : ReQ B w p b X R P c pre) :
    Calls Tryz.prog 220 #[.pointer (some ⟨b, 0, Option.none⟩)] w fun e w' => ∃ o, e = .returned (.string (S o)) ∧ c.dat = pre ++ o ∧ ∃ X', ReQ B w' p b X' R P c c.dat ∧ Keep X w w' ∧ ∀ x ∈ X', x ∈ X ∨ w.heap.size ≤ x := by
  obtain ⟨⟨av, v, b1, h7, h8, h9, h10, b3⟩, h4, h5, h6⟩ := h; refine (chunk_Take h9).mono ?_; rintro e w' ⟨o, rfl, ho, g1, g2⟩; exact ⟨o, rfl, ho, reQ_core b1 h7 h8 h9 h10 b3 h4 h5 h6 g1 g2 (.inr (.inl rfl))⟩
theorem reQ_Done {B p b : Nat} {w : World} {X R : List Nat} {P : ReS} {c : Ck} {pre : List UInt8} (h : ReQ B w p b X R P c pre) (hs : c.st ≤ 4) :
    Calls Tryz.prog 119 #[.pointer (some ⟨b, 0, Option.none⟩)] w fun e w' => e = .returned (.bool (decide (c.st = 4))) ∧ w = w' := let ⟨⟨_, _, _, _, _, h9, _, _⟩, _, _, _⟩ := h; chunk_Done h9 hs
theorem reQ_Rest {B p b : Nat} {w : World} {X R : List Nat} {P : ReS} {c : Ck} {pre : List UInt8} (h : ReQ B w p b X R P c pre) (hs : c.st ≤ 4) :
    Calls Tryz.prog 120 #[.pointer (some ⟨b, 0, Option.none⟩)] w fun e w' => e = .returned (.string (S (if c.st = 4 then c.inp else []))) ∧ w = w' := let ⟨⟨_, _, _, _, _, h9, _, _⟩, _, _, _⟩ := h; chunk_Rest h9 hs
theorem ReQ.keep0 {B p b : Nat} {w w' : World} {X R : List Nat} {P : ReS} {c : Ck} {pre : List UInt8} (h : ReQ B w p b X R P c pre) (k : Keep [] w w') : ReQ B w' p b X R P c pre := by
  obtain ⟨⟨av, v, b1, h7, h8, h9, h10, b3⟩, h4, h5, h6⟩ := h; exact ⟨⟨av, v, k.blk b1 (by simp), h7, h8, h9.keep k (by simp) (by simp), h10, b3.keep k (by simp)⟩, h4, fun y hy => ⟨(h5 y hy).1, Nat.lt_of_lt_of_le (h5 y hy).2 k.size⟩, fun y hy => ⟨(h6 y hy).1, Nat.lt_of_lt_of_le (h6 y hy).2.1 k.size, (h6 y hy).2.2⟩⟩
set_option maxHeartbeats 4000000 in
set_option maxRecDepth 100000 in
theorem reply_readChunks {B p : Nat} {X R : List Nat} {P : ReS} {c : Ck} {w : World} (h : Re B w p X R P) (hc : P.chk = some c) (hm : ML w) (hB : B ≤ w.heap.size) (hbig : 1 < B) (hl : P.inp.length + P.dat.length ≤ 500000)
    (hcl : c.inp.length + c.dat.length ≤ 500000) (hmost : (c.most : Int) ≤ 9223372036854775807) (hok : c.err = 0 → c.ok) (hst : (addC c P.inp).err = 0 → (addC c P.inp).st ≤ 4) (hdl : (addC c P.inp).dat.length ≤ 1048576) :
    Calls Tryz.prog 190 #[.pointer (some ⟨p, 0, Option.none⟩)] w fun e w' => e = .returned (.bool (readChunksR P).2) ∧ Keep X w w' ∧ ∃ X', Re B w' p X' R (readChunksR P).1 ∧ ∀ x ∈ X', x ∈ X ∨ w.heap.size ≤ x := by
  have hE : readChunksR P = if P.inp = [] then (P, false)
    else if (addC c P.inp).err ≠ 0 then (reFail { P with inp := [], dat := P.dat ++ (addC c P.inp).dat.drop c.dat.length, chk := some (addC c P.inp) }, true)
    else if (addC c P.inp).st = 4 then ({ P with inp := (addC c P.inp).inp, dat := P.dat ++ (addC c P.inp).dat.drop c.dat.length, chk := some (addC c P.inp), st := 4 }, true)
    else ({ P with inp := [], dat := P.dat ++ (addC c P.inp).dat.drop c.dat.length, chk := some (addC c P.inp) }, true) := by unfold readChunksR; rw [hc]
  obtain ⟨c0, c1, c2, c3, c4, c5, c6, c7, c10, c11⟩ := h.at_; have tl := S_toList P.inp; by_cases h0 : P.inp = []
  · rw [if_pos h0] at hE; have HE := Lib.hid hE; have te : P.inp.isEmpty = true := by rw [h0]; rfl
    have te2 : (P.inp == []) = true := by rw [h0]; rfl
    have H := Lib.hid h; clear hE h0 h; go_enter Tryz.func190, Tryz.ntmps190; go_wp2_with fail; go_ret; rw [HE.out]; exact ⟨rfl, Keep.refl _ _, X, H.out, fun x hx => .inl hx⟩
  rw [if_neg h0] at hE; have te : P.inp.isEmpty = false := by simpa [List.isEmpty_iff] using h0
  have te2 : (P.inp == []) = false := by simpa using h0
  obtain ⟨b, hq⟩ := h.q hc; have f3 := hq.free 3; have hs := hq.set (P' := { P with inp := [] }) 3 (.string ⟨#[]⟩) (fun _ _ => rfl) rfl; have ks := (Keep.refl [p] w).setCell ⟨p, 3, Option.none⟩ (.string ⟨#[]⟩) (by simp); have KS := Lib.hid (h.keepX ks); have HA := Lib.hid (reQ_Add P.inp hs (hm.keepB hbig KS.out (fun x hx => (h.lo x hx).1)) (Nat.le_trans hB ks.size) hbig (by omega) hmost hok); have c8 := hs.at_.2.2.2; have HPX := Lib.hid h.mem; clear h hq hs ks hm hok hc h0; generalize addC c P.inp = d at *; have HE := Lib.hid hE; clear hE; go_enter Tryz.func190, Tryz.ntmps190
  go_upto_region 6 with fail
  refine HA.out.mono ?_; rintro e w2 ⟨rfl, X2, h2, k2, n2⟩
  go_upto_region 6 with fail
  have HT := Lib.hid (fun w' (k : Keep [] w2 w') => reQ_Take (h2.keep0 k)); obtain ⟨a2, a3, a4, a8⟩ := h2.at_; have H2 := Lib.hid (And.intro h2 (And.intro k2 n2)); have sz3 := S_size P.dat; clear c0 c1 c2 c3 c4 c5 c6 c7 c10 c11 c8 f3 te te2 tl h2 k2 n2 HA
  go_cut [4] (fun y wx => y = .int .i64 d.err ∧ Hid (∃ X3, ReQ B wx p b X3 R { P with inp := [], dat := P.dat ++ d.dat.drop c.dat.length } d d.dat ∧ Keep X2 w2 wx ∧ ∀ x ∈ X3, x ∈ X2 ∨ w2.heap.size ≤ x))
  case first =>
    go_region_with (first
      | (go_at_call 220
         refine (HT.out _ (by repeat (first | exact Keep.refl _ _ | apply Keep.drew))).mono ?_; rintro e w3 ⟨o, rfl, ho, X3, h3, k3, n3⟩; have ho2 := Lib.hid (show d.dat.drop c.dat.length = o by rw [ho, List.drop_left]); have hol : o.length ≤ d.dat.length := by rw [ho]; simp
         have so := S_size o; have happ := S_append P.dat o; have hov : ¬ 9223372036854775807 < P.dat.length + o.length := by omega
         obtain ⟨e2, e3, e4, e8⟩ := h3.at_; have ff := h3.free 4; have H3 := Lib.hid (And.intro h3 (And.intro k3 n3)); clear ho h3 k3 n3)
      | fail)
    all_goals
      go_wp2_with fail; go_meet; refine ⟨rfl, Lib.hid ⟨X3, ?_, ?_, H3.out.2.2⟩⟩
      · rw [ho2.out]; exact H3.out.1.set (P' := { P with inp := [], dat := P.dat ++ o }) 4 (.string (S (P.dat ++ o))) (fun _ _ => rfl) rfl
      · exact ((((Keep.refl [] w2).drew).mono (S' := X2) (by simp)).trans H3.out.2.1).setCell _ _ (fun _ => H2.out.1.mem)
  case rest =>
  obtain ⟨rfl, HQ⟩ := hcut; obtain ⟨X3, h3, k3, n3⟩ := HQ.out; have K3 := Lib.hid (KS.out.trans (H2.out.2.1.trans' k3 (fun x hx hlt => (H2.out.2.2 x hx).elim id (fun hh => absurd hlt (by omega))))); have N3 := Lib.hid (fun x (hx : x ∈ X3) => (n3 x hx).elim (fun h1 => (H2.out.2.2 x h1).imp id (fun hh => Nat.le_trans KS.out.size hh)) (fun hh => (Or.inr (Nat.le_trans KS.out.size (Nat.le_trans H2.out.2.1.size hh)) : x ∈ X ∨ w.heap.size ≤ x))); clear a2 a3 a4 a8 HQ k3 n3 HT; by_cases e1 : d.err = 0
  case neg =>
    have q1 := (int_ne e1).2; have HH := Lib.hid (HE.out.trans (if_pos e1)); have HF := Lib.hid (reply_fail h3.re); have HM3 := Lib.hid h3.mem; clear HE e1 h3; go_wp2_with fail; refine HF.out.mono ?_; rintro e w5 ⟨rfl, h5, k5⟩; have HX := Lib.hid (And.intro h5 k5); clear h5 k5; go_wp2_with fail; go_ret; rw [HH.out]
    exact ⟨rfl, K3.out.trans' HX.out.2 (fun x hx hlt => by
      have e : x = p := by simpa using hx
      rw [e]; exact HPX.out), X3, HX.out.1, N3.out⟩
  have q1 := (int_eq e1).2; have hE1 := HE.out.trans (if_neg (by simp [e1])); have HD := Lib.hid (reQ_Done h3 (hst e1)); have HR := Lib.hid (reQ_Rest h3 (hst e1)); obtain ⟨b2, b3, b4, b8⟩ := h3.at_; have f2 := h3.free 2; have f3 := h3.free 3; clear HE; by_cases e2 : d.st = 4
  · have HH := Lib.hid (hE1.trans (if_pos e2)); rw [decide_eq_true e2] at HD; rw [if_pos e2] at HR; have hs := (h3.set (P' := { P with inp := d.inp, dat := P.dat ++ d.dat.drop c.dat.length }) 3 (.string (S d.inp)) (fun _ _ => rfl) rfl).set (P' := { P with inp := d.inp, dat := P.dat ++ d.dat.drop c.dat.length, st := 4 }) 2 (.int .i64 4) (fun _ _ => rfl) rfl; have HX := Lib.hid (And.intro hs.re ((K3.out.setCell ⟨p, 3, Option.none⟩ (.string (S d.inp)) (fun _ => HPX.out)).setCell ⟨p, 2, Option.none⟩ (.int .i64 4) (fun _ => HPX.out))); clear hs h3 e1 e2 hE1 hst; go_wp2_with fail; refine HD.out.mono ?_; rintro e w5 ⟨rfl, rfl⟩; go_wp2_with fail; refine HR.out.mono ?_; rintro e w5 ⟨rfl, rfl⟩; go_wp2_with fail; go_ret; rw [HH.out]; exact ⟨rfl, HX.out.2, X3, HX.out.1, N3.out⟩
  · have HH := Lib.hid (hE1.trans (if_neg e2)); rw [decide_eq_false e2] at HD; have HX := Lib.hid h3.re; clear h3 e1 e2 hE1 hst HR; go_wp2_with fail; refine HD.out.mono ?_; rintro e w5 ⟨rfl, rfl⟩; go_wp2_with fail; go_ret; rw [HH.out]; exact ⟨rfl, K3.out, X3, HX.out, N3.out⟩
def RdOut (B : Nat) (w : World) (p : Nat) (X R : List Nat) (r : ReS × Bool) (e : Ending) (w' : World) : Prop :=
  e = .returned (.bool r.2) ∧ Keep X w w' ∧ ∃ X' R', Re B w' p X' R' r.1 ∧ (∀ x ∈ X', x ∈ X ∨ w.heap.size ≤ x) ∧ (∀ x ∈ R', x ∈ R ∨ w.heap.size ≤ x)
set_option maxHeartbeats 2000000 in
set_option maxRecDepth 100000 in
theorem reply_read {B p n : Nat} {X R : List Nat} {P : ReS} {w : World} (h : Re B w p X R P) (hm : ML w) (hB : B ≤ w.heap.size) (hbig : 1 < B) (hok : P.ok n) (hn : n ≤ 400000) :
    Calls Tryz.prog 152 #[.pointer (some ⟨p, 0, Option.none⟩)] w (RdOut B w p X R (readR P)) := by
  obtain ⟨c0, c1, c2, c3, c4, c5, c6, c7, c10, c11⟩ := h.at_; have hwt := hok.wt; have hlen : 2 * P.inp.length + P.dat.length ≤ n := by unfold ReS.wt at hwt; omega
  have HKX := Lib.hid (fun w' (k : Keep [p] w w') => h.keepX k); have H := Lib.hid h; by_cases h0 : P.st = 0
  · have hE : readR P = readHeadR P := by unfold readR; rw [if_pos h0]
    obtain ⟨g1, g2, g3⟩ := hok.head h0; have HC := Lib.hid (reply_readHead h hm hB (by omega) g1 g2 (by omega)); unfold RhOut at HC; rw [h0] at c2; rw [hE]; clear h hm hok hwt hE g1 g2 g3 h0; go_enter Tryz.func152, Tryz.ntmps152; go_wp2_with fail; refine HC.out.mono ?_; rintro e w1 ⟨rfl, k1, X1, R1, h1, n1, r1⟩; have HX := Lib.hid (And.intro k1 (And.intro h1 (And.intro n1 r1))); clear k1 h1 n1 r1; go_wp2_with fail; go_ret; exact ⟨rfl, HKX.out _ HX.out.1, X1, R1, HX.out.2⟩
  have q0 : (((P.st : Nat) : Int) == 0) = false := by simp; omega
  by_cases h1 : P.st = 1
  · have hE : readR P = readChunksR P := by unfold readR; rw [if_neg h0, if_pos h1]
    obtain ⟨c, hc, cb, ce, co⟩ := hok.chk h1; have hw2 : 2 * c.inp.length + c.dat.length ≤ n := by unfold ReS.wt at hwt; rw [if_pos h1, hc] at hwt; unfold ckW at hwt; dsimp only at hwt; omega
    obtain ⟨a1, a2, a3, a4⟩ := addC_ok ce co P.inp; have HC := Lib.hid (reply_readChunks h hc hm hB hbig (by omega) (by omega) cb (fun _ => co) (fun he => (a4 he).2.2) (by omega)); rw [h1] at c2; rw [hE]; clear h hm hok hwt hE h0 h1 hc cb ce co hw2 a1 a2 a3 a4 q0; go_enter Tryz.func152, Tryz.ntmps152; go_wp2_with fail; refine HC.out.mono ?_; rintro e w1 ⟨rfl, k1, X1, h1, n1⟩; have HX := Lib.hid (And.intro k1 (And.intro h1 n1)); clear k1 h1 n1; go_wp2_with fail; go_ret; exact ⟨rfl, HX.out.1, X1, R, HX.out.2.1, HX.out.2.2, fun x hx => .inl hx⟩
  have q1 : (((P.st : Nat) : Int) == 1) = false := by simp; omega
  by_cases h2 : P.st = 2
  · have hE : readR P = readLengthR P := by unfold readR; rw [if_neg h0, if_neg h1, if_pos h2]
    have HC := Lib.hid (reply_readLength h (by omega) hok.left); rw [h2] at c2; rw [hE]; clear h hm hok hwt hE h0 h1 h2 q0 q1; go_enter Tryz.func152, Tryz.ntmps152; go_wp2_with fail; refine HC.out.mono ?_; rintro e w1 ⟨rfl, h1, k1⟩; have HX := Lib.hid (And.intro k1 h1); clear k1 h1; go_wp2_with fail; go_ret; exact ⟨rfl, HKX.out _ HX.out.1, X, R, HX.out.2, fun x hx => .inl hx, fun x hx => .inl hx⟩
  have q2 : (((P.st : Nat) : Int) == 2) = false := by simp; omega
  by_cases h3 : P.st = 3
  · have hE : readR P = readCloseR P := by unfold readR; rw [if_neg h0, if_neg h1, if_neg h2, if_pos h3]
    have HC := Lib.hid (reply_readClose h (by omega) hok.size hok.big); rw [h3] at c2; rw [hE]; clear h hm hok hwt hE h0 h1 h2 h3 q0 q1 q2; go_enter Tryz.func152, Tryz.ntmps152; go_wp2_with fail; refine HC.out.mono ?_; rintro e w1 ⟨rfl, h1, k1⟩; have HX := Lib.hid (And.intro k1 h1); clear k1 h1; go_wp2_with fail; go_ret; exact ⟨rfl, HKX.out _ HX.out.1, X, R, HX.out.2, fun x hx => .inl hx, fun x hx => .inl hx⟩
  have q3 : (((P.st : Nat) : Int) == 3) = false := by simp; omega
  have hE := Lib.hid (show readR P = (P, false) by unfold readR; rw [if_neg h0, if_neg h1, if_neg h2, if_neg h3]); clear h hm hok hwt h0 h1 h2 h3; go_enter Tryz.func152, Tryz.ntmps152; go_wp2_with fail; go_ret; rw [hE.out]; exact ⟨rfl, Keep.refl _ _, X, R, H.out, fun x hx => .inl hx, fun x hx => .inl hx⟩
theorem wpList_store_fresh {P : Program} {ops : Array Oper} {rest : List Oper} {op : Oper} {a : Act} {w : World} {Q : Exit → Act → World → Prop} (hgd : op.guard = none) (ty : TypeId) (x y : Operand) (ho : op.op = .store ty x y)
    (Z : Array Value) (cells : List Value) (hx : a.eval x = .pointer (some ⟨w.heap.size, 0, none⟩)) (hy : a.eval y = .agg cells.toArray) (hi : (P.info? ty).map (·.size) = some cells.length) (hz : Z.size = cells.length)
    (h1 : ∀ v ∈ cells, v.oneCell' = true) (h : wpList P ops Q rest (a.put op.dst undef) (w.alloc (.cells cells.toArray ty))) : wpList P ops Q (op :: rest) a (w.alloc (.cells Z ty)) :=
  wpList_plain hgd fun _ hK => by
    unfold Oper.wp execOp; simp only [ho, hx, hy, Instr.storeAt, Instr.sureAddr, Sem.run_bind, Sem.run_pure, Result.andThen_ok, run_storeVar_new (P := P) w ty Z cells.toArray (by simpa using hi) (by simpa using hz) (all_oneCell_toArray h1)]; exact hK _ _ h
end Go.Proofs.YtlhnjkekjbbhcaaGreatDoor
