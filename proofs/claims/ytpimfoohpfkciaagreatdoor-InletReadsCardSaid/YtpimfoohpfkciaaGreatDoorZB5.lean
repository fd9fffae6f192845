/- Parts of the proof, in order. No conditions but those that each theorem states. -/
import Derived.Test.YtpimfoohpfkciaaGreatDoorZB4
import Derived.Deep.MidRow
/- Layer 12: body, fail. No conditions but on lengths. -/
namespace Go.Proofs.YtpimfoohpfkciaaGreatDoor
open Go.RowKit Go.Shelf

theorem it_ck {B p : Nat} {w : World} {X R : List Nat} {I : InS} {c : Ck} (h : It B w p X R I) (hc : I.chk = some c) : ∃ b, w.cell? ⟨p, 4, none⟩ = some (.pointer (some ⟨b, 0, none⟩)) := by
  obtain ⟨⟨rv, cv, b1, b2, b3⟩, h4, h5, h6⟩ := h
  rw [hc] at b2
  obtain ⟨b, v, rfl, _⟩ := b2
  exact ⟨b, b1.get (k := 4) rfl⟩
theorem it_noCk {B p : Nat} {w : World} {X R : List Nat} {I : InS} (h : It B w p X R I) (hc : I.chk = none) : w.cell? ⟨p, 4, none⟩ = some (.pointer none) := by
  obtain ⟨⟨rv, cv, b1, b2, b3⟩, h4, h5, h6⟩ := h
  rw [hc] at b2
  have : cv = .pointer none := b2
  subst this
  exact b1.get (k := 4) rfl
theorem it_Add {B p b : Nat} {w : World} {X R : List Nat} {I : InS} {c : Ck} (s : List UInt8) (h : It B w p X R I) (hc : I.chk = some c) (c4 : w.cell? ⟨p, 4, none⟩ = some (.pointer (some ⟨b, 0, none⟩)))
    (hm : ML w) (hB : B ≤ w.heap.size) (hbig : 0 < B) (hl : c.inp.length + c.dat.length + s.length ≤ 1048576) (hmost : (c.most : Int) ≤ 9223372036854775807) (hok : c.err = 0 → c.ok) :
    Calls Tryz.prog 41 #[.pointer (some ⟨b, 0, none⟩), .string (S s)] w fun e w' => e = .returned (.int .i64 (addC c s).err) ∧ Keep X w w' ∧ w'.cell? ⟨p, 4, none⟩ = some (.pointer (some ⟨b, 0, none⟩)) ∧ ∃ X', It B w' p X' R { I with chk := some (addC c s) } ∧ ∀ x ∈ X', x ∈ X ∨ w.heap.size ≤ x := by
  obtain ⟨⟨rv, cv, b1, b2, b3⟩, h4, h5, h6⟩ := h
  rw [hc] at b2
  obtain ⟨b', v, rfl, hbp, hbX, hct, hv⟩ := b2
  have c4' := b1.get (k := 4) (v := .pointer (some ⟨b', 0, none⟩)) rfl
  have hbb : b' = b := by rw [c4'] at c4; simpa using c4
  subst hbb
  refine (chunk_Add B b' [] s c (addC c s) v w hm (by have := (h5 _ hbX).1; omega) hct hB hbig hl hmost hok (addC_R hok)).mono ?_
  rintro e w' ⟨rfl, v', g1, g2, g3⟩
  have hown : ∀ g, v'.ownBlock = some g → (g ∈ X ∨ w.heap.size ≤ g) ∧ g ≠ p := fun g hg => by
    rcases g3 with e3 | ⟨g', e3, hg'⟩
    · rw [e3] at hg; exact ⟨.inl (hv g hg).1, (hv g hg).2⟩
    · rw [e3] at hg
      have : g' = g := by simpa using hg
      subst this
      have := (h5 p h4).2
      exact ⟨.inr hg', by omega⟩
  have hpn : p ∉ b' :: v.ownBlock.toList := by
    intro hh
    rcases List.mem_cons.1 hh with hh | hh
    · exact hbp hh.symm
    · exact (hv p (by simpa using hh)).2 rfl
  have b1' := g2.blk b1 hpn
  have gX : Keep X w w' := g2.mono (fun x hx _ => by
    rcases List.mem_cons.1 hx with rfl | hx
    · exact hbX
    · exact (hv x (by simpa using hx)).1)
  obtain ⟨_, _, gb, _⟩ := id g1
  refine ⟨rfl, gX, b1'.get (k := 4) rfl, X ++ v'.ownBlock.toList, ⟨⟨rv, _, b1', ?_, ?_⟩, by simp [h4], ?_, ?_⟩, ?_⟩
  · exact ⟨b', v', rfl, hbp, by simp [hbX], g1, fun g hg => ⟨by rw [hg]; simp, (hown g hg).2⟩⟩
  · exact b3.keep g2 (fun x hx hh => by
      rcases List.mem_cons.1 hh with rfl | hh
      · exact (h6 _ hx).2.2 hbX
      · exact (h6 _ hx).2.2 (hv x (by simpa using hh)).1)
  · intro x hx
    rcases List.mem_append.1 hx with hx | hx
    · exact ⟨(h5 x hx).1, Nat.lt_of_lt_of_le (h5 x hx).2 g2.size⟩
    · exact gb.own.lt x (by simpa using hx)
  · intro x hx
    refine ⟨(h6 x hx).1, Nat.lt_of_lt_of_le (h6 x hx).2.1 g2.size, fun hh => ?_⟩
    rcases List.mem_append.1 hh with hh | hh
    · exact (h6 x hx).2.2 hh
    · rcases (hown x (by simpa using hh)).1 with h1 | h1
      · exact (h6 x hx).2.2 h1
      · have := (h6 x hx).2.1; omega
  · intro x hx
    rcases List.mem_append.1 hx with hx | hx
    · exact .inl hx
    · exact (hown x (by simpa using hx)).1
theorem it_ct {B p b : Nat} {w : World} {X R : List Nat} {I : InS} {c : Ck} (h : It B w p X R I) (hc : I.chk = some c) (c4 : w.cell? ⟨p, 4, none⟩ = some (.pointer (some ⟨b, 0, none⟩))) : ∃ v, Ct B w b [] c v := by
  obtain ⟨⟨rv, cv, b1, b2, b3⟩, h4, h5, h6⟩ := h
  rw [hc] at b2
  obtain ⟨b', v, rfl, hbp, hbX, hct, hv⟩ := b2
  have c4' := b1.get (k := 4) (v := .pointer (some ⟨b', 0, none⟩)) rfl
  have hbb : b' = b := by rw [c4'] at c4; simpa using c4
  subst hbb
  exact ⟨v, hct⟩
theorem it_Done {B p b : Nat} {w : World} {X R : List Nat} {I : InS} {c : Ck} (h : It B w p X R I) (hc : I.chk = some c) (c4 : w.cell? ⟨p, 4, none⟩ = some (.pointer (some ⟨b, 0, none⟩))) (hs : c.st ≤ 4) :
    Calls Tryz.prog 42 #[.pointer (some ⟨b, 0, none⟩)] w fun e w' => e = .returned (.bool (decide (c.st = 4))) ∧ w = w' := let ⟨_, h1⟩ := it_ct h hc c4; chunk_Done h1 hs
theorem it_Rest {B p b : Nat} {w : World} {X R : List Nat} {I : InS} {c : Ck} (h : It B w p X R I) (hc : I.chk = some c) (c4 : w.cell? ⟨p, 4, none⟩ = some (.pointer (some ⟨b, 0, none⟩))) (hs : c.st ≤ 4) :
    Calls Tryz.prog 43 #[.pointer (some ⟨b, 0, none⟩)] w fun e w' => e = .returned (.string (S (if c.st = 4 then c.inp else []))) ∧ w = w' := let ⟨_, h1⟩ := it_ct h hc c4; chunk_Rest h1 hs
theorem it_unck {B p : Nat} {w : World} {X R : List Nat} {I : InS} (h : It B w p X R I) : It B (w.setCell ⟨p, 4, none⟩ (.pointer none)) p X R { I with chk := none } := by
  obtain ⟨⟨rv, cv, b1, b2, b3⟩, h4, h5, h6⟩ := h
  have hk : Keep [p] w (w.setCell ⟨p, 4, none⟩ (.pointer none)) := (Keep.refl _ _).setCell _ _ (by simp)
  exact ⟨⟨rv, _, b1.set 4 (.pointer none), rfl, b3.keep hk (fun y hy => by simp only [List.mem_singleton]; rintro rfl; exact (h6 _ hy).2.2 h4)⟩, h4, fun y hy => ⟨(h5 y hy).1, Nat.lt_of_lt_of_le (h5 y hy).2 hk.size⟩, fun y hy => ⟨(h6 y hy).1, Nat.lt_of_lt_of_le (h6 y hy).2.1 hk.size, (h6 y hy).2.2⟩⟩

set_option maxRecDepth 100000 in
set_option maxHeartbeats 4000000 in
theorem inlet_body {B p : Nat} {X R : List Nat} {I : InS} {w : World} (h : It B w p X R I) (hm : ML w) (hB : B ≤ w.heap.size) (hbig : 0 < B) (hl : I.inp.length + I.held ≤ 65536) (hsk : I.skip ≤ 65536)
    (hck : ∀ c, I.chk = some c → (c.err = 0 → c.ok) ∧ c.most = 4096 ∧ c.inp.length + c.dat.length ≤ 65536 ∧ (addC c I.inp).st ≤ 4) :
    Calls Tryz.prog 20 #[.pointer (some ⟨p, 0, none⟩)] w fun e w' => e = .returned (.tuple #[.bool (bodyB I).whole, .int .i64 (bodyB I).s]) ∧ Keep X w w' ∧ ∃ X', It B w' p X' R (bodyB I).p ∧ ∀ x ∈ X', x ∈ X ∨ w.heap.size ≤ x := by
  obtain ⟨c0, c1, c3, _⟩ := h.at_
  have f0 := h.free 0
  have f1 := h.free 1
  have f3 := h.free 3
  have sz := S_size I.inp
  cases hco : I.chk with
  | none =>
    have hb : bodyB I = ⟨{ I with inp := I.inp.drop (min I.skip I.inp.length), held := I.held + min I.skip I.inp.length, skip := I.skip - min I.skip I.inp.length }, decide (I.skip - min I.skip I.inp.length = 0), 0⟩ := by unfold bodyB; rw [hco]
    have c4 := it_noCk h hco
    have H := Lib.hid h
    obtain ⟨n, hn⟩ : ∃ n, min I.skip I.inp.length = n := ⟨_, rfl⟩
    have hmin : min ((I.skip : Nat) : Int) ((I.inp.length : Nat) : Int) = ((n : Nat) : Int) := by omega
    have i0 : (0 : Int) ≤ (n : Int) := by omega
    have i1 : (n : Int) ≤ (I.inp.length : Int) := by omega
    have hx : (S I.inp).extract n I.inp.length = S (I.inp.drop n) := by rw [S_extract, List.take_length]
    obtain ⟨r, hr⟩ : ∃ r, I.skip - n = r := ⟨_, rfl⟩
    have hrI : (I.skip : Int) - (n : Int) = ((r : Nat) : Int) := by omega
    have w1 := IntWalk.i64_in ((I.held : Int) + (n : Int)) (by omega)
    have w2 := IntWalk.i64_in ((r : Nat) : Int) (by omega)
    rw [hn, hr] at hb
    have HBd := Lib.hid hb
    have hh2 : ((I.held : Int) + (n : Int)) = ((I.held + n : Nat) : Int) := by omega
    clear hb h hm hco hck
    go_enter Tryz.func20, Tryz.ntmps20
    go_upto_region 2 with fail
    go_cut [4] (fun y wx => y = .int .i64 (n : Nat) ∧ Hid (Keep [] w wx))
    case first =>
      go_region_with fail
      all_goals
        go_wp2_with fail
        go_meet
        exact ⟨rfl, Lib.hid (by repeat (first | exact Keep.refl _ _ | apply Keep.drew))⟩
    case rest =>
    obtain ⟨rfl, KX⟩ := hcut
    have H1 := Lib.hid (H.out.keep0 KX.out)
    clear c0 c1 c3 f0 f1 f3 hmin c4
    obtain ⟨c0, c1, c3, _⟩ := H1.out.at_
    have f0 := H1.out.free 0
    have f1 := H1.out.free 1
    have f3 := H1.out.free 3
    have hs := ((H1.out.set (I' := { I with inp := I.inp.drop n }) 0 (.string (S (I.inp.drop n))) (fun _ _ => rfl) rfl rfl).set (I' := { I with inp := I.inp.drop n, held := I.held + n }) 1 (.int .i64 ((I.held : Int) + (n : Int))) (fun _ _ => by rw [hh2]; rfl) rfl rfl).set (I' := { I with inp := I.inp.drop n, held := I.held + n, skip := r }) 3 (.int .i64 (r : Nat)) (fun _ _ => rfl) rfl rfl
    have ks := ((KX.out.mono (S' := [p]) (by simp)).setCell ⟨p, 0, none⟩ (.string (S (I.inp.drop n))) (by simp)).setCell ⟨p, 1, none⟩ (.int .i64 ((I.held : Int) + (n : Int))) (by simp) |>.setCell ⟨p, 3, none⟩ (.int .i64 (r : Nat)) (by simp)
    have HS := Lib.hid (And.intro hs ks)
    clear hs ks hh2
    by_cases h0 : r = 0
    · have q := (nat_eq (show r = 0 from h0)).1
      have HF := Lib.hid (show decide (r = 0) = true by simp [h0])
      have q2 : (((r : Nat) : Int) == 0) = true := by simp [h0]
      clear h0
      go_wp2_with fail
      go_ret2
      rw [HBd.out, HF.out]
      exact ⟨rfl, H.out.keepX HS.out.2, X, HS.out.1, fun x hx => .inl hx⟩
    · have HF := Lib.hid (show decide (r = 0) = false by simp [h0])
      have q2 : (((r : Nat) : Int) == 0) = false := by simp [h0]
      clear h0
      go_wp2_with fail
      go_ret2
      rw [HBd.out, HF.out]
      exact ⟨rfl, H.out.keepX HS.out.2, X, HS.out.1, fun x hx => .inl hx⟩
  | some c =>
    obtain ⟨hk1, hk2, hk3, hk4⟩ := hck c hco
    obtain ⟨b, c4, c4s⟩ : ∃ b, w.cell? ⟨p, 4, none⟩ = some (.pointer (some ⟨b, 0, none⟩)) ∧ ((w.setCell ⟨p, 0, none⟩ (.string ⟨#[]⟩)).setCell ⟨p, 1, none⟩ (.int .i64 ((I.held : Int) + (I.inp.length : Int)))).cell? ⟨p, 4, none⟩ = some (.pointer (some ⟨b, 0, none⟩)) := by
      obtain ⟨⟨rv, cv, b1, b2, b3⟩, _⟩ := h
      rw [hco] at b2
      obtain ⟨b, v, rfl, _⟩ := b2
      exact ⟨b, b1.get (k := 4) rfl, ((b1.set 0 _).set 1 _).get (k := 4) rfl⟩
    have hb : bodyB I = if (addC c I.inp).err ≠ 0 then ⟨{ I with inp := [], held := I.held + I.inp.length, chk := some (addC c I.inp) }, false, toldE (addC c I.inp).err 413⟩
      else if (addC c I.inp).st ≠ 4 then ⟨{ I with inp := [], held := I.held + I.inp.length, chk := some (addC c I.inp) }, false, 0⟩
      else ⟨{ I with inp := (addC c I.inp).inp, held := I.held + I.inp.length, chk := none }, true, 0⟩ := by unfold bodyB; rw [hco]
    have H := Lib.hid h
    have HM := Lib.hid hm
    have w1 := IntWalk.i64_in ((I.held : Int) + (I.inp.length : Int)) (by omega)
    have hh2 : ((I.held : Int) + (I.inp.length : Int)) = ((I.held + I.inp.length : Nat) : Int) := by omega
    have hs := (h.set (I' := { I with inp := [] }) 0 (.string ⟨#[]⟩) (fun _ _ => rfl) rfl rfl).set (I' := { I with inp := [], held := I.held + I.inp.length }) 1 (.int .i64 ((I.held : Int) + (I.inp.length : Int))) (fun _ _ => by rw [hh2]; rfl) rfl rfl
    have ks := ((Keep.refl [p] w).setCell ⟨p, 0, none⟩ (.string ⟨#[]⟩) (by simp)).setCell ⟨p, 1, none⟩ (.int .i64 ((I.held : Int) + (I.inp.length : Int))) (by simp)
    have KS := Lib.hid (h.keepX ks)
    have HA := Lib.hid (it_Add (c := c) I.inp hs hco c4s (hm.keepB hbig KS.out (fun x hx => (h.lo x hx).1)) (Nat.le_trans hB ks.size) hbig (by omega) (by rw [hk2]; decide) hk1)
    have HR := Lib.hid h.lo
    have HT := Lib.hid (fun e0 w' => inlet_told e0 413 w')
    clear hs ks hh2 h hm hck hk1 hk2 hk3
    generalize addC c I.inp = d at *
    by_cases e1 : d.err = 0
    case neg =>
      rw [if_pos e1] at hb
      have HBd := Lib.hid hb
      have q1 := (int_ne e1).2
      clear hb e1 hk4
      go_enter Tryz.func20, Tryz.ntmps20
      go_wp2_with fail
      refine HA.out.mono ?_
      rintro e w2 ⟨rfl, k2, _, X2, hx2, n2⟩
      have HX := Lib.hid (And.intro k2 (And.intro hx2 n2))
      clear k2 hx2 n2
      go_wp2_with fail
      refine (HT.out _ _).mono ?_
      rintro e w3 ⟨rfl, rfl⟩
      go_wp2_with fail
      go_ret2
      rw [HBd.out]
      exact ⟨rfl, KS.out.trans HX.out.1, X2, HX.out.2.1, fun x hx => (HX.out.2.2 x hx).imp id (fun hh => Nat.le_trans KS.out.size hh)⟩
    rw [if_neg (by simp [e1])] at hb
    by_cases e2 : d.st = 4
    case neg =>
      rw [if_pos e2] at hb
      have HBd := Lib.hid hb
      have q1 := (int_eq e1).2
      have HD4 := Lib.hid (show decide (d.st = 4) = false by simp [e2])
      clear hb e1 e2
      go_enter Tryz.func20, Tryz.ntmps20
      go_wp2_with fail
      refine HA.out.mono ?_
      rintro e w2 ⟨rfl, k2, c42, X2, hx2, n2⟩
      have HD := Lib.hid (it_Done hx2 rfl c42 hk4)
      rw [HD4.out] at HD
      have HX := Lib.hid (And.intro k2 (And.intro hx2 n2))
      clear k2 hx2 n2
      go_wp2_with fail
      refine HD.out.mono ?_
      rintro e w3 ⟨rfl, rfl⟩
      go_wp2_with fail
      go_ret2
      rw [HBd.out]
      exact ⟨rfl, KS.out.trans HX.out.1, X2, HX.out.2.1, fun x hx => (HX.out.2.2 x hx).imp id (fun hh => Nat.le_trans KS.out.size hh)⟩
    rw [if_neg (by simp [e2])] at hb
    have HBd := Lib.hid hb
    have q1 := (int_eq e1).2
    have HD4 := Lib.hid (show decide (d.st = 4) = true by simp [e2])
    have HR4 := Lib.hid (show (if d.st = 4 then d.inp else []) = d.inp from if_pos e2)
    clear hb e1 e2
    go_enter Tryz.func20, Tryz.ntmps20
    go_wp2_with fail
    refine HA.out.mono ?_
    rintro e w2 ⟨rfl, k2, c42, X2, hx2, n2⟩
    have HD := Lib.hid (it_Done hx2 rfl c42 hk4)
    have HR2 := Lib.hid (it_Rest hx2 rfl c42 hk4)
    rw [HD4.out] at HD
    rw [HR4.out] at HR2
    have g0 := hx2.at_.1
    have g5 := hx2.free 0
    have g6 := hx2.free 4
    have hs2 := it_unck (hx2.set (I' := { I with inp := d.inp, held := I.held + I.inp.length, chk := some d }) 0 (.string (S d.inp)) (fun _ _ => rfl) rfl rfl)
    have ks2 := k2.trans' (hx2.keepX (((Keep.refl [p] w2).setCell ⟨p, 0, none⟩ (.string (S d.inp)) (by simp)).setCell ⟨p, 4, none⟩ (.pointer none) (by simp))) (fun x hx hlt => (n2 x hx).elim id (fun hh => absurd hlt (by omega)))
    have HX := Lib.hid (And.intro ks2 (And.intro hs2 n2))
    clear k2 hx2 n2 hs2 ks2
    go_wp2_with fail
    refine HD.out.mono ?_
    rintro e w3 ⟨rfl, rfl⟩
    go_wp2_with fail
    refine HR2.out.mono ?_
    rintro e w3 ⟨rfl, rfl⟩
    go_wp2_with fail
    go_ret2
    rw [HBd.out]
    exact ⟨rfl, KS.out.trans HX.out.1, X2, HX.out.2.1, fun x hx => (HX.out.2.2 x hx).imp id (fun hh => Nat.le_trans KS.out.size hh)⟩
end Go.Proofs.YtpimfoohpfkciaaGreatDoor

/- Layer 11: the document's line, number, ended, last. No conditions but on lengths. -/
namespace Go.Proofs.YtpimfoohpfkciaaGreatDoor
open Go.RowKit Go.Shelf

theorem int3_ret {s : List UInt8} {a b c d : Int} {t : List UInt8} (h1 : s = t) (h : a = c) (h2 : b = d) : Ending.returned (.tuple #[.string (S s), .int .i64 a, .int .i64 b]) = .returned (.tuple #[.string (S t), .int .i64 c, .int .i64 d]) := by rw [h1, h, h2]
set_option maxRecDepth 100000 in
set_option maxHeartbeats 2000000 in
theorem ref11_line (s : List UInt8) (a : Nat) (w : World) (ha : a ≤ s.length) (hl : s.length ≤ 1048576) :
    Calls Tryz.prog 49 #[.string (S s), .int .i64 (a : Nat)] w fun e w' => e = .returned (.tuple #[.string (S (lnC (s.drop a)).t), .int .i64 ((nxt s a : Nat) : Int), .int .i64 (lnC (s.drop a)).e]) ∧ w = w' := by
  have sz := S_size s
  have hld : (s.drop a).length = s.length - a := List.length_drop
  obtain ⟨m, hm⟩ : ∃ m, min s.length (a + 256) = m := ⟨_, rfl⟩
  have hmin : min ((s.length : Nat) : Int) ((a : Int) + 256) = ((m : Nat) : Int) := by omega
  have hx : (S s).extract a m = S ((s.drop a).take 256) := by
    rw [S_extract]
    congr 1
    rw [List.drop_take]
    rcases Nat.le_total s.length (a + 256) with hh | hh
    · rw [List.take_of_length_le (by rw [hld]; omega), List.take_of_length_le (by rw [hld]; omega)]
    · rw [show m - a = 256 by omega]
  have hF := Lib.hid (fun w1 => ref_Find ((s.drop a).take 256) 10 w1 (show ((s.drop a).take 256).length ≤ 9223372036854775807 by rw [List.length_take]; omega))
  have hw1 := IntWalk.i64_in ((a : Int) + 256) (by omega)
  have i0 : (0 : Int) ≤ (a : Int) := by omega
  have i1 : (a : Int) ≤ (m : Int) := by omega
  have i2 : (m : Int) ≤ (s.length : Int) := by omega
  have hcases := line_cases (s.drop a)
  have hshort := line_short (l := s.drop a)
  have hat := fun k => line_at (l := s.drop a) (k := k)
  have hN : nxt s a = if (lnC (s.drop a)).e = 0 then s.length - (lnC (s.drop a)).r.length else 0 := rfl
  have hsx : ∀ k : Nat, Lib.indexByte ((s.drop a).take 256) 10 = (k : Nat) → (s.drop a)[k]? = some 10 := by
    intro k hk
    have h := (Lib.indexByte_some hk).1
    rw [List.getElem?_take] at h
    split at h
    · exact h
    · cases h
  generalize nxt s a = nx at *
  rcases hcases with hn | ⟨k, hk, hkl, h256⟩
  · have hL := hshort hn
    generalize Lib.indexByte ((s.drop a).take 256) 10 = ix at *
    by_cases h2 : 256 ≤ (s.drop a).length
    · rw [if_pos h2] at hL
      rw [hL, if_neg (by simp)] at hN
      have HX := Lib.hid (And.intro hL hN)
      have h2' : decide (((s.length : Nat) : Int) - (a : Int) ≥ 256) = true := by simp; omega
      have hw2 := IntWalk.i64_in ((s.length : Int) - (a : Int)) (by omega)
      have hixn : decide (ix < 0) = true := by simp; omega
      clear hshort hat hsx hL hN hm
      go_enter Tryz.func49, Tryz.ntmps49
      go_wp2_with fail
      refine (hF.out _).mono ?_
      rintro e w1 ⟨rfl, rfl⟩
      go_wp2_with fail
      refine bodyPost_ret (results_tmp3 rfl _ _ _) rfl ⟨?_, rfl⟩
      rw [HX.out.1, HX.out.2]
      rfl
    · rw [if_neg h2] at hL
      rw [hL, if_neg (by simp)] at hN
      have HX := Lib.hid (And.intro hL hN)
      have h2' : decide (((s.length : Nat) : Int) - (a : Int) ≥ 256) = false := by simp; omega
      have hw2 := IntWalk.i64_in ((s.length : Int) - (a : Int)) (by omega)
      have hixn : decide (ix < 0) = true := by simp; omega
      clear hshort hat hsx hL hN hm
      go_enter Tryz.func49, Tryz.ntmps49
      go_wp2_with fail
      refine (hF.out _).mono ?_
      rintro e w1 ⟨rfl, rfl⟩
      go_wp2_with fail
      refine bodyPost_ret (results_tmp3 rfl _ _ _) rfl ⟨?_, rfl⟩
      rw [HX.out.1, HX.out.2]
      rfl
  · have hL := hat k hk
    have h10 := hsx k hk
    have hsu := suffix_crlf h10
    rw [hk] at hF
    rw [hsu] at hL
    have hak : a + k < s.length := by omega
    have ht : (S s).extract a (a + k) = S ((s.drop a).take k) := by rw [S_extract, List.drop_take, show a + k - a = k by omega]
    have hw2 := IntWalk.i64_in ((a : Int) + (k : Int)) (by omega)
    have hw3 := IntWalk.i64_in ((a : Int) + (k : Int) + 1) (by omega)
    have n2 : ((a : Int) + (k : Int)).toNat = a + k := by omega
    have i3 : (a : Int) ≤ (a : Int) + (k : Int) := by omega
    have i4 : (a : Int) + (k : Int) ≤ (s.length : Int) := by omega
    have i5 : (0 : Int) ≤ (a : Int) + (k : Int) := by omega
    have lk : ((s.drop a).take k).length = k := by rw [List.length_take]; omega
    have szt := S_size ((s.drop a).take k)
    have szl := S_toList ((s.drop a).take k)
    have hixn : decide ((k : Int) < 0) = false := by simp
    by_cases hk0 : k = 0
    · have hbad : (decide (0 < k) && decide ((s.drop a)[k - 1]? = some 13)) = false := by simp [hk0]
      rw [hbad, if_neg (by simp)] at hL
      rw [hL, if_neg (by simp)] at hN
      have HX := Lib.hid (And.intro hL hN)
      have hem : ((s.drop a).take k).isEmpty = true := by rw [hk0]; rfl
      clear hshort hat hsx hL hN hm h10 hsu hbad
      generalize (s.drop a).take k = tk at *
      go_enter Tryz.func49, Tryz.ntmps49
      go_wp2_with fail
      refine (hF.out _).mono ?_
      rintro e w1 ⟨rfl, rfl⟩
      go_wp2_with fail
      refine bodyPost_ret (results_tmp3 rfl _ _ _) rfl ⟨?_, rfl⟩
      rw [HX.out.1, HX.out.2]
      rfl
    · have hem : ((s.drop a).take k).isEmpty = false := by
        cases hh : (s.drop a).take k with
        | nil => rw [hh] at lk; simp at lk; omega
        | cons => rfl
      obtain ⟨j, rfl⟩ : ∃ j, k = j + 1 := ⟨k - 1, by omega⟩
      obtain ⟨c, hc⟩ : ∃ c, (s.drop a)[j]? = some c := ⟨_, List.getElem?_eq_getElem (by omega)⟩
      rw [show j + 1 - 1 = j by omega, hc, decide_eq_true (show 0 < j + 1 by omega), Bool.true_and] at hL
      have hcg := fun hk2 => S_get (l := (s.drop a).take (j + 1)) (k := j) (c := c) (by rw [List.getElem?_take, if_pos (by omega)]; exact hc) hk2
      have ht2 : (S ((s.drop a).take (j + 1))).extract 0 j = S ((s.drop a).take j) := by rw [S_extract, List.drop_zero, List.take_take]; congr 2; omega
      have hsub : (((j + 1 : Nat) : Int)) - 1 = (j : Int) := by omega
      have hws := IntWalk.i64_in (j : Int) (by omega)
      have j0 : (0 : Int) ≤ (j : Int) := by omega
      have j1 : (j : Int) < ((j + 1 : Nat) : Int) := by omega
      have j2 : (j : Int) ≤ ((j + 1 : Nat) : Int) := by omega
      have hts : Lib.trimSuffix ((s.drop a).take (j + 1 + 1)) crlfC = if Lib.hasSuffix ((s.drop a).take (j + 1 + 1)) crlfC then ((s.drop a).take (j + 1 + 1)).take (((s.drop a).take (j + 1 + 1)).length - crlfC.length) else (s.drop a).take (j + 1 + 1) := rfl
      by_cases h13 : c = 13
      · subst h13
        rw [if_pos (by simp)] at hL
        have hsut : Lib.hasSuffix ((s.drop a).take (j + 1 + 1)) crlfC = true := by rw [hsu, show j + 1 - 1 = j by omega, hc]; simp
        rw [hsut, if_pos rfl] at hts
        have htl : Lib.trimSuffix ((s.drop a).take (j + 1 + 1)) crlfC = (s.drop a).take j := by
          rw [hts, List.take_take]
          congr 1
          rw [List.length_take]
          show min (min (j + 1 + 1) (s.drop a).length - 2) (j + 1 + 1) = j
          omega
        rw [htl] at hL
        rw [hL, if_pos rfl] at hN
        have hnx : nx = a + (j + 1) + 1 := by rw [hN]; show s.length - ((s.drop a).drop (j + 1 + 1)).length = _; rw [List.length_drop, hld]; omega
        have HX := Lib.hid (And.intro hL hnx)
        have q1 : (((13 : UInt8).toNat : Int) != 13) = false := by decide
        clear hshort hat hsx hL hN hm h10 hsu hts htl hsut hnx hc
        generalize (s.drop a).take (j + 1) = tk at *
        generalize (s.drop a).take j = tj at *
        generalize hjj : j + 1 = j1' at *
        go_enter Tryz.func49, Tryz.ntmps49
        go_wp2_with fail
        refine (hF.out _).mono ?_
        rintro e w1 ⟨rfl, rfl⟩
        go_wp2_with fail
        refine bodyPost_ret (results_tmp3 rfl _ _ _) rfl ⟨?_, rfl⟩
        rw [HX.out.1, HX.out.2]
        exact int3_ret rfl (by omega) rfl
      · rw [if_neg (by simp [h13])] at hL
        rw [hL, if_neg (by simp)] at hN
        have HX := Lib.hid (And.intro hL hN)
        have hc13 : ((c.toNat : Nat) : Int) ≠ 13 := fun h => h13 (UInt8.toNat_inj.1 (show c.toNat = (13 : UInt8).toNat by show c.toNat = 13; omega))
        have q1 := (int_ne hc13).1
        have q2 := (int_ne hc13).2
        clear hshort hat hsx hL hN hm h10 hsu hts hc
        generalize (s.drop a).take (j + 1) = tk at *
        generalize (s.drop a).take j = tj at *
        generalize hjj : j + 1 = j1' at *
        go_enter Tryz.func49, Tryz.ntmps49
        go_wp2_with fail
        refine (hF.out _).mono ?_
        rintro e w1 ⟨rfl, rfl⟩
        go_wp2_with fail
        refine bodyPost_ret (results_tmp3 rfl _ _ _) rfl ⟨?_, rfl⟩
        rw [HX.out.1, HX.out.2]
        rfl
end Go.Proofs.YtpimfoohpfkciaaGreatDoor

/- Layer 11: the document's number, ended, last. No conditions but on lengths. -/
namespace Go.Proofs.YtpimfoohpfkciaaGreatDoor
open Go.RowKit Go.Shelf

theorem numE_bad {t : List UInt8} (m : Int) (h : restOk (numRest t) = false) : numE t m = 3 ∧ numV2 t m = 0 := by unfold numE numV2; rw [h]; exact ⟨rfl, rfl⟩
theorem numE_ok {t : List UInt8} (m : Int) (h : restOk (numRest t) = true) : numE t m = (if unhexE (numT t) m = 14 then 4 else unhexE (numT t) m) ∧ numV2 t m = unhexV (numT t) m := by unfold numE numV2; rw [h]; exact ⟨rfl, rfl⟩
theorem rest_cons (c : UInt8) (r : List UInt8) : restOk (c :: r) = (isTxt (c :: r) && (decide (c = 32) || decide (c = 9) || decide (c = 59))) := by
  unfold restOk
  rw [show (c :: r).getD 0 0 = c from rfl, sep_mem]
  rfl

set_option maxRecDepth 100000 in
set_option maxHeartbeats 6000000 in
theorem ref11_number (t : List UInt8) (m : Int) (w : World) (hl : t.length ≤ 1048576) :
    Calls Tryz.prog 51 #[.string (S t), .int .i64 m] w fun e w' => e = .returned (.tuple #[.int .i64 (numV2 t m), .int .i64 (numE t m)]) ∧ w = w' := by
  have hl' : t.length ≤ 9223372036854775807 := by omega
  have sz := S_size t
  have HV := Lib.hid (fun (b : UInt8) (w1 : World) => ref_Value b w1)
  go_enter Tryz.func51, Tryz.ntmps51
  go_wp2_with fail
  go_loopg [6] t.length (fun g i wr => ∃ k : Nat, i = .int .i64 k ∧ k ≤ t.length ∧ g = t.length - k ∧ w = wr ∧ Hid ((t.take k).all digOk = true))
  case atStart => exact ⟨0, rfl, Nat.zero_le _, by omega, rfl, by simp [Hid]⟩
  case round =>
    obtain ⟨k, rfl, hk, hgk, rfl, HA⟩ := hrel
    by_cases hlt : k < t.length
    · obtain ⟨c, hg⟩ : ∃ c, t[k]? = some c := ⟨_, List.getElem?_eq_getElem hlt⟩
      have hgc := fun hk2 => S_get (l := t) (k := k) (c := c) hg hk2
      have hdc := HV.out c
      have HG := Lib.hid hg
      have hh0 : (0 : Int) ≤ (k : Int) := by omega
      have hh1 : (k : Int) < (t.length : Int) := by omega
      have hkw := IntWalk.i64_in ((k : Int) + 1) (by omega)
      clear hg
      cases hd : digOk c with
      | true =>
        rw [hd, if_pos rfl] at hdc
        have HA2 := Lib.hid (show (t.take (k + 1)).all digOk = true by rw [take_snoc HG.out, List.all_append, HA.out]; simp [hd])
        obtain ⟨v0, _⟩ := digV_range c
        have v0' : decide (digV c ≥ 0) = true := by simp; omega
        generalize digV c = x at hdc v0 v0'
        have HDC := Lib.hid hdc
        clear hd hdc
        go_wp2_with fail
        refine (HDC.out _).mono ?_
        rintro e w1 ⟨rfl, rfl⟩
        go_wp2_with fail
        go_roundg (t.length - (k + 1))
        case measure => omega
        case rel => exact ⟨k + 1, by go_num, by omega, rfl, rfl, HA2⟩
      | false =>
        rw [hd, if_neg (by simp)] at hdc
        have hnr := numRest_at hk HA.out (fun b hb => by rw [HG.out] at hb; cases hb; exact hd)
        have hnt := numT_at hk hnr
        have hdr : t.drop k = c :: t.drop (k + 1) := drop_at HG.out
        have hrc := rest_cons c (t.drop (k + 1))
        rw [← hdr, ← hnr] at hrc
        have hx1 : (S t).extract k t.length = S (numRest t) := by rw [S_extract, List.take_length, hnr]
        have hx2 : (S t).extract 0 k = S (numT t) := by rw [S_extract, List.drop_zero, hnt]
        have lnr : (numRest t).length ≤ 1048576 := by have := num_len' t; omega
        have HT := Lib.hid (fun w1 => ref_Text (numRest t) w1 (show (numRest t).length ≤ 9223372036854775807 by omega))
        have HU := Lib.hid (fun w1 => ref_Unhexnum (numT t) m w1 (show (numT t).length ≤ 9223372036854775807 by rw [hnt, List.length_take]; omega))
        have hbad := numE_bad (t := t) m
        have hok := numE_ok (t := t) m
        have hur := (unhex_range (numT t) m).2
        have hcN := u8_nat c
        generalize hne : numE t m = ne at *
        generalize hnv : numV2 t m = nv at *
        have HN := Lib.hid (And.intro hnv hne)
        clear hne hnv
        generalize hro : restOk (numRest t) = ro at *
        generalize unhexE (numT t) m = ue at *
        generalize unhexV (numT t) m = uv at *
        generalize numT t = nt at *
        generalize numRest t = nr at *
        have HDC := Lib.hid hdc
        have kk2 : (k : Int) ≤ (t.length : Int) := by omega
        clear hd hdc hnr hnt hdr hro HV hl' HA
        by_cases hsep : c = 32 ∨ c = 9 ∨ c = 59
        · have hsb : (decide (c = 32) || decide (c = 9) || decide (c = 59)) = true := by rcases hsep with rfl | rfl | rfl <;> decide
          rw [hsb, Bool.and_true] at hrc
          have hsn : c.toNat = 32 ∨ c.toNat = 9 ∨ c.toNat = 59 := by rcases hsep with rfl | rfl | rfl <;> decide
          clear hsb hsep
          go_wp2_with fail
          refine (HDC.out _).mono ?_
          rintro e w1 ⟨rfl, rfl⟩
          go_upto_region 4 with fail
          go_cut [50] (fun y wx => y = .bool (!isTxt nr) ∧ w = wx)
          case first =>
            clear hbad hok hur hrc HU
            rcases hsn with hcn | hcn | hcn
            all_goals
              go_wp2_with fail
              refine (HT.out _).mono ?_
              rintro e w1 ⟨rfl, rfl⟩
              go_wp2_with fail
              go_meet
              exact ⟨rfl, rfl⟩
          case rest =>
          obtain ⟨rfl, rfl⟩ := hcut
          clear hsn hgc HDC HT
          cases htx : isTxt nr with
          | false =>
            rw [htx] at hrc
            obtain ⟨h1, h2⟩ := hbad hrc
            have HF := Lib.hid (And.intro h2 h1)
            clear hbad hok hur hrc htx h1 h2
            go_wp2_with fail
            go_ret2
            exact ⟨two_ret (HF.out.1.symm.trans HN.out.1.symm) (HF.out.2.symm.trans HN.out.2.symm), rfl⟩
          | true =>
            rw [htx] at hrc
            obtain ⟨h1, h2⟩ := hok hrc
            by_cases h14 : ue = 14
            · rw [if_pos h14] at h1
              have huv := (hur (by omega)).1
              have HF := Lib.hid (And.intro (h2.trans huv) h1)
              have q1 := (int_eq h14).1
              clear hbad hok hur hrc htx h1 h2 h14 huv
              go_wp2_with fail
              refine (HU.out _).mono ?_
              rintro e w1 ⟨rfl, rfl⟩
              go_wp2_with fail
              go_ret2
              exact ⟨two_ret (HF.out.1.symm.trans HN.out.1.symm) (HF.out.2.symm.trans HN.out.2.symm), rfl⟩
            · rw [if_neg h14] at h1
              have HF := Lib.hid (And.intro h2 h1)
              have q1 := (int_ne h14).1
              clear hbad hok hur hrc htx h1 h2 h14
              go_wp2_with fail
              refine (HU.out _).mono ?_
              rintro e w1 ⟨rfl, rfl⟩
              go_wp2_with fail
              go_ret2
              exact ⟨two_ret (HF.out.1.symm.trans HN.out.1.symm) (HF.out.2.symm.trans HN.out.2.symm), rfl⟩
        · have hsb : (decide (c = 32) || decide (c = 9) || decide (c = 59)) = false := by
            simp only [not_or] at hsep
            simp [hsep]
          rw [hsb, Bool.and_false] at hrc
          obtain ⟨h1, h2⟩ := hbad hrc
          have HF := Lib.hid (And.intro h2 h1)
          have n1 : ((c.toNat : Nat) : Int) ≠ 32 := fun h => hsep (.inl (UInt8.toNat_inj.1 (show c.toNat = 32 by omega)))
          have n2 : ((c.toNat : Nat) : Int) ≠ 9 := fun h => hsep (.inr (.inl (UInt8.toNat_inj.1 (show c.toNat = 9 by omega))))
          have n3 : ((c.toNat : Nat) : Int) ≠ 59 := fun h => hsep (.inr (.inr (UInt8.toNat_inj.1 (show c.toNat = 59 by omega))))
          have q1 := (int_ne n1).2
          have q2 := (int_ne n2).2
          have q3 := (int_ne n3).2
          clear hbad hok hur hrc h1 h2 hsb hsep n1 n2 n3
          go_wp2_with fail
          refine (HDC.out _).mono ?_
          rintro e w1 ⟨rfl, rfl⟩
          go_wp2_with fail
          go_ret2
          exact ⟨two_ret (HF.out.1.symm.trans HN.out.1.symm) (HF.out.2.symm.trans HN.out.2.symm), rfl⟩
    · have hkl : k = t.length := by omega
      have hnr := numRest_at hk HA.out (fun b hb => by have := (List.getElem?_eq_some_iff.1 hb).1; omega)
      have hnt := numT_at hk hnr
      have hdr : t.drop k = [] := List.drop_eq_nil_of_le (by omega)
      have hx1 : (S t).extract k t.length = S (numRest t) := by rw [S_extract, List.take_length, hnr]
      have hx2 : (S t).extract 0 k = S (numT t) := by rw [S_extract, List.drop_zero, hnt]
      rw [hdr] at hnr
      have HT := Lib.hid (fun w1 => ref_Text (numRest t) w1 (show (numRest t).length ≤ 9223372036854775807 by rw [hnr]; decide))
      have HU := Lib.hid (fun w1 => ref_Unhexnum (numT t) m w1 (show (numT t).length ≤ 9223372036854775807 by rw [hnt, List.length_take]; omega))
      have hok := numE_ok (t := t) m (by rw [hnr]; rfl)
      have hur := (unhex_range (numT t) m).2
      have htx : isTxt (numRest t) = true := by rw [hnr]; rfl
      rw [htx] at HT
      generalize hne : numE t m = ne at *
      generalize hnv : numV2 t m = nv at *
      have HN := Lib.hid (And.intro hnv hne)
      clear hne hnv
      generalize unhexE (numT t) m = ue at *
      generalize unhexV (numT t) m = uv at *
      generalize numT t = nt at *
      generalize numRest t = nr at *
      have kk0 : (0 : Int) ≤ (k : Int) := by omega
      have kk2 : (k : Int) ≤ (t.length : Int) := by omega
      have hge : ¬ (k : Int) < (t.length : Int) := by omega
      obtain ⟨h1, h2⟩ := hok
      clear hnr hnt hdr HV hl' HA htx hkl hlt
      by_cases h14 : ue = 14
      · rw [if_pos h14] at h1
        have huv := (hur (by omega)).1
        have HF := Lib.hid (And.intro (h2.trans huv) h1)
        have q1 := (int_eq h14).1
        clear hur h1 h2 h14 huv
        go_wp2_with fail
        refine (HT.out _).mono ?_
        rintro e w1 ⟨rfl, rfl⟩
        go_wp2_with fail
        refine (HU.out _).mono ?_
        rintro e w1 ⟨rfl, rfl⟩
        go_wp2_with fail
        go_ret2
        exact ⟨two_ret (HF.out.1.symm.trans HN.out.1.symm) (HF.out.2.symm.trans HN.out.2.symm), rfl⟩
      · rw [if_neg h14] at h1
        have HF := Lib.hid (And.intro h2 h1)
        have q1 := (int_ne h14).1
        clear hur h1 h2 h14
        go_wp2_with fail
        refine (HT.out _).mono ?_
        rintro e w1 ⟨rfl, rfl⟩
        go_wp2_with fail
        refine (HU.out _).mono ?_
        rintro e w1 ⟨rfl, rfl⟩
        go_wp2_with fail
        go_ret2
        exact ⟨two_ret (HF.out.1.symm.trans HN.out.1.symm) (HF.out.2.symm.trans HN.out.2.symm), rfl⟩

theorem Blk.there' {w : World} {b : Nat} {T : TypeId} {xs : List Value} (h : Blk w b T xs) (o n : Nat) (hl : o + n ≤ xs.length) : w.there b o n := fun j hj =>
  ⟨by rw [h.cell, List.getElem?_eq_getElem (by omega)]; rfl, h.frozen _⟩
theorem Blk.range' {w : World} {b : Nat} {T : TypeId} {xs : List Value} (h : Blk w b T xs) : w.rangeAt b 0 xs := fun j v hv => by rw [Nat.zero_add]; exact h.get hv
theorem Keep.setCells' {S : List Nat} {a : World} (b : Nat) (hb : b < a.heap.size → b ∈ S) : ∀ (vs : List Value) (o : Nat) (w : World), Keep S a w → Keep S a (w.setCells b o vs)
  | [], _, _, h => h
  | v :: r, o, w, h => by
    rw [World.setCells]
    exact Keep.setCells' b hb r (o + 1) _ (h.setCell _ _ hb)
theorem Bdy.len (b : Bdy) : b.cells.length = 4 := rfl
theorem bdy_size (b : Bdy) : (Tryz.prog.info? 62).map (·.size) = some b.cells.length := by kernel_rfl
theorem bdy_load {w : World} {b : Nat} {x : Bdy} (h : w.rangeAt b 0 x.cells) : (loadVar 62 ⟨b, 0, none⟩).run Tryz.prog w = .ok (.agg x.cells.toArray) w :=
  run_loadVar_mid (P := Tryz.prog) w b 0 62 x.cells _ h Tryz.underlying62 rfl (bdy_size x)
set_option maxRecDepth 100000 in
set_option maxHeartbeats 1000000 in
theorem ref11_ended (b : Bdy) (k : Int) (w : World) :
    Calls Tryz.prog 50 #[.agg b.cells.toArray, .int .i64 k] w fun e w' => e = .returned (.agg (endB b k).cells.toArray) ∧ Keep [] w w' := by
  obtain ⟨bd, bo, bs, be⟩ := b
  by_cases h : k = 17
  · have hE : endB ⟨bd, bo, bs, be⟩ k = ⟨bd, bo, bs, be⟩ := by unfold endB; rw [if_pos h]
    rw [hE]
    have q1 := (int_eq h).1
    have q2 := (int_eq h).2
    have hb := Blk.newA (w.alloc (.cells #[.string (S bd), .bool bo, .int .i64 (bs : Nat), .int .i64 be] 62)) (Bdy.cells ⟨bd, bo, bs, be⟩).toArray 62
    have hload := bdy_load (x := ⟨bd, bo, bs, be⟩) hb.range'
    have hsz : (w.alloc (.cells #[.string (S bd), .bool bo, .int .i64 (bs : Nat), .int .i64 be] 62)).heap.size = w.heap.size + 1 := by simp
    rw [hsz] at hload
    have HLo := Lib.hid hload
    clear h hload hb hsz
    dsimp only [Bdy.cells]
    go_enter Tryz.func50, Tryz.ntmps50
    go_wp2_with fail
    refine bodyPost_ret (v := .agg #[.string (S bd), .bool bo, .int .i64 (bs : Nat), .int .i64 be]) (by simp [results, Tryz.results50, asAddr, Result.andThen]; exact HLo.out) rfl ⟨rfl, ((Keep.refl [] w).alloc _).alloc _⟩
  · have hE : endB ⟨bd, bo, bs, be⟩ k = ⟨bd, bo, bs, k⟩ := by unfold endB; rw [if_neg h]
    rw [hE]
    have q1 := (int_ne h).1
    have q2 := (int_ne h).2
    have hb := Blk.newA (w.alloc (.cells #[.string (S bd), .bool bo, .int .i64 (bs : Nat), .int .i64 k] 62)) (Bdy.cells ⟨bd, bo, bs, k⟩).toArray 62
    have hload := bdy_load (x := ⟨bd, bo, bs, k⟩) hb.range'
    have hsz : (w.alloc (.cells #[.string (S bd), .bool bo, .int .i64 (bs : Nat), .int .i64 k] 62)).heap.size = w.heap.size + 1 := by simp
    rw [hsz] at hload
    have HLo := Lib.hid hload
    clear h hload hb hsz
    dsimp only [Bdy.cells]
    go_enter Tryz.func50, Tryz.ntmps50
    go_wp2_with fail
    refine bodyPost_ret (v := .agg #[.string (S bd), .bool bo, .int .i64 (bs : Nat), .int .i64 k]) (by simp [results, Tryz.results50, asAddr, Result.andThen]; exact HLo.out) rfl ⟨rfl, ((Keep.refl [] w).alloc _).alloc _⟩
end Go.Proofs.YtpimfoohpfkciaaGreatDoor

/- Layer 12: fail, Next. No conditions but on lengths. -/
namespace Go.Proofs.YtpimfoohpfkciaaGreatDoor
open Go.RowKit Go.Shelf

theorem reqC_len (m t : List UInt8) (v : Value) (cl : Bool) : (reqC m t v cl).length = 4 := rfl
theorem req_size : (Tryz.prog.info? 30).map (·.size) = some 4 := by kernel_rfl
theorem req_st (m t : List UInt8) {v : Value} (cl : Bool) (hv : v.oneCell' = true) : (Tryz.prog.info? 30).map (·.size) = some (reqC m t v cl).toArray.size ∧ (reqC m t v cl).toArray.all (·.oneCell') = true :=
  ⟨req_size, by simp [reqC, hv]; exact ⟨rfl, rfl, rfl⟩⟩
theorem req_load {w : World} {b : Nat} {m t : List UInt8} {v : Value} {cl : Bool} (h : w.rangeAt b 0 (reqC m t v cl)) : (loadVar 30 ⟨b, 0, none⟩).run Tryz.prog w = .ok (.agg (reqC m t v cl).toArray) w :=
  run_loadVar_mid (P := Tryz.prog) w b 0 30 (reqC m t v cl) _ h Tryz.underlying30 rfl req_size
def reqZ : List Value := reqC [] [] (.slice none 0 0) false
theorem req_back {w : World} {b : Nat} {m t : List UInt8} {v : Value} {cl : Bool} (h : w.there b 0 4) : (loadVar 30 ⟨b, 0, none⟩).run Tryz.prog (w.setCells b 0 (reqC m t v cl)) = .ok (.agg (reqC m t v cl).toArray) (w.setCells b 0 (reqC m t v cl)) := req_load (World.rangeAt_setCells_same _ b 0 (reqC m t v cl) h)
theorem reqZ_back {w : World} {b : Nat} (h : w.there b 0 4) : (loadVar 30 ⟨b, 0, none⟩).run Tryz.prog (w.setCells b 0 reqZ) = .ok (.agg reqZ.toArray) (w.setCells b 0 reqZ) := req_back h
theorem own_one {α : Type} {enc : α → List Value} {n B : Nat} {E : TypeId} {w : World} {v : Value} {L : List α} (h : Own enc n B E w v L) : v.oneCell' = true := by
  obtain ⟨a, cap, rfl, _⟩ := h.shape
  rfl
set_option maxRecDepth 100000 in
set_option maxHeartbeats 2000000 in
theorem inlet_fail {B p : Nat} {X R : List Nat} {I : InS} {w : World} (s : Int) (h : It B w p X R I) :
    Calls Tryz.prog 19 #[.pointer (some ⟨p, 0, none⟩), .int .i64 s] w fun e w' => e = .returned (.tuple #[.agg reqZ.toArray, .int .i64 s]) ∧ It B w' p X R { I with st := s } ∧ Keep [p] w w' := by
  have kA := (Keep.refl [] w).alloc (.cells reqZ.toArray 30)
  have bA := Blk.newA w reqZ.toArray 30
  have hne : w.heap.size ≠ p := by have := h.lt; omega
  have zst := req_st [] [] (v := .slice none 0 0) false rfl
  have H := Lib.hid h
  generalize hwA : w.alloc (.cells #[.string ⟨#[]⟩, .string ⟨#[]⟩, .slice none 0 0, .bool false] 30) = wA
  have hwA' : w.alloc (.cells reqZ.toArray 30) = wA := hwA
  rw [hwA'] at kA bA
  have hA := h.keep0 kA
  obtain ⟨_, _, _, c5⟩ := hA.at_
  have f5 := hA.free 5
  have hS := hA.set (I' := { I with st := s }) 5 (.int .i64 s) (fun _ _ => rfl) rfl rfl
  have kS := (kA.mono (S' := [p]) (by simp)).setCell ⟨p, 5, none⟩ (.int .i64 s) (by simp)
  have bS := (show Blk wA w.heap.size 30 reqZ from bA).setOther (a := ⟨p, 5, none⟩) (by simpa using hne) (.int .i64 s)
  have hT := bS.there' 0 4 (by simp [reqZ, reqC])
  have hload := reqZ_back hT
  have hlt : w.heap.size < (wA.setCell ⟨p, 5, none⟩ (.int .i64 s)).heap.size := bS.lt
  have HX := Lib.hid (And.intro hS (And.intro kS hload))
  have HT := Lib.hid hT
  have ZST := Lib.hid zst
  clear h kA bA hA hS kS bS hT hload hwA' zst
  go_enter Tryz.func19, Tryz.ntmps19
  go_wp2_with (first
    | (refine wpList_store_mid rfl 30 (.tmp 4) (.tmp 10) rfl w.heap.size 0 reqZ.toArray (by rfl) (by first | rfl | kernel_rfl) HT.out ZST.out.1 ZST.out.2 ?_
       try simp only [Act.put])
    | fail)
  refine bodyPost_ret (v := .tuple #[.agg reqZ.toArray, .int .i64 s]) (by have hl := HX.out.2.2; simp [results, Tryz.results19, asAddr, Result.andThen, hl]) rfl ⟨rfl, ?_, ?_⟩
  · exact HX.out.1.keep (Keep.setCells' (S := [w.heap.size]) _ (by simp) _ _ _ (Keep.refl _ _)) (fun x hx => by have := (H.out.lo x hx).2; simp; omega) (fun x hx => by have := (H.out.ro x hx).2.1; simp; omega)
  · exact Keep.setCells' _ (fun hh => absurd hh (by omega)) _ _ _ HX.out.2.1

theorem wpList_store_fresh {P : Program} {ops : Array Oper} {rest : List Oper} {op : Oper} {a : Act} {w : World} {Q : Exit → Act → World → Prop} (hgd : op.guard = none) (ty : TypeId) (x y : Operand) (ho : op.op = .store ty x y)
    (Z : Array Value) (cells : List Value) (hx : a.eval x = .pointer (some ⟨w.heap.size, 0, none⟩)) (hy : a.eval y = .agg cells.toArray) (hi : (P.info? ty).map (·.size) = some cells.length) (hz : Z.size = cells.length)
    (h1 : ∀ v ∈ cells, v.oneCell' = true) (h : wpList P ops Q rest (a.put op.dst undef) (w.alloc (.cells cells.toArray ty))) : wpList P ops Q (op :: rest) a (w.alloc (.cells Z ty)) :=
  wpList_plain hgd fun _ hK => by
    unfold Oper.wp execOp
    simp only [ho, hx, hy, Instr.storeAt, Instr.sureAddr, Sem.run_bind, Sem.run_pure, Result.andThen_ok, run_storeVar_new (P := P) w ty Z cells.toArray (by simpa using hi) (by simpa using hz) (all_oneCell_toArray h1)]
    exact hK _ _ h
theorem reqC_one (m t : List UInt8) {v : Value} (cl : Bool) (hv : v.oneCell' = true) : ∀ x ∈ reqC m t v cl, x.oneCell' = true := by
  intro x hx
  simp [reqC] at hx
  rcases hx with rfl | rfl | rfl | rfl
  · rfl
  · rfl
  · exact hv
  · rfl

/-- Next under way: nb: the result's block -/
structure NxS (B : Nat) (w : World) (p : Nat) (X R : List Nat) (wt : World) (X1 R1 : List Nat) (J : InS) : Prop where
  it : It B wt p X1 R1 J
  kp : Keep X w wt
  nx : ∀ x ∈ X1, x ∈ X ∨ w.heap.size < x
  nr : ∀ x ∈ R1, x ∈ R ∨ w.heap.size < x
  bk : Blk wt w.heap.size 30 reqZ
theorem NxS.off {B p : Nat} {w wt : World} {X R X1 R1 : List Nat} {I J : InS} (h : NxS B w p X R wt X1 R1 J) (h0 : It B w p X R I) : w.heap.size ∉ X1 ∧ w.heap.size ∉ R1 :=
  ⟨fun hh => by rcases h.nx _ hh with h1 | h1; (have := (h0.lo _ h1).2; omega); omega, fun hh => by rcases h.nr _ hh with h1 | h1; (have := (h0.ro _ h1).2.1; omega); omega⟩
theorem NxS.step {B p : Nat} {w wt w2 : World} {X R X1 R1 X2 R2 : List Nat} {I J J2 : InS} (h : NxS B w p X R wt X1 R1 J) (h0 : It B w p X R I) (k : Keep X1 wt w2) (hi : It B w2 p X2 R2 J2)
    (hX : ∀ x ∈ X2, x ∈ X1 ∨ wt.heap.size ≤ x) (hR : ∀ x ∈ R2, x ∈ R1 ∨ wt.heap.size ≤ x) : NxS B w p X R w2 X2 R2 J2 := by
  have hl := h.bk.lt
  refine ⟨hi, h.kp.trans' k (fun x hx hlt => (h.nx x hx).elim id (fun hh => by omega)), fun x hx => ?_, fun x hx => ?_, k.blk h.bk (h.off h0).1⟩
  · rcases hX x hx with h1 | h1
    · exact h.nx x h1
    · exact .inr (by omega)
  · rcases hR x hx with h1 | h1
    · exact h.nr x h1
    · exact .inr (by omega)
/-- what Next comes to -/
def NextOut (B : Nat) (w : World) (p : Nat) (X R : List Nat) (r : NxR) (e : Ending) (w' : World) : Prop :=
  ∃ v X' R', e = .returned (.tuple #[.agg (reqC r.q.m r.q.t v r.q.cl).toArray, .int .i64 r.s]) ∧ It B w' p X' R' r.p ∧ Keep X w w' ∧ (∀ x ∈ X', x ∈ X ∨ w.heap.size ≤ x) ∧ (∀ x ∈ R', x ∈ R ∨ w.heap.size ≤ x) ∧ Own Fld.cells 2 B 40 w' v r.q.F ∧ ∀ g, v.ownBlock = some g → (g ∈ R ∨ w.heap.size ≤ g) ∧ g ∉ X'
theorem NextOut.of {B p : Nat} {w w' : World} {X R : List Nat} {r r' : NxR} {e : Ending} (h : NextOut B w p X R r e w') (hr : r' = r) : NextOut B w p X R r' e w' := hr ▸ h
theorem NxS.fin {B p : Nat} {w wt : World} {X R X1 R1 : List Nat} {I J : InS} (h : NxS B w p X R wt X1 R1 J) (h0 : It B w p X R I) (q : Req) (v : Value) (s : Int) (ho : Own Fld.cells 2 B 40 wt v q.F) (hg : ∀ g, v.ownBlock = some g → (g ∈ R ∨ w.heap.size < g) ∧ g ∉ X1) :
    NextOut B w p X R ⟨J, q, s⟩ (.returned (.tuple #[.agg (reqC q.m q.t v q.cl).toArray, .int .i64 s])) (wt.setCells w.heap.size 0 (reqC q.m q.t v q.cl)) := by
  have k : Keep [w.heap.size] wt (wt.setCells w.heap.size 0 (reqC q.m q.t v q.cl)) := Keep.setCells' (S := [w.heap.size]) _ (by simp) _ _ _ (Keep.refl _ _)
  obtain ⟨o1, o2⟩ := h.off h0
  refine ⟨v, X1, R1, rfl, h.it.keep k (fun x hx => by simp; rintro rfl; exact o1 hx) (fun x hx => by simp; rintro rfl; exact o2 hx), h.kp.trans' k (fun x hx hlt => by simp at hx; omega), fun x hx => (h.nx x hx).imp id (fun hh => by omega), fun x hx => (h.nr x hx).imp id (fun hh => by omega), ho.keep k (fun g hh => ?_), fun g hh => ⟨(hg g hh).1.imp id (fun hh => by omega), (hg g hh).2⟩⟩
  simp only [List.mem_singleton]
  rintro rfl
  rcases (hg _ hh).1 with h1 | h1
  · have := (h0.ro _ h1).2.1; omega
  · omega
theorem NxS.fin0 {B p : Nat} {w wt : World} {X R X1 R1 : List Nat} {I J : InS} (h : NxS B w p X R wt X1 R1 J) (h0 : It B w p X R I) (s : Int) :
    NextOut B w p X R ⟨J, req0, s⟩ (.returned (.tuple #[.agg reqZ.toArray, .int .i64 s])) (wt.setCells w.heap.size 0 reqZ) := h.fin h0 req0 (.slice none 0 0) s (Own.nil _ _ _ _ _) (by simp [Value.ownBlock])
/-- the request goes out of the inlet -/
theorem it_unreq {B p : Nat} {w : World} {X R : List Nat} {I : InS} (h : It B w p X R I) : It B ((w.setCell ⟨p, 2, none⟩ (.pointer none)).setCell ⟨p, 1, none⟩ (.int .i64 0)) p X [] { I with req := none, held := 0 } := by
  obtain ⟨⟨rv, cv, b1, b2, b3⟩, h4, h5, h6⟩ := h
  have hk : Keep [p] w ((w.setCell ⟨p, 2, none⟩ (.pointer none)).setCell ⟨p, 1, none⟩ (.int .i64 0)) := ((Keep.refl _ _).setCell _ _ (by simp)).setCell _ _ (by simp)
  exact ⟨⟨.pointer none, cv, (b1.set 2 (.pointer none)).set 1 (.int .i64 0), b2.keep hk (fun y _ hy => by simpa using hy), rfl⟩, h4, fun y hy => ⟨(h5 y hy).1, Nat.lt_of_lt_of_le (h5 y hy).2 hk.size⟩, by simp⟩
theorem it_req {B p : Nat} {w : World} {X R : List Nat} {I : InS} {q : Req} (h : It B w p X R I) (hq : I.req = some q) : ∃ rb a l c, w.cell? ⟨p, 2, none⟩ = some (.pointer (some ⟨rb, 0, none⟩)) ∧ Blk w rb 30 (reqC q.m q.t (.slice a l c) q.cl) ∧ Own Fld.cells 2 B 40 w (.slice a l c) q.F ∧ (∀ g, (Value.slice a l c).ownBlock = some g → g ∈ R) ∧ rb ∈ R := by
  obtain ⟨⟨rv, cv, b1, b2, b3⟩, h4, h5, h6⟩ := h
  rw [hq] at b3
  obtain ⟨rb, v, rfl, g1, g2, g3, g4⟩ := b3
  obtain ⟨a, c, rfl, _⟩ := g3.shape
  exact ⟨rb, a, _, c, b1.get (k := 2) rfl, g2, g3, g4, g1⟩
theorem it_noReq {B p : Nat} {w : World} {X R : List Nat} {I : InS} (h : It B w p X R I) (hq : I.req = none) : w.cell? ⟨p, 2, none⟩ = some (.pointer none) := by
  obtain ⟨⟨rv, cv, b1, b2, b3⟩, h4, h5, h6⟩ := h
  rw [hq] at b3
  have : rv = .pointer none := b3
  subst this
  exact b1.get (k := 2) rfl
theorem body_req (J : InS) : (bodyB J).p.req = J.req ∧ (bodyB J).p.st = J.st := by
  unfold bodyB
  cases J.chk with
  | none => exact ⟨rfl, rfl⟩
  | some c => dsimp only; split; exact ⟨rfl, rfl⟩; split <;> exact ⟨rfl, rfl⟩
end Go.Proofs.YtpimfoohpfkciaaGreatDoor

/- Layer 12: Next, when nothing more can come, or nothing has come whole. No conditions but on lengths. -/
namespace Go.Proofs.YtpimfoohpfkciaaGreatDoor
open Go.RowKit Go.Shelf


set_option maxRecDepth 100000 in
set_option maxHeartbeats 3000000 in
theorem next_neg {B p : Nat} {X R : List Nat} {I : InS} {w : World} (h : It B w p X R I) (hm : ML w) (hB : B ≤ w.heap.size) (_hbig : 0 < B) (hok : I.ok) (hs0 : ¬ I.st = 0) :
    Calls Tryz.prog 8 #[.pointer (some ⟨p, 0, none⟩)] w (NextOut B w p X R (nextI I)) := by
  have hst := next_hst hok
  have kA := (Keep.refl [] w).alloc (.cells reqZ.toArray 30)
  have bA := Blk.newA w reqZ.toArray 30
  have zst := req_st [] [] (v := .slice none 0 0) false rfl
  have H := Lib.hid h
  generalize hwA : w.alloc (.cells #[.string ⟨#[]⟩, .string ⟨#[]⟩, .slice none 0 0, .bool false] 30) = wA
  have hwA' : w.alloc (.cells reqZ.toArray 30) = wA := hwA
  have hszA : wA.heap.size = w.heap.size + 1 := by rw [← hwA']; simp
  rw [hwA'] at kA bA
  have hA := h.keep0 kA
  have NA : NxS B w p X R wA X R I := ⟨hA, kA.mono (by simp), fun x hx => .inl hx, fun x hx => .inl hx, show Blk wA w.heap.size 30 reqZ from bA⟩
  obtain ⟨a0, a1, a3, a5⟩ := hA.at_
  have HNA := Lib.hid NA
  have MA := Lib.hid (hm.keep kA (by simp))
  have ZST := Lib.hid zst
  have HW := Lib.hid (inlet_wrong hA)
  have HFl := Lib.hid (fun s wt X1 R1 J (hh : It B wt p X1 R1 J) => inlet_fail (I := J) s hh)
  have hBA : B ≤ wA.heap.size := by omega
  have hlen := hok.len
  have HOK := Lib.hid hok
  have HLO := Lib.hid h.lo
  clear h kA bA hA NA hwA' zst hm hok
  have hN : nextI I = ⟨I, req0, I.st⟩ := by unfold nextI; rw [if_pos hs0]
  have q1 := (int_ne hs0).2
  have HF := Lib.hid (HNA.out.fin0 H.out I.st)
  have HT := Lib.hid (HNA.out.bk.there' 0 4 (by simp [reqZ, reqC]))
  have hload := reqZ_back HT.out
  have HLd := Lib.hid hload
  rw [hN]
  clear hs0 hN hload hst
  go_enter Tryz.func8, Tryz.ntmps8
  go_wp2_with fail
  refine HW.out.mono ?_
  rintro e w1 ⟨rfl, rfl⟩
  clear hwA
  go_wp2_with (first
    | (refine wpList_store_mid rfl 30 (.tmp 2) (.tmp 17) rfl w.heap.size 0 reqZ.toArray (by rfl) (by first | rfl | kernel_rfl) HT.out ZST.out.1 ZST.out.2 ?_
       try simp only [Act.put])
    | fail)
  refine bodyPost_ret (v := .tuple #[.agg reqZ.toArray, .int .i64 I.st]) (by have hl := HLd.out; simp [results, Tryz.results8, asAddr, Result.andThen, hl]) rfl HF.out
set_option maxRecDepth 100000 in
set_option maxHeartbeats 3000000 in
theorem next_wrong {B p : Nat} {X R : List Nat} {I : InS} {w : World} (h : It B w p X R I) (hm : ML w) (hB : B ≤ w.heap.size) (hbig : 0 < B) (hok : I.ok) (hs0 : I.st = 0) (hrq : I.req = none) (hd0 : ¬ (headM I.inp).s = 0) :
    Calls Tryz.prog 8 #[.pointer (some ⟨p, 0, none⟩)] w (NextOut B w p X R (nextI I)) := by
  have hst := next_hst hok
  have kA := (Keep.refl [] w).alloc (.cells reqZ.toArray 30)
  have bA := Blk.newA w reqZ.toArray 30
  have zst := req_st [] [] (v := .slice none 0 0) false rfl
  have H := Lib.hid h
  generalize hwA : w.alloc (.cells #[.string ⟨#[]⟩, .string ⟨#[]⟩, .slice none 0 0, .bool false] 30) = wA
  have hwA' : w.alloc (.cells reqZ.toArray 30) = wA := hwA
  have hszA : wA.heap.size = w.heap.size + 1 := by rw [← hwA']; simp
  rw [hwA'] at kA bA
  have hA := h.keep0 kA
  have NA : NxS B w p X R wA X R I := ⟨hA, kA.mono (by simp), fun x hx => .inl hx, fun x hx => .inl hx, show Blk wA w.heap.size 30 reqZ from bA⟩
  obtain ⟨a0, a1, a3, a5⟩ := hA.at_
  have HNA := Lib.hid NA
  have MA := Lib.hid (hm.keep kA (by simp))
  have ZST := Lib.hid zst
  have HW := Lib.hid (inlet_wrong hA)
  have HFl := Lib.hid (fun s wt X1 R1 J (hh : It B wt p X1 R1 J) => inlet_fail (I := J) s hh)
  have hBA : B ≤ wA.heap.size := by omega
  have hlen := hok.len
  have HOK := Lib.hid hok
  have HLO := Lib.hid h.lo
  clear h kA bA hA NA hwA' zst hm hok
  have q1 := (int_eq hs0).2
  have hN : nextI I = if (headM I.inp).s ≠ 0 then ⟨{ I with st := (headM I.inp).s }, req0, (headM I.inp).s⟩
    else if (headM I.inp).got then tailI (headed I (headM I.inp)) (headM I.inp).q else ⟨I, req0, 0⟩ := by unfold nextI; rw [if_neg (by simp [hs0]), hrq]
  have hck := (HOK.out.req hs0 hrq).1
  have HH := Lib.hid (inlet_head HNA.out.it MA.out hBA hbig (by omega) hrq hck)
  have HX2 := Lib.hid (fun c => hst (headed I (headM I.inp)) c (.inr rfl))
  have hhd := head_bounds I.inp
  have c2 := it_noReq HNA.out.it hrq
  generalize headM I.inp = hd at *
  obtain ⟨hd1, hd2, hd3, _⟩ := hhd
  clear hst
  rw [if_pos hd0] at hN
  have hgot : hd.got = false := by cases hg : hd.got with | false => rfl | true => exact absurd (hd1 hg) hd0
  have q2 := (int_ne hd0).2
  rw [hN]
  clear hN hd0 hrq hs0 hck hd1
  go_enter Tryz.func8, Tryz.ntmps8
  go_wp2_with fail
  refine HH.out.mono ?_
  rintro e w1 ⟨rfl, _, k1, _⟩
  have HN1 := Lib.hid (HNA.out.step H.out (k1 hgot |>.mono (by simp)) (HNA.out.it.keep0 (k1 hgot)) (fun x hx => .inl hx) (fun x hx => .inl hx))
  clear k1 hwA
  go_wp2_with fail
  refine (HFl.out _ _ _ _ _ HN1.out.it).mono ?_
  rintro e w2 ⟨rfl, hi2, k2⟩
  have HN2 := Lib.hid (HN1.out.step H.out (HN1.out.it.keepX k2) hi2 (fun x hx => .inl hx) (fun x hx => .inl hx))
  have HF := Lib.hid (HN2.out.fin0 H.out hd.s)
  have HT := Lib.hid (HN2.out.bk.there' 0 4 (by simp [reqZ, reqC]))
  have hload := reqZ_back HT.out
  have HLd := Lib.hid hload
  clear hi2 k2 hload
  go_wp2_with (first
    | (refine wpList_store_mid rfl 30 (.tmp 2) (.tmp 32) rfl w.heap.size 0 reqZ.toArray (by rfl) (by first | rfl | kernel_rfl) HT.out ZST.out.1 ZST.out.2 ?_
       try simp only [Act.put])
    | fail)
  refine bodyPost_ret (v := .tuple #[.agg reqZ.toArray, .int .i64 hd.s]) (by have hl := HLd.out; simp [results, Tryz.results8, asAddr, Result.andThen, hl]) rfl HF.out
set_option maxRecDepth 100000 in
set_option maxHeartbeats 3000000 in
theorem next_wait {B p : Nat} {X R : List Nat} {I : InS} {w : World} (h : It B w p X R I) (hm : ML w) (hB : B ≤ w.heap.size) (hbig : 0 < B) (hok : I.ok) (hs0 : I.st = 0) (hrq : I.req = none) (hd0 : (headM I.inp).s = 0) (hgot : (headM I.inp).got = false) :
    Calls Tryz.prog 8 #[.pointer (some ⟨p, 0, none⟩)] w (NextOut B w p X R (nextI I)) := by
  have hst := next_hst hok
  have kA := (Keep.refl [] w).alloc (.cells reqZ.toArray 30)
  have bA := Blk.newA w reqZ.toArray 30
  have zst := req_st [] [] (v := .slice none 0 0) false rfl
  have H := Lib.hid h
  generalize hwA : w.alloc (.cells #[.string ⟨#[]⟩, .string ⟨#[]⟩, .slice none 0 0, .bool false] 30) = wA
  have hwA' : w.alloc (.cells reqZ.toArray 30) = wA := hwA
  have hszA : wA.heap.size = w.heap.size + 1 := by rw [← hwA']; simp
  rw [hwA'] at kA bA
  have hA := h.keep0 kA
  have NA : NxS B w p X R wA X R I := ⟨hA, kA.mono (by simp), fun x hx => .inl hx, fun x hx => .inl hx, show Blk wA w.heap.size 30 reqZ from bA⟩
  obtain ⟨a0, a1, a3, a5⟩ := hA.at_
  have HNA := Lib.hid NA
  have MA := Lib.hid (hm.keep kA (by simp))
  have ZST := Lib.hid zst
  have HW := Lib.hid (inlet_wrong hA)
  have HFl := Lib.hid (fun s wt X1 R1 J (hh : It B wt p X1 R1 J) => inlet_fail (I := J) s hh)
  have hBA : B ≤ wA.heap.size := by omega
  have hlen := hok.len
  have HOK := Lib.hid hok
  have HLO := Lib.hid h.lo
  clear h kA bA hA NA hwA' zst hm hok
  have q1 := (int_eq hs0).2
  have hN : nextI I = if (headM I.inp).s ≠ 0 then ⟨{ I with st := (headM I.inp).s }, req0, (headM I.inp).s⟩
    else if (headM I.inp).got then tailI (headed I (headM I.inp)) (headM I.inp).q else ⟨I, req0, 0⟩ := by unfold nextI; rw [if_neg (by simp [hs0]), hrq]
  have hck := (HOK.out.req hs0 hrq).1
  have HH := Lib.hid (inlet_head HNA.out.it MA.out hBA hbig (by omega) hrq hck)
  have HX2 := Lib.hid (fun c => hst (headed I (headM I.inp)) c (.inr rfl))
  have hhd := head_bounds I.inp
  have c2 := it_noReq HNA.out.it hrq
  generalize headM I.inp = hd at *
  obtain ⟨hd1, hd2, hd3, _⟩ := hhd
  clear hst
  rw [if_neg (by simp [hd0])] at hN
  rw [hgot, if_neg (by simp)] at hN
  rw [hN]
  rw [hd0] at HH
  have HRQ := Lib.hid hrq
  clear hN hd0 hrq hs0 hck hd1
  go_enter Tryz.func8, Tryz.ntmps8
  go_wp2_with fail
  refine HH.out.mono ?_
  rintro e w1 ⟨rfl, _, k1, _⟩
  have HN2 := Lib.hid (HNA.out.step H.out (k1 hgot |>.mono (by simp)) (HNA.out.it.keep0 (k1 hgot)) (fun x hx => .inl hx) (fun x hx => .inl hx))
  have c22 := it_noReq HN2.out.it HRQ.out
  have HF := Lib.hid (HN2.out.fin0 H.out 0)
  have HT := Lib.hid (HN2.out.bk.there' 0 4 (by simp [reqZ, reqC]))
  have hload := reqZ_back HT.out
  have HLd := Lib.hid hload
  clear k1 hload hwA
  go_wp2_with (first
    | (refine wpList_store_mid rfl 30 (.tmp 2) (.tmp 39) rfl w.heap.size 0 reqZ.toArray (by rfl) (by first | rfl | kernel_rfl) HT.out ZST.out.1 ZST.out.2 ?_
       try simp only [Act.put])
    | fail)
  refine bodyPost_ret (v := .tuple #[.agg reqZ.toArray, .int .i64 0]) (by have hl := HLd.out; simp [results, Tryz.results8, asAddr, Result.andThen, hl]) rfl HF.out
end Go.Proofs.YtpimfoohpfkciaaGreatDoor

/- Layer 12: Next, when a request's head has come before. No conditions but on lengths. -/
namespace Go.Proofs.YtpimfoohpfkciaaGreatDoor
open Go.RowKit Go.Shelf


set_option maxRecDepth 100000 in
set_option maxHeartbeats 3000000 in
theorem next_pend {B p : Nat} {X R : List Nat} {I : InS} {w : World} (h : It B w p X R I) (hm : ML w) (hB : B ≤ w.heap.size) (hbig : 0 < B) (hok : I.ok) {q : Req} (hs0 : I.st = 0) (hrq : I.req = some q) :
    Calls Tryz.prog 8 #[.pointer (some ⟨p, 0, none⟩)] w (NextOut B w p X R (nextI I)) := by
  have hst := next_hst hok
  have kA := (Keep.refl [] w).alloc (.cells reqZ.toArray 30)
  have bA := Blk.newA w reqZ.toArray 30
  have zst := req_st [] [] (v := .slice none 0 0) false rfl
  have H := Lib.hid h
  generalize hwA : w.alloc (.cells #[.string ⟨#[]⟩, .string ⟨#[]⟩, .slice none 0 0, .bool false] 30) = wA
  have hwA' : w.alloc (.cells reqZ.toArray 30) = wA := hwA
  have hszA : wA.heap.size = w.heap.size + 1 := by rw [← hwA']; simp
  rw [hwA'] at kA bA
  have hA := h.keep0 kA
  have NA : NxS B w p X R wA X R I := ⟨hA, kA.mono (by simp), fun x hx => .inl hx, fun x hx => .inl hx, show Blk wA w.heap.size 30 reqZ from bA⟩
  obtain ⟨a0, a1, a3, a5⟩ := hA.at_
  have HNA := Lib.hid NA
  have MA := Lib.hid (hm.keep kA (by simp))
  have ZST := Lib.hid zst
  have HW := Lib.hid (inlet_wrong hA)
  have HFl := Lib.hid (fun s wt X1 R1 J (hh : It B wt p X1 R1 J) => inlet_fail (I := J) s hh)
  have hBA : B ≤ wA.heap.size := by omega
  have hlen := hok.len
  have HOK := Lib.hid hok
  have HLO := Lib.hid h.lo
  clear h kA bA hA NA hwA' zst hm hok
  have q1 := (int_eq hs0).2
  have hN : nextI I = tailI I q := by unfold nextI; rw [if_neg (by simp [hs0]), hrq]
  have HNt := HNA
  have MT := MA
  have HOt := Lib.hid (show I.inp.length + I.held ≤ 65536 ∧ I.skip ≤ 65536 ∧ (∀ c, I.chk = some c → (c.err = 0 → c.ok) ∧ c.most = 4096 ∧ c.inp.length + c.dat.length ≤ 65536 ∧ (addC c I.inp).st ≤ 4) ∧ I.req = some q from
    ⟨by omega, by have := HOK.out.skp; omega, fun c hc => ⟨(hst I c (.inl rfl) hc).2, (HOK.out.chk c hc).2.1, by have := (HOK.out.chk c hc).2.2.1; omega, (hst I c (.inl rfl) hc).1⟩, hrq⟩)
  obtain ⟨rb, ra, rl, rc, c2, hjunk⟩ := it_req HNA.out.it hrq; clear hjunk
  rw [hN]
  clear hrq hN hst hs0
  go_enter Tryz.func8, Tryz.ntmps8
  go_wp2_with fail
  have HBd := Lib.hid (inlet_body HNt.out.it MT.out hBA hbig HOt.out.1 HOt.out.2.1 HOt.out.2.2.1)
  have hbr := body_req I
  have hT : tailI I q = if (bodyB I).s ≠ 0 then ⟨{ (bodyB I).p with st := (bodyB I).s }, req0, (bodyB I).s⟩
    else if (bodyB I).whole then ⟨{ (bodyB I).p with req := none, held := 0 }, q, 200⟩ else ⟨(bodyB I).p, req0, 0⟩ := rfl
  generalize bodyB I = bd at *
  obtain ⟨bp, bwh, bs⟩ := bd
  dsimp only at HBd hbr hT
  have hbq : bp.req = some q := hbr.1.trans HOt.out.2.2.2
  clear hbr c2
  refine HBd.out.mono ?_
  rintro e w5 ⟨rfl, k5, X5, hi5, n5⟩
  have HN5 := Lib.hid (HNt.out.step H.out k5 hi5 n5 (fun x hx => .inl hx))
  clear k5 hi5 n5 HBd
  by_cases hs5 : bs = 0
  case neg =>
    rw [if_pos hs5] at hT
    have q5 := (int_ne hs5).2
    clear hs5
    go_wp2_with fail
    refine (HFl.out _ _ _ _ _ HN5.out.it).mono ?_
    rintro e w6 ⟨rfl, hi2, k2⟩
    have HN2 := Lib.hid (HN5.out.step H.out (HN5.out.it.keepX k2) hi2 (fun x hx => .inl hx) (fun x hx => .inl hx))
    have HF := Lib.hid ((HN2.out.fin0 H.out bs).of hT)
    have HT := Lib.hid (HN2.out.bk.there' 0 4 (by simp [reqZ, reqC]))
    have hload := reqZ_back HT.out
    have HLd := Lib.hid hload
    clear hi2 k2 hload hT
    go_wp2_with (first
      | (with_reducible (show wpList _ _ _ ((⟨none, .store _ (.tmp 2) (.tmp 51), _, _, _, none⟩ : Oper) :: _) _ _)
         refine wpList_store_mid rfl 30 (.tmp 2) (.tmp 51) rfl w.heap.size 0 reqZ.toArray (by rfl) (by first | rfl | kernel_rfl) HT.out ZST.out.1 ZST.out.2 ?_
         try simp only [Act.put])
      | fail)
    refine bodyPost_ret (v := .tuple #[.agg reqZ.toArray, .int .i64 bs]) (by have hl := HLd.out; simp [results, Tryz.results8, asAddr, Result.andThen, hl]) rfl HF.out
  rw [if_neg (by simp [hs5])] at hT
  subst hs5
  cases bwh with
  | false =>
    rw [if_neg (by simp)] at hT
    have HF := Lib.hid ((HN5.out.fin0 H.out 0).of hT)
    have HT := Lib.hid (HN5.out.bk.there' 0 4 (by simp [reqZ, reqC]))
    have hload := reqZ_back HT.out
    have HLd := Lib.hid hload
    clear hT hload
    go_wp2_with (first
      | (with_reducible (show wpList _ _ _ ((⟨none, .store _ (.tmp 2) (.tmp 56), _, _, _, none⟩ : Oper) :: _) _ _)
         refine wpList_store_mid rfl 30 (.tmp 2) (.tmp 56) rfl w.heap.size 0 reqZ.toArray (by rfl) (by first | rfl | kernel_rfl) HT.out ZST.out.1 ZST.out.2 ?_
         try simp only [Act.put])
      | fail)
    refine bodyPost_ret (v := .tuple #[.agg reqZ.toArray, .int .i64 0]) (by have hl := HLd.out; simp [results, Tryz.results8, asAddr, Result.andThen, hl]) rfl HF.out
  | true =>
    rw [if_pos rfl] at hT
    obtain ⟨rb2, sa, sl, sc, c2, hq2, ho2, hg2, hrb2⟩ := it_req HN5.out.it hbq
    have hoff := HN5.out.off H.out
    have hbk := HN5.out.bk
    have kW := (Keep.refl [] w5).alloc (.cells (reqC q.m q.t (.slice sa sl sc) q.cl).toArray 30)
    have nW := Blk.newA w5 (reqC q.m q.t (.slice sa sl sc) q.cl).toArray 30
    have hp5 := HN5.out.it.lt
    have RNG := Lib.hid hq2.range'
    generalize hwW : w5.alloc (.cells (reqC q.m q.t (.slice sa sl sc) q.cl).toArray 30) = wW at kW nW
    have iW := HN5.out.it.keep0 kW
    have d2 : wW.cell? ⟨p, 2, none⟩ = some (.pointer (some ⟨rb2, 0, none⟩)) := kW.load c2
    have d1 := iW.at_.2.1
    have g1 := iW.free 1
    have g2 := iW.free 2
    have kP := ((Keep.refl [p] wW).setCell ⟨p, 2, none⟩ (.pointer none) (by simp)).setCell ⟨p, 1, none⟩ (.int .i64 0) (by simp)
    have hnep : w5.heap.size ≠ p := by omega
    have nP := kP.blk (show Blk wW w5.heap.size 30 (reqC q.m q.t (.slice sa sl sc) q.cl) from nW) (by simpa using hnep)
    have iP := it_unreq iW
    have HNP := Lib.hid ((HN5.out.step H.out (kW.mono (S' := X5) (by simp)) iW (fun x hx => .inl hx) (fun x hx => .inl hx)).step H.out (iW.keepX kP) iP (fun x hx => .inl hx) (by simp))
    have HT := Lib.hid (HNP.out.bk.there' 0 4 (by simp [reqZ, reqC]))
    have hload := req_back (m := q.m) (t := q.t) (v := .slice sa sl sc) (cl := q.cl) HT.out
    have HLd := Lib.hid hload
    have OP := ((ho2.keep0 kW).keep kP (fun g hg => by simp; rintro rfl; exact (HN5.out.it.ro _ (hg2 _ hg)).2.2 HN5.out.it.mem))
    have HF := Lib.hid ((HNP.out.fin H.out q (.slice sa sl sc) 200 OP (fun g hg => ⟨HN5.out.nr g (hg2 g hg), (HN5.out.it.ro g (hg2 g hg)).2.2⟩)).of hT)
    have HS1 := Lib.hid (reqC_one q.m q.t (v := .slice sa sl sc) q.cl rfl)
    have ST := Lib.hid (req_st q.m q.t (v := .slice sa sl sc) q.cl rfl)
    have RP := Lib.hid nP.range'
    clear hT hload hq2 ho2 hg2 hrb2 hoff hbk kW nW iW kP nP iP OP hp5
    go_wp2_with (first
      | (with_reducible (show wpList _ _ _ ((⟨_, .load _ (.tmp 61), _, _, _, none⟩ : Oper) :: _) _ _)
         refine wpList_load_mid rfl 30 (.tmp 61) rfl rb2 0 (by rfl) (reqC q.m q.t (.slice sa sl sc) q.cl) _ RNG.out Tryz.underlying30 rfl req_size ?_
         try simp only [Act.put, List.setIfInBounds_toArray, List.set_cons_succ, List.set_cons_zero])
      | (with_reducible (show wpList _ _ _ ((⟨none, .store _ (.tmp 7) (.tmp 62), _, _, _, none⟩ : Oper) :: _) _ _)
         refine wpList_store_fresh rfl 30 (.tmp 7) (.tmp 62) rfl _ (reqC q.m q.t (.slice sa sl sc) q.cl) (by rfl) (by rfl) req_size (by rfl) HS1.out ?_
         rw [hwW]
         try simp only [Act.put])
      | (with_reducible (show wpList _ _ _ ((⟨_, .load _ (.tmp 7), _, _, _, none⟩ : Oper) :: _) _ _)
         refine wpList_load_mid rfl 30 (.tmp 7) rfl w5.heap.size 0 (by rfl) (reqC q.m q.t (.slice sa sl sc) q.cl) _ RP.out Tryz.underlying30 rfl req_size ?_
         try simp only [Act.put, List.setIfInBounds_toArray, List.set_cons_succ, List.set_cons_zero])
      | (with_reducible (show wpList _ _ _ ((⟨none, .store _ (.tmp 2) (.tmp 69), _, _, _, none⟩ : Oper) :: _) _ _)
         refine wpList_store_mid rfl 30 (.tmp 2) (.tmp 69) rfl w.heap.size 0 (reqC q.m q.t (.slice sa sl sc) q.cl).toArray (by rfl) (by first | rfl | kernel_rfl) HT.out ST.out.1 ST.out.2 ?_
         try simp only [Act.put])
      | fail)
    refine bodyPost_ret (v := .tuple #[.agg (reqC q.m q.t (.slice sa sl sc) q.cl).toArray, .int .i64 200]) (by have hl := HLd.out; simp [results, Tryz.results8, asAddr, Result.andThen, hl]) rfl HF.out
end Go.Proofs.YtpimfoohpfkciaaGreatDoor

/- Layer 12: Next, when a request's head has come now. No conditions but on lengths. -/
namespace Go.Proofs.YtpimfoohpfkciaaGreatDoor
open Go.RowKit Go.Shelf


set_option maxRecDepth 100000 in
set_option maxHeartbeats 3000000 in
theorem next_got {B p : Nat} {X R : List Nat} {I : InS} {w : World} (h : It B w p X R I) (hm : ML w) (hB : B ≤ w.heap.size) (hbig : 0 < B) (hok : I.ok) (hs0 : I.st = 0) (hrq : I.req = none) (hd0 : (headM I.inp).s = 0) (hgot : (headM I.inp).got = true) :
    Calls Tryz.prog 8 #[.pointer (some ⟨p, 0, none⟩)] w (NextOut B w p X R (nextI I)) := by
  have hst := next_hst hok
  have kA := (Keep.refl [] w).alloc (.cells reqZ.toArray 30)
  have bA := Blk.newA w reqZ.toArray 30
  have zst := req_st [] [] (v := .slice none 0 0) false rfl
  have H := Lib.hid h
  generalize hwA : w.alloc (.cells #[.string ⟨#[]⟩, .string ⟨#[]⟩, .slice none 0 0, .bool false] 30) = wA
  have hwA' : w.alloc (.cells reqZ.toArray 30) = wA := hwA
  have hszA : wA.heap.size = w.heap.size + 1 := by rw [← hwA']; simp
  rw [hwA'] at kA bA
  have hA := h.keep0 kA
  have NA : NxS B w p X R wA X R I := ⟨hA, kA.mono (by simp), fun x hx => .inl hx, fun x hx => .inl hx, show Blk wA w.heap.size 30 reqZ from bA⟩
  obtain ⟨a0, a1, a3, a5⟩ := hA.at_
  have HNA := Lib.hid NA
  have MA := Lib.hid (hm.keep kA (by simp))
  have ZST := Lib.hid zst
  have HW := Lib.hid (inlet_wrong hA)
  have HFl := Lib.hid (fun s wt X1 R1 J (hh : It B wt p X1 R1 J) => inlet_fail (I := J) s hh)
  have hBA : B ≤ wA.heap.size := by omega
  have hlen := hok.len
  have HOK := Lib.hid hok
  have HLO := Lib.hid h.lo
  clear h kA bA hA NA hwA' zst hm hok
  have q1 := (int_eq hs0).2
  have hN : nextI I = if (headM I.inp).s ≠ 0 then ⟨{ I with st := (headM I.inp).s }, req0, (headM I.inp).s⟩
    else if (headM I.inp).got then tailI (headed I (headM I.inp)) (headM I.inp).q else ⟨I, req0, 0⟩ := by unfold nextI; rw [if_neg (by simp [hs0]), hrq]
  have hck := (HOK.out.req hs0 hrq).1
  have HH := Lib.hid (inlet_head HNA.out.it MA.out hBA hbig (by omega) hrq hck)
  have HX2 := Lib.hid (fun c => hst (headed I (headM I.inp)) c (.inr rfl))
  have hhd := head_bounds I.inp
  have c2 := it_noReq HNA.out.it hrq
  generalize headM I.inp = hd at *
  obtain ⟨hd1, hd2, hd3, _⟩ := hhd
  clear hst
  rw [if_neg (by simp [hd0])] at hN
  rw [hgot, if_pos rfl] at hN
  rw [hN]
  rw [hd0] at HH
  have HOt' := Lib.hid (show (headed I hd).inp.length + (headed I hd).held ≤ 65536 ∧ (headed I hd).skip ≤ 65536 ∧ (∀ c, (headed I hd).chk = some c → (c.err = 0 → c.ok) ∧ c.most = 4096 ∧ c.inp.length + c.dat.length ≤ 65536 ∧ (addC c (headed I hd).inp).st ≤ 4) ∧ (headed I hd).req = some hd.q from
    ⟨by show (I.inp.drop hd.n).length + hd.n ≤ 65536; have := hd2 hgot; rw [List.length_drop]; omega, by have := hd3 hgot; show hd.skip ≤ 65536; omega, fun c hc => (by
      have h1 := HX2.out c hc
      have h2 : (if hd.ch then some (ck0 4096) else I.chk) = some c := hc
      rw [hck] at h2
      split at h2
      · cases h2; exact ⟨h1.2, rfl, by simp [ck0], h1.1⟩
      · cases h2), rfl⟩)
  clear hN hd0 hrq hs0 hck hd1 hd2 hd3 HX2
  generalize headed I hd = J at *
  generalize hd.q = q at *
  go_enter Tryz.func8, Tryz.ntmps8
  go_wp2_with fail
  refine HH.out.mono ?_
  rintro e w1 ⟨rfl, k1, _, hx1⟩
  obtain ⟨X1, R1, hi1, n1, r1⟩ := hx1 hgot
  have HN1 := Lib.hid (HNA.out.step H.out (HNA.out.it.keepX k1) hi1 n1 (fun x hx => .inr (r1 x hx)))
  have M1 := Lib.hid (MA.out.keepB hbig (HNA.out.it.keepX k1) (fun x hx => (HLO.out x hx).1))
  have hsz1 : B ≤ w1.heap.size := Nat.le_trans hBA k1.size
  clear k1 hx1 hi1 n1 r1 c2 a0 a1 a3 a5 q1 hwA HH
  obtain ⟨rb, ra, rl, rc, c2, hjunk⟩ := it_req HN1.out.it HOt'.out.2.2.2; clear hjunk
  go_wp2_with fail
  have HBd := Lib.hid (inlet_body HN1.out.it M1.out hsz1 hbig HOt'.out.1 HOt'.out.2.1 HOt'.out.2.2.1)
  have hbr := body_req J
  have hT : tailI J q = if (bodyB J).s ≠ 0 then ⟨{ (bodyB J).p with st := (bodyB J).s }, req0, (bodyB J).s⟩
    else if (bodyB J).whole then ⟨{ (bodyB J).p with req := none, held := 0 }, q, 200⟩ else ⟨(bodyB J).p, req0, 0⟩ := rfl
  generalize bodyB J = bd at *
  obtain ⟨bp, bwh, bs⟩ := bd
  dsimp only at HBd hbr hT
  have hbq : bp.req = some q := hbr.1.trans HOt'.out.2.2.2
  clear hbr c2
  refine HBd.out.mono ?_
  rintro e w5 ⟨rfl, k5, X5, hi5, n5⟩
  have HN5 := Lib.hid (HN1.out.step H.out k5 hi5 n5 (fun x hx => .inl hx))
  clear k5 hi5 n5 HBd
  by_cases hs5 : bs = 0
  case neg =>
    rw [if_pos hs5] at hT
    have q5 := (int_ne hs5).2
    clear hs5
    go_wp2_with fail
    refine (HFl.out _ _ _ _ _ HN5.out.it).mono ?_
    rintro e w6 ⟨rfl, hi2, k2⟩
    have HN2 := Lib.hid (HN5.out.step H.out (HN5.out.it.keepX k2) hi2 (fun x hx => .inl hx) (fun x hx => .inl hx))
    have HF := Lib.hid ((HN2.out.fin0 H.out bs).of hT)
    have HT := Lib.hid (HN2.out.bk.there' 0 4 (by simp [reqZ, reqC]))
    have hload := reqZ_back HT.out
    have HLd := Lib.hid hload
    clear hi2 k2 hload hT
    go_wp2_with (first
      | (with_reducible (show wpList _ _ _ ((⟨none, .store _ (.tmp 2) (.tmp 51), _, _, _, none⟩ : Oper) :: _) _ _)
         refine wpList_store_mid rfl 30 (.tmp 2) (.tmp 51) rfl w.heap.size 0 reqZ.toArray (by rfl) (by first | rfl | kernel_rfl) HT.out ZST.out.1 ZST.out.2 ?_
         try simp only [Act.put])
      | fail)
    refine bodyPost_ret (v := .tuple #[.agg reqZ.toArray, .int .i64 bs]) (by have hl := HLd.out; simp [results, Tryz.results8, asAddr, Result.andThen, hl]) rfl HF.out
  rw [if_neg (by simp [hs5])] at hT
  subst hs5
  cases bwh with
  | false =>
    rw [if_neg (by simp)] at hT
    have HF := Lib.hid ((HN5.out.fin0 H.out 0).of hT)
    have HT := Lib.hid (HN5.out.bk.there' 0 4 (by simp [reqZ, reqC]))
    have hload := reqZ_back HT.out
    have HLd := Lib.hid hload
    clear hT hload
    go_wp2_with (first
      | (with_reducible (show wpList _ _ _ ((⟨none, .store _ (.tmp 2) (.tmp 56), _, _, _, none⟩ : Oper) :: _) _ _)
         refine wpList_store_mid rfl 30 (.tmp 2) (.tmp 56) rfl w.heap.size 0 reqZ.toArray (by rfl) (by first | rfl | kernel_rfl) HT.out ZST.out.1 ZST.out.2 ?_
         try simp only [Act.put])
      | fail)
    refine bodyPost_ret (v := .tuple #[.agg reqZ.toArray, .int .i64 0]) (by have hl := HLd.out; simp [results, Tryz.results8, asAddr, Result.andThen, hl]) rfl HF.out
  | true =>
    rw [if_pos rfl] at hT
    obtain ⟨rb2, sa, sl, sc, c2, hq2, ho2, hg2, hrb2⟩ := it_req HN5.out.it hbq
    have hoff := HN5.out.off H.out
    have hbk := HN5.out.bk
    have kW := (Keep.refl [] w5).alloc (.cells (reqC q.m q.t (.slice sa sl sc) q.cl).toArray 30)
    have nW := Blk.newA w5 (reqC q.m q.t (.slice sa sl sc) q.cl).toArray 30
    have hp5 := HN5.out.it.lt
    have RNG := Lib.hid hq2.range'
    generalize hwW : w5.alloc (.cells (reqC q.m q.t (.slice sa sl sc) q.cl).toArray 30) = wW at kW nW
    have iW := HN5.out.it.keep0 kW
    have d2 : wW.cell? ⟨p, 2, none⟩ = some (.pointer (some ⟨rb2, 0, none⟩)) := kW.load c2
    have d1 := iW.at_.2.1
    have g1 := iW.free 1
    have g2 := iW.free 2
    have kP := ((Keep.refl [p] wW).setCell ⟨p, 2, none⟩ (.pointer none) (by simp)).setCell ⟨p, 1, none⟩ (.int .i64 0) (by simp)
    have hnep : w5.heap.size ≠ p := by omega
    have nP := kP.blk (show Blk wW w5.heap.size 30 (reqC q.m q.t (.slice sa sl sc) q.cl) from nW) (by simpa using hnep)
    have iP := it_unreq iW
    have HNP := Lib.hid ((HN5.out.step H.out (kW.mono (S' := X5) (by simp)) iW (fun x hx => .inl hx) (fun x hx => .inl hx)).step H.out (iW.keepX kP) iP (fun x hx => .inl hx) (by simp))
    have HT := Lib.hid (HNP.out.bk.there' 0 4 (by simp [reqZ, reqC]))
    have hload := req_back (m := q.m) (t := q.t) (v := .slice sa sl sc) (cl := q.cl) HT.out
    have HLd := Lib.hid hload
    have OP := ((ho2.keep0 kW).keep kP (fun g hg => by simp; rintro rfl; exact (HN5.out.it.ro _ (hg2 _ hg)).2.2 HN5.out.it.mem))
    have HF := Lib.hid ((HNP.out.fin H.out q (.slice sa sl sc) 200 OP (fun g hg => ⟨HN5.out.nr g (hg2 g hg), (HN5.out.it.ro g (hg2 g hg)).2.2⟩)).of hT)
    have HS1 := Lib.hid (reqC_one q.m q.t (v := .slice sa sl sc) q.cl rfl)
    have ST := Lib.hid (req_st q.m q.t (v := .slice sa sl sc) q.cl rfl)
    have RP := Lib.hid nP.range'
    clear hT hload hq2 ho2 hg2 hrb2 hoff hbk kW nW iW kP nP iP OP hp5
    go_wp2_with (first
      | (with_reducible (show wpList _ _ _ ((⟨_, .load _ (.tmp 61), _, _, _, none⟩ : Oper) :: _) _ _)
         refine wpList_load_mid rfl 30 (.tmp 61) rfl rb2 0 (by rfl) (reqC q.m q.t (.slice sa sl sc) q.cl) _ RNG.out Tryz.underlying30 rfl req_size ?_
         try simp only [Act.put, List.setIfInBounds_toArray, List.set_cons_succ, List.set_cons_zero])
      | (with_reducible (show wpList _ _ _ ((⟨none, .store _ (.tmp 7) (.tmp 62), _, _, _, none⟩ : Oper) :: _) _ _)
         refine wpList_store_fresh rfl 30 (.tmp 7) (.tmp 62) rfl _ (reqC q.m q.t (.slice sa sl sc) q.cl) (by rfl) (by rfl) req_size (by rfl) HS1.out ?_
         rw [hwW]
         try simp only [Act.put])
      | (with_reducible (show wpList _ _ _ ((⟨_, .load _ (.tmp 7), _, _, _, none⟩ : Oper) :: _) _ _)
         refine wpList_load_mid rfl 30 (.tmp 7) rfl w5.heap.size 0 (by rfl) (reqC q.m q.t (.slice sa sl sc) q.cl) _ RP.out Tryz.underlying30 rfl req_size ?_
         try simp only [Act.put, List.setIfInBounds_toArray, List.set_cons_succ, List.set_cons_zero])
      | (with_reducible (show wpList _ _ _ ((⟨none, .store _ (.tmp 2) (.tmp 69), _, _, _, none⟩ : Oper) :: _) _ _)
         refine wpList_store_mid rfl 30 (.tmp 2) (.tmp 69) rfl w.heap.size 0 (reqC q.m q.t (.slice sa sl sc) q.cl).toArray (by rfl) (by first | rfl | kernel_rfl) HT.out ST.out.1 ST.out.2 ?_
         try simp only [Act.put])
      | fail)
    refine bodyPost_ret (v := .tuple #[.agg (reqC q.m q.t (.slice sa sl sc) q.cl).toArray, .int .i64 200]) (by have hl := HLd.out; simp [results, Tryz.results8, asAddr, Result.andThen, hl]) rfl HF.out
end Go.Proofs.YtpimfoohpfkciaaGreatDoor

/- Layer 12: Next. No conditions but on lengths. -/
namespace Go.Proofs.YtpimfoohpfkciaaGreatDoor

theorem inlet_Next {B p : Nat} {X R : List Nat} {I : InS} {w : World} (h : It B w p X R I) (hm : ML w) (hB : B ≤ w.heap.size) (hbig : 0 < B) (hok : I.ok) :
    Calls Tryz.prog 8 #[.pointer (some ⟨p, 0, none⟩)] w (NextOut B w p X R (nextI I)) := by
  by_cases hs0 : I.st = 0
  · cases hrq : I.req with
    | some q => exact next_pend h hm hB hbig hok hs0 hrq
    | none =>
      by_cases hd0 : (headM I.inp).s = 0
      · cases hgot : (headM I.inp).got with
        | true => exact next_got h hm hB hbig hok hs0 hrq hd0 hgot
        | false => exact next_wait h hm hB hbig hok hs0 hrq hd0 hgot
      · exact next_wrong h hm hB hbig hok hs0 hrq hd0
  · exact next_neg h hm hB hbig hok hs0
end Go.Proofs.YtpimfoohpfkciaaGreatDoor

/- Layer 13: laid: a head that is written. No conditions but on lengths. -/
namespace Go.Proofs.YtpimfoohpfkciaaGreatDoor
open Go.RowKit Go.Shelf

def fin (l : List UInt8) (e : Int) : Value := .tuple #[.string (S l), .int .i64 e]
theorem laid_many {st : List UInt8} {L : List Fld} (h : 32 < L.length) : laidE st L = 1 ∧ laidS st L = [] := by
  have h0 : laidOk L = false := by unfold laidOk; simp; omega
  have h1 : laidE st L = 1 := by unfold laidE; rw [h0]; rfl
  exact ⟨h1, by unfold laidS; rw [h1]; rfl⟩
theorem laid_bad {st : List UInt8} {L : List Fld} {x : Fld} (hx : x ∈ L) (hg : goodF x = false) : laidE st L = 1 ∧ laidS st L = [] := by
  have h0 : laidOk L = false := by
    unfold laidOk
    rw [show L.all goodF = false from by rw [List.all_eq_false]; exact ⟨x, hx, by simp [hg]⟩, Bool.and_false]
  have h1 : laidE st L = 1 := by unfold laidE; rw [h0]; rfl
  exact ⟨h1, by unfold laidS; rw [h1]; rfl⟩
theorem laid_good {st : List UInt8} {L : List Fld} (h : L.length ≤ 32) (hg : L.all goodF = true) : laidE st L = (if (headT st L).length ≤ 4096 then 0 else 4) ∧ laidS st L = (if (headT st L).length ≤ 4096 then headT st L else []) := by
  have h0 : laidOk L = true := by unfold laidOk; rw [hg]; simp [h]
  have h1 : laidE st L = (if (headT st L).length ≤ 4096 then 0 else 4) := by unfold laidE; rw [h0]; rfl
  refine ⟨h1, ?_⟩
  unfold laidS
  rw [h1]
  by_cases h2 : (headT st L).length ≤ 4096
  · rw [if_pos h2, if_pos h2, if_pos rfl]
  · rw [if_neg h2, if_neg h2, if_neg (by decide)]
theorem body_take {L : List Fld} {k : Nat} {x : Fld} (h : L[k]? = some x) : bodyT (L.take (k + 1)) = bodyT (L.take k) ++ (printF x ++ [13, 10]) := by
  have e : L.take (k + 1) = L.take k ++ [x] := by rw [List.take_add_one, h]; rfl
  rw [e]
  simp [bodyT]

set_option maxRecDepth 100000 in
set_option maxHeartbeats 2000000 in
theorem outlet_laid (st : List UInt8) (va : Value) (L : List Fld) (w : World) (ha : Sl Fld.cells 2 w va L) (hg : L.length ≤ 32 → ∀ x ∈ L, x.name.length + x.value.length ≤ 1048576) (hst : st.length ≤ 1048576) :
    Calls Tryz.prog 31 #[.string (S st), va] w fun e w' => e = .returned (fin (laidS st L) (laidE st L)) ∧ Keep [] w w' := by
  obtain ⟨aa, ca, rfl, hal⟩ := ha.shape
  have hal' : L.length ≤ 9223372036854775807 := hal
  by_cases h32 : 32 < L.length
  · have h := laid_many (st := st) h32
    have HX := Lib.hid h
    clear h ha hg
    go_enter Tryz.func31, Tryz.ntmps31
    go_wp2_with fail
    go_ret2
    exact ⟨by rw [HX.out.1, HX.out.2]; rfl, Keep.refl _ _⟩
  · have hst2 : S st ++ ⟨#[13, 10]⟩ = S (st ++ [13, 10]) := S_append st [13, 10]
    have hsz := S_size st
    have HG := Lib.hid (hg (by omega))
    have HA := Lib.hid ha
    have hB := Lib.hid (bld_new (Keep.refl [] w))
    clear ha hg hal
    go_enter Tryz.func31, Tryz.ntmps31
    go_wp2_with fail
    refine (bld_write hB.out (st ++ [13, 10]) (by simp; omega)).mono ?_
    rintro e w1 ⟨rfl, hb1⟩
    rw [List.nil_append] at hb1
    have HB := Lib.hid hb1
    clear hb1 hB hst2
    go_wp2_with fail
    generalize w.heap.size = b at HB
    go_loopg [17] L.length (fun g i wr => ∃ (k : Nat) (T : List UInt8), i = .int .i64 k ∧ k ≤ L.length ∧ g = L.length - k ∧ T.length ≤ 1048578 + k * 1048580 ∧ Hid (T = st ++ [13, 10] ++ bodyT (L.take k) ∧ (L.take k).all goodF = true) ∧ Hid (Bld w wr b T))
    case atStart => exact ⟨0, st ++ [13, 10], rfl, Nat.zero_le _, by omega, by simp; omega, Lib.hid ⟨by simp [bodyT], by simp⟩, HB⟩
    case round =>
      obtain ⟨k, T, rfl, hk, hgk, hT, HE, HB⟩ := hrel
      by_cases hlt : k < L.length
      · obtain ⟨x, hx⟩ : ∃ x, L[k]? = some x := ⟨_, List.getElem?_eq_getElem hlt⟩
        have hxl := HG.out x (List.mem_of_getElem? hx)
        have har := HA.out.keep Fld.cells_length (by omega) HA.out HB.out.kept (by simp) (Nat.le_refl _)
        obtain ⟨ba, oa, ca', hva, _, hca, hcell⟩ := har.cell hx
        cases hva
        have hc0 := hcell 0 (by omega)
        have hc1 := hcell 1 (by omega)
        simp only [Fld.cells, List.getElem?_cons_zero, List.getElem?_cons_succ, Nat.add_zero] at hc0 hc1
        have hca' : ca ≤ 9223372036854775807 := hca
        have hGd := fun w1 => field_Good x w1 (show x.name.length ≤ 9223372036854775807 by omega) (show x.value.length ≤ 9223372036854775807 by omega)
        have HX := Lib.hid hx
        have hkA := (Keep.refl [] wr).alloc (.cells #[.string (S x.name), .string (S x.value)] 40)
        have hbA : Blk (wr.alloc (.cells #[.string (S x.name), .string (S x.value)] 40)) wr.heap.size 40 x.cells := Blk.newA wr _ _
        have HKA := Lib.hid (And.intro hkA hbA)
        clear hcell hx har hca hkA hbA
        cases hgx : goodF x with
        | false =>
          rw [hgx] at hGd
          have HGd := Lib.hid hGd
          have HF := Lib.hid (laid_bad (st := st) (List.mem_of_getElem? HX.out) hgx)
          clear hGd hgx
          go_wp2_with fail
          refine (HGd.out _).mono ?_
          rintro e w2 ⟨rfl, hk2⟩
          have HK2 := Lib.hid ((HB.out.kept.trans HKA.out.1).trans hk2)
          clear hk2
          go_wp2_with fail
          go_ret2
          exact ⟨by rw [HF.out.1, HF.out.2]; rfl, HK2.out⟩
        | true =>
          rw [hgx] at hGd
          have HGd := Lib.hid hGd
          have HPr := Lib.hid (fun w1 => field_Print x w1 (by omega))
          have hcat : S (printF x) ++ ⟨#[13, 10]⟩ = S (printF x ++ [13, 10]) := S_append _ [13, 10]
          have sP := S_size (printF x)
          have lP : (printF x).length ≤ 1048578 := by simp [printF]; omega
          have HGX := Lib.hid hgx
          clear hGd hgx
          go_wp2_with fail
          refine (HGd.out _).mono ?_
          rintro e w2 ⟨rfl, hk2⟩
          have HB2 := Lib.hid ((HB.out.keep0 HKA.out.1).keep0 hk2)
          have hb2 := hk2.blk HKA.out.2 (by simp)
          have d0 := hb2.get (k := 0) rfl
          have d1 := hb2.get (k := 1) rfl
          clear hk2 hb2
          go_wp2_with fail
          refine (HPr.out _).mono ?_
          rintro e w3 ⟨rfl, hk3⟩
          have HB3 := Lib.hid (HB2.out.keep0 hk3)
          clear hk3 d0 d1
          go_wp2_with fail
          refine (bld_write HB3.out (printF x ++ [13, 10]) (by simp; omega)).mono ?_
          rintro e w4 ⟨rfl, hb4⟩
          have HB4 := Lib.hid hb4
          clear hb4 hcat
          go_wp2_with fail
          go_roundg (L.length - (k + 1))
          case measure => omega
          case rel =>
            refine ⟨k + 1, T ++ (printF x ++ [13, 10]), by go_num, by omega, rfl, by simp; omega, Lib.hid ⟨?_, ?_⟩, HB4⟩
            · rw [body_take HX.out, HE.out.1]; simp
            · rw [show L.take (k + 1) = L.take k ++ [x] from by rw [List.take_add_one, HX.out]; rfl, List.all_append, HE.out.2]; simp [HGX.out]
      · have hkl : k = L.length := by omega
        have hE := HE.out
        rw [hkl, List.take_length] at hE
        have hhd : T ++ [13, 10] = headT st L := by unfold headT; rw [hE.1]
        have hlay := laid_good (st := st) (show L.length ≤ 32 by omega) hE.2
        rw [← hhd] at hlay
        have HL := Lib.hid hlay
        have hT' : (T ++ [13, 10]).length ≤ 70000000 := by simp; omega
        clear hE hhd hlay HE
        go_wp2_with fail
        refine (bld_write HB.out [13, 10] (by simp; omega)).mono ?_
        rintro e w2 ⟨rfl, hb2⟩
        have HB2 := Lib.hid hb2
        clear hb2
        generalize T ++ [13, 10] = H at HL HB2 hT'
        go_wp2_with fail
        refine (bld_len HB2.out).mono ?_
        rintro e w3 ⟨rfl, rfl⟩
        by_cases h4 : H.length ≤ 4096
        · have h4' : decide (4096 < ((H.length : Nat) : Int)) = false := by simp; omega
          have hl := HL.out
          rw [if_pos h4, if_pos h4] at hl
          have HL := Lib.hid hl
          clear hl h4
          go_wp2_with fail
          refine (bld_string HB2.out).mono ?_
          rintro e w4 ⟨rfl, hk4⟩
          go_wp2_with fail
          go_ret2
          exact ⟨by rw [HL.out.1, HL.out.2]; rfl, hk4⟩
        · have h4' : decide (4096 < ((H.length : Nat) : Int)) = true := by simp; omega
          have hl := HL.out
          rw [if_neg h4, if_neg h4] at hl
          have HL := Lib.hid hl
          clear hl h4
          go_wp2_with fail
          go_ret2
          exact ⟨by rw [HL.out.1, HL.out.2]; rfl, HB2.out.kept⟩
end Go.Proofs.YtpimfoohpfkciaaGreatDoor

/- Layer 13: Answer, Ask: the program's; the document's laid, Answer. No conditions but on lengths and the library's table. -/
namespace Go.Proofs.YtpimfoohpfkciaaGreatDoor
open Go.RowKit Go.Shelf

theorem Sl.keep0 {α : Type} {enc : α → List Value} {n : Nat} {w w' : World} {v : Value} {L : List α} (h : Sl enc n w v L) (hn : ∀ x, (enc x).length = n) (h0 : 0 < n) (k : Keep [] w w') : Sl enc n w' v L := h.keep hn h0 h k (by simp) (Nat.le_refl _)
/-- 'HTTP/1.1 ' -/
def protSp : List UInt8 := [72, 84, 84, 80, 47, 49, 46, 49, 32]
theorem ans_no {s : Int} {L : List Fld} (h : statOk s = false) : ansE s L = 1 ∧ ansS s L = [] := by unfold ansE ansS; rw [h]; exact ⟨rfl, rfl⟩
theorem ans_yes {s : Int} {L : List Fld} (h : statOk s = true) : ansE s L = laidE (stOf s) L ∧ ansS s L = laidS (stOf s) L := by unfold ansE ansS; rw [h]; exact ⟨rfl, rfl⟩
theorem fin_ext {l : List UInt8} {e : Int} {x y : Value} (h1 : x = .string (S l)) (h2 : y = .int .i64 e) : Ending.returned (.tuple #[x, y]) = Ending.returned (fin l e) := by subst h1 h2; rfl

set_option maxRecDepth 100000 in
set_option maxHeartbeats 1000000 in
theorem outlet_Answer (s : Int) (va : Value) (L : List Fld) (w : World) (hs : in64 s) (hp : P10 w) (ha : Sl Fld.cells 2 w va L) (hg : L.length ≤ 32 → ∀ x ∈ L, x.name.length + x.value.length ≤ 1048576) :
    Calls Tryz.prog 28 #[.int .i64 s, va] w fun e w' => e = .returned (fin (ansS s L) (ansE s L)) ∧ Keep [] w w' := by
  by_cases h1 : s < 100
  · have HX := Lib.hid (ans_no (s := s) (L := L) (by unfold statOk; simp; omega))
    clear ha hg hp
    go_enter Tryz.func28, Tryz.ntmps28
    go_wp2_with fail
    go_ret2
    exact ⟨by rw [HX.out.1, HX.out.2]; rfl, Keep.refl _ _⟩
  · by_cases h2 : 599 < s
    · have HX := Lib.hid (ans_no (s := s) (L := L) (by unfold statOk; simp; omega))
      have h2' : decide (s > 599) = true := by simp; omega
      clear ha hg hp h2
      go_enter Tryz.func28, Tryz.ntmps28
      go_wp2_with fail
      go_ret2
      exact ⟨by rw [HX.out.1, HX.out.2]; rfl, Keep.refl _ _⟩
    · have HX := Lib.hid (ans_yes (s := s) (L := L) (by unfold statOk; simp; omega))
      have h2' : decide (s > 599) = false := by simp; omega
      have h1' : decide (s < 100) = false := by simp; omega
      have hst : stOf s = protSp ++ Lib.itoa s ++ [32] ++ reasonM s := rfl
      have hlen := stOf_len s hs
      have HD := Lib.hid (hexa_Dec s w hs hp)
      have HR := Lib.hid (fun w' => outlet_Reason s w')
      have li := itoa_len s hs
      have lr := reason_len s
      generalize stOf s = st at *
      generalize Lib.itoa s = ia at *
      generalize reasonM s = re at *
      have q1 : (⟨#[72, 84, 84, 80, 47, 49, 46, 49, 32]⟩ : ByteArray) ++ S ia = S (protSp ++ ia) := S_append protSp ia
      have q2 : S (protSp ++ ia) ++ (⟨#[32]⟩ : ByteArray) = S (protSp ++ ia ++ [32]) := S_append _ [32]
      have q3 : S (protSp ++ ia ++ [32]) ++ S re = S st := by rw [S_append, hst]
      have t1 : (protSp ++ ia).length = 9 + ia.length := by simp [protSp]; omega
      have t2 : (protSp ++ ia ++ [32]).length = 10 + ia.length := by simp [protSp]; omega
      generalize protSp ++ ia ++ [32] = x2 at *
      generalize protSp ++ ia = x1 at *
      have s1 := S_size ia
      have s2 := S_size re
      have s3 := S_size x1
      have s4 := S_size x2
      have HL := Lib.hid (fun w' (k : Keep [] w w') => outlet_laid st va L w' (ha.keep0 Fld.cells_length (by omega) k) hg (by omega))
      clear ha hg hp h1 h2 hst
      go_enter Tryz.func28, Tryz.ntmps28
      go_wp2_with fail
      refine HD.out.mono ?_
      rintro e w1 ⟨rfl, k1⟩
      go_wp2_with fail
      refine (HR.out _).mono ?_
      rintro e w2 ⟨rfl, rfl⟩
      go_wp2_with fail
      refine (HL.out _ k1).mono ?_
      rintro e w3 ⟨rfl, k3⟩
      unfold fin
      go_wp2_with fail
      go_ret2
      exact ⟨by rw [HX.out.1, HX.out.2]; rfl, k1.trans k3⟩

theorem ask_no {m t : List UInt8} {L : List Fld} (h : askOk m t = false) : askE m t L = 1 ∧ askS m t L = [] := by unfold askE askS; rw [h]; exact ⟨rfl, rfl⟩
theorem ask_yes {m t : List UInt8} {L : List Fld} (h : askOk m t = true) : askE m t L = laidE (askT m t) L ∧ askS m t L = laidS (askT m t) L := by unfold askE askS; rw [h]; exact ⟨rfl, rfl⟩

set_option maxRecDepth 100000 in
set_option maxHeartbeats 1000000 in
theorem outlet_Ask (m t : List UInt8) (va : Value) (L : List Fld) (w : World) (hm : ML w) (hl : m.length + t.length ≤ 1048000) (ha : Sl Fld.cells 2 w va L) (hg : L.length ≤ 32 → ∀ x ∈ L, x.name.length + x.value.length ≤ 1048576) :
    Calls Tryz.prog 14 #[.string (S m), .string (S t), va] w fun e w' => e = .returned (fin (askS m t L) (askE m t L)) ∧ Keep [] w w' := by
  have hst : askT m t = m ++ [32] ++ t ++ [32] ++ protB := rfl
  have hok : askOk m t = (decide ((lnM (askT m t)).s = 200) && decide ((askT m t).length ≤ 1024)) := rfl
  have hno := ask_no (m := m) (t := t) (L := L)
  have hyes := ask_yes (m := m) (t := t) (L := L)
  have hlen : (askT m t).length = m.length + t.length + 10 := by rw [hst]; simp [protB]; omega
  have HLi := Lib.hid (inlet_Line (askT m t) w hm (by omega))
  have HL := Lib.hid (fun w' (k : Keep [] w w') => outlet_laid (askT m t) va L w' (ha.keep0 Fld.cells_length (by omega) k) hg (by omega))
  generalize askE m t L = ae at *
  generalize askS m t L = av at *
  generalize askOk m t = ok at *
  generalize askT m t = st at *
  have q1 : S m ++ (⟨#[32]⟩ : ByteArray) = S (m ++ [32]) := S_append _ [32]
  have q2 : S (m ++ [32]) ++ S t = S (m ++ [32] ++ t) := S_append _ _
  have q3 : S (m ++ [32] ++ t) ++ (⟨#[32]⟩ : ByteArray) = S (m ++ [32] ++ t ++ [32]) := S_append _ [32]
  have q4 : S (m ++ [32] ++ t ++ [32]) ++ (⟨#[72, 84, 84, 80, 47, 49, 46, 49]⟩ : ByteArray) = S st := by rw [hst]; exact S_append _ protB
  have t1 : (m ++ [32]).length = m.length + 1 := by simp
  have t2 : (m ++ [32] ++ t).length = m.length + t.length + 1 := by simp; omega
  have t3 : (m ++ [32] ++ t ++ [32]).length = m.length + t.length + 2 := by simp; omega
  generalize m ++ [32] ++ t ++ [32] = x3 at *
  generalize m ++ [32] ++ t = x2 at *
  generalize m ++ [32] = x1 at *
  have s0 := S_size m
  have s1 := S_size t
  have s2 := S_size x1
  have s3 := S_size x2
  have s4 := S_size x3
  have s5 := S_size st
  generalize lnM st = R at *
  obtain ⟨rm, rt, rv, rs⟩ := R
  dsimp only at hok
  unfold Ln.out at HLi
  dsimp only at HLi
  clear ha hg hst
  by_cases h2 : rs = 200
  · have h2' := (int_eq h2).2
    by_cases h3 : st.length ≤ 1024
    · have h3' : decide (((st.length : Nat) : Int) > 1024) = false := by simp; omega
      have HX := Lib.hid (hyes (by rw [hok]; simp [h2, h3]))
      clear hok hno hyes h2 h3 hlen
      go_enter Tryz.func14, Tryz.ntmps14
      go_wp2_with fail
      refine HLi.out.mono ?_
      rintro e w1 ⟨rfl, k1⟩
      go_wp2_with fail
      refine (HL.out _ k1).mono ?_
      rintro e w3 ⟨rfl, k3⟩
      unfold fin
      go_wp2_with fail
      go_ret2
      exact ⟨by rw [HX.out.1, HX.out.2]; rfl, k1.trans k3⟩
    · have h3' : decide (((st.length : Nat) : Int) > 1024) = true := by simp; omega
      have HX := Lib.hid (hno (by rw [hok]; simp [h3]))
      clear hok hno hyes h2 h3 hlen
      go_enter Tryz.func14, Tryz.ntmps14
      go_wp2_with fail
      refine HLi.out.mono ?_
      rintro e w1 ⟨rfl, k1⟩
      go_wp2_with fail
      go_ret2
      exact ⟨by rw [HX.out.1, HX.out.2]; rfl, k1⟩
  · have h2' := (int_ne h2).2
    have HX := Lib.hid (hno (by rw [hok]; simp [h2]))
    clear hok hno hyes h2 hlen
    go_enter Tryz.func14, Tryz.ntmps14
    go_wp2_with fail
    refine HLi.out.mono ?_
    rintro e w1 ⟨rfl, k1⟩
    go_wp2_with fail
    go_ret2
    exact ⟨by rw [HX.out.1, HX.out.2]; rfl, k1⟩
end Go.Proofs.YtpimfoohpfkciaaGreatDoor

/- Layer 13: the document's laid, Answer. No conditions but on lengths. -/
namespace Go.Proofs.YtpimfoohpfkciaaGreatDoor
open Go.RowKit Go.Shelf

end Go.Proofs.YtpimfoohpfkciaaGreatDoor

/- Layer 12, the document's Line; layer 13, the document's Answer, Ask. No conditions but on lengths. -/
namespace Go.Proofs.YtpimfoohpfkciaaGreatDoor
open Go.RowKit Go.Shelf

theorem cut_at {l : List UInt8} {c : UInt8} {k : Nat} (h : Lib.indexByte l c = (k : Nat)) : Lib.cut l [c] = (l.take k, l.drop (k + 1), true) := by
  unfold Lib.cut
  rw [Lib.index_one, h, if_pos (by omega)]
  simp
theorem cut_none {l : List UInt8} {c : UInt8} (h : Lib.indexByte l c = -1) : (Lib.cut l [c]).2.2 = false := by
  unfold Lib.cut
  rw [Lib.index_one, h, if_neg (by decide)]
def lnBad : Ln := ⟨[], [], 0, 400⟩
theorem ln_k {l : List UInt8} (h : Lib.indexByte l 32 = -1) : lnM l = lnBad := ln_no (by rw [cut_none h]; rfl)
theorem ln_tok {l : List UInt8} {k : Nat} (h : Lib.indexByte l 32 = (k : Nat)) (ht : isTok (l.take k) = false) : lnM l = lnBad := ln_no (by rw [cut_at h]; simp [ht])
theorem ln_n {l : List UInt8} {k : Nat} (h : Lib.indexByte l 32 = (k : Nat)) (hn : Lib.indexByte (l.drop (k + 1)) 32 = -1) : lnM l = lnBad := ln_no (by rw [cut_at h]; simp [cut_none hn])
theorem ln_tgt {l : List UInt8} {k n : Nat} (h : Lib.indexByte l 32 = (k : Nat)) (hn : Lib.indexByte (l.drop (k + 1)) 32 = (n : Nat)) (ht : isTgt ((l.drop (k + 1)).take n) = false) : lnM l = lnBad := ln_no (by rw [cut_at h]; simp only; rw [cut_at hn]; simp [ht])
theorem ln_min {l : List UInt8} {k n : Nat} (h : Lib.indexByte l 32 = (k : Nat)) (hn : Lib.indexByte (l.drop (k + 1)) 32 = (n : Nat)) (hm : minS ((l.drop (k + 1)).drop (n + 1)) = 400) : lnM l = lnBad := by
  by_cases hb : (isTok (l.take k) && isTgt ((l.drop (k + 1)).take n)) = true
  · rw [ln_yes (by rw [cut_at h]; simp only; rw [cut_at hn]; simpa using hb)]
    rw [cut_at h]
    simp only
    rw [cut_at hn]
    simp only [hm]
    rfl
  · exact ln_no (by rw [cut_at h]; simp only; rw [cut_at hn]; simpa using hb)
theorem ln_all {l : List UInt8} {k n : Nat} (h : Lib.indexByte l 32 = (k : Nat)) (hn : Lib.indexByte (l.drop (k + 1)) 32 = (n : Nat)) (ht : isTok (l.take k) = true) (hg : isTgt ((l.drop (k + 1)).take n) = true) :
    lnM l = if minS ((l.drop (k + 1)).drop (n + 1)) = 200 then ⟨l.take k, (l.drop (k + 1)).take n, minV ((l.drop (k + 1)).drop (n + 1)), 200⟩ else ⟨[], [], 0, minS ((l.drop (k + 1)).drop (n + 1))⟩ := by
  rw [ln_yes (by rw [cut_at h]; simp only; rw [cut_at hn]; simp [ht, hg])]
  rw [cut_at h]
  simp only
  rw [cut_at hn]
theorem min_http {l : List UInt8} (h : l.take 5 ≠ httpB) : minS l = 400 := (ver_no (.inl (by rw [take5_prefix]; simp [h]))).1
theorem min_len {l : List UInt8} (h : l.length ≠ 8) : minS l = 400 := (ver_no (.inr h)).1

set_option maxRecDepth 100000 in
set_option maxHeartbeats 2000000 in
theorem ref12_Line (l : List UInt8) (w : World) (hl : l.length ≤ 1048576) :
    Calls Tryz.prog 23 #[.string (S l)] w fun e w' => e = .returned (lnM l).out ∧ Keep [] w w' := by
  have hsz := S_size l
  have hF := Lib.hid (fun w1 => ref_Find l 32 w1 (show l.length ≤ 9223372036854775807 by omega))
  have hge := Lib.indexByte_ge l 32
  by_cases hk : Lib.indexByte l 32 = -1
  · have HX := Lib.hid (ln_k hk)
    rw [hk] at hF
    clear hk hge
    go_enter Tryz.func23, Tryz.ntmps23
    go_wp2_with fail
    refine (hF.out _).mono ?_
    rintro e w1 ⟨rfl, rfl⟩
    go_wp2_with fail
    refine bodyPost_ret (res4 rfl _ _ _) rfl ⟨?_, Keep.refl _ _⟩
    rw [HX.out]
    rfl
  · obtain ⟨k, hk'⟩ : ∃ k : Nat, Lib.indexByte l 32 = k := ⟨(Lib.indexByte l 32).toNat, by omega⟩
    rw [hk'] at hF
    have hkl : k < l.length := (List.getElem?_eq_some_iff.1 (Lib.indexByte_some hk').1).1
    have hx1 : (S l).extract 0 k = S (l.take k) := by rw [S_extract]; simp
    have hx2 : (S l).extract (k + 1) l.length = S (l.drop (k + 1)) := by rw [S_extract, List.take_of_length_le (Nat.le_refl _)]
    have hT := Lib.hid (fun w1 => ref_IsToken (l.take k) w1 (by show _ ≤ 9223372036854775807; simp; omega))
    cases htk : isTok (l.take k) with
    | false =>
      rw [htk] at hT
      have HX := Lib.hid (ln_tok hk' htk)
      clear hk hk' hge htk
      go_enter Tryz.func23, Tryz.ntmps23
      go_wp2_with fail
      refine (hF.out _).mono ?_
      rintro e w1 ⟨rfl, rfl⟩
      go_wp2_with fail
      refine (hT.out _).mono ?_
      rintro e w1 ⟨rfl, rfl⟩
      go_wp2_with fail
      refine bodyPost_ret (res4 rfl _ _ _) rfl ⟨?_, Keep.refl _ _⟩
      rw [HX.out]
      rfl
    | true =>
      rw [htk] at hT
      have hF2 := Lib.hid (fun w1 => ref_Find (l.drop (k + 1)) 32 w1 (by show _ ≤ 9223372036854775807; simp; omega))
      have hge2 := Lib.indexByte_ge (l.drop (k + 1)) 32
      have hrl : (l.drop (k + 1)).length ≤ 1048576 := by simp; omega
      by_cases hn : Lib.indexByte (l.drop (k + 1)) 32 = -1
      · have HX := Lib.hid (ln_n hk' hn)
        rw [hn] at hF2
        have hsr := S_size (l.drop (k + 1))
        generalize l.drop (k + 1) = r at *
        clear hk hk' hge hge2 htk hn
        go_enter Tryz.func23, Tryz.ntmps23
        go_wp2_with fail
        refine (hF.out _).mono ?_
        rintro e w1 ⟨rfl, rfl⟩
        go_wp2_with fail
        refine (hT.out _).mono ?_
        rintro e w1 ⟨rfl, rfl⟩
        go_wp2_with fail
        refine (hF2.out _).mono ?_
        rintro e w1 ⟨rfl, rfl⟩
        go_wp2_with fail
        refine bodyPost_ret (res4 rfl _ _ _) rfl ⟨?_, Keep.refl _ _⟩
        rw [HX.out]
        rfl
      · obtain ⟨n, hn'⟩ : ∃ n : Nat, Lib.indexByte (l.drop (k + 1)) 32 = n := ⟨(Lib.indexByte (l.drop (k + 1)) 32).toNat, by omega⟩
        rw [hn'] at hF2
        have hnl : n < (l.drop (k + 1)).length := (List.getElem?_eq_some_iff.1 (Lib.indexByte_some hn').1).1
        by_cases hn0 : n = 0
        · have HX := Lib.hid (ln_tgt hk' hn' (by subst hn0; simp [isTgt]))
          have hn1 : decide ((n : Int) < 1) = true := by simp; omega
          have hsr := S_size (l.drop (k + 1))
          generalize l.drop (k + 1) = r at *
          clear hk hk' hge hge2 htk hn hn' hn0
          go_enter Tryz.func23, Tryz.ntmps23
          go_wp2_with fail
          refine (hF.out _).mono ?_
          rintro e w1 ⟨rfl, rfl⟩
          go_wp2_with fail
          refine (hT.out _).mono ?_
          rintro e w1 ⟨rfl, rfl⟩
          go_wp2_with fail
          refine (hF2.out _).mono ?_
          rintro e w1 ⟨rfl, rfl⟩
          go_wp2_with fail
          refine bodyPost_ret (res4 rfl _ _ _) rfl ⟨?_, Keep.refl _ _⟩
          rw [HX.out]
          rfl
        · have hn1 : decide ((n : Int) < 1) = false := by simp; omega
          have hlm := @ln_min l k n hk' hn'
          have hlt := @ln_tgt l k n hk' hn'
          have hla := @ln_all l k n hk' hn' htk
          have hsr := S_size (l.drop (k + 1))
          generalize lnM l = R at *
          generalize l.take k = xm at *
          generalize l.drop (k + 1) = r at *
          clear hk hk' hge hge2 htk hn hn'
          have hw0 := IntWalk.i64_in ((k : Int) + 1) (by omega)
          have hw1 := IntWalk.i64_in ((r.length : Int) - (n : Int)) (by omega)
          by_cases h9 : r.length - n = 9
          · have h9' : (r.length : Int) - (n : Int) = 9 := by omega
            have h9q := (int_eq h9').2
            have hx5 : (S r).extract (n + 1) (n + 6) = S ((r.drop (n + 1)).take 5) := by
              rw [S_extract, List.drop_take]
              congr 2
              omega
            by_cases h5 : (r.drop (n + 1)).take 5 = httpB
            · obtain ⟨a, p, c, hapc⟩ : ∃ a p c, r.drop (n + 1) = httpB ++ [a, p, c] := by
                have h8 : ((r.drop (n + 1)).drop 5).length = 3 := by simp; omega
                have e := List.take_append_drop 5 (r.drop (n + 1))
                rw [h5] at e
                generalize (r.drop (n + 1)).drop 5 = y at h8 e
                match y, h8 with
                | [a, p, c], _ => exact ⟨a, p, c, e.symm⟩
              have ga : r[n + 6]? = some a := by
                have : (r.drop (n + 1))[5]? = some a := by rw [hapc]; rfl
                rw [List.getElem?_drop] at this
                exact this
              have gp : r[n + 7]? = some p := by
                have : (r.drop (n + 1))[6]? = some p := by rw [hapc]; rfl
                rw [List.getElem?_drop] at this
                exact this
              have gc : r[n + 8]? = some c := by
                have : (r.drop (n + 1))[7]? = some c := by rw [hapc]; rfl
                rw [List.getElem?_drop] at this
                exact this
              obtain ⟨hms, hmv⟩ := ver_of a p c
              rw [← hapc] at hms hmv
              have q5 : ((r.drop (n + 1)).take 5 == [72, 84, 84, 80, 47]) = true := by rw [h5]; rfl
              generalize minS (r.drop (n + 1)) = ms at *
              generalize minV (r.drop (n + 1)) = mv at *
              generalize (r.drop (n + 1)).take 5 = x5 at *
              have hs5 := S_toList x5
              have ia := S_get ga
              have ip := S_get gp
              have ic := S_get gc
              have ca := u8_nat a
              have cp := u8_nat p
              have cc := u8_nat c
              have hw2 := IntWalk.i64_in ((n : Int) + 1) (by omega)
              have hw3 := IntWalk.i64_in ((n : Int) + 6) (by omega)
              have hw4 := IntWalk.i64_in ((n : Int) + 7) (by omega)
              have hw5 := IntWalk.i64_in ((n : Int) + 8) (by omega)
              have b1 : (n : Int) + 6 ≤ (r.length : Int) := by omega
              have b2 : (0 : Int) ≤ (n : Int) + 1 := by omega
              have b3 : (n : Int) + 1 ≤ (n : Int) + 6 := by omega
              have b0 : (0 : Int) ≤ (n : Int) + 6 := by omega
              have b4 : (n : Int) + 6 < (r.length : Int) := by omega
              have b5 : (n : Int) + 7 < (r.length : Int) := by omega
              have b6 : (n : Int) + 8 < (r.length : Int) := by omega
              have b7 : (0 : Int) ≤ (n : Int) + 7 := by omega
              have b8 : (0 : Int) ≤ (n : Int) + 8 := by omega
              clear hapc h9 h9' h5 ga gp gc
              by_cases hp : p = 46
              · have hpb : (p == 46) = true := by simp [hp]
                have hpn : ((p.toNat : Nat) : Int) = 46 := by rw [hp]; rfl
                have hpq := (int_eq hpn).2
                rw [hpb, Bool.and_true] at hms hmv
                have HMS := Lib.hid (And.intro hms hmv)
                have HLT := Lib.hid hlt
                have HLA := Lib.hid hla
                clear hp hpb hpn hms hmv hlm hlt hla
                go_enter Tryz.func23, Tryz.ntmps23
                go_wp2_with fail
                refine (hF.out _).mono ?_
                rintro e w1 ⟨rfl, rfl⟩
                go_wp2_with fail
                refine (hT.out _).mono ?_
                rintro e w1 ⟨rfl, rfl⟩
                go_wp2_with fail
                refine (hF2.out _).mono ?_
                rintro e w1 ⟨rfl, rfl⟩
                go_wp2_with fail
                clear hx5 hs5 q5 ip hpq cp
                go_loopg [9] n (fun g i wr => ∃ j : Nat, i = .int .i64 j ∧ j ≤ n ∧ g = n - j ∧ w = wr ∧ Hid ((r.take j).all tgtB = true))
                case atStart => exact ⟨0, rfl, Nat.zero_le _, by omega, rfl, by simp [Hid]⟩
                case round =>
                  obtain ⟨j, rfl, hj, hgj, rfl, hall⟩ := hrel
                  by_cases hlt : j < n
                  · obtain ⟨d, hd⟩ : ∃ d, r[j]? = some d := ⟨_, List.getElem?_eq_getElem (by omega)⟩
                    have id := S_get hd
                    have cd := u8_nat d
                    have j0 : (0 : Int) ≤ (j : Int) := by omega
                    have j1 : (j : Int) < (r.length : Int) := by omega
                    have HD := Lib.hid hd
                    clear hd
                    by_cases ht : tgtB d = true
                    · have h1 : 33 ≤ d.toNat ∧ d.toNat ≤ 126 := by simpa [tgtB] using ht
                      have h2 : ¬ d.toNat < 33 := by omega
                      have h3 : ¬ 126 < d.toNat := by omega
                      have HT := Lib.hid ht
                      have hkw := IntWalk.i64_in ((j : Int) + 1) (by omega)
                      clear ht h1
                      go_wp2_with fail
                      go_roundg (n - (j + 1))
                      case measure => omega
                      case rel => exact ⟨j + 1, by go_num, by omega, rfl, rfl, by rw [Hid, take_snoc HD.out, List.all_append, hall.out]; simp [HT.out]⟩
                    · have hbad : isTgt (r.take n) = false := by
                        unfold isTgt
                        rw [show (r.take n).all tgtB = false from by rw [List.all_eq_false]; exact ⟨d, List.mem_of_getElem? (i := j) (by rw [List.getElem?_take_of_lt hlt]; exact HD.out), ht⟩]
                        rfl
                      have HX := Lib.hid (HLT.out hbad)
                      by_cases h2 : d.toNat < 33
                      · clear ht hbad
                        go_wp2_with fail
                        refine bodyPost_ret (res4 rfl _ _ _) rfl ⟨?_, Keep.refl _ _⟩
                        rw [HX.out]
                        rfl
                      · have h3 : 126 < d.toNat := by
                          simp [tgtB] at ht
                          omega
                        clear ht hbad
                        go_wp2_with fail
                        refine bodyPost_ret (res4 rfl _ _ _) rfl ⟨?_, Keep.refl _ _⟩
                        rw [HX.out]
                        rfl
                  · have hjn : j = n := by omega
                    have hgt : isTgt (r.take n) = true := by
                      unfold isTgt
                      rw [← hjn, hall.out]
                      have : r.take j ≠ [] := by
                        intro e
                        have := congrArg List.length e
                        rw [List.length_take, List.length_nil] at this
                        omega
                      cases hq : r.take j with
                      | nil => exact absurd hq this
                      | cons _ _ => rfl
                    have hR := HLA.out hgt
                    have hge : ¬ (j : Int) < (n : Int) := by omega
                    clear hgt hjn hall hgj
                    have hx3 : (S r).extract 0 n = S (r.take n) := by rw [S_extract]; simp
                    generalize r.take n = xt at *
                    obtain ⟨hms, hmv⟩ := HMS.out
                    by_cases a1 : a.toNat < 48
                    · have hda : digB a = false := by simp [digB]; omega
                      rw [hda] at hms
                      have HX := Lib.hid (show R = lnBad by rw [hR, hms]; rfl)
                      clear hda
                      clear hR hms hmv
                      go_wp2_with fail
                      refine bodyPost_ret (res4 rfl _ _ _) rfl ⟨?_, Keep.refl _ _⟩
                      rw [HX.out]
                      rfl
                    · by_cases a2 : 57 < a.toNat
                      · have hda : digB a = false := by simp [digB]; omega
                        rw [hda] at hms
                        have HX := Lib.hid (show R = lnBad by rw [hR, hms]; rfl)
                        clear hda
                        clear hR hms hmv
                        go_wp2_with fail
                        refine bodyPost_ret (res4 rfl _ _ _) rfl ⟨?_, Keep.refl _ _⟩
                        rw [HX.out]
                        rfl
                      · have hda : digB a = true := by simp [digB]; omega
                        rw [hda] at hms hmv
                        by_cases c1 : c.toNat < 48
                        · have hdc : digB c = false := by simp [digB]; omega
                          rw [hdc] at hms
                          have HX := Lib.hid (show R = lnBad by rw [hR, hms]; rfl)
                          clear hda hdc
                          clear hR hms hmv
                          go_wp2_with fail
                          refine bodyPost_ret (res4 rfl _ _ _) rfl ⟨?_, Keep.refl _ _⟩
                          rw [HX.out]
                          rfl
                        · by_cases c2 : 57 < c.toNat
                          · have hdc : digB c = false := by simp [digB]; omega
                            rw [hdc] at hms
                            have HX := Lib.hid (show R = lnBad by rw [hR, hms]; rfl)
                            clear hda hdc
                            clear hR hms hmv
                            go_wp2_with fail
                            refine bodyPost_ret (res4 rfl _ _ _) rfl ⟨?_, Keep.refl _ _⟩
                            rw [HX.out]
                            rfl
                          · have hdc : digB c = true := by simp [digB]; omega
                            rw [hdc] at hms hmv
                            simp only [Bool.and_self, if_true] at hms hmv
                            by_cases ha : a = 49
                            · have han : ((a.toNat : Nat) : Int) = 49 := by rw [ha]; rfl
                              have haq := (int_eq han).2
                              by_cases hc : c.toNat ≤ 49
                              · rw [if_pos ⟨ha, hc⟩] at hms hmv
                                have hcq : decide (((c.toNat : Nat) : Int) > 49) = false := by simp; omega
                                have hwr := IntWalk.u8_in ((c.toNat : Int) - 48) (by omega)
                                have hwi := IntWalk.i64_in ((c.toNat : Int) - 48) (by omega)
                                have k0 : (0 : Int) ≤ (k : Int) := by omega
                                have k1 : (k : Int) ≤ (l.length : Int) := by omega
                                have n0 : (0 : Int) ≤ (n : Int) := by omega
                                have n1 : (n : Int) ≤ (r.length : Int) := by omega
                                have HX := Lib.hid (show R = ⟨xm, xt, (c.toNat : Int) - 48, 200⟩ by rw [hR, hms, if_pos rfl, hmv])
                                clear hda hdc ha han hR hms hmv
                                go_wp2_with fail
                                refine wp_region_quiet_lit (by kernel_rfl) (by kernel_rfl) ?_
                                repeat (go_big_quiet_step (fail))
                                refine wpQuiet_nil ?_
                                intro _ hw'
                                obtain ⟨nq, hw''⟩ := hw'
                                subst hw''
                                go_wp2_with fail
                                refine bodyPost_ret (res4 rfl _ _ _) rfl ⟨?_, (Keep.refl _ _).drewN _⟩
                                rw [HX.out]
                                rfl
                              · rw [if_neg (fun h => hc h.2)] at hms
                                have hcq : decide (((c.toNat : Nat) : Int) > 49) = true := by simp; omega
                                have HX := Lib.hid (show R = ⟨[], [], 0, 505⟩ by rw [hR, hms]; rfl)
                                clear hda hdc ha han
                                clear hR hms hmv
                                go_wp2_with fail
                                refine bodyPost_ret (res4 rfl _ _ _) rfl ⟨?_, Keep.refl _ _⟩
                                rw [HX.out]
                                rfl
                            · rw [if_neg (fun h => ha h.1)] at hms
                              have han : ((a.toNat : Nat) : Int) ≠ 49 := fun e => ha (UInt8.toNat_inj.1 (by show a.toNat = 49; omega))
                              have haq := (int_ne han).2
                              have HX := Lib.hid (show R = ⟨[], [], 0, 505⟩ by rw [hR, hms]; rfl)
                              clear hda hdc ha han
                              clear hR hms hmv
                              go_wp2_with fail
                              refine bodyPost_ret (res4 rfl _ _ _) rfl ⟨?_, Keep.refl _ _⟩
                              rw [HX.out]
                              rfl
              · have hpb : (p == 46) = false := by simp [hp]
                have hpn : ((p.toNat : Nat) : Int) ≠ 46 := fun e => hp (UInt8.toNat_inj.1 (by show p.toNat = 46; omega))
                have hpq := (int_ne hpn).2
                rw [hpb, Bool.and_false] at hms
                have HX := Lib.hid (hlm (hms.trans (by simp)))
                clear hlm hlt hla hp hpb hpn hms hmv
                go_enter Tryz.func23, Tryz.ntmps23
                go_wp2_with fail
                refine (hF.out _).mono ?_
                rintro e w1 ⟨rfl, rfl⟩
                go_wp2_with fail
                refine (hT.out _).mono ?_
                rintro e w1 ⟨rfl, rfl⟩
                go_wp2_with fail
                refine (hF2.out _).mono ?_
                rintro e w1 ⟨rfl, rfl⟩
                go_wp2_with fail
                refine bodyPost_ret (res4 rfl _ _ _) rfl ⟨?_, Keep.refl _ _⟩
                rw [HX.out]
                rfl
            · have HX := Lib.hid (hlm (min_http h5))
              have q5 : ((r.drop (n + 1)).take 5 == [72, 84, 84, 80, 47]) = false := by rw [beq_eq_false_iff_ne]; exact h5
              generalize (r.drop (n + 1)).take 5 = x5 at *
              have hs5 := S_toList x5
              have hw2 := IntWalk.i64_in ((n : Int) + 1) (by omega)
              have hw3 := IntWalk.i64_in ((n : Int) + 6) (by omega)
              have b1 : (n : Int) + 6 ≤ (r.length : Int) := by omega
              have b2 : (0 : Int) ≤ (n : Int) + 1 := by omega
              have b3 : (n : Int) + 1 ≤ (n : Int) + 6 := by omega
              have b0 : (0 : Int) ≤ (n : Int) + 6 := by omega
              clear hlm hlt hla h9 h9'
              go_enter Tryz.func23, Tryz.ntmps23
              go_wp2_with fail
              refine (hF.out _).mono ?_
              rintro e w1 ⟨rfl, rfl⟩
              go_wp2_with fail
              refine (hT.out _).mono ?_
              rintro e w1 ⟨rfl, rfl⟩
              go_wp2_with fail
              refine (hF2.out _).mono ?_
              rintro e w1 ⟨rfl, rfl⟩
              go_wp2_with fail
              refine bodyPost_ret (res4 rfl _ _ _) rfl ⟨?_, Keep.refl _ _⟩
              rw [HX.out]
              rfl
          · have h9' : (r.length : Int) - (n : Int) ≠ 9 := by omega
            have h9q := (int_ne h9').2
            have HX := Lib.hid (hlm (min_len (by simp; omega)))
            clear hlm hlt hla h9 h9'
            go_enter Tryz.func23, Tryz.ntmps23
            go_wp2_with fail
            refine (hF.out _).mono ?_
            rintro e w1 ⟨rfl, rfl⟩
            go_wp2_with fail
            refine (hT.out _).mono ?_
            rintro e w1 ⟨rfl, rfl⟩
            go_wp2_with fail
            refine (hF2.out _).mono ?_
            rintro e w1 ⟨rfl, rfl⟩
            go_wp2_with fail
            refine bodyPost_ret (res4 rfl _ _ _) rfl ⟨?_, Keep.refl _ _⟩
            rw [HX.out]
            rfl
end Go.Proofs.YtpimfoohpfkciaaGreatDoor
