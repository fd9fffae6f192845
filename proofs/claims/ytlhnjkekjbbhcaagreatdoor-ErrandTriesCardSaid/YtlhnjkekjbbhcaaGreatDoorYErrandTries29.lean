/- Parts of the proof of ErrandTries, in order. No conditions but those that each theorem states. -/
import Derived.Test.YtlhnjkekjbbhcaaGreatDoorYErrandTries0
import Derived.Lib.SlBytesConst
import Derived.Lib.LaidTab
import Derived.Lib.ItoaNum
import Derived.Lib.ItoaLen
import Derived.Sort.Grow
import Derived.Deep.MidRow
import Derived.Test.YtlhnjkekjbbhcaaGreatDoorYErrandTries25
import Derived.Test.YtlhnjkekjbbhcaaGreatDoorYErrandTries28
set_option linter.unusedSimpArgs false
set_option linter.unusedVariables false
namespace Go.Proofs.YtlhnjkekjbbhcaaGreatDoor
open Go.RowKit Go.Shelf
theorem ans_size : (Tryz.prog.info? 30).map (·.size) = some 5 := by kernel_rfl
theorem ans_st (st : Int) {v : Value} (len : Int) (ch cl : Bool) (hv : v.oneCell' = true) : (Tryz.prog.info? 30).map (·.size) = some (ansC st v len ch cl).toArray.size ∧ (ansC st v len ch cl).toArray.all (·.oneCell') = true :=
  ⟨ans_size, by simp [ansC, hv]; exact ⟨rfl, rfl, rfl, rfl⟩⟩
theorem ans_load {w : World} {b : Nat} {st len : Int} {v : Value} {ch cl : Bool} (h : w.rangeAt b 0 (ansC st v len ch cl)) : (loadVar 30 ⟨b, 0, Option.none⟩).run Tryz.prog w = .ok (.agg (ansC st v len ch cl).toArray) w :=
  run_loadVar_mid (P := Tryz.prog) w b 0 30 (ansC st v len ch cl) _ h Tryz.underlying30 rfl ans_size
def ansZ : List Value := ansC 0 (.slice Option.none 0 0) 0 false false
theorem ans_back {w : World} {b : Nat} {st len : Int} {v : Value} {ch cl : Bool} (h : w.there b 0 5) : (loadVar 30 ⟨b, 0, Option.none⟩).run Tryz.prog (w.setCells b 0 (ansC st v len ch cl)) = .ok (.agg (ansC st v len ch cl).toArray) (w.setCells b 0 (ansC st v len ch cl)) := ans_load (World.rangeAt_setCells_same _ b 0 (ansC st v len ch cl) h)
theorem ansZ_back {w : World} {b : Nat} (h : w.there b 0 5) : (loadVar 30 ⟨b, 0, Option.none⟩).run Tryz.prog (w.setCells b 0 ansZ) = .ok (.agg ansZ.toArray) (w.setCells b 0 ansZ) := ans_back h
theorem ansC_one (st : Int) {v : Value} (len : Int) (ch cl : Bool) (hv : v.oneCell' = true) : ∀ x ∈ ansC st v len ch cl, x.oneCell' = true := by
  intro x hx; simp [ansC] at hx; rcases hx with rfl | rfl | rfl | rfl | rfl
  · rfl
  · exact hv
  · rfl
  · rfl
  · rfl
structure NeS (B : Nat) (w : World) (p : Nat) (X R : List Nat) (wt : World) (X1 R1 : List Nat) (J : ReS) : Prop where
  it : Re B wt p X1 R1 J
  kp : Keep X w wt
  nx : ∀ x ∈ X1, x ∈ X ∨ w.heap.size < x
  nr : ∀ x ∈ R1, x ∈ R ∨ w.heap.size < x
  bk : Blk wt w.heap.size 30 ansZ
theorem NeS.off {B p : Nat} {w wt : World} {X R X1 R1 : List Nat} {I J : ReS} (h : NeS B w p X R wt X1 R1 J) (h0 : Re B w p X R I) : w.heap.size ∉ X1 ∧ w.heap.size ∉ R1 :=
  ⟨fun hh => by rcases h.nx _ hh with h1 | h1; (have := (h0.lo _ h1).2; omega); omega, fun hh => by rcases h.nr _ hh with h1 | h1; (have := (h0.ro _ h1).2.1; omega); omega⟩
theorem NeS.step {B p : Nat} {w wt w2 : World} {X R X1 R1 X2 R2 : List Nat} {I J J2 : ReS} (h : NeS B w p X R wt X1 R1 J) (h0 : Re B w p X R I) (k : Keep X1 wt w2) (hi : Re B w2 p X2 R2 J2)
    (hX : ∀ x ∈ X2, x ∈ X1 ∨ wt.heap.size ≤ x) (hR : ∀ x ∈ R2, x ∈ R1 ∨ wt.heap.size ≤ x) : NeS B w p X R w2 X2 R2 J2 := by
  have hl := h.bk.lt; refine ⟨hi, h.kp.trans' k (fun x hx hlt => (h.nx x hx).elim id (fun hh => by omega)), fun x hx => ?_, fun x hx => ?_, k.blk h.bk (h.off h0).1⟩
  · rcases hX x hx with h1 | h1
    · exact h.nx x h1
    · exact .inr (by omega)
  · rcases hR x hx with h1 | h1
    · exact h.nr x h1
    · exact .inr (by omega)
def NeOut (B : Nat) (w : World) (p : Nat) (X R : List Nat) (r : NrR) (e : Ending) (w' : World) : Prop :=
  ∃ v X', e = .returned (.tuple #[.int .i64 r.k, .agg (ansC r.a.st v r.a.len r.a.ch r.a.cl).toArray, .string (S r.s)]) ∧ Re B w' p X' [] r.p ∧ Keep X w w' ∧ (∀ x ∈ X', x ∈ X ∨ w.heap.size ≤ x) ∧ Own Fld.cells 2 B 89 w' v r.a.F ∧ ∀ g, v.ownBlock = some g → (g ∈ R ∨ w.heap.size ≤ g) ∧ g ∉ X'
theorem Re.bare {B p : Nat} {w : World} {X R : List Nat} {P : ReS} (h : Re B w p X R P) (ha : P.ans = none) : Re B w p X [] P := by
  obtain ⟨⟨cv, av, h1, h2, h3⟩, h4, h5, h6⟩ := h; rw [ha] at h3; exact ⟨⟨cv, av, h1, h2, by rw [ha]; exact h3⟩, h4, h5, by simp⟩
theorem NeS.fin {B p : Nat} {w wt : World} {X R X1 R1 : List Nat} {I J : ReS} (h : NeS B w p X R wt X1 R1 J) (h0 : Re B w p X R I) (hj : J.ans = none) (k : Int) (a : Ans) (v : Value) (s : List UInt8) (ho : Own Fld.cells 2 B 89 wt v a.F) (hg : ∀ g, v.ownBlock = some g → (g ∈ R ∨ w.heap.size < g) ∧ g ∉ X1) :
    NeOut B w p X R ⟨J, k, a, s⟩ (.returned (.tuple #[.int .i64 k, .agg (ansC a.st v a.len a.ch a.cl).toArray, .string (S s)])) (wt.setCells w.heap.size 0 (ansC a.st v a.len a.ch a.cl)) := by
  have kk : Keep [w.heap.size] wt (wt.setCells w.heap.size 0 (ansC a.st v a.len a.ch a.cl)) := Keep.setCells' (S := [w.heap.size]) _ (by simp) _ _ _ (Keep.refl _ _); obtain ⟨o1, o2⟩ := h.off h0; refine ⟨v, X1, rfl, (h.it.bare hj).keep kk (fun x hx => by simp; rintro rfl; exact o1 hx) (by simp), h.kp.trans' kk (fun x hx hlt => by simp at hx; omega), fun x hx => (h.nx x hx).imp id (fun hh => by omega), ho.keep kk (fun g hh => ?_), fun g hh => ⟨(hg g hh).1.imp id (fun hh => by omega), (hg g hh).2⟩⟩; simp only [List.mem_singleton]; rintro rfl; rcases (hg _ hh).1 with h1 | h1
  · have := (h0.ro _ h1).2.1; omega
  · omega
theorem NeS.fin0 {B p : Nat} {w wt : World} {X R X1 R1 : List Nat} {I J : ReS} (h : NeS B w p X R wt X1 R1 J) (h0 : Re B w p X R I) (hj : J.ans = none) (k : Int) (s : List UInt8) :
    NeOut B w p X R ⟨J, k, ans0, s⟩ (.returned (.tuple #[.int .i64 k, .agg ansZ.toArray, .string (S s)])) (wt.setCells w.heap.size 0 ansZ) := h.fin h0 hj k ans0 (.slice Option.none 0 0) s (Own.nil _ _ _ _ _) (by simp [Value.ownBlock])
theorem NeOut.of {B p : Nat} {w w' : World} {X R : List Nat} {r r' : NrR} {e : Ending} (h : NeOut B w p X R r e w') (hr : r' = r) : NeOut B w p X R r' e w' := hr ▸ h
theorem re_ans {B p : Nat} {w : World} {X R : List Nat} {P : ReS} {a : Ans} (h : Re B w p X R P) (ha : P.ans = some a) : ∃ ab sa sl sc, w.cell? ⟨p, 9, Option.none⟩ = some (.pointer (some ⟨ab, 0, Option.none⟩)) ∧ Blk w ab 30 (ansC a.st (.slice sa sl sc) a.len a.ch a.cl) ∧ Own Fld.cells 2 B 89 w (.slice sa sl sc) a.F ∧ (∀ g, (Value.slice sa sl sc).ownBlock = some g → g ∈ R) ∧ ab ∈ R := by
  obtain ⟨⟨cv, av, b1, b2, b3⟩, h4, h5, h6⟩ := h; rw [ha] at b3; obtain ⟨ab, v, rfl, g1, g2, g3, g4⟩ := b3; obtain ⟨sa, sc, rfl, _⟩ := g3.shape; exact ⟨ab, sa, _, sc, b1.get (k := 9) rfl, g2, g3, g4, g1⟩
theorem re_noAns {B p : Nat} {w : World} {X R : List Nat} {P : ReS} (h : Re B w p X R P) (ha : P.ans = none) : w.cell? ⟨p, 9, Option.none⟩ = some (.pointer Option.none) := by
  obtain ⟨⟨cv, av, b1, b2, b3⟩, h4, h5, h6⟩ := h; rw [ha] at b3; have : av = .pointer Option.none := b3; subst this; exact b1.get (k := 9) rfl
theorem re_unans {B p : Nat} {w : World} {X R : List Nat} {P : ReS} (h : Re B w p X R P) : Re B (w.setCell ⟨p, 9, Option.none⟩ (.pointer Option.none)) p X R { P with ans := none } := by
  obtain ⟨⟨cv, av, b1, b2, b3⟩, h4, h5, h6⟩ := h; have hk : Keep [p] w (w.setCell ⟨p, 9, Option.none⟩ (.pointer Option.none)) := (Keep.refl _ _).setCell _ _ (by simp); exact ⟨⟨cv, .pointer Option.none, b1.set 9 (.pointer Option.none), b2.keep hk (fun y _ hy => by simpa using hy), rfl⟩, h4, fun y hy => ⟨(h5 y hy).1, Nat.lt_of_lt_of_le (h5 y hy).2 hk.size⟩, fun y hy => ⟨(h6 y hy).1, Nat.lt_of_lt_of_le (h6 y hy).2.1 hk.size, (h6 y hy).2.2⟩⟩
def LpS (B : Nat) (w : World) (p n : Nat) (X R : List Nat) (P : ReS) (g : Nat) (wr : World) : Prop :=
  ∃ Q X1 R1, NeS B w p X R wr X1 R1 Q ∧ Q.ok n ∧ reEnd Q = reEnd P ∧ g = Q.mu
def LpE (B : Nat) (w : World) (p n : Nat) (X R : List Nat) (P : ReS) (wr : World) : Prop :=
  ∃ X1 R1, NeS B w p X R wr X1 R1 (reEnd P) ∧ (reEnd P).ok n
set_option maxHeartbeats 4000000 in
set_option maxRecDepth 100000 in
theorem reply_Next {B p n : Nat} {X R : List Nat} {P : ReS} {w : World} (h : Re B w p X R P) (hm : ML w) (hB : B ≤ w.heap.size) (hbig : 1 < B) (hok : P.ok n) (hn : n ≤ 400000) :
    Calls Tryz.prog 102 #[.pointer (some ⟨p, 0, Option.none⟩)] w (NeOut B w p X R (nextR P)) := by
  have kA := (Keep.refl [] w).alloc (.cells ansZ.toArray 30); have bA := Blk.newA w ansZ.toArray 30; have zst := ans_st 0 (v := .slice Option.none 0 0) 0 false false rfl; have H := Lib.hid h; generalize hwA : w.alloc (.cells #[.int .i64 0, .slice Option.none 0 0, .int .i64 0, .bool false, .bool false] 30) = wA; have hwA' : w.alloc (.cells ansZ.toArray 30) = wA := hwA; have hszA : wA.heap.size = w.heap.size + 1 := by rw [← hwA']; simp
  rw [hwA'] at kA bA; have hA := h.keep0 kA; have NA : NeS B w p X R wA X R P := ⟨hA, kA.mono (by simp), fun x hx => .inl hx, fun x hx => .inl hx, show Blk wA w.heap.size 30 ansZ from bA⟩
  have HL := Lib.hid (show LpS B w p n X R P P.mu wA from ⟨P, X, R, NA, hok, rfl, rfl⟩); have MA := Lib.hid (fun wt X1 R1 J (hh : NeS B w p X R wt X1 R1 J) => (hm.keepB hbig hh.kp (fun x hx => (h.lo x hx).1) : ML wt)); have ZST := Lib.hid zst; have HN := Lib.hid (nextR_eq P); clear h kA bA hA NA hwA' zst hm hok; go_enter Tryz.func102, Tryz.ntmps102; go_wp2_with fail; go_step3; go_wp2_with fail; go_step3
  go_upto_block 0 with fail
  clear hwA
  go_cut [0] (fun y wx => y = .pointer (some ⟨p, 0, Option.none⟩) ∧ Hid (LpE B w p n X R P wx))
  case first =>
    go_wp2_with fail
    go_loopg [] P.mu (fun g wr => Hid (LpS B w p n X R P g wr))
    case atStart => exact HL
    case round =>
      obtain ⟨Q, X1, R1, hne, hqok, hqe, hg⟩ := hrel.out; have HNE := Lib.hid hne; have HQ := Lib.hid (And.intro hqok hqe)
      cases hqa : Q.ans with
      | some a =>
        obtain ⟨ab, sa, sl, sc, c9, _⟩ := re_ans hne.it hqa; have hE : reEnd P = Q := by rw [← hqe]; exact reEnd_some (by rw [hqa]; rfl)
        have HF := Lib.hid (show LpE B w p n X R P wr from ⟨X1, R1, by rw [hE]; exact hne, by rw [hE]; exact hqok⟩); clear hne hqok hqe hqa hE hrel; go_wp2_with fail; go_meet; exact ⟨rfl, HF⟩
      | none =>
        have c9 := re_noAns hne.it hqa; have HR := Lib.hid (reply_read hne.it (MA.out wr X1 R1 Q hne) (Nat.le_trans hB hne.kp.size) hbig hqok hn); unfold RdOut at HR; have HQA := Lib.hid hqa; have HG := Lib.hid hg; clear hne hqok hqe hqa hrel hg
        cases h2 : (readR Q).2 with
        | true =>
          have HE := Lib.hid ((reEnd_more HQ.out.1 HQA.out h2).symm.trans HQ.out.2); have HM := Lib.hid ((read_ok HQ.out.1).2 h2); rw [h2] at HR; clear h2; go_wp2_with fail; refine HR.out.mono ?_; rintro e w2 ⟨rfl, k2, X2, R2, h2, n2, r2⟩; have HS := Lib.hid (show LpS B w p n X R P (readR Q).1.mu w2 from ⟨(readR Q).1, X2, R2, HNE.out.step H.out k2 h2 n2 r2, (read_ok HQ.out.1).1, HE.out, rfl⟩); clear k2 h2 n2 r2; go_wp2_with fail
          go_roundg (readR Q).1.mu
          case measure => rw [HG.out]; exact HM.out
          case rel => exact HS
        | false =>
          have hE := (reEnd_stop HQA.out h2).symm.trans HQ.out.2; rw [h2] at HR; have HE := Lib.hid hE; clear h2 hE; go_wp2_with fail; refine HR.out.mono ?_; rintro e w2 ⟨rfl, k2, X2, R2, h2, n2, r2⟩; have HF := Lib.hid (show LpE B w p n X R P w2 from ⟨X2, R2, by rw [← HE.out]; exact HNE.out.step H.out k2 h2 n2 r2, by rw [← HE.out]; exact (read_ok HQ.out.1).1⟩); clear k2 h2 n2 r2; go_wp2_with fail; go_meet; exact ⟨rfl, HF⟩
  case rest =>
  obtain ⟨rfl, HE⟩ := hcut; obtain ⟨X1, R1, hne, hqok⟩ := HE.out; have HNE := Lib.hid hne; have hN := HN.out; have hp5 := hqok.st; clear HE HN HL hqok; generalize reEnd P = Q at *
  cases hqa : Q.ans with
  | some a =>
    rw [hqa] at hN; dsimp only at hN; obtain ⟨ab, sa, sl, sc, c9, hb, ho, hgr, hab⟩ := re_ans hne.it hqa; have hoff := hne.off H.out; have hbk := hne.bk; have kW := (Keep.refl [] wc).alloc (.cells (ansC a.st (.slice sa sl sc) a.len a.ch a.cl).toArray 30); have nW := Blk.newA wc (ansC a.st (.slice sa sl sc) a.len a.ch a.cl).toArray 30; have hp5' := hne.it.lt; have RNG := Lib.hid hb.range'; generalize hwW : wc.alloc (.cells (ansC a.st (.slice sa sl sc) a.len a.ch a.cl).toArray 30) = wW at kW nW; have iW := hne.it.keep0 kW; have d9 : wW.cell? ⟨p, 9, Option.none⟩ = some (.pointer (some ⟨ab, 0, Option.none⟩)) := kW.load c9; have g9 := iW.free 9; have kP := (Keep.refl [p] wW).setCell ⟨p, 9, Option.none⟩ (.pointer Option.none) (by simp); have hnep : wc.heap.size ≠ p := by omega
    have nP := kP.blk (show Blk wW wc.heap.size 30 (ansC a.st (.slice sa sl sc) a.len a.ch a.cl) from nW) (by simpa using hnep); have iP := re_unans iW; have HNP := Lib.hid ((hne.step H.out (kW.mono (S' := X1) (by simp)) iW (fun x hx => .inl hx) (fun x hx => .inl hx)).step H.out (iW.keepX kP) iP (fun x hx => .inl hx) (fun x hx => .inl hx)); have kD := (Keep.refl [] (wW.setCell ⟨p, 9, Option.none⟩ (.pointer Option.none))).drew; have HND := Lib.hid (HNP.out.step H.out (kD.mono (S' := X1) (by simp)) (HNP.out.it.keep0 kD) (fun x hx => .inl hx) (fun x hx => .inl hx)); have HT := Lib.hid (HND.out.bk.there' 0 5 (by simp [ansZ, ansC])); have hload := ans_back (st := a.st) (v := .slice sa sl sc) (len := a.len) (ch := a.ch) (cl := a.cl) HT.out; have HLd := Lib.hid hload; have OP := (ho.keep0 kW).keep kP (fun g hg => by simp; rintro rfl; exact (hne.it.ro _ (hgr _ hg)).2.2 hne.it.mem); have HF := Lib.hid ((HND.out.fin H.out rfl 1 a (.slice sa sl sc) [] (OP.keep0 kD) (fun g hg => ⟨hne.nr g (hgr g hg), (hne.it.ro g (hgr g hg)).2.2⟩)).of hN); have HS1 := Lib.hid (ansC_one a.st (v := .slice sa sl sc) a.len a.ch a.cl rfl); have ST := Lib.hid (ans_st a.st (v := .slice sa sl sc) a.len a.ch a.cl rfl); have nD := kD.blk nP (by simp); have RP := Lib.hid nD.range'; have hneq : wc.heap.size ≠ w.heap.size := by have := hne.bk.lt; omega
    have kS : Keep [w.heap.size] (wW.setCell ⟨p, 9, Option.none⟩ (.pointer Option.none)).drew ((wW.setCell ⟨p, 9, Option.none⟩ (.pointer Option.none)).drew.setCells w.heap.size 0 (ansC a.st (.slice sa sl sc) a.len a.ch a.cl)) := Keep.setCells' (S := [w.heap.size]) _ (by simp) _ _ _ (Keep.refl _ _); have RP2 := Lib.hid (kS.blk nD (by simpa using hneq)).range'; clear kS kD nD hload ho hgr hab hoff hbk kW nW iW kP nP iP OP hp5 hp5' hb hqa hN hne
    go_wp2_with (first | ((with_reducible refine gM 28 ?_); refine wpList_load_mid rfl 30 (.tmp 28) rfl ab 0 (by rfl) (ansC a.st (.slice sa sl sc) a.len a.ch a.cl) _ RNG.out Tryz.underlying30 rfl ans_size ?_; try simp only [Act.put, sqA, sqB, sqC]) | ((with_reducible refine gS 5 29 ?_); refine wpList_store_fresh rfl 30 (.tmp 5) (.tmp 29) rfl _ (ansC a.st (.slice sa sl sc) a.len a.ch a.cl) (by rfl) (by rfl) ans_size (by rfl) HS1.out ?_; rw [hwW]; try simp only [Act.put]) | fail); refine wp_region_noPanic ?_; refine wp_region_held_drew (S := fun w' => w'.rangeAt wc.heap.size 0 (ansC a.st (.slice sa sl sc) a.len a.ch a.cl)) (by kernel_rfl) RP.out (fun hHeld => ?_); refine gU 0 (oi := ⟨some 33, .load _ (.tmp 5), _, _, _, none⟩) rfl (yieldsIf_load_mid (by rfl) 30 (.tmp 5) rfl wc.heap.size 0 rfl (ansC a.st (.slice sa sl sc) a.len a.ch a.cl) _ (fun _ h => h) Tryz.underlying30 rfl ans_size) (by assumption) ?_; (try simp only [Act.put, sqA, sqC, sqB]); refine gU 1 (oi := ⟨some 2, .assign _, _, _, _, none⟩) (v := ?_) rfl (Or.inl ⟨by rfl, ?_⟩) (by assumption) ?_; rotate_left
    · (intro w' hSw; go_simp) <;> (with_reducible rfl)
    (try simp only [Act.put, sqA, sqC, sqB]); refine wpAnyH_ready (rs := [2]) (by kernel_rfl) (by simp) ?_; refine AllReadyH.cons (o := ⟨none, .store _ (.tmp 3) (.tmp 33), _, _, _, none⟩) rfl (fun K hK => ?_) AllReadyH.nil; rw [if_pos (by rfl)]; refine wp_store_mid 30 (.tmp 3) (.tmp 33) rfl w.heap.size 0 (ansC a.st (.slice sa sl sc) a.len a.ch a.cl).toArray (by rfl) (by first | rfl | kernel_rfl) HT.out ST.out.1 ST.out.2 ?_; refine hK.out _ _ RP2.out (fun hHeld2 => ?_); clear hK K hHeld; (try simp only [Act.put]); refine gU 3 (oi := ⟨some 4, .assign _, _, _, _, none⟩) (v := ?_) rfl (Or.inl ⟨by rfl, ?_⟩) (by assumption) ?_; rotate_left
    · (intro w' hSw; go_simp) <;> (with_reducible rfl)
    (try simp only [Act.put, sqA, sqC, sqB]); refine wpAnyH_done (by kernel_rfl) ?_ _; refine NoPanic.normal ?_; go_wp2_with fail; refine bodyPost_ret (v := .tuple #[.int .i64 1, .agg (ansC a.st (.slice sa sl sc) a.len a.ch a.cl).toArray, .string (S [])]) (by have hl := HLd.out; simp [results, Tryz.results102, asAddr, Result.andThen, hl]; rfl) rfl HF.out
  | none =>
    rw [hqa] at hN; dsimp only at hN; have c9 := re_noAns hne.it hqa; obtain ⟨_, _, c2, _, c4, _⟩ := hne.it.at_; by_cases hd : Q.dat = []
    · rw [if_neg (by simp [hd])] at hN; replace c4 : wc.cell? ⟨p, 4, Option.none⟩ = some (.string ⟨#[]⟩) := by rw [hd] at c4; exact c4
      have HR := Lib.hid (reply_finish hne.it hp5)
      have ha2 : (reFinish Q).1.ans = none := by
        rw [← hqa]; unfold reFinish
        split
        · rfl
        · split <;> rfl
      have HA2 := Lib.hid ha2; have HNN := Lib.hid hN; clear hp5 hd hqa hN hne ha2; go_wp2_with fail; refine HR.out.mono ?_; rintro e w2 ⟨rfl, h2, k2⟩; have HNP := Lib.hid (HNE.out.step H.out (HNE.out.it.keepX k2) h2 (fun x hx => .inl hx) (fun x hx => .inl hx)); have HT := Lib.hid (HNP.out.bk.there' 0 5 (by simp [ansZ, ansC])); have HLd := Lib.hid (ansZ_back HT.out); have HF := Lib.hid ((HNP.out.fin0 H.out HA2.out (reFinish Q).2 []).of HNN.out); clear h2 k2
      go_wp2_with (first | ((with_reducible refine gS 3 51 ?_); refine wpList_store_mid rfl 30 (.tmp 3) (.tmp 51) rfl w.heap.size 0 ansZ.toArray (by rfl) (by first | rfl | kernel_rfl) HT.out ZST.out.1 ZST.out.2 ?_; try simp only [Act.put]) | fail); refine bodyPost_ret (v := .tuple #[.int .i64 (reFinish Q).2, .agg ansZ.toArray, .string (S [])]) (by have hl := HLd.out; simp [results, Tryz.results102, asAddr, Result.andThen, hl]; rfl) rfl HF.out
    · rw [if_pos hd] at hN; have tl := S_toList Q.dat; have te : Q.dat.isEmpty = false := by simpa [List.isEmpty_iff] using hd
      have te2 : (Q.dat == []) = false := by simpa using hd
      have f4 := hne.it.free 4; have hs := hne.it.set (P' := { Q with dat := [] }) 4 (.string ⟨#[]⟩) (fun _ _ => rfl) rfl rfl; have HNP := Lib.hid (hne.step H.out (hne.it.keepX ((Keep.refl [p] _).setCell ⟨p, 4, Option.none⟩ (.string ⟨#[]⟩) (by simp))) hs (fun x hx => .inl hx) (fun x hx => .inl hx)); have HT := Lib.hid (HNP.out.bk.there' 0 5 (by simp [ansZ, ansC])); have HLd := Lib.hid (ansZ_back HT.out); have HF := Lib.hid ((HNP.out.fin0 H.out hqa 2 Q.dat).of (hN.trans (by rw [hqa]))); clear hp5 hd hqa hN hne hs
      go_wp2_with (first | ((with_reducible refine gS 3 47 ?_); refine wpList_store_mid rfl 30 (.tmp 3) (.tmp 47) rfl w.heap.size 0 ansZ.toArray (by rfl) (by first | rfl | kernel_rfl) HT.out ZST.out.1 ZST.out.2 ?_; try simp only [Act.put]) | fail); refine bodyPost_ret (v := .tuple #[.int .i64 2, .agg ansZ.toArray, .string (S Q.dat)]) (by have hl := HLd.out; simp [results, Tryz.results102, asAddr, Result.andThen, hl]) rfl HF.out
structure AnIn (w : World) (va : Value) (F : List Fld) : Prop where
  sl : Sl Fld.cells 2 w va F
  nm : ∀ x ∈ F, x.name.length ≤ 1048576
  vl : ∀ x ∈ F, x.value.length ≤ 1048576
theorem AnIn.keep {w w' : World} {va : Value} {F : List Fld} (h : AnIn w va F) (k : Keep [] w w') : AnIn w' va F := ⟨h.sl.keep Fld.cells_length (by omega) h.sl k (by simp) (Nat.le_refl _), h.nm, h.vl⟩
theorem getV_le {F : List Fld} {n : List UInt8} (h : ∀ x ∈ F, x.value.length ≤ 1048576) : (getV F n).length ≤ 1048576 := by
  unfold getV
  cases hs : getS F n with
  | nil => simp
  | cons f r =>
    have : f ∈ getS F n := by rw [hs]; simp
    exact h f (List.mem_filter.1 this).1
theorem AnIn.get {w : World} {va : Value} {F : List Fld} (h : AnIn w va F) {n : List UInt8} (hn : n.length ≤ 100) : Calls Tryz.prog 37 #[va, .string (S n)] w (GetOut w F n) :=
  field_Get va F n w h.sl (fun x hx => show _ ≤ 9223372036854775807 by have := h.nm x hx; omega) (show _ ≤ 9223372036854775807 by omega)
theorem an_size (st : Int) (va : Value) (len : Int) (ch cl : Bool) : (Tryz.prog.info? 30).map (·.size) = some (ansC st va len ch cl).length := ans_size
theorem typM_no {F : List Fld} (h : isTypeM (getV F ctB) = false) : typM F = [] := by unfold typM; rw [h]; rfl
theorem typM_yes {F : List Fld} (h : isTypeM (getV F ctB) = true) : typM F = getV F ctB := by unfold typM; rw [h]; rfl
theorem isType_is {l : List UInt8} {v : Bool} (h : isTypeM l = v) (w : World) (hm : ML w) (hl : l.length ≤ 1048576) : Calls Tryz.prog 128 #[.string (S l)] w fun e w' => e = .returned (.bool v) ∧ Keep [] w w' := by
  subst h; exact taste_IsType l w hm hl
set_option maxRecDepth 100000 in
set_option maxHeartbeats 2000000 in
theorem errand_kind (st : Int) (va : Value) (F : List Fld) (len : Int) (ch cl : Bool) (w : World) (hm : ML w) (ha : AnIn w va F) :
    Calls Tryz.prog 81 #[.agg (ansC st va len ch cl).toArray] w fun e w' => e = .returned (.string (S (typM F))) ∧ Keep [] w w' := by
  have M0 := Lib.hid (Mem.nil w); have HG := Lib.hid (fun w' (k : Keep [] w w') => show Calls Tryz.prog 37 #[va, .string ⟨#[67, 111, 110, 116, 101, 110, 116, 45, 84, 121, 112, 101]⟩] w' (GetOut w' F ctB) from (ha.keep k).get (n := ctB) (by decide)); have hvl := getV_le (n := ctB) ha.vl; cases hb : isTypeM (getV F ctB)
  all_goals
    have HR := Lib.hid (show typM F = _ from by first | exact typM_no hb | exact typM_yes hb); have HT := Lib.hid (fun w' (k : Keep [] w w') => isType_is hb w' (hm.keep k (by simp)) hvl); clear hb hvl ha hm; go_enter Tryz.func81, Tryz.ntmps81
    go_wp2_with (first | ((with_reducible refine gX 1 ?_); refine wpList_boxM rfl 30 (.tmp 0) rfl (ansC st va len ch cl) (by rfl) M0 ?_; intro b w1 M1 _ _; have c1 := M1.out.get 0 rfl 1 rfl; try simp only [Act.put, sqA, sqB, sqC]) | fail); refine (HG.out _ M1.out.kp).mono ?_; unfold GetOut; rintro e w2 ⟨rfl, k2⟩; have M2 := Lib.hid (M1.out.keep0 k2); clear k2; go_wp2_with fail; refine (HT.out _ M2.out.kp).mono ?_; rintro e w3 ⟨rfl, k3⟩; have M3 := Lib.hid (M2.out.keep0 k3); clear k3; go_wp2_with fail; go_ret; exact ⟨by rw [HR.out]; first | rfl | simp [S], M3.out.kp⟩
set_option maxRecDepth 100000 in
set_option maxHeartbeats 2000000 in
theorem errand_size (st : Int) (va : Value) (len : Int) (ch cl : Bool) (w : World) :
    Calls Tryz.prog 91 #[.agg (ansC st va len ch cl).toArray] w fun e w' => e = .returned (.int .i64 (sizM len)) ∧ Keep [] w w' := by
  have M0 := Lib.hid (Mem.nil w); have hE : sizM len = if len < 0 ∨ 1048576 < len then 0 else len := rfl
  by_cases h1 : len < 0
  · rw [if_pos (.inl h1)] at hE; have HE := Lib.hid hE; clear hE; go_enter Tryz.func91, Tryz.ntmps91
    go_wp2_with (first | ((with_reducible refine gX 1 ?_); refine wpList_boxM rfl 30 (.tmp 0) rfl (ansC st va len ch cl) (by rfl) M0 ?_; intro b w1 M1 _ _; have c1 := M1.out.get 0 rfl 2 rfl; try simp only [Act.put, sqA, sqB, sqC]) | fail); go_ret; exact ⟨by rw [HE.out]; rfl, M1.out.kp⟩
  · by_cases h2 : 1048576 < len
    · rw [if_pos (.inr h2)] at hE; have HE := Lib.hid hE; clear hE; go_enter Tryz.func91, Tryz.ntmps91
      go_wp2_with (first | ((with_reducible refine gX 1 ?_); refine wpList_boxM rfl 30 (.tmp 0) rfl (ansC st va len ch cl) (by rfl) M0 ?_; intro b w1 M1 _ _; have c1 := M1.out.get 0 rfl 2 rfl; try simp only [Act.put, sqA, sqB, sqC]) | fail); go_ret; exact ⟨by rw [HE.out]; rfl, M1.out.kp⟩
    · rw [if_neg (by omega)] at hE; have HE := Lib.hid hE; clear hE; go_enter Tryz.func91, Tryz.ntmps91
      go_wp2_with (first | ((with_reducible refine gX 1 ?_); refine wpList_boxM rfl 30 (.tmp 0) rfl (ansC st va len ch cl) (by rfl) M0 ?_; intro b w1 M1 _ _; have c1 := M1.out.get 0 rfl 2 rfl; try simp only [Act.put, sqA, sqB, sqC]) | fail); go_ret; exact ⟨by rw [HE.out]; rfl, M1.out.kp⟩
theorem dg_end {w0 w : World} {L : List (Nat × TypeId × List Value)} {b : Nat} {d : Dig} (h : Mem w0 w L) (i : Nat) (hi : L[i]? = some (b, 23, digC d)) : (loadVar 23 ⟨b, 0, none⟩).run Tryz.prog w = .ok (.agg (digC d).toArray) w := dig_load (h.blk i hi).range'
theorem stampP_is {l : List UInt8} {o : Option Dig} (h : behindO l = o) (w : World) (hl : l.length ≤ 1048576) : Calls Tryz.prog 124 #[.string (S l)] w fun e w' => e = .returned (.tuple #[.agg (digC (o.getD zeroD)).toArray, .int .i64 (if o.isSome then 0 else 3)]) ∧ Keep [] w w' := by
  subst h; exact stamp_Parse l w hl
def shownO (a : List Fld) (o : Option Dig) : Ending := .returned (.tuple #[.agg (digC (o.getD zeroD)).toArray, .int .i64 (getN a dcdB : Nat), .bool o.isSome])
set_option maxRecDepth 100000 in
set_option maxHeartbeats 2000000 in
theorem errand_shown (st : Int) (va : Value) (F : List Fld) (len : Int) (ch cl : Bool) (w : World) (ha : AnIn w va F) :
    Calls Tryz.prog 90 #[.agg (ansC st va len ch cl).toArray] w fun e w' => e = shownO F (behindO (getV F dcdB)) ∧ Keep [] w w' := by
  have M0 := Lib.hid (Mem.nil w); have HG := Lib.hid (fun w' (k : Keep [] w w') => show Calls Tryz.prog 37 #[va, .string ⟨#[68, 111, 99, 107, 101, 114, 45, 67, 111, 110, 116, 101, 110, 116, 45, 68, 105, 103, 101, 115, 116]⟩] w' (GetOut w' F dcdB) from (ha.keep k).get (n := dcdB) (by decide)); have hvl := getV_le (n := dcdB) ha.vl; clear ha; have hP := fun w' => stampP_is (l := getV F dcdB) rfl w' hvl
  obtain ⟨d, hd⟩ : ∃ d, (behindO (getV F dcdB)).getD zeroD = d := ⟨_, rfl⟩
  obtain ⟨v, hv⟩ : ∃ v, (behindO (getV F dcdB)).isSome = v := ⟨_, rfl⟩
  have HR := Lib.hid (show shownO F (behindO (getV F dcdB)) = .returned (.tuple #[.agg (digC d).toArray, .int .i64 (getN F dcdB : Nat), .bool v]) by unfold shownO; rw [hd, hv]); rw [hd, hv] at hP; have HP := Lib.hid hP; clear hP hd hv hvl; cases v
  case false =>
    go_enter Tryz.func90, Tryz.ntmps90; go_wp2_with (first | ((with_reducible refine gX 1 ?_); refine wpList_boxM rfl 30 (.tmp 0) rfl (ansC st va len ch cl) (by rfl) M0 ?_; intro b w1 M1 _ _; try simp only [Act.put, sqA, sqB, sqC]) | ((with_reducible refine gA 2 ?_); refine wpList_allocM rfl 23 rfl (digC zeroD) (Lib.hid dig_zero) M1 ?_; intro b2 w2 M2 _ _; have c1 := M2.out.get 1 rfl 1 rfl; try simp only [Act.put, sqA, sqB, sqC]) | fail); refine (HG.out _ M2.out.kp).mono ?_; unfold GetOut; rintro e w3 ⟨rfl, k3⟩; have M3 := Lib.hid (M2.out.keep0 k3); clear k3; go_wp2_with fail; refine (HP.out _).mono ?_; rintro e w4 ⟨rfl, k4⟩; have M4 := Lib.hid (M3.out.keep0 k4); clear k4
    go_wp2_with (first | ((with_reducible refine gA 7 ?_); refine wpList_allocM rfl 23 rfl (digC zeroD) (Lib.hid dig_zero) M4 ?_; intro b7 w5 M5 _ _; try simp only [Act.put, sqA, sqB, sqC]) | ((with_reducible refine gS 7 18 ?_); refine wpList_storeM rfl 23 (.tmp 7) (.tmp 18) rfl M5 0 rfl (by rfl) (digC d) (by rfl) (dig_size _) (by rw [digC_length, digC_length]) (dig_one _) ?_; intro w6 M6 _; try simp only [Act.put]) | ((with_reducible refine gL 20 7 ?_); refine wpList_loadM (by rfl) 23 (.tmp 7) rfl M6 0 rfl (by rfl) _ Tryz.underlying23 rfl (dig_size _) ?_; try simp only [Act.put, sqA, sqB, sqC]) | ((with_reducible refine gS 2 20 ?_); refine wpList_storeM rfl 23 (.tmp 2) (.tmp 20) rfl M6 1 rfl (by rfl) (digC d) (by rfl) (dig_size _) (by rw [digC_length, digC_length]) (dig_one _) ?_; intro w7 M7 _; try simp only [Act.put]) | fail); have hload := dg_end M7.out 1 rfl; rw [HR.out]; refine bodyPost_ret (v := .tuple #[.agg (digC d).toArray, .int .i64 (getN F dcdB : Nat), .bool false]) (by simp [results, Tryz.results90, asAddr, Result.andThen, hload]) rfl ⟨rfl, M7.out.kp⟩
  case true =>
    go_enter Tryz.func90, Tryz.ntmps90; go_wp2_with (first | ((with_reducible refine gX 1 ?_); refine wpList_boxM rfl 30 (.tmp 0) rfl (ansC st va len ch cl) (by rfl) M0 ?_; intro b w1 M1 _ _; try simp only [Act.put, sqA, sqB, sqC]) | ((with_reducible refine gA 2 ?_); refine wpList_allocM rfl 23 rfl (digC zeroD) (Lib.hid dig_zero) M1 ?_; intro b2 w2 M2 _ _; have c1 := M2.out.get 1 rfl 1 rfl; try simp only [Act.put, sqA, sqB, sqC]) | fail); refine (HG.out _ M2.out.kp).mono ?_; unfold GetOut; rintro e w3 ⟨rfl, k3⟩; have M3 := Lib.hid (M2.out.keep0 k3); clear k3; go_wp2_with fail; refine (HP.out _).mono ?_; rintro e w4 ⟨rfl, k4⟩; have M4 := Lib.hid (M3.out.keep0 k4); clear k4
    go_wp2_with (first | ((with_reducible refine gA 7 ?_); refine wpList_allocM rfl 23 rfl (digC zeroD) (Lib.hid dig_zero) M4 ?_; intro b7 w5 M5 _ _; try simp only [Act.put, sqA, sqB, sqC]) | ((with_reducible refine gS 7 18 ?_); refine wpList_storeM rfl 23 (.tmp 7) (.tmp 18) rfl M5 0 rfl (by rfl) (digC d) (by rfl) (dig_size _) (by rw [digC_length, digC_length]) (dig_one _) ?_; intro w6 M6 _; try simp only [Act.put]) | ((with_reducible refine gL 20 7 ?_); refine wpList_loadM (by rfl) 23 (.tmp 7) rfl M6 0 rfl (by rfl) _ Tryz.underlying23 rfl (dig_size _) ?_; try simp only [Act.put, sqA, sqB, sqC]) | ((with_reducible refine gS 2 20 ?_); refine wpList_storeM rfl 23 (.tmp 2) (.tmp 20) rfl M6 1 rfl (by rfl) (digC d) (by rfl) (dig_size _) (by rw [digC_length, digC_length]) (dig_one _) ?_; intro w7 M7 _; try simp only [Act.put]) | fail); have hload := dg_end M7.out 1 rfl; rw [HR.out]; refine bodyPost_ret (v := .tuple #[.agg (digC d).toArray, .int .i64 (getN F dcdB : Nat), .bool true]) (by simp [results, Tryz.results90, asAddr, Result.andThen, hload]) rfl ⟨rfl, M7.out.kp⟩
end Go.Proofs.YtlhnjkekjbbhcaaGreatDoor
