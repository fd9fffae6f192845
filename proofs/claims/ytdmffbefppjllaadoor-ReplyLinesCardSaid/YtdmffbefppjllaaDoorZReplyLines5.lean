/- Parts of the proof of ReplyLines, in order. No conditions but those that each theorem states. -/
import Derived.Test.YtdmffbefppjllaaDoorZReplyLines4
/- Layer 14: Next. No conditions but on lengths. -/
namespace Go.Proofs.YtdmffbefppjllaaDoor
open Go.RowKit Go.Shelf

theorem ans_size : (Tryd.prog.info? 33).map (·.size) = some 5 := by kernel_rfl
theorem ans_st (st : Int) {v : Value} (len : Int) (ch cl : Bool) (hv : v.oneCell' = true) : (Tryd.prog.info? 33).map (·.size) = some (ansC st v len ch cl).toArray.size ∧ (ansC st v len ch cl).toArray.all (·.oneCell') = true :=
  ⟨ans_size, by simp [ansC, hv]; exact ⟨rfl, rfl, rfl, rfl⟩⟩
theorem ans_load {w : World} {b : Nat} {st len : Int} {v : Value} {ch cl : Bool} (h : w.rangeAt b 0 (ansC st v len ch cl)) : (loadVar 33 ⟨b, 0, Option.none⟩).run Tryd.prog w = .ok (.agg (ansC st v len ch cl).toArray) w :=
  run_loadVar_mid (P := Tryd.prog) w b 0 33 (ansC st v len ch cl) _ h Tryd.underlying33 rfl ans_size
def ansZ : List Value := ansC 0 (.slice Option.none 0 0) 0 false false
theorem ans_back {w : World} {b : Nat} {st len : Int} {v : Value} {ch cl : Bool} (h : w.there b 0 5) : (loadVar 33 ⟨b, 0, Option.none⟩).run Tryd.prog (w.setCells b 0 (ansC st v len ch cl)) = .ok (.agg (ansC st v len ch cl).toArray) (w.setCells b 0 (ansC st v len ch cl)) := ans_load (World.rangeAt_setCells_same _ b 0 (ansC st v len ch cl) h)
theorem ansZ_back {w : World} {b : Nat} (h : w.there b 0 5) : (loadVar 33 ⟨b, 0, Option.none⟩).run Tryd.prog (w.setCells b 0 ansZ) = .ok (.agg ansZ.toArray) (w.setCells b 0 ansZ) := ans_back h
theorem ansC_one (st : Int) {v : Value} (len : Int) (ch cl : Bool) (hv : v.oneCell' = true) : ∀ x ∈ ansC st v len ch cl, x.oneCell' = true := by
  intro x hx
  simp [ansC] at hx
  rcases hx with rfl | rfl | rfl | rfl | rfl
  · rfl
  · exact hv
  · rfl
  · rfl
  · rfl
/-- Next under way: the result's block is the first one made -/
structure NeS (B : Nat) (w : World) (p : Nat) (X R : List Nat) (wt : World) (X1 R1 : List Nat) (J : ReS) : Prop where
  it : Re B wt p X1 R1 J
  kp : Keep X w wt
  nx : ∀ x ∈ X1, x ∈ X ∨ w.heap.size < x
  nr : ∀ x ∈ R1, x ∈ R ∨ w.heap.size < x
  bk : Blk wt w.heap.size 33 ansZ
theorem NeS.off {B p : Nat} {w wt : World} {X R X1 R1 : List Nat} {I J : ReS} (h : NeS B w p X R wt X1 R1 J) (h0 : Re B w p X R I) : w.heap.size ∉ X1 ∧ w.heap.size ∉ R1 :=
  ⟨fun hh => by rcases h.nx _ hh with h1 | h1; (have := (h0.lo _ h1).2; omega); omega, fun hh => by rcases h.nr _ hh with h1 | h1; (have := (h0.ro _ h1).2.1; omega); omega⟩
theorem NeS.step {B p : Nat} {w wt w2 : World} {X R X1 R1 X2 R2 : List Nat} {I J J2 : ReS} (h : NeS B w p X R wt X1 R1 J) (h0 : Re B w p X R I) (k : Keep X1 wt w2) (hi : Re B w2 p X2 R2 J2)
    (hX : ∀ x ∈ X2, x ∈ X1 ∨ wt.heap.size ≤ x) (hR : ∀ x ∈ R2, x ∈ R1 ∨ wt.heap.size ≤ x) : NeS B w p X R w2 X2 R2 J2 := by
  have hl := h.bk.lt
  refine ⟨hi, h.kp.trans' k (fun x hx hlt => (h.nx x hx).elim id (fun hh => by omega)), fun x hx => ?_, fun x hx => ?_, k.blk h.bk (h.off h0).1⟩
  · rcases hX x hx with h1 | h1
    · exact h.nx x h1
    · exact .inr (by omega)
  · rcases hR x hx with h1 | h1
    · exact h.nr x h1
    · exact .inr (by omega)
/-- what Next comes to -/
def NeOut (B : Nat) (w : World) (p : Nat) (X R : List Nat) (r : NrR) (e : Ending) (w' : World) : Prop :=
  ∃ v X', e = .returned (.tuple #[.int .i64 r.k, .agg (ansC r.a.st v r.a.len r.a.ch r.a.cl).toArray, .string (S r.s)]) ∧ Re B w' p X' [] r.p ∧ Keep X w w' ∧ (∀ x ∈ X', x ∈ X ∨ w.heap.size ≤ x) ∧ Own Fld.cells 2 B 69 w' v r.a.F ∧ ∀ g, v.ownBlock = some g → (g ∈ R ∨ w.heap.size ≤ g) ∧ g ∉ X'
/-- a reply without an answer has nothing that is only read -/
theorem Re.bare {B p : Nat} {w : World} {X R : List Nat} {P : ReS} (h : Re B w p X R P) (ha : P.ans = none) : Re B w p X [] P := by
  obtain ⟨⟨cv, av, h1, h2, h3⟩, h4, h5, h6⟩ := h
  rw [ha] at h3
  exact ⟨⟨cv, av, h1, h2, by rw [ha]; exact h3⟩, h4, h5, by simp⟩
theorem NeS.fin {B p : Nat} {w wt : World} {X R X1 R1 : List Nat} {I J : ReS} (h : NeS B w p X R wt X1 R1 J) (h0 : Re B w p X R I) (hj : J.ans = none) (k : Int) (a : Ans) (v : Value) (s : List UInt8) (ho : Own Fld.cells 2 B 69 wt v a.F) (hg : ∀ g, v.ownBlock = some g → (g ∈ R ∨ w.heap.size < g) ∧ g ∉ X1) :
    NeOut B w p X R ⟨J, k, a, s⟩ (.returned (.tuple #[.int .i64 k, .agg (ansC a.st v a.len a.ch a.cl).toArray, .string (S s)])) (wt.setCells w.heap.size 0 (ansC a.st v a.len a.ch a.cl)) := by
  have kk : Keep [w.heap.size] wt (wt.setCells w.heap.size 0 (ansC a.st v a.len a.ch a.cl)) := Keep.setCells' (S := [w.heap.size]) _ (by simp) _ _ _ (Keep.refl _ _)
  obtain ⟨o1, o2⟩ := h.off h0
  refine ⟨v, X1, rfl, (h.it.bare hj).keep kk (fun x hx => by simp; rintro rfl; exact o1 hx) (by simp), h.kp.trans' kk (fun x hx hlt => by simp at hx; omega), fun x hx => (h.nx x hx).imp id (fun hh => by omega), ho.keep kk (fun g hh => ?_), fun g hh => ⟨(hg g hh).1.imp id (fun hh => by omega), (hg g hh).2⟩⟩
  simp only [List.mem_singleton]
  rintro rfl
  rcases (hg _ hh).1 with h1 | h1
  · have := (h0.ro _ h1).2.1; omega
  · omega
theorem NeS.fin0 {B p : Nat} {w wt : World} {X R X1 R1 : List Nat} {I J : ReS} (h : NeS B w p X R wt X1 R1 J) (h0 : Re B w p X R I) (hj : J.ans = none) (k : Int) (s : List UInt8) :
    NeOut B w p X R ⟨J, k, ans0, s⟩ (.returned (.tuple #[.int .i64 k, .agg ansZ.toArray, .string (S s)])) (wt.setCells w.heap.size 0 ansZ) := h.fin h0 hj k ans0 (.slice Option.none 0 0) s (Own.nil _ _ _ _ _) (by simp [Value.ownBlock])
theorem NeOut.of {B p : Nat} {w w' : World} {X R : List Nat} {r r' : NrR} {e : Ending} (h : NeOut B w p X R r e w') (hr : r' = r) : NeOut B w p X R r' e w' := hr ▸ h
theorem re_ans {B p : Nat} {w : World} {X R : List Nat} {P : ReS} {a : Ans} (h : Re B w p X R P) (ha : P.ans = some a) : ∃ ab sa sl sc, w.cell? ⟨p, 9, Option.none⟩ = some (.pointer (some ⟨ab, 0, Option.none⟩)) ∧ Blk w ab 33 (ansC a.st (.slice sa sl sc) a.len a.ch a.cl) ∧ Own Fld.cells 2 B 69 w (.slice sa sl sc) a.F ∧ (∀ g, (Value.slice sa sl sc).ownBlock = some g → g ∈ R) ∧ ab ∈ R := by
  obtain ⟨⟨cv, av, b1, b2, b3⟩, h4, h5, h6⟩ := h
  rw [ha] at b3
  obtain ⟨ab, v, rfl, g1, g2, g3, g4⟩ := b3
  obtain ⟨sa, sc, rfl, _⟩ := g3.shape
  exact ⟨ab, sa, _, sc, b1.get (k := 9) rfl, g2, g3, g4, g1⟩
theorem re_noAns {B p : Nat} {w : World} {X R : List Nat} {P : ReS} (h : Re B w p X R P) (ha : P.ans = none) : w.cell? ⟨p, 9, Option.none⟩ = some (.pointer Option.none) := by
  obtain ⟨⟨cv, av, b1, b2, b3⟩, h4, h5, h6⟩ := h
  rw [ha] at b3
  have : av = .pointer Option.none := b3
  subst this
  exact b1.get (k := 9) rfl
/-- the answer goes out of the reply -/
theorem re_unans {B p : Nat} {w : World} {X R : List Nat} {P : ReS} (h : Re B w p X R P) : Re B (w.setCell ⟨p, 9, Option.none⟩ (.pointer Option.none)) p X R { P with ans := none } := by
  obtain ⟨⟨cv, av, b1, b2, b3⟩, h4, h5, h6⟩ := h
  have hk : Keep [p] w (w.setCell ⟨p, 9, Option.none⟩ (.pointer Option.none)) := (Keep.refl _ _).setCell _ _ (by simp)
  exact ⟨⟨cv, .pointer Option.none, b1.set 9 (.pointer Option.none), b2.keep hk (fun y _ hy => by simpa using hy), rfl⟩, h4, fun y hy => ⟨(h5 y hy).1, Nat.lt_of_lt_of_le (h5 y hy).2 hk.size⟩, fun y hy => ⟨(h6 y hy).1, Nat.lt_of_lt_of_le (h6 y hy).2.1 hk.size, (h6 y hy).2.2⟩⟩
/-- the loop of Next: where it stands -/
def LpS (B : Nat) (w : World) (p n : Nat) (X R : List Nat) (P : ReS) (g : Nat) (wr : World) : Prop :=
  ∃ Q X1 R1, NeS B w p X R wr X1 R1 Q ∧ Q.ok n ∧ reEnd Q = reEnd P ∧ g = Q.mu
def LpE (B : Nat) (w : World) (p n : Nat) (X R : List Nat) (P : ReS) (wr : World) : Prop :=
  ∃ X1 R1, NeS B w p X R wr X1 R1 (reEnd P) ∧ (reEnd P).ok n

set_option maxHeartbeats 4000000 in
set_option maxRecDepth 100000 in
theorem reply_Next {B p n : Nat} {X R : List Nat} {P : ReS} {w : World} (h : Re B w p X R P) (hm : ML w) (hB : B ≤ w.heap.size) (hbig : 0 < B) (hok : P.ok n) (hn : n ≤ 60000) :
    Calls Tryd.prog 28 #[.pointer (some ⟨p, 0, Option.none⟩)] w (NeOut B w p X R (nextR P)) := by
  have kA := (Keep.refl [] w).alloc (.cells ansZ.toArray 33)
  have bA := Blk.newA w ansZ.toArray 33
  have zst := ans_st 0 (v := .slice Option.none 0 0) 0 false false rfl
  have H := Lib.hid h
  generalize hwA : w.alloc (.cells #[.int .i64 0, .slice Option.none 0 0, .int .i64 0, .bool false, .bool false] 33) = wA
  have hwA' : w.alloc (.cells ansZ.toArray 33) = wA := hwA
  have hszA : wA.heap.size = w.heap.size + 1 := by rw [← hwA']; simp
  rw [hwA'] at kA bA
  have hA := h.keep0 kA
  have NA : NeS B w p X R wA X R P := ⟨hA, kA.mono (by simp), fun x hx => .inl hx, fun x hx => .inl hx, show Blk wA w.heap.size 33 ansZ from bA⟩
  have HL := Lib.hid (show LpS B w p n X R P P.mu wA from ⟨P, X, R, NA, hok, rfl, rfl⟩)
  have MA := Lib.hid (fun wt X1 R1 J (hh : NeS B w p X R wt X1 R1 J) => (hm.keepB hbig hh.kp (fun x hx => (h.lo x hx).1) : ML wt))
  have ZST := Lib.hid zst
  have HN := Lib.hid (nextR_eq P)
  clear h kA bA hA NA hwA' zst hm hok
  go_enter Tryd.func28, Tryd.ntmps28
  go_wp2_with fail
  go_step3
  go_wp2_with fail
  go_step3
  go_upto_block 0 with fail
  clear hwA
  go_cut [0] (fun y wx => y = .pointer (some ⟨p, 0, Option.none⟩) ∧ Hid (LpE B w p n X R P wx))
  case first =>
    go_wp2_with fail
    go_loopg [] P.mu (fun g wr => Hid (LpS B w p n X R P g wr))
    case atStart => exact HL
    case round =>
      obtain ⟨Q, X1, R1, hne, hqok, hqe, hg⟩ := hrel.out
      have HNE := Lib.hid hne
      have HQ := Lib.hid (And.intro hqok hqe)
      cases hqa : Q.ans with
      | some a =>
        obtain ⟨ab, sa, sl, sc, c9, _⟩ := re_ans hne.it hqa
        have hE : reEnd P = Q := by rw [← hqe]; exact reEnd_some (by rw [hqa]; rfl)
        have HF := Lib.hid (show LpE B w p n X R P wr from ⟨X1, R1, by rw [hE]; exact hne, by rw [hE]; exact hqok⟩)
        clear hne hqok hqe hqa hE hrel
        go_wp2_with fail
        go_meet
        exact ⟨rfl, HF⟩
      | none =>
        have c9 := re_noAns hne.it hqa
        have HR := Lib.hid (reply_read hne.it (MA.out wr X1 R1 Q hne) (Nat.le_trans hB hne.kp.size) hbig hqok hn)
        unfold RdOut at HR
        have HQA := Lib.hid hqa
        have HG := Lib.hid hg
        clear hne hqok hqe hqa hrel hg
        cases h2 : (readR Q).2 with
        | true =>
          have HE := Lib.hid ((reEnd_more HQ.out.1 HQA.out h2).symm.trans HQ.out.2)
          have HM := Lib.hid ((read_ok HQ.out.1).2 h2)
          rw [h2] at HR
          clear h2
          go_wp2_with fail
          refine HR.out.mono ?_
          rintro e w2 ⟨rfl, k2, X2, R2, h2, n2, r2⟩
          have HS := Lib.hid (show LpS B w p n X R P (readR Q).1.mu w2 from ⟨(readR Q).1, X2, R2, HNE.out.step H.out k2 h2 n2 r2, (read_ok HQ.out.1).1, HE.out, rfl⟩)
          clear k2 h2 n2 r2
          go_wp2_with fail
          go_roundg (readR Q).1.mu
          case measure => rw [HG.out]; exact HM.out
          case rel => exact HS
        | false =>
          have hE := (reEnd_stop HQA.out h2).symm.trans HQ.out.2
          rw [h2] at HR
          have HE := Lib.hid hE
          clear h2 hE
          go_wp2_with fail
          refine HR.out.mono ?_
          rintro e w2 ⟨rfl, k2, X2, R2, h2, n2, r2⟩
          have HF := Lib.hid (show LpE B w p n X R P w2 from ⟨X2, R2, by rw [← HE.out]; exact HNE.out.step H.out k2 h2 n2 r2, by rw [← HE.out]; exact (read_ok HQ.out.1).1⟩)
          clear k2 h2 n2 r2
          go_wp2_with fail
          go_meet
          exact ⟨rfl, HF⟩
  case rest =>
  obtain ⟨rfl, HE⟩ := hcut
  obtain ⟨X1, R1, hne, hqok⟩ := HE.out
  have HNE := Lib.hid hne
  have hN := HN.out
  have hp5 := hqok.st
  clear HE HN HL hqok
  generalize reEnd P = Q at *
  cases hqa : Q.ans with
  | some a =>
    rw [hqa] at hN
    dsimp only at hN
    obtain ⟨ab, sa, sl, sc, c9, hb, ho, hgr, hab⟩ := re_ans hne.it hqa
    have hoff := hne.off H.out
    have hbk := hne.bk
    have kW := (Keep.refl [] wc).alloc (.cells (ansC a.st (.slice sa sl sc) a.len a.ch a.cl).toArray 33)
    have nW := Blk.newA wc (ansC a.st (.slice sa sl sc) a.len a.ch a.cl).toArray 33
    have hp5' := hne.it.lt
    have RNG := Lib.hid hb.range'
    generalize hwW : wc.alloc (.cells (ansC a.st (.slice sa sl sc) a.len a.ch a.cl).toArray 33) = wW at kW nW
    have iW := hne.it.keep0 kW
    have d9 : wW.cell? ⟨p, 9, Option.none⟩ = some (.pointer (some ⟨ab, 0, Option.none⟩)) := kW.load c9
    have g9 := iW.free 9
    have kP := (Keep.refl [p] wW).setCell ⟨p, 9, Option.none⟩ (.pointer Option.none) (by simp)
    have hnep : wc.heap.size ≠ p := by omega
    have nP := kP.blk (show Blk wW wc.heap.size 33 (ansC a.st (.slice sa sl sc) a.len a.ch a.cl) from nW) (by simpa using hnep)
    have iP := re_unans iW
    have HNP := Lib.hid ((hne.step H.out (kW.mono (S' := X1) (by simp)) iW (fun x hx => .inl hx) (fun x hx => .inl hx)).step H.out (iW.keepX kP) iP (fun x hx => .inl hx) (fun x hx => .inl hx))
    have kD := (Keep.refl [] (wW.setCell ⟨p, 9, Option.none⟩ (.pointer Option.none))).drew
    have HND := Lib.hid (HNP.out.step H.out (kD.mono (S' := X1) (by simp)) (HNP.out.it.keep0 kD) (fun x hx => .inl hx) (fun x hx => .inl hx))
    have HT := Lib.hid (HND.out.bk.there' 0 5 (by simp [ansZ, ansC]))
    have hload := ans_back (st := a.st) (v := .slice sa sl sc) (len := a.len) (ch := a.ch) (cl := a.cl) HT.out
    have HLd := Lib.hid hload
    have OP := (ho.keep0 kW).keep kP (fun g hg => by simp; rintro rfl; exact (hne.it.ro _ (hgr _ hg)).2.2 hne.it.mem)
    have HF := Lib.hid ((HND.out.fin H.out rfl 1 a (.slice sa sl sc) [] (OP.keep0 kD) (fun g hg => ⟨hne.nr g (hgr g hg), (hne.it.ro g (hgr g hg)).2.2⟩)).of hN)
    have HS1 := Lib.hid (ansC_one a.st (v := .slice sa sl sc) a.len a.ch a.cl rfl)
    have ST := Lib.hid (ans_st a.st (v := .slice sa sl sc) a.len a.ch a.cl rfl)
    have nD := kD.blk nP (by simp)
    have RP := Lib.hid nD.range'
    have hneq : wc.heap.size ≠ w.heap.size := by have := hne.bk.lt; omega
    have kS : Keep [w.heap.size] (wW.setCell ⟨p, 9, Option.none⟩ (.pointer Option.none)).drew ((wW.setCell ⟨p, 9, Option.none⟩ (.pointer Option.none)).drew.setCells w.heap.size 0 (ansC a.st (.slice sa sl sc) a.len a.ch a.cl)) := Keep.setCells' (S := [w.heap.size]) _ (by simp) _ _ _ (Keep.refl _ _)
    have RP2 := Lib.hid (kS.blk nD (by simpa using hneq)).range'
    clear kS kD nD hload ho hgr hab hoff hbk kW nW iW kP nP iP OP hp5 hp5' hb hqa hN hne
    go_wp2_with (first
      | (with_reducible (show wpList _ _ _ ((⟨_, .load _ (.tmp 28), _, _, _, none⟩ : Oper) :: _) _ _)
         refine wpList_load_mid rfl 33 (.tmp 28) rfl ab 0 (by rfl) (ansC a.st (.slice sa sl sc) a.len a.ch a.cl) _ RNG.out Tryd.underlying33 rfl ans_size ?_
         try simp only [Act.put, List.setIfInBounds_toArray, List.set_cons_succ, List.set_cons_zero])
      | (with_reducible (show wpList _ _ _ ((⟨none, .store _ (.tmp 5) (.tmp 29), _, _, _, none⟩ : Oper) :: _) _ _)
         refine wpList_store_fresh rfl 33 (.tmp 5) (.tmp 29) rfl _ (ansC a.st (.slice sa sl sc) a.len a.ch a.cl) (by rfl) (by rfl) ans_size (by rfl) HS1.out ?_
         rw [hwW]
         try simp only [Act.put, List.setIfInBounds_toArray, List.set_cons_succ, List.set_cons_zero])
      | fail)
    refine wp_region_noPanic ?_
    refine wp_region_held_drew (S := fun w' => w'.rangeAt wc.heap.size 0 (ansC a.st (.slice sa sl sc) a.len a.ch a.cl)) (by kernel_rfl) RP.out (fun hHeld => ?_)
    refine wpAnyH_take (i := 0) (oi := ⟨some 33, .load _ (.tmp 5), _, _, _, none⟩) (v := _) rfl (by kernel_rfl) (by kernel_rfl) (by kernel_rfl) (fun _ _ _ h => h) (yieldsIf_load_mid (by rfl) 33 (.tmp 5) rfl wc.heap.size 0 rfl (ansC a.st (.slice sa sl sc) a.len a.ch a.cl) _ (fun _ h => h) Tryd.underlying33 rfl ans_size) (by assumption) ?_
    try simp only [Act.put, List.setIfInBounds_toArray, List.set_cons_zero, List.set_cons_succ]
    refine wpAnyH_take (i := 1) (oi := ⟨some 2, .assign _, _, _, _, none⟩) (v := ?_) rfl (by kernel_rfl) (by kernel_rfl) (by kernel_rfl) (fun _ _ _ h => h) (Or.inl ⟨by rfl, ?_⟩) (by assumption) ?_
    rotate_left
    · (intro w' hSw; go_simp) <;> (with_reducible rfl)
    try simp only [Act.put, List.setIfInBounds_toArray, List.set_cons_zero, List.set_cons_succ]
    refine wpAnyH_ready (rs := [2]) (by kernel_rfl) (by simp) ?_
    refine AllReadyH.cons (o := ⟨none, .store _ (.tmp 3) (.tmp 33), _, _, _, none⟩) rfl (fun K hK => ?_) AllReadyH.nil
    rw [if_pos (by rfl)]
    refine wp_store_mid 33 (.tmp 3) (.tmp 33) rfl w.heap.size 0 (ansC a.st (.slice sa sl sc) a.len a.ch a.cl).toArray (by rfl) (by first | rfl | kernel_rfl) HT.out ST.out.1 ST.out.2 ?_
    refine hK.out _ _ RP2.out (fun hHeld2 => ?_)
    clear hK K hHeld
    try simp only [Act.put, List.setIfInBounds_toArray, List.set_cons_zero, List.set_cons_succ]
    refine wpAnyH_take (i := 3) (oi := ⟨some 4, .assign _, _, _, _, none⟩) (v := ?_) rfl (by kernel_rfl) (by kernel_rfl) (by kernel_rfl) (fun _ _ _ h => h) (Or.inl ⟨by rfl, ?_⟩) (by assumption) ?_
    rotate_left
    · (intro w' hSw; go_simp) <;> (with_reducible rfl)
    try simp only [Act.put, List.setIfInBounds_toArray, List.set_cons_zero, List.set_cons_succ]
    refine wpAnyH_done (by kernel_rfl) ?_ _
    refine NoPanic.normal ?_
    go_wp2_with fail
    refine bodyPost_ret (v := .tuple #[.int .i64 1, .agg (ansC a.st (.slice sa sl sc) a.len a.ch a.cl).toArray, .string (S [])]) (by have hl := HLd.out; simp [Act.put, results, Tryd.results28, asAddr, Result.andThen, hl]; rfl) rfl HF.out
  | none =>
    rw [hqa] at hN
    dsimp only at hN
    have c9 := re_noAns hne.it hqa
    obtain ⟨_, _, c2, _, c4, _⟩ := hne.it.at_
    by_cases hd : Q.dat = []
    · rw [if_neg (by simp [hd])] at hN
      replace c4 : wc.cell? ⟨p, 4, Option.none⟩ = some (.string ⟨#[]⟩) := by rw [hd] at c4; exact c4
      have HR := Lib.hid (reply_finish hne.it hp5)
      have ha2 : (reFinish Q).1.ans = none := by
        rw [← hqa]
        unfold reFinish
        split
        · rfl
        · split <;> rfl
      have HA2 := Lib.hid ha2
      have HNN := Lib.hid hN
      clear hp5 hd hqa hN hne ha2
      go_wp2_with fail
      refine HR.out.mono ?_
      rintro e w2 ⟨rfl, h2, k2⟩
      have HNP := Lib.hid (HNE.out.step H.out (HNE.out.it.keepX k2) h2 (fun x hx => .inl hx) (fun x hx => .inl hx))
      have HT := Lib.hid (HNP.out.bk.there' 0 5 (by simp [ansZ, ansC]))
      have HLd := Lib.hid (ansZ_back HT.out)
      have HF := Lib.hid ((HNP.out.fin0 H.out HA2.out (reFinish Q).2 []).of HNN.out)
      clear h2 k2
      go_wp2_with (first
        | (with_reducible (show wpList _ _ _ ((⟨none, .store _ (.tmp 3) (.tmp 51), _, _, _, none⟩ : Oper) :: _) _ _)
           refine wpList_store_mid rfl 33 (.tmp 3) (.tmp 51) rfl w.heap.size 0 ansZ.toArray (by rfl) (by first | rfl | kernel_rfl) HT.out ZST.out.1 ZST.out.2 ?_
           try simp only [Act.put])
        | fail)
      refine bodyPost_ret (v := .tuple #[.int .i64 (reFinish Q).2, .agg ansZ.toArray, .string (S [])]) (by have hl := HLd.out; simp [Act.put, results, Tryd.results28, asAddr, Result.andThen, hl]; rfl) rfl HF.out
    · rw [if_pos hd] at hN
      have tl := S_toList Q.dat
      have te : Q.dat.isEmpty = false := by simpa [List.isEmpty_iff] using hd
      have te2 : (Q.dat == []) = false := by simpa using hd
      have f4 := hne.it.free 4
      have hs := hne.it.set (P' := { Q with dat := [] }) 4 (.string ⟨#[]⟩) (fun _ _ => rfl) rfl rfl
      have HNP := Lib.hid (hne.step H.out (hne.it.keepX ((Keep.refl [p] _).setCell ⟨p, 4, Option.none⟩ (.string ⟨#[]⟩) (by simp))) hs (fun x hx => .inl hx) (fun x hx => .inl hx))
      have HT := Lib.hid (HNP.out.bk.there' 0 5 (by simp [ansZ, ansC]))
      have HLd := Lib.hid (ansZ_back HT.out)
      have HF := Lib.hid ((HNP.out.fin0 H.out hqa 2 Q.dat).of (hN.trans (by rw [hqa])))
      clear hp5 hd hqa hN hne hs
      go_wp2_with (first
        | (with_reducible (show wpList _ _ _ ((⟨none, .store _ (.tmp 3) (.tmp 47), _, _, _, none⟩ : Oper) :: _) _ _)
           refine wpList_store_mid rfl 33 (.tmp 3) (.tmp 47) rfl w.heap.size 0 ansZ.toArray (by rfl) (by first | rfl | kernel_rfl) HT.out ZST.out.1 ZST.out.2 ?_
           try simp only [Act.put])
        | fail)
      refine bodyPost_ret (v := .tuple #[.int .i64 2, .agg ansZ.toArray, .string (S Q.dat)]) (by have hl := HLd.out; simp [Act.put, results, Tryd.results28, asAddr, Result.andThen, hl]) rfl HF.out
end Go.Proofs.YtdmffbefppjllaaDoor

/- Layer 14: a reply among other things in memory; what the statements are awake to. No conditions but on lengths. -/
namespace Go.Proofs.YtdmffbefppjllaaDoor
open Go.RowKit Go.Shelf

/-- a reply that was made since w0, apart from the blocks L -/
structure Rp (w0 w : World) (p : Nat) (X : List Nat) (P : ReS) (n : Nat) (L : List Nat) : Prop where
  re : Re w0.heap.size w p X [] P
  ok : P.ok n
  kp : Keep [] w0 w
  ap : ∀ l ∈ L, l ∉ X ∧ l < w.heap.size
theorem Rp.keep {w0 w w' : World} {p n : Nat} {X L S : List Nat} {P : ReS} (h : Rp w0 w p X P n L) (k : Keep S w w') (hS : ∀ x ∈ S, w0.heap.size ≤ x) (hX : ∀ x ∈ X, x ∉ S) : Rp w0 w' p X P n L :=
  ⟨h.re.keep k hX (by simp), h.ok, h.kp.above k hS, fun l hl => ⟨(h.ap l hl).1, Nat.lt_of_lt_of_le (h.ap l hl).2 k.size⟩⟩
theorem Rp.keep0 {w0 w w' : World} {p n : Nat} {X L : List Nat} {P : ReS} (h : Rp w0 w p X P n L) (k : Keep [] w w') : Rp w0 w' p X P n L := h.keep k (by simp) (by simp)
theorem Rp.less {w0 w : World} {p n : Nat} {X L L' : List Nat} {P : ReS} (h : Rp w0 w p X P n L) (hL : ∀ l ∈ L', l ∈ L) : Rp w0 w p X P n L' := ⟨h.re, h.ok, h.kp, fun l hl => h.ap l (hL l hl)⟩
/-- a block that was just made is apart -/
theorem Rp.add {w0 w w' : World} {p n : Nat} {X L : List Nat} {P : ReS} (h : Rp w0 w p X P n L) (k : Keep [] w w') (l : Nat) (hl : w.heap.size ≤ l) (hl2 : l < w'.heap.size) : Rp w0 w' p X P n (l :: L) :=
  ⟨h.re.keep0 k, h.ok, h.kp.trans k, fun x hx => by
    rcases List.mem_cons.1 hx with rfl | hx
    · exact ⟨fun hh => by have := (h.re.lo _ hh).2; omega, hl2⟩
    · exact ⟨(h.ap x hx).1, Nat.lt_of_lt_of_le (h.ap x hx).2 k.size⟩⟩
theorem rp_new {w0 w : World} (hd : Bool) {most : Int} (hm : in64 most) (k : Keep [] w0 w) (L : List Nat) (hL : ∀ l ∈ L, l < w.heap.size) :
    Calls Tryd.prog 10 #[.bool hd, .int .i64 most] w fun e w' => ∃ p, e = .returned (.pointer (some ⟨p, 0, Option.none⟩)) ∧ w.heap.size ≤ p ∧ p < w'.heap.size ∧ Rp w0 w' p [p] (reNew hd most) 0 L ∧ Keep [] w w' := by
  refine (reply_New w0.heap.size hd most w k.size).mono ?_
  rintro e w' ⟨p, rfl, hp, h1, h2⟩
  exact ⟨p, rfl, hp, h1.lt, ⟨h1, reNew_ok hd hm, k.trans h2, fun l hl => ⟨by have := hL l hl; simp; omega, Nat.lt_of_lt_of_le (hL l hl) h2.size⟩⟩, h2⟩
theorem rp_add {w0 w : World} {p n : Nat} {X L : List Nat} {P : ReS} (s : List UInt8) (h : Rp w0 w p X P n L) (hn : n ≤ 60000) (hs : s.length ≤ 1048576) :
    Calls Tryd.prog 11 #[.pointer (some ⟨p, 0, Option.none⟩), .string (S s)] w fun e w' => e = .returned (.int .i64 (reAdd P s).2) ∧ Rp w0 w' p X (reAdd P s).1 (n + 2 * s.length) L ∧ Keep [p] w w' := by
  have hwt := h.ok.wt
  have hlen : 2 * P.inp.length + P.dat.length ≤ n := by unfold ReS.wt at hwt; omega
  refine (reply_Add s h.re (by omega) hs).mono ?_
  rintro e w' ⟨rfl, h1, h2⟩
  exact ⟨rfl, ⟨h1, reAdd_ok h.ok s, h.kp.above h2 (fun x hx => by have h9 : x = p := (by simpa using hx); rw [h9]; exact h.re.base), fun l hl => ⟨(h.ap l hl).1, Nat.lt_of_lt_of_le (h.ap l hl).2 h2.size⟩⟩, h2⟩
/-- what Next comes to, among other things -/
def NpOut (w0 w : World) (p : Nat) (X : List Nat) (n : Nat) (L : List Nat) (r : NrR) (e : Ending) (w' : World) : Prop :=
  ∃ sa sl sc X', e = .returned (.tuple #[.int .i64 r.k, .agg (ansC r.a.st (.slice sa sl sc) r.a.len r.a.ch r.a.cl).toArray, .string (S r.s)]) ∧ Rp w0 w' p X' r.p n L ∧ Keep X w w' ∧ (∀ x ∈ X', x ∈ X ∨ w.heap.size ≤ x) ∧ Own Fld.cells 2 w0.heap.size 69 w' (.slice sa sl sc) r.a.F ∧ ∀ g, (Value.slice sa sl sc).ownBlock = some g → w.heap.size ≤ g ∧ g ∉ X'
theorem rp_next {w0 w : World} {p n : Nat} {X L : List Nat} {P : ReS} (h : Rp w0 w p X P n L) (hm : ML w0) (hn : n ≤ 60000) {r : NrR} (hr : nextR P = r) :
    Calls Tryd.prog 28 #[.pointer (some ⟨p, 0, Option.none⟩)] w (NpOut w0 w p X n L r) := by
  subst hr
  refine (reply_Next h.re (hm.keep h.kp (by simp)) h.kp.size hm.lt h.ok hn).mono ?_
  rintro e w' ⟨v, X', rfl, h1, h2, h3, h4, h5⟩
  obtain ⟨sa, sc, rfl, _⟩ := h4.shape
  exact ⟨sa, _, sc, X', rfl, ⟨h1, nextR_ok h.ok, h.kp.above h2 (fun x hx => (h.re.lo x hx).1), fun l hl => ⟨fun hh => by
    rcases h3 l hh with h6 | h6
    · exact (h.ap l hl).1 h6
    · have := (h.ap l hl).2; omega, Nat.lt_of_lt_of_le (h.ap l hl).2 h2.size⟩⟩, h2, h3, h4, fun g hg => ⟨(h5 g hg).1.elim (fun hh => by cases hh) id, (h5 g hg).2⟩⟩
theorem rp_rest {w0 w : World} {p n : Nat} {X L : List Nat} {P : ReS} (h : Rp w0 w p X P n L) :
    Calls Tryd.prog 29 #[.pointer (some ⟨p, 0, Option.none⟩)] w fun e w' => e = .returned (.string (S (reRest P))) ∧ w = w' := reply_Rest h.re

theorem aw14_P : (reAdd (reNew false 100) aw14a).2 = 0 := by kernel_rfl
theorem aw14_Q : (reAdd (reNew true 100) aw14b).2 = 0 := by kernel_rfl
theorem in64_100 : in64 100 := by unfold in64; omega
theorem aw14a_len : aw14a.length = 42 := by kernel_rfl
theorem aw14b_len : aw14b.length = 38 := by kernel_rfl
set_option maxRecDepth 100000 in
set_option maxHeartbeats 8000000 in
theorem reply_awake (w : World) (hm : ML w) : Calls Tryd.prog 7 #[] w fun e w' => e = .returned (.bool true) ∧ Keep [] w w' := by
  have HM := Lib.hid hm
  have HN := Lib.hid (rp_new (w0 := w) (w := w) false in64_100 (Keep.refl [] w) [] (by simp))
  have HLn := Lib.hid (fun w' (k : Keep [] w w') => reply_Line [72, 84, 84, 80, 47, 49, 46, 48, 32, 52, 48, 52] w' (hm.keep k (by simp)) (by decide))
  rw [aw14_line] at HLn
  obtain ⟨⟨P1, k1, ⟨st1, F1, len1, ch1, cl1⟩, s1⟩, hr1⟩ : ∃ r, nextR aw14P = r := ⟨_, rfl⟩
  obtain ⟨⟨P2, k2, ⟨st2, F2, len2, ch2, cl2⟩, s2⟩, hr2⟩ : ∃ r, nextR P1 = r := ⟨_, rfl⟩
  obtain ⟨⟨P3, k3, ⟨st3, F3, len3, ch3, cl3⟩, s3⟩, hr3⟩ : ∃ r, nextR P2 = r := ⟨_, rfl⟩
  obtain ⟨⟨P4, k4, ⟨st4, F4, len4, ch4, cl4⟩, s4⟩, hr4⟩ : ∃ r, nextR aw14Q = r := ⟨_, rfl⟩
  obtain ⟨⟨P5, k5, ⟨st5, F5, len5, ch5, cl5⟩, s5⟩, hr5⟩ : ∃ r, nextR P4 = r := ⟨_, rfl⟩
  have q1 := aw14_1
  have q2 := aw14_2
  have q3 := aw14_3
  have q4 := aw14_4
  rw [hr1] at q1 q2 q3
  dsimp only at q1 q2 q3
  rw [hr2] at q2 q3
  dsimp only at q2 q3
  rw [hr3] at q3
  rw [hr4] at q4
  dsimp only at q3 q4
  rw [hr5] at q4
  dsimp only at q4
  obtain ⟨rfl, rfl, rfl⟩ := q1
  obtain ⟨rfl, rfl⟩ := q2
  obtain ⟨rfl, hrest⟩ := q3
  obtain ⟨rfl, rfl, rfl⟩ := q4
  have R1 := Lib.hid hr1
  have R2 := Lib.hid hr2
  have R3 := Lib.hid hr3
  have R4 := Lib.hid hr4
  have R5 := Lib.hid hr5
  have RR := Lib.hid hrest
  have t1 := S_toList [97, 98, 99]
  have t2 := S_toList [100]
  have E0 := Lib.hid (show (reAdd (reNew false 100) aw14a).1 = aw14P from rfl)
  have E1 := Lib.hid (show (reAdd (reNew true 100) aw14b).1 = aw14Q from rfl)
  clear hm hr1 hr2 hr3 hr4 hr5 hrest
  go_enter Tryd.func7, Tryd.ntmps7
  go_wp2_with fail
  refine HN.out.mono ?_
  rintro e w1 ⟨p, rfl, hp, hpl, h1, k1⟩
  have HA := Lib.hid (rp_add aw14a h1 (by omega) (by rw [aw14a_len]; omega))
  rw [aw14_P, E0.out, aw14a_len] at HA
  clear h1 k1 HN E0
  go_wp2_with fail
  refine HA.out.mono ?_
  rintro e w2 ⟨rfl, h2, k2⟩
  have H := Lib.hid h2
  have HX := Lib.hid (rp_next H.out HM.out (by omega) R1.out)
  unfold NpOut at HX
  dsimp only at HX
  clear h2 k2 HA
  go_wp2_with fail
  refine HX.out.mono ?_
  rintro e v1 ⟨sa1, sl1, sc1, X1, rfl, h, k, _, _, _⟩
  have kA := (Keep.refl [] v1).alloc (.cells (ansC 200 (.slice sa1 sl1 sc1) 3 ch1 cl1).toArray 33)
  have bA := Blk.newA v1 (ansC 200 (.slice sa1 sl1 sc1) 3 ch1 cl1).toArray 33
  have hlA : v1.heap.size < (v1.alloc (.cells (ansC 200 (.slice sa1 sl1 sc1) 3 ch1 cl1).toArray 33)).heap.size := by simp
  generalize hw1 : v1.alloc (.cells (ansC 200 (.slice sa1 sl1 sc1) 3 ch1 cl1).toArray 33) = u1 at kA bA hlA
  have h' := h.add kA v1.heap.size (Nat.le_refl _) hlA
  have HO1 := Lib.hid (ansC_one 200 (v := .slice sa1 sl1 sc1) 3 ch1 cl1 rfl)
  clear H HX
  have H := Lib.hid h'
  have B1 := Lib.hid (show Blk u1 v1.heap.size 33 (ansC 200 (.slice sa1 sl1 sc1) 3 ch1 cl1) from bA)
  have HX := Lib.hid (rp_next H.out HM.out (by omega) R2.out)
  unfold NpOut at HX
  dsimp only at HX
  clear h k kA bA h' hlA
  go_wp2_with (first
    | (with_reducible (show wpList _ _ _ ((⟨none, .store _ (.tmp 3) (.tmp 33), _, _, _, none⟩ : Oper) :: _) _ _)
       refine wpList_store_fresh rfl 33 (.tmp 3) (.tmp 33) rfl _ (ansC 200 (.slice sa1 sl1 sc1) 3 ch1 cl1) (by rfl) (by rfl) ans_size (by rfl) HO1.out ?_
       rw [hw1]
       try simp only [Act.put, List.setIfInBounds_toArray, List.set_cons_succ, List.set_cons_zero])
    | fail)
  refine HX.out.mono ?_
  rintro e v2 ⟨sa2, sl2, sc2, X2, rfl, h, k, _, _, _⟩
  have b_B1 := k.blk B1.out (H.out.ap _ (by simp)).1
  have kA := (Keep.refl [] v2).alloc (.cells (ansC st2 (.slice sa2 sl2 sc2) len2 ch2 cl2).toArray 33)
  have bA := Blk.newA v2 (ansC st2 (.slice sa2 sl2 sc2) len2 ch2 cl2).toArray 33
  have hlA : v2.heap.size < (v2.alloc (.cells (ansC st2 (.slice sa2 sl2 sc2) len2 ch2 cl2).toArray 33)).heap.size := by simp
  generalize hw2 : v2.alloc (.cells (ansC st2 (.slice sa2 sl2 sc2) len2 ch2 cl2).toArray 33) = u2 at kA bA hlA
  have c_B1 := kA.blk b_B1 (by simp)
  have h' := h.add kA v2.heap.size (Nat.le_refl _) hlA
  have HO2 := Lib.hid (ansC_one st2 (v := .slice sa2 sl2 sc2) len2 ch2 cl2 rfl)
  clear H HX
  have H := Lib.hid h'
  clear B1 b_B1
  have B1 := Lib.hid c_B1
  clear c_B1
  have B2 := Lib.hid (show Blk u2 v2.heap.size 33 (ansC st2 (.slice sa2 sl2 sc2) len2 ch2 cl2) from bA)
  have HX := Lib.hid (rp_next H.out HM.out (by omega) R3.out)
  unfold NpOut at HX
  dsimp only at HX
  clear h k kA bA h' hlA
  go_wp2_with (first
    | (with_reducible (show wpList _ _ _ ((⟨none, .store _ (.tmp 6) (.tmp 39), _, _, _, none⟩ : Oper) :: _) _ _)
       refine wpList_store_fresh rfl 33 (.tmp 6) (.tmp 39) rfl _ (ansC st2 (.slice sa2 sl2 sc2) len2 ch2 cl2) (by rfl) (by rfl) ans_size (by rfl) HO2.out ?_
       rw [hw2]
       try simp only [Act.put, List.setIfInBounds_toArray, List.set_cons_succ, List.set_cons_zero])
    | fail)
  refine HX.out.mono ?_
  rintro e v3 ⟨sa3, sl3, sc3, X3, rfl, h, k, _, _, _⟩
  have b_B1 := k.blk B1.out (H.out.ap _ (by simp)).1
  have b_B2 := k.blk B2.out (H.out.ap _ (by simp)).1
  have kA := (Keep.refl [] v3).alloc (.cells (ansC st3 (.slice sa3 sl3 sc3) len3 ch3 cl3).toArray 33)
  have bA := Blk.newA v3 (ansC st3 (.slice sa3 sl3 sc3) len3 ch3 cl3).toArray 33
  have hlA : v3.heap.size < (v3.alloc (.cells (ansC st3 (.slice sa3 sl3 sc3) len3 ch3 cl3).toArray 33)).heap.size := by simp
  generalize hw3 : v3.alloc (.cells (ansC st3 (.slice sa3 sl3 sc3) len3 ch3 cl3).toArray 33) = u3 at kA bA hlA
  have c_B1 := kA.blk b_B1 (by simp)
  have c_B2 := kA.blk b_B2 (by simp)
  have h' := h.add kA v3.heap.size (Nat.le_refl _) hlA
  have HO3 := Lib.hid (ansC_one st3 (v := .slice sa3 sl3 sc3) len3 ch3 cl3 rfl)
  clear H HX
  have H := Lib.hid h'
  clear B1 b_B1
  have B1 := Lib.hid c_B1
  clear c_B1
  clear B2 b_B2
  have B2 := Lib.hid c_B2
  clear c_B2
  have B3 := Lib.hid (show Blk u3 v3.heap.size 33 (ansC st3 (.slice sa3 sl3 sc3) len3 ch3 cl3) from bA)
  clear h k kA bA h' hlA
  have HP := H
  have HN := Lib.hid (rp_new (w0 := w) (w := u3) true in64_100 H.out.kp (v1.heap.size :: X3) (by
    intro l hl
    rcases List.mem_cons.1 hl with rfl | hl
    · exact B1.out.lt
    · exact (HP.out.re.lo l hl).2))
  clear H B2 B3
  go_wp2_with (first
    | (with_reducible (show wpList _ _ _ ((⟨none, .store _ (.tmp 9) (.tmp 45), _, _, _, none⟩ : Oper) :: _) _ _)
       refine wpList_store_fresh rfl 33 (.tmp 9) (.tmp 45) rfl _ (ansC st3 (.slice sa3 sl3 sc3) len3 ch3 cl3) (by rfl) (by rfl) ans_size (by rfl) HO3.out ?_
       rw [hw3]
       try simp only [Act.put, List.setIfInBounds_toArray, List.set_cons_succ, List.set_cons_zero])
    | fail)
  refine HN.out.mono ?_
  rintro e w4 ⟨q, rfl, hq, hql, h1, k⟩
  have hP' := HP.out.keep0 k
  have b1' := k.blk B1.out (by simp)
  have HA := Lib.hid (rp_add aw14b h1 (by omega) (by rw [aw14b_len]; omega))
  rw [aw14_Q, E1.out, aw14b_len] at HA
  have HQX := Lib.hid (fun l hl => (h1.ap l hl).1)
  clear h1 k HP B1 HN E1 hw3
  have HP := Lib.hid hP'
  have B1 := Lib.hid b1'
  clear hP' b1'
  go_wp2_with fail
  refine HA.out.mono ?_
  rintro e w5 ⟨rfl, h2, k⟩
  have hP' := HP.out.keep k (fun x hx => by have h9 : x = q := (by simpa using hx); rw [h9]; exact h2.re.base) (fun x hx => HQX.out x (List.mem_cons_of_mem _ hx))
  have b1' := k.blk B1.out (HQX.out _ (by simp))
  have H := Lib.hid h2
  have HX := Lib.hid (rp_next H.out HM.out (by omega) R4.out)
  unfold NpOut at HX
  dsimp only at HX
  clear h2 k HP B1 HA HQX
  have HP := Lib.hid hP'
  have B1 := Lib.hid b1'
  clear hP' b1'
  go_wp2_with fail
  refine HX.out.mono ?_
  rintro e v4 ⟨sa4, sl4, sc4, X4, rfl, h, k, _, _, _⟩
  have b_B1 := k.blk B1.out (H.out.ap _ (by simp)).1
  have hP' := HP.out.keep k (fun x hx => (H.out.re.lo x hx).1) (fun x hx hh => (H.out.ap x (List.mem_cons_of_mem _ (by first | exact hx | simp [hx]))).1 hh)
  have kA := (Keep.refl [] v4).alloc (.cells (ansC st4 (.slice sa4 sl4 sc4) 3 ch4 cl4).toArray 33)
  have bA := Blk.newA v4 (ansC st4 (.slice sa4 sl4 sc4) 3 ch4 cl4).toArray 33
  have hlA : v4.heap.size < (v4.alloc (.cells (ansC st4 (.slice sa4 sl4 sc4) 3 ch4 cl4).toArray 33)).heap.size := by simp
  generalize hw4 : v4.alloc (.cells (ansC st4 (.slice sa4 sl4 sc4) 3 ch4 cl4).toArray 33) = u4 at kA bA hlA
  have c_B1 := kA.blk b_B1 (by simp)
  have hP2 := hP'.keep0 kA
  have h' := h.add kA v4.heap.size (Nat.le_refl _) hlA
  have HO4 := Lib.hid (ansC_one st4 (v := .slice sa4 sl4 sc4) 3 ch4 cl4 rfl)
  clear H HX
  have H := Lib.hid h'
  clear B1 b_B1
  have B1 := Lib.hid c_B1
  clear c_B1
  have B4 := Lib.hid (show Blk u4 v4.heap.size 33 (ansC st4 (.slice sa4 sl4 sc4) 3 ch4 cl4) from bA)
  have HX := Lib.hid (rp_next H.out HM.out (by omega) R5.out)
  unfold NpOut at HX
  dsimp only at HX
  clear HP
  have HP := Lib.hid hP2
  clear hP' hP2
  clear h k kA bA h' hlA
  go_wp2_with (first
    | (with_reducible (show wpList _ _ _ ((⟨none, .store _ (.tmp 13) (.tmp 54), _, _, _, none⟩ : Oper) :: _) _ _)
       refine wpList_store_fresh rfl 33 (.tmp 13) (.tmp 54) rfl _ (ansC st4 (.slice sa4 sl4 sc4) 3 ch4 cl4) (by rfl) (by rfl) ans_size (by rfl) HO4.out ?_
       rw [hw4]
       try simp only [Act.put, List.setIfInBounds_toArray, List.set_cons_succ, List.set_cons_zero])
    | fail)
  refine HX.out.mono ?_
  rintro e v5 ⟨sa5, sl5, sc5, X5, rfl, h, k, _, _, _⟩
  have b_B1 := k.blk B1.out (H.out.ap _ (by simp)).1
  have b_B4 := k.blk B4.out (H.out.ap _ (by simp)).1
  have hP' := HP.out.keep k (fun x hx => (H.out.re.lo x hx).1) (fun x hx hh => (H.out.ap x (List.mem_cons_of_mem _ (by first | exact hx | simp [hx]))).1 hh)
  have kA := (Keep.refl [] v5).alloc (.cells (ansC st5 (.slice sa5 sl5 sc5) len5 ch5 cl5).toArray 33)
  have bA := Blk.newA v5 (ansC st5 (.slice sa5 sl5 sc5) len5 ch5 cl5).toArray 33
  have hlA : v5.heap.size < (v5.alloc (.cells (ansC st5 (.slice sa5 sl5 sc5) len5 ch5 cl5).toArray 33)).heap.size := by simp
  generalize hw5 : v5.alloc (.cells (ansC st5 (.slice sa5 sl5 sc5) len5 ch5 cl5).toArray 33) = u5 at kA bA hlA
  have c_B1 := kA.blk b_B1 (by simp)
  have c_B4 := kA.blk b_B4 (by simp)
  have hP2 := hP'.keep0 kA
  have h' := h.add kA v5.heap.size (Nat.le_refl _) hlA
  have HO5 := Lib.hid (ansC_one st5 (v := .slice sa5 sl5 sc5) len5 ch5 cl5 rfl)
  clear H HX
  have H := Lib.hid h'
  clear B1 b_B1
  have B1 := Lib.hid c_B1
  clear c_B1
  clear B4 b_B4
  have B4 := Lib.hid c_B4
  clear c_B4
  have B5 := Lib.hid (show Blk u5 v5.heap.size 33 (ansC st5 (.slice sa5 sl5 sc5) len5 ch5 cl5) from bA)
  clear HP
  have HP := Lib.hid hP2
  clear hP' hP2
  clear h k kA bA h' hlA
  have HRe := Lib.hid (rp_rest HP.out)
  rw [RR.out] at HRe
  have HLq := HLn.out _ H.out.kp
  unfold StL.out at HLq
  have HLq := Lib.hid HLq
  have x0 := B1.out.get (k := 0) rfl
  have x2 := B1.out.get (k := 2) rfl
  have y2 := B4.out.get (k := 2) rfl
  have HK := Lib.hid H.out.kp
  clear HLn HM
  go_wp2_with (first
    | (with_reducible (show wpList _ _ _ ((⟨none, .store _ (.tmp 16) (.tmp 60), _, _, _, none⟩ : Oper) :: _) _ _)
       refine wpList_store_fresh rfl 33 (.tmp 16) (.tmp 60) rfl _ (ansC st5 (.slice sa5 sl5 sc5) len5 ch5 cl5) (by rfl) (by rfl) ans_size (by rfl) HO5.out ?_
       rw [hw5]
       try simp only [Act.put, List.setIfInBounds_toArray, List.set_cons_succ, List.set_cons_zero])
    | fail)
  refine HLq.out.mono ?_
  rintro e w6 ⟨rfl, k⟩
  have hRe := rp_rest (HP.out.keep0 k)
  rw [RR.out] at hRe
  have HRe := Lib.hid hRe
  have x0' := k.load x0
  have x2' := k.load x2
  have y2' := k.load y2
  have HK6 := Lib.hid (HK.out.trans k)
  clear k x0 x2 y2 hRe hw5
  go_wp2_with fail
  refine HRe.out.mono ?_
  rintro e w7 ⟨rfl, rfl⟩
  go_wp2_with fail
  go_ret
  exact ⟨rfl, HK6.out⟩
end Go.Proofs.YtdmffbefppjllaaDoor

/- Layer 14: the document's status line. No conditions but on lengths. -/
namespace Go.Proofs.YtdmffbefppjllaaDoor
open Go.RowKit Go.Shelf

theorem pre7 (l : List UInt8) : Lib.hasPrefix l http1B = (l.take 7 == [72, 84, 84, 80, 47, 49, 46]) := by
  rw [Bool.eq_iff_iff]
  unfold Lib.hasPrefix
  rw [List.isPrefixOf_iff_prefix, List.prefix_iff_eq_take]
  show http1B = l.take 7 ↔ _
  rw [beq_iff_eq]
  exact eq_comm
theorem at_drop {l : List UInt8} {n k : Nat} {x : UInt8} (h : (l.drop n)[k]? = some x) : l[n + k]? = some x := by rw [List.getElem?_drop] at h; exact h

set_option maxRecDepth 100000 in
set_option maxHeartbeats 4000000 in
theorem ref14_Line (l : List UInt8) (w : World) (hl : l.length < 4294967000) :
    Calls Tryd.prog 9 #[.string (S l)] w fun e w' => e = .returned (slM l).out ∧ Keep [] w w' := by
  have hsz := S_size l
  have hcut := slM_pre (l := l)
  have hsh := slM_short (l := l)
  have hsx := @slM_six l
  have hsi := six_of (l := l)
  have hpp := pre7 l
  generalize slM l = R at *
  by_cases h12 : l.length < 12
  · have HR := Lib.hid (hsh h12)
    have q : decide ((l.length : Int) < 12) = true := by simp; omega
    clear hcut hsh hsx hsi hpp h12
    go_enter Tryd.func9, Tryd.ntmps9
    go_wp2_with fail
    refine bodyPost_ret (res3 rfl _ _ _) rfl ⟨?_, Keep.refl _ _⟩
    rw [HR.out]
    rfl
  have q : decide ((l.length : Int) < 12) = false := by simp; omega
  have x7 : (S l).extract 0 7 = S (l.take 7) := by rw [S_extract]; rfl
  have tl7 := S_toList (l.take 7)
  have hll : 12 ≤ l.length := by omega
  cases hpf : Lib.hasPrefix l http1B with
  | false =>
    have HR := Lib.hid (hcut hpf)
    have hb : (l.take 7 == [72, 84, 84, 80, 47, 49, 46]) = false := hpp.symm.trans hpf
    have hb2 : (l.take 7 != [72, 84, 84, 80, 47, 49, 46]) = true := by unfold bne; rw [hb]; rfl
    generalize l.take 7 = t7 at *
    clear hcut hsh hsx hsi hpp hpf h12
    go_enter Tryd.func9, Tryd.ntmps9
    go_wp2_with fail
    refine bodyPost_ret (res3 rfl _ _ _) rfl ⟨?_, Keep.refl _ _⟩
    rw [HR.out]
    rfl
  | true =>
    have hb : (l.take 7 == [72, 84, 84, 80, 47, 49, 46]) = true := hpp.symm.trans hpf
    have hb2 : (l.take 7 != [72, 84, 84, 80, 47, 49, 46]) = false := by unfold bne; rw [hb]; rfl
    obtain ⟨v, sp, a, b, c, ws, hd, hws⟩ := hsi (by omega)
    have hr := hsx hpf hd
    have g7 : ∀ h : 7 < (S l).size, (S l)[7]'h = v := fun h => S_get (at_drop (n := 7) (k := 0) (by rw [hd]; rfl)) h
    have g8 : ∀ h : 8 < (S l).size, (S l)[8]'h = sp := fun h => S_get (at_drop (n := 7) (k := 1) (by rw [hd]; rfl)) h
    have g9 : ∀ h : 9 < (S l).size, (S l)[9]'h = a := fun h => S_get (at_drop (n := 7) (k := 2) (by rw [hd]; rfl)) h
    have HGC : Hid (∀ i, 9 ≤ i → i < 12 → ∀ x, [a, b, c][i - 9]? = some x → ∀ h : i < (S l).size, (S l)[i]'h = x) := Lib.hid (fun i h1 h2 x hx h => S_get (by
      have e : l[7 + (i - 7)]? = some x := at_drop (n := 7) (k := i - 7) (by
        rw [hd]
        have : i = 9 ∨ i = 10 ∨ i = 11 := by omega
        rcases this with rfl | rfl | rfl <;> exact hx)
      rwa [show 7 + (i - 7) = i by omega] at e) h)
    have x12 : (S l).extract 12 l.length = S ws := by rw [S_extract, List.take_length, ← hws]
    have hwl : l.length = 12 + ws.length := by rw [hws, List.length_drop]; omega
    have HW0 : Hid (∀ d wt, ws = d :: wt → ∀ h : 12 < (S l).size, (S l)[12]'h = d) := Lib.hid (fun d wt e h => S_get (at_drop (n := 12) (k := 0) (by rw [← hws, e]; rfl)) h)
    have HR := Lib.hid hr
    have HT := Lib.hid (fun w' => ref_Text ws w' (by show _ ≤ 9223372036854775807; omega))
    have cv := u8_nat v
    have csp := u8_nat sp
    have ca := u8_nat a
    generalize l.take 7 = t7 at *
    clear hr hcut hsh hsx hsi hpp hpf h12 hd hws
    have HWL := Lib.hid hwl
    clear hwl
    by_cases hvv : v = 48 ∨ v = 49
    case neg =>
      have hR := Lib.hid (six_no HR.out (by unfold sixOk; have h1 : (v == 48) = false := by simp; exact fun h => hvv (.inl h)
                                            have h2 : (v == 49) = false := by simp; exact fun h => hvv (.inr h)
                                            rw [h1, h2]; rfl))
      have hn1 : v.toNat ≠ 48 := fun h => hvv (.inl (UInt8.toNat_inj.1 (by rw [h]; rfl)))
      have hn2 : v.toNat ≠ 49 := fun h => hvv (.inr (UInt8.toNat_inj.1 (by rw [h]; rfl)))
      have q1 : (((v.toNat : Nat) : Int) != 48) = true := by simp; omega
      have q2 : (((v.toNat : Nat) : Int) != 49) = true := by simp; omega
      clear hvv hn1 hn2
      go_enter Tryd.func9, Tryd.ntmps9
      go_wp2_with fail
      refine bodyPost_ret (res3 rfl _ _ _) rfl ⟨?_, Keep.refl _ _⟩
      rw [hR.out]
      rfl
    have hv2 : ((((v.toNat : Nat) : Int) != 48) = false ∨ ((((v.toNat : Nat) : Int) != 48) = true ∧ (((v.toNat : Nat) : Int) != 49) = false)) := by
      rcases hvv with rfl | rfl
      · exact .inl rfl
      · exact .inr ⟨rfl, rfl⟩
    have hvb : (v == 48 || v == 49) = true := by rcases hvv with rfl | rfl <;> rfl
    have hvr : 48 ≤ v.toNat ∧ v.toNat ≤ 49 := by rcases hvv with rfl | rfl <;> decide
    have wv1 := IntWalk.u8_in ((v.toNat : Int) - 48) (by omega)
    have wv2 := IntWalk.i64_in ((v.toNat : Int) - 48) (by omega)
    have HVB := Lib.hid hvb
    clear hvv hvb hvr
    by_cases hsp : sp = 32
    case neg =>
      have hR := Lib.hid (six_no HR.out (by unfold sixOk; have h1 : (sp == 32) = false := by simpa using hsp
                                            rw [h1]; simp))
      have hn : sp.toNat ≠ 32 := fun h => hsp (UInt8.toNat_inj.1 (by rw [h]; rfl))
      have q3 : (((sp.toNat : Nat) : Int) != 32) = true := by simp; omega
      clear hsp hn
      rcases hv2 with q1 | ⟨q1, q2⟩
      all_goals
        go_enter Tryd.func9, Tryd.ntmps9
        go_wp2_with fail
        refine bodyPost_ret (res3 rfl _ _ _) rfl ⟨?_, Keep.refl _ _⟩
        rw [hR.out]
        rfl
    have q3 : (((sp.toNat : Nat) : Int) != 32) = false := by rw [hsp]; rfl
    have HSP := Lib.hid hsp
    clear hsp
    by_cases ha : 49 ≤ a.toNat ∧ a.toNat ≤ 53
    case neg =>
      have hR := Lib.hid (six_no HR.out (by unfold sixOk
                                            have : (decide (49 ≤ a.toNat) && decide (a.toNat ≤ 53)) = false := by simp; omega
                                            rw [Bool.and_assoc _ (decide (49 ≤ a.toNat)), this]; simp))
      have ha' : a.toNat < 49 ∨ (49 ≤ a.toNat ∧ 53 < a.toNat) := by omega
      clear ha
      rcases hv2 with q1 | ⟨q1, q2⟩
      all_goals
        rcases ha' with ha1 | ⟨ha1, ha2⟩
        all_goals
          go_enter Tryd.func9, Tryd.ntmps9
          go_wp2_with fail
          refine bodyPost_ret (res3 rfl _ _ _) rfl ⟨?_, Keep.refl _ _⟩
          rw [hR.out]
          rfl
    obtain ⟨ha1, ha2⟩ := ha
    have hR0 : R = if [a, b, c].all digB && wdOk ws then ⟨stN [a, b, c], (v.toNat : Int) - 48, true⟩ else stl0 := by
      rw [HR.out]; unfold sixOk; rw [HVB.out, HSP.out, decide_eq_true ha1, decide_eq_true ha2]; simp
    clear HR
    have hcase : (wdOk ws = true ∧ decide ((l.length : Int) > 12) = false) ∨
        (wdOk ws = false ∧ decide ((l.length : Int) > 12) = true ∧ 12 < l.length ∧ ∃ d : UInt8, (∀ h : 12 < (S l).size, (S l)[12]'h = d) ∧ d.toNat < 256 ∧ (((d.toNat : Nat) : Int) != 32) = true) ∨
        (wdOk ws = isTxt ws ∧ decide ((l.length : Int) > 12) = true ∧ 12 < l.length ∧ ∃ d : UInt8, (∀ h : 12 < (S l).size, (S l)[12]'h = d) ∧ d.toNat < 256 ∧ (((d.toNat : Nat) : Int) != 32) = false) := by
      have hwl := HWL.out
      cases hws : ws with
      | nil =>
        rw [hws] at hwl
        simp at hwl
        exact .inl ⟨rfl, by simp; omega⟩
      | cons d wt =>
        have hwl' : 12 < l.length := by rw [hwl, hws]; simp
        have d0 := HW0.out d wt hws
        have hw1 : wdOk (d :: wt) = (d == 32 && isTxt (d :: wt)) := rfl
        by_cases hd : d = 32
        · refine .inr (.inr ⟨by rw [hw1]; simp [hd], by simp; omega, hwl', d, d0, u8_nat d, by rw [hd]; rfl⟩)
        · have hn : d.toNat ≠ 32 := fun h => hd (UInt8.toNat_inj.1 (by rw [h]; rfl))
          refine .inr (.inl ⟨by rw [hw1, show (d == 32) = false by simpa using hd]; rfl, by simp; omega, hwl', d, d0, u8_nat d, by simp; omega⟩)
    have hcase4 : (Hid (wdOk ws = true) ∧ decide ((l.length : Int) > 12) = false) ∨
        (Hid (wdOk ws = false) ∧ decide ((l.length : Int) > 12) = true ∧ 12 < l.length ∧ ∃ d : UInt8, (∀ h : 12 < (S l).size, (S l)[12]'h = d) ∧ d.toNat < 256 ∧ (((d.toNat : Nat) : Int) != 32) = true) ∨
        (Hid (wdOk ws = false ∧ isTxt ws = false) ∧ decide ((l.length : Int) > 12) = true ∧ 12 < l.length ∧ ∃ d : UInt8, (∀ h : 12 < (S l).size, (S l)[12]'h = d) ∧ d.toNat < 256 ∧ (((d.toNat : Nat) : Int) != 32) = false) ∨
        (Hid (wdOk ws = true ∧ isTxt ws = true) ∧ decide ((l.length : Int) > 12) = true ∧ 12 < l.length ∧ ∃ d : UInt8, (∀ h : 12 < (S l).size, (S l)[12]'h = d) ∧ d.toNat < 256 ∧ (((d.toNat : Nat) : Int) != 32) = false) := by
      rcases hcase with h | h | ⟨h, h2⟩
      · exact .inl h
      · exact .inr (.inl h)
      · cases hit : isTxt ws with
        | false => exact .inr (.inr (.inl ⟨⟨h.trans hit, rfl⟩, h2⟩))
        | true => exact .inr (.inr (.inr ⟨⟨h.trans hit, rfl⟩, h2⟩))
    have HT2 := Lib.hid (HT.out w)
    have hab : [a, b, c].length = 3 := rfl
    generalize [a, b, c] = cs at *
    have HR0 := Lib.hid hR0
    have HCS := Lib.hid hab
    clear hcase HW0 HWL HT hR0 hab
    rcases hv2 with q1 | ⟨q1, q2⟩
    all_goals
      rcases hcase4 with ⟨hw, ql⟩ | ⟨hw, ql, hl12, d, d0, d8, q4⟩ | ⟨hw, ql, hl12, d, d0, d8, q4⟩ | ⟨hw, ql, hl12, d, d0, d8, q4⟩
      rotate_left
      · have hR := Lib.hid (show R = stl0 by rw [HR0.out, hw.out]; simp)
        go_enter Tryd.func9, Tryd.ntmps9
        go_wp2_with fail
        refine bodyPost_ret (res3 rfl _ _ _) rfl ⟨?_, Keep.refl _ _⟩
        rw [hR.out]
        rfl
      · have hR := Lib.hid (show R = stl0 by rw [HR0.out, hw.out.1]; simp)
        rw [hw.out.2] at HT2
        go_enter Tryd.func9, Tryd.ntmps9
        go_wp2_with fail
        refine HT2.out.mono ?_
        rintro e w1 ⟨rfl, rfl⟩
        go_wp2_with fail
        refine bodyPost_ret (res3 rfl _ _ _) rfl ⟨?_, Keep.refl _ _⟩
        rw [hR.out]
        rfl
      have hR := Lib.hid (show R = if cs.all digB then ⟨stN cs, (v.toNat : Int) - 48, true⟩ else stl0 by rw [HR0.out, hw.out.1]; simp)
      rw [hw.out.2] at HT2
      go_enter Tryd.func9, Tryd.ntmps9
      go_wp2_with fail
      refine HT2.out.mono ?_
      rintro e w1 ⟨rfl, rfl⟩
      go_wp2_with fail
      rotate_left
      have hR := Lib.hid (show R = if cs.all digB then ⟨stN cs, (v.toNat : Int) - 48, true⟩ else stl0 by rw [HR0.out, hw.out]; simp)
      go_enter Tryd.func9, Tryd.ntmps9
      go_wp2_with fail
      all_goals
        clear hw HR0 HT2 x7 tl7 hb hb2 g8 g9 x12
        go_loopg [5, 6] 3 (fun gg sv iv wr => ∃ i m : Nat, sv = .int .i64 (m : Nat) ∧ iv = .int .i64 (i : Nat) ∧ 9 ≤ i ∧ i ≤ 12 ∧ gg = 12 - i ∧ m ≤ 999 ∧ (i ≤ 11 → m ≤ 99) ∧ Hid (stN (cs.take (i - 9)) = (m : Nat) ∧ (cs.take (i - 9)).all digB = true) ∧ Hid (Keep [] w wr))
        case atStart => exact ⟨9, 0, rfl, rfl, by omega, by omega, rfl, by omega, by omega, Lib.hid ⟨rfl, rfl⟩, Lib.hid (Keep.refl _ _)⟩
        case round =>
          obtain ⟨i, m, rfl, rfl, hi1, hi2, hgg, hm1, hm2, HS, KR⟩ := hrel
          by_cases hlt : i < 12
          · obtain ⟨x, hx⟩ : ∃ x, cs[i - 9]? = some x := ⟨_, List.getElem?_eq_getElem (by rw [HCS.out]; omega)⟩
            have hg := HGC.out i hi1 hlt x hx
            have hx8 := u8_nat x
            have hts := take_snoc hx
            have h91 : i + 1 - 9 = i - 9 + 1 := by omega
            have hil : i < l.length := by omega
            by_cases hdx : digB x = true
            · have hd9 : 48 ≤ x.toNat ∧ x.toNat ≤ 57 := by simpa [digB] using hdx
              obtain ⟨hd1, hd2⟩ := hd9
              have hm3 := hm2 (by omega)
              have wx1 := IntWalk.u8_in ((x.toNat : Int) - 48) (by omega)
              have wx2 := IntWalk.i64_in ((x.toNat : Int) - 48) (by omega)
              have wm1 := IntWalk.i64_in ((m : Int) * 10) (by omega)
              have wm2 := IntWalk.i64_in ((m : Int) * 10 + ((x.toNat : Int) - 48)) (by omega)
              have wi := IntWalk.i64_in ((i : Int) + 1) (by omega)
              have hall : (cs.take (i + 1 - 9)).all digB = true := by rw [h91, hts, List.all_append, HS.out.2]; simp [hdx]
              obtain ⟨m', e', hb'⟩ := stN_nat _ hall (by rw [List.length_take]; omega)
              have he : (m : Int) * 10 + ((x.toNat : Int) - 48) = (m' : Nat) := by rw [← e', h91, hts, stN_snoc, HS.out.1]
              have hlk : (cs.take (i + 1 - 9)).length = i + 1 - 9 := by rw [List.length_take, HCS.out]; omega
              rw [hlk] at hb'
              have hb1 : m' ≤ 999 ∧ (i + 1 ≤ 11 → m' ≤ 99) := by
                have : i = 9 ∨ i = 10 ∨ i = 11 := by omega
                rcases this with rfl | rfl | rfl <;> (simp at hb'; omega)
              have HN := Lib.hid (And.intro e' hall)
              clear hx hts hdx hall e' hb' hlk hm3 hm2 HS h91
              go_wp2_with fail
              go_roundg (12 - (i + 1))
              case measure => omega
              case rel => exact ⟨i + 1, m', by rw [← he], by go_num, by omega, by omega, rfl, hb1.1, hb1.2, HN, KR⟩
            · have hno : cs.all digB = false := by rw [List.all_eq_false]; exact ⟨x, List.mem_of_getElem? hx, hdx⟩
              have hR' := Lib.hid (show R = stl0 by rw [hR.out, hno]; rfl)
              have hd9 : x.toNat < 48 ∨ (48 ≤ x.toNat ∧ 57 < x.toNat) := by
                have : ¬ (48 ≤ x.toNat ∧ x.toNat ≤ 57) := by simpa [digB] using hdx
                omega
              clear hx hts hdx hno hm2 HS
              rcases hd9 with hd1 | ⟨hd1, hd2⟩
              all_goals
                go_wp2_with fail
                refine bodyPost_ret (res3 rfl _ _ _) rfl ⟨?_, KR.out⟩
                rw [hR'.out]
                rfl
          · have hk3 : i - 9 = 3 := by omega
            have hfull : cs.take (i - 9) = cs := List.take_of_length_le (by rw [HCS.out]; omega)
            rw [hfull] at HS
            have hR' := Lib.hid (show R = ⟨m, (v.toNat : Int) - 48, true⟩ by rw [hR.out, HS.out.1, HS.out.2]; rfl)
            clear hfull HS hm2 hk3
            go_wp2_with fail
            go_region_with fail
            all_goals
              go_wp2_with fail
              refine bodyPost_ret (res3 rfl _ _ _) rfl ⟨?_, ?_⟩
              · rw [hR'.out]
                rfl
              · repeat (first | exact KR.out | apply Keep.drew)
end Go.Proofs.YtdmffbefppjllaaDoor

/- Layer 14: the statement ReplyLines. No conditions. -/
namespace Go.Proofs.YtdmffbefppjllaaDoor
open Go.RowKit Go.Shelf

set_option maxRecDepth 100000 in
set_option maxHeartbeats 4000000 in
theorem replyLines_walk (s : List UInt8) (w : World) (hm : ML w) (hs : s.length ≤ maxLen) :
    Calls Tryd.prog 3 #[.string (S s)] w fun e w' => e = .returned (.bool true) ∧ Keep [] w w' := by
  have hs' : s.length ≤ 9223372036854775807 := hs
  have s0 := S_size s
  have HA := Lib.hid (reply_awake w hm)
  by_cases hl : 4096 < s.length
  · have q : decide ((s.length : Int) > 4096) = true := by simp; omega
    clear hl hm
    go_enter Tryd.func3, Tryd.ntmps3
    go_wp2_with fail
    refine HA.out.mono ?_
    rintro e w1 ⟨rfl, k1⟩
    have K1 := Lib.hid k1
    clear k1
    go_wp2_with fail
    go_ret
    exact ⟨rfl, K1.out⟩
  · have q : decide ((s.length : Int) > 4096) = false := by simp; omega
    have H1 := Lib.hid (fun w' (k : Keep [] w w') => reply_Line s w' (hm.keep k (by simp)) (by omega))
    have H2 := Lib.hid (fun w' => ref14_Line s w' (by omega))
    unfold StL.out at H1 H2
    generalize slM s = ln at *
    obtain ⟨ln, lv, lk⟩ := ln
    dsimp only at H1 H2
    clear hl hm
    go_enter Tryd.func3, Tryd.ntmps3
    go_wp2_with fail
    refine HA.out.mono ?_
    rintro e w1 ⟨rfl, k1⟩
    have K1 := Lib.hid k1
    clear k1
    go_wp2_with fail
    refine (H1.out _ K1.out).mono ?_
    rintro e w2 ⟨rfl, k2⟩
    have K2 := Lib.hid (K1.out.trans k2)
    clear k2
    go_wp2_with fail
    refine (H2.out _).mono ?_
    rintro e w3 ⟨rfl, k3⟩
    have K3 := Lib.hid (K2.out.trans k3)
    clear k3
    go_wp2_with fail
    go_ret
    exact ⟨ret_bool (by simp), K3.out⟩
end Go.Proofs.YtdmffbefppjllaaDoor
