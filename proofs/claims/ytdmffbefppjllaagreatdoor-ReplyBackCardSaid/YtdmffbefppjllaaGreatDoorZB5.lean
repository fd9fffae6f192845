/- Parts of the proof, in order. No conditions but those that each theorem states. -/
import Derived.Test.YtdmffbefppjllaaGreatDoorZB4
import Derived.DeepKeys4
/- Layer 14: Next. No conditions but on lengths. -/
namespace Go.Proofs.YtdmffbefppjllaaGreatDoor
open Go.RowKit Go.Shelf

theorem ans_size : (Tryz.prog.info? 47).map (·.size) = some 5 := by kernel_rfl
theorem ans_st (st : Int) {v : Value} (len : Int) (ch cl : Bool) (hv : v.oneCell' = true) : (Tryz.prog.info? 47).map (·.size) = some (ansC st v len ch cl).toArray.size ∧ (ansC st v len ch cl).toArray.all (·.oneCell') = true :=
  ⟨ans_size, by simp [ansC, hv]; exact ⟨rfl, rfl, rfl, rfl⟩⟩
theorem ans_load {w : World} {b : Nat} {st len : Int} {v : Value} {ch cl : Bool} (h : w.rangeAt b 0 (ansC st v len ch cl)) : (loadVar 47 ⟨b, 0, Option.none⟩).run Tryz.prog w = .ok (.agg (ansC st v len ch cl).toArray) w :=
  run_loadVar_mid (P := Tryz.prog) w b 0 47 (ansC st v len ch cl) _ h Tryz.underlying47 rfl ans_size
def ansZ : List Value := ansC 0 (.slice Option.none 0 0) 0 false false
theorem ans_back {w : World} {b : Nat} {st len : Int} {v : Value} {ch cl : Bool} (h : w.there b 0 5) : (loadVar 47 ⟨b, 0, Option.none⟩).run Tryz.prog (w.setCells b 0 (ansC st v len ch cl)) = .ok (.agg (ansC st v len ch cl).toArray) (w.setCells b 0 (ansC st v len ch cl)) := ans_load (World.rangeAt_setCells_same _ b 0 (ansC st v len ch cl) h)
theorem ansZ_back {w : World} {b : Nat} (h : w.there b 0 5) : (loadVar 47 ⟨b, 0, Option.none⟩).run Tryz.prog (w.setCells b 0 ansZ) = .ok (.agg ansZ.toArray) (w.setCells b 0 ansZ) := ans_back h
theorem ansC_one (st : Int) {v : Value} (len : Int) (ch cl : Bool) (hv : v.oneCell' = true) : ∀ x ∈ ansC st v len ch cl, x.oneCell' = true := by
  intro x hx
  simp [ansC] at hx
  rcases hx with rfl | rfl | rfl | rfl | rfl
  · rfl
  · exact hv
  · rfl
  · rfl
  · rfl
/-- Next under way: the result's block is the first one made -/
structure NeS (B : Nat) (w : World) (p : Nat) (X R : List Nat) (wt : World) (X1 R1 : List Nat) (J : ReS) : Prop where
  it : Re B wt p X1 R1 J
  kp : Keep X w wt
  nx : ∀ x ∈ X1, x ∈ X ∨ w.heap.size < x
  nr : ∀ x ∈ R1, x ∈ R ∨ w.heap.size < x
  bk : Blk wt w.heap.size 47 ansZ
theorem NeS.off {B p : Nat} {w wt : World} {X R X1 R1 : List Nat} {I J : ReS} (h : NeS B w p X R wt X1 R1 J) (h0 : Re B w p X R I) : w.heap.size ∉ X1 ∧ w.heap.size ∉ R1 :=
  ⟨fun hh => by rcases h.nx _ hh with h1 | h1; (have := (h0.lo _ h1).2; omega); omega, fun hh => by rcases h.nr _ hh with h1 | h1; (have := (h0.ro _ h1).2.1; omega); omega⟩
theorem NeS.step {B p : Nat} {w wt w2 : World} {X R X1 R1 X2 R2 : List Nat} {I J J2 : ReS} (h : NeS B w p X R wt X1 R1 J) (h0 : Re B w p X R I) (k : Keep X1 wt w2) (hi : Re B w2 p X2 R2 J2)
    (hX : ∀ x ∈ X2, x ∈ X1 ∨ wt.heap.size ≤ x) (hR : ∀ x ∈ R2, x ∈ R1 ∨ wt.heap.size ≤ x) : NeS B w p X R w2 X2 R2 J2 := by
  have hl := h.bk.lt
  refine ⟨hi, h.kp.trans' k (fun x hx hlt => (h.nx x hx).elim id (fun hh => by omega)), fun x hx => ?_, fun x hx => ?_, k.blk h.bk (h.off h0).1⟩
  · rcases hX x hx with h1 | h1
    · exact h.nx x h1
    · exact .inr (by omega)
  · rcases hR x hx with h1 | h1
    · exact h.nr x h1
    · exact .inr (by omega)
/-- what Next comes to -/
def NeOut (B : Nat) (w : World) (p : Nat) (X R : List Nat) (r : NrR) (e : Ending) (w' : World) : Prop :=
  ∃ v X', e = .returned (.tuple #[.int .i64 r.k, .agg (ansC r.a.st v r.a.len r.a.ch r.a.cl).toArray, .string (S r.s)]) ∧ Re B w' p X' [] r.p ∧ Keep X w w' ∧ (∀ x ∈ X', x ∈ X ∨ w.heap.size ≤ x) ∧ Own Fld.cells 2 B 26 w' v r.a.F ∧ ∀ g, v.ownBlock = some g → (g ∈ R ∨ w.heap.size ≤ g) ∧ g ∉ X'
/-- a reply without an answer has nothing that is only read -/
theorem Re.bare {B p : Nat} {w : World} {X R : List Nat} {P : ReS} (h : Re B w p X R P) (ha : P.ans = none) : Re B w p X [] P := by
  obtain ⟨⟨cv, av, h1, h2, h3⟩, h4, h5, h6⟩ := h
  rw [ha] at h3
  exact ⟨⟨cv, av, h1, h2, by rw [ha]; exact h3⟩, h4, h5, by simp⟩
theorem NeS.fin {B p : Nat} {w wt : World} {X R X1 R1 : List Nat} {I J : ReS} (h : NeS B w p X R wt X1 R1 J) (h0 : Re B w p X R I) (hj : J.ans = none) (k : Int) (a : Ans) (v : Value) (s : List UInt8) (ho : Own Fld.cells 2 B 26 wt v a.F) (hg : ∀ g, v.ownBlock = some g → (g ∈ R ∨ w.heap.size < g) ∧ g ∉ X1) :
    NeOut B w p X R ⟨J, k, a, s⟩ (.returned (.tuple #[.int .i64 k, .agg (ansC a.st v a.len a.ch a.cl).toArray, .string (S s)])) (wt.setCells w.heap.size 0 (ansC a.st v a.len a.ch a.cl)) := by
  have kk : Keep [w.heap.size] wt (wt.setCells w.heap.size 0 (ansC a.st v a.len a.ch a.cl)) := Keep.setCells' (S := [w.heap.size]) _ (by simp) _ _ _ (Keep.refl _ _)
  obtain ⟨o1, o2⟩ := h.off h0
  refine ⟨v, X1, rfl, (h.it.bare hj).keep kk (fun x hx => by simp; rintro rfl; exact o1 hx) (by simp), h.kp.trans' kk (fun x hx hlt => by simp at hx; omega), fun x hx => (h.nx x hx).imp id (fun hh => by omega), ho.keep kk (fun g hh => ?_), fun g hh => ⟨(hg g hh).1.imp id (fun hh => by omega), (hg g hh).2⟩⟩
  simp only [List.mem_singleton]
  rintro rfl
  rcases (hg _ hh).1 with h1 | h1
  · have := (h0.ro _ h1).2.1; omega
  · omega
theorem NeS.fin0 {B p : Nat} {w wt : World} {X R X1 R1 : List Nat} {I J : ReS} (h : NeS B w p X R wt X1 R1 J) (h0 : Re B w p X R I) (hj : J.ans = none) (k : Int) (s : List UInt8) :
    NeOut B w p X R ⟨J, k, ans0, s⟩ (.returned (.tuple #[.int .i64 k, .agg ansZ.toArray, .string (S s)])) (wt.setCells w.heap.size 0 ansZ) := h.fin h0 hj k ans0 (.slice Option.none 0 0) s (Own.nil _ _ _ _ _) (by simp [Value.ownBlock])
theorem NeOut.of {B p : Nat} {w w' : World} {X R : List Nat} {r r' : NrR} {e : Ending} (h : NeOut B w p X R r e w') (hr : r' = r) : NeOut B w p X R r' e w' := hr ▸ h
theorem re_ans {B p : Nat} {w : World} {X R : List Nat} {P : ReS} {a : Ans} (h : Re B w p X R P) (ha : P.ans = some a) : ∃ ab sa sl sc, w.cell? ⟨p, 9, Option.none⟩ = some (.pointer (some ⟨ab, 0, Option.none⟩)) ∧ Blk w ab 47 (ansC a.st (.slice sa sl sc) a.len a.ch a.cl) ∧ Own Fld.cells 2 B 26 w (.slice sa sl sc) a.F ∧ (∀ g, (Value.slice sa sl sc).ownBlock = some g → g ∈ R) ∧ ab ∈ R := by
  obtain ⟨⟨cv, av, b1, b2, b3⟩, h4, h5, h6⟩ := h
  rw [ha] at b3
  obtain ⟨ab, v, rfl, g1, g2, g3, g4⟩ := b3
  obtain ⟨sa, sc, rfl, _⟩ := g3.shape
  exact ⟨ab, sa, _, sc, b1.get (k := 9) rfl, g2, g3, g4, g1⟩
theorem re_noAns {B p : Nat} {w : World} {X R : List Nat} {P : ReS} (h : Re B w p X R P) (ha : P.ans = none) : w.cell? ⟨p, 9, Option.none⟩ = some (.pointer Option.none) := by
  obtain ⟨⟨cv, av, b1, b2, b3⟩, h4, h5, h6⟩ := h
  rw [ha] at b3
  have : av = .pointer Option.none := b3
  subst this
  exact b1.get (k := 9) rfl
/-- the answer goes out of the reply -/
theorem re_unans {B p : Nat} {w : World} {X R : List Nat} {P : ReS} (h : Re B w p X R P) : Re B (w.setCell ⟨p, 9, Option.none⟩ (.pointer Option.none)) p X R { P with ans := none } := by
  obtain ⟨⟨cv, av, b1, b2, b3⟩, h4, h5, h6⟩ := h
  have hk : Keep [p] w (w.setCell ⟨p, 9, Option.none⟩ (.pointer Option.none)) := (Keep.refl _ _).setCell _ _ (by simp)
  exact ⟨⟨cv, .pointer Option.none, b1.set 9 (.pointer Option.none), b2.keep hk (fun y _ hy => by simpa using hy), rfl⟩, h4, fun y hy => ⟨(h5 y hy).1, Nat.lt_of_lt_of_le (h5 y hy).2 hk.size⟩, fun y hy => ⟨(h6 y hy).1, Nat.lt_of_lt_of_le (h6 y hy).2.1 hk.size, (h6 y hy).2.2⟩⟩
/-- the loop of Next: where it stands -/
def LpS (B : Nat) (w : World) (p n : Nat) (X R : List Nat) (P : ReS) (g : Nat) (wr : World) : Prop :=
  ∃ Q X1 R1, NeS B w p X R wr X1 R1 Q ∧ Q.ok n ∧ reEnd Q = reEnd P ∧ g = Q.mu
def LpE (B : Nat) (w : World) (p n : Nat) (X R : List Nat) (P : ReS) (wr : World) : Prop :=
  ∃ X1 R1, NeS B w p X R wr X1 R1 (reEnd P) ∧ (reEnd P).ok n

set_option maxHeartbeats 4000000 in
set_option maxRecDepth 100000 in
theorem reply_Next {B p n : Nat} {X R : List Nat} {P : ReS} {w : World} (h : Re B w p X R P) (hm : ML w) (hB : B ≤ w.heap.size) (hbig : 0 < B) (hok : P.ok n) (hn : n ≤ 60000) :
    Calls Tryz.prog 21 #[.pointer (some ⟨p, 0, Option.none⟩)] w (NeOut B w p X R (nextR P)) := by
  have kA := (Keep.refl [] w).alloc (.cells ansZ.toArray 47)
  have bA := Blk.newA w ansZ.toArray 47
  have zst := ans_st 0 (v := .slice Option.none 0 0) 0 false false rfl
  have H := Lib.hid h
  generalize hwA : w.alloc (.cells #[.int .i64 0, .slice Option.none 0 0, .int .i64 0, .bool false, .bool false] 47) = wA
  have hwA' : w.alloc (.cells ansZ.toArray 47) = wA := hwA
  have hszA : wA.heap.size = w.heap.size + 1 := by rw [← hwA']; simp
  rw [hwA'] at kA bA
  have hA := h.keep0 kA
  have NA : NeS B w p X R wA X R P := ⟨hA, kA.mono (by simp), fun x hx => .inl hx, fun x hx => .inl hx, show Blk wA w.heap.size 47 ansZ from bA⟩
  have HL := Lib.hid (show LpS B w p n X R P P.mu wA from ⟨P, X, R, NA, hok, rfl, rfl⟩)
  have MA := Lib.hid (fun wt X1 R1 J (hh : NeS B w p X R wt X1 R1 J) => (hm.keepB hbig hh.kp (fun x hx => (h.lo x hx).1) : ML wt))
  have ZST := Lib.hid zst
  have HN := Lib.hid (nextR_eq P)
  clear h kA bA hA NA hwA' zst hm hok
  go_enter Tryz.func21, Tryz.ntmps21
  go_wp2_with fail
  go_step3
  go_wp2_with fail
  go_step3
  go_upto_block 0 with fail
  clear hwA
  go_cut [0] (fun y wx => y = .pointer (some ⟨p, 0, Option.none⟩) ∧ Hid (LpE B w p n X R P wx))
  case first =>
    go_wp2_with fail
    go_loopg [] P.mu (fun g wr => Hid (LpS B w p n X R P g wr))
    case atStart => exact HL
    case round =>
      obtain ⟨Q, X1, R1, hne, hqok, hqe, hg⟩ := hrel.out
      have HNE := Lib.hid hne
      have HQ := Lib.hid (And.intro hqok hqe)
      cases hqa : Q.ans with
      | some a =>
        obtain ⟨ab, sa, sl, sc, c9, _⟩ := re_ans hne.it hqa
        have hE : reEnd P = Q := by rw [← hqe]; exact reEnd_some (by rw [hqa]; rfl)
        have HF := Lib.hid (show LpE B w p n X R P wr from ⟨X1, R1, by rw [hE]; exact hne, by rw [hE]; exact hqok⟩)
        clear hne hqok hqe hqa hE hrel
        go_wp2_with fail
        go_meet
        exact ⟨rfl, HF⟩
      | none =>
        have c9 := re_noAns hne.it hqa
        have HR := Lib.hid (reply_read hne.it (MA.out wr X1 R1 Q hne) (Nat.le_trans hB hne.kp.size) hbig hqok hn)
        unfold RdOut at HR
        have HQA := Lib.hid hqa
        have HG := Lib.hid hg
        clear hne hqok hqe hqa hrel hg
        cases h2 : (readR Q).2 with
        | true =>
          have HE := Lib.hid ((reEnd_more HQ.out.1 HQA.out h2).symm.trans HQ.out.2)
          have HM := Lib.hid ((read_ok HQ.out.1).2 h2)
          rw [h2] at HR
          clear h2
          go_wp2_with fail
          refine HR.out.mono ?_
          rintro e w2 ⟨rfl, k2, X2, R2, h2, n2, r2⟩
          have HS := Lib.hid (show LpS B w p n X R P (readR Q).1.mu w2 from ⟨(readR Q).1, X2, R2, HNE.out.step H.out k2 h2 n2 r2, (read_ok HQ.out.1).1, HE.out, rfl⟩)
          clear k2 h2 n2 r2
          go_wp2_with fail
          go_roundg (readR Q).1.mu
          case measure => rw [HG.out]; exact HM.out
          case rel => exact HS
        | false =>
          have hE := (reEnd_stop HQA.out h2).symm.trans HQ.out.2
          rw [h2] at HR
          have HE := Lib.hid hE
          clear h2 hE
          go_wp2_with fail
          refine HR.out.mono ?_
          rintro e w2 ⟨rfl, k2, X2, R2, h2, n2, r2⟩
          have HF := Lib.hid (show LpE B w p n X R P w2 from ⟨X2, R2, by rw [← HE.out]; exact HNE.out.step H.out k2 h2 n2 r2, by rw [← HE.out]; exact (read_ok HQ.out.1).1⟩)
          clear k2 h2 n2 r2
          go_wp2_with fail
          go_meet
          exact ⟨rfl, HF⟩
  case rest =>
  obtain ⟨rfl, HE⟩ := hcut
  obtain ⟨X1, R1, hne, hqok⟩ := HE.out
  have HNE := Lib.hid hne
  have hN := HN.out
  have hp5 := hqok.st
  clear HE HN HL hqok
  generalize reEnd P = Q at *
  cases hqa : Q.ans with
  | some a =>
    rw [hqa] at hN
    dsimp only at hN
    obtain ⟨ab, sa, sl, sc, c9, hb, ho, hgr, hab⟩ := re_ans hne.it hqa
    have hoff := hne.off H.out
    have hbk := hne.bk
    have kW := (Keep.refl [] wc).alloc (.cells (ansC a.st (.slice sa sl sc) a.len a.ch a.cl).toArray 47)
    have nW := Blk.newA wc (ansC a.st (.slice sa sl sc) a.len a.ch a.cl).toArray 47
    have hp5' := hne.it.lt
    have RNG := Lib.hid hb.range'
    generalize hwW : wc.alloc (.cells (ansC a.st (.slice sa sl sc) a.len a.ch a.cl).toArray 47) = wW at kW nW
    have iW := hne.it.keep0 kW
    have d9 : wW.cell? ⟨p, 9, Option.none⟩ = some (.pointer (some ⟨ab, 0, Option.none⟩)) := kW.load c9
    have g9 := iW.free 9
    have kP := (Keep.refl [p] wW).setCell ⟨p, 9, Option.none⟩ (.pointer Option.none) (by simp)
    have hnep : wc.heap.size ≠ p := by omega
    have nP := kP.blk (show Blk wW wc.heap.size 47 (ansC a.st (.slice sa sl sc) a.len a.ch a.cl) from nW) (by simpa using hnep)
    have iP := re_unans iW
    have HNP := Lib.hid ((hne.step H.out (kW.mono (S' := X1) (by simp)) iW (fun x hx => .inl hx) (fun x hx => .inl hx)).step H.out (iW.keepX kP) iP (fun x hx => .inl hx) (fun x hx => .inl hx))
    have kD := (Keep.refl [] (wW.setCell ⟨p, 9, Option.none⟩ (.pointer Option.none))).drew
    have HND := Lib.hid (HNP.out.step H.out (kD.mono (S' := X1) (by simp)) (HNP.out.it.keep0 kD) (fun x hx => .inl hx) (fun x hx => .inl hx))
    have HT := Lib.hid (HND.out.bk.there' 0 5 (by simp [ansZ, ansC]))
    have hload := ans_back (st := a.st) (v := .slice sa sl sc) (len := a.len) (ch := a.ch) (cl := a.cl) HT.out
    have HLd := Lib.hid hload
    have OP := (ho.keep0 kW).keep kP (fun g hg => by simp; rintro rfl; exact (hne.it.ro _ (hgr _ hg)).2.2 hne.it.mem)
    have HF := Lib.hid ((HND.out.fin H.out rfl 1 a (.slice sa sl sc) [] (OP.keep0 kD) (fun g hg => ⟨hne.nr g (hgr g hg), (hne.it.ro g (hgr g hg)).2.2⟩)).of hN)
    have HS1 := Lib.hid (ansC_one a.st (v := .slice sa sl sc) a.len a.ch a.cl rfl)
    have ST := Lib.hid (ans_st a.st (v := .slice sa sl sc) a.len a.ch a.cl rfl)
    have nD := kD.blk nP (by simp)
    have RP := Lib.hid nD.range'
    have hneq : wc.heap.size ≠ w.heap.size := by have := hne.bk.lt; omega
    have kS : Keep [w.heap.size] (wW.setCell ⟨p, 9, Option.none⟩ (.pointer Option.none)).drew ((wW.setCell ⟨p, 9, Option.none⟩ (.pointer Option.none)).drew.setCells w.heap.size 0 (ansC a.st (.slice sa sl sc) a.len a.ch a.cl)) := Keep.setCells' (S := [w.heap.size]) _ (by simp) _ _ _ (Keep.refl _ _)
    have RP2 := Lib.hid (kS.blk nD (by simpa using hneq)).range'
    clear kS kD nD hload ho hgr hab hoff hbk kW nW iW kP nP iP OP hp5 hp5' hb hqa hN hne
    go_wp2_with (first
      | (with_reducible (show wpList _ _ _ ((⟨_, .load _ (.tmp 28), _, _, _, none⟩ : Oper) :: _) _ _)
         refine wpList_load_mid rfl 47 (.tmp 28) rfl ab 0 (by rfl) (ansC a.st (.slice sa sl sc) a.len a.ch a.cl) _ RNG.out Tryz.underlying47 rfl ans_size ?_
         try simp only [Act.put, List.setIfInBounds_toArray, List.set_cons_succ, List.set_cons_zero])
      | (with_reducible (show wpList _ _ _ ((⟨none, .store _ (.tmp 5) (.tmp 29), _, _, _, none⟩ : Oper) :: _) _ _)
         refine wpList_store_fresh rfl 47 (.tmp 5) (.tmp 29) rfl _ (ansC a.st (.slice sa sl sc) a.len a.ch a.cl) (by rfl) (by rfl) ans_size (by rfl) HS1.out ?_
         rw [hwW]
         try simp only [Act.put])
      | fail)
    refine wp_region_noPanic ?_
    refine wp_region_held_drew (S := fun w' => w'.rangeAt wc.heap.size 0 (ansC a.st (.slice sa sl sc) a.len a.ch a.cl)) (by kernel_rfl) RP.out (fun hHeld => ?_)
    refine wpAnyH_take (i := 0) (oi := ⟨some 33, .load _ (.tmp 5), _, _, _, none⟩) (v := _) rfl (by kernel_rfl) (by kernel_rfl) (by kernel_rfl) (fun _ _ _ h => h) (yieldsIf_load_mid (by rfl) 47 (.tmp 5) rfl wc.heap.size 0 rfl (ansC a.st (.slice sa sl sc) a.len a.ch a.cl) _ (fun _ h => h) Tryz.underlying47 rfl ans_size) (by assumption) ?_
    try simp only [Act.put, List.setIfInBounds_toArray, List.set_cons_zero, List.set_cons_succ]
    refine wpAnyH_take (i := 1) (oi := ⟨some 2, .assign _, _, _, _, none⟩) (v := ?_) rfl (by kernel_rfl) (by kernel_rfl) (by kernel_rfl) (fun _ _ _ h => h) (Or.inl ⟨by rfl, ?_⟩) (by assumption) ?_
    rotate_left
    · (intro w' hSw; go_simp) <;> (with_reducible rfl)
    try simp only [Act.put, List.setIfInBounds_toArray, List.set_cons_zero, List.set_cons_succ]
    refine wpAnyH_ready (rs := [2]) (by kernel_rfl) (by simp) ?_
    refine AllReadyH.cons (o := ⟨none, .store _ (.tmp 3) (.tmp 33), _, _, _, none⟩) rfl (fun K hK => ?_) AllReadyH.nil
    rw [if_pos (by rfl)]
    refine wp_store_mid 47 (.tmp 3) (.tmp 33) rfl w.heap.size 0 (ansC a.st (.slice sa sl sc) a.len a.ch a.cl).toArray (by rfl) (by first | rfl | kernel_rfl) HT.out ST.out.1 ST.out.2 ?_
    refine hK.out _ _ RP2.out (fun hHeld2 => ?_)
    clear hK K hHeld
    try simp only [Act.put]
    refine wpAnyH_take (i := 3) (oi := ⟨some 4, .assign _, _, _, _, none⟩) (v := ?_) rfl (by kernel_rfl) (by kernel_rfl) (by kernel_rfl) (fun _ _ _ h => h) (Or.inl ⟨by rfl, ?_⟩) (by assumption) ?_
    rotate_left
    · (intro w' hSw; go_simp) <;> (with_reducible rfl)
    try simp only [Act.put, List.setIfInBounds_toArray, List.set_cons_zero, List.set_cons_succ]
    refine wpAnyH_done (by kernel_rfl) ?_ _
    refine NoPanic.normal ?_
    go_wp2_with fail
    refine bodyPost_ret (v := .tuple #[.int .i64 1, .agg (ansC a.st (.slice sa sl sc) a.len a.ch a.cl).toArray, .string (S [])]) (by have hl := HLd.out; simp [results, Tryz.results21, asAddr, Result.andThen, hl]; rfl) rfl HF.out
  | none =>
    rw [hqa] at hN
    dsimp only at hN
    have c9 := re_noAns hne.it hqa
    obtain ⟨_, _, c2, _, c4, _⟩ := hne.it.at_
    by_cases hd : Q.dat = []
    · rw [if_neg (by simp [hd])] at hN
      replace c4 : wc.cell? ⟨p, 4, Option.none⟩ = some (.string ⟨#[]⟩) := by rw [hd] at c4; exact c4
      have HR := Lib.hid (reply_finish hne.it hp5)
      have ha2 : (reFinish Q).1.ans = none := by
        rw [← hqa]
        unfold reFinish
        split
        · rfl
        · split <;> rfl
      have HA2 := Lib.hid ha2
      have HNN := Lib.hid hN
      clear hp5 hd hqa hN hne ha2
      go_wp2_with fail
      refine HR.out.mono ?_
      rintro e w2 ⟨rfl, h2, k2⟩
      have HNP := Lib.hid (HNE.out.step H.out (HNE.out.it.keepX k2) h2 (fun x hx => .inl hx) (fun x hx => .inl hx))
      have HT := Lib.hid (HNP.out.bk.there' 0 5 (by simp [ansZ, ansC]))
      have HLd := Lib.hid (ansZ_back HT.out)
      have HF := Lib.hid ((HNP.out.fin0 H.out HA2.out (reFinish Q).2 []).of HNN.out)
      clear h2 k2
      go_wp2_with (first
        | (with_reducible (show wpList _ _ _ ((⟨none, .store _ (.tmp 3) (.tmp 51), _, _, _, none⟩ : Oper) :: _) _ _)
           refine wpList_store_mid rfl 47 (.tmp 3) (.tmp 51) rfl w.heap.size 0 ansZ.toArray (by rfl) (by first | rfl | kernel_rfl) HT.out ZST.out.1 ZST.out.2 ?_
           try simp only [Act.put])
        | fail)
      refine bodyPost_ret (v := .tuple #[.int .i64 (reFinish Q).2, .agg ansZ.toArray, .string (S [])]) (by have hl := HLd.out; simp [results, Tryz.results21, asAddr, Result.andThen, hl]; rfl) rfl HF.out
    · rw [if_pos hd] at hN
      have tl := S_toList Q.dat
      have te : Q.dat.isEmpty = false := by simpa [List.isEmpty_iff] using hd
      have te2 : (Q.dat == []) = false := by simpa using hd
      have f4 := hne.it.free 4
      have hs := hne.it.set (P' := { Q with dat := [] }) 4 (.string ⟨#[]⟩) (fun _ _ => rfl) rfl rfl
      have HNP := Lib.hid (hne.step H.out (hne.it.keepX ((Keep.refl [p] _).setCell ⟨p, 4, Option.none⟩ (.string ⟨#[]⟩) (by simp))) hs (fun x hx => .inl hx) (fun x hx => .inl hx))
      have HT := Lib.hid (HNP.out.bk.there' 0 5 (by simp [ansZ, ansC]))
      have HLd := Lib.hid (ansZ_back HT.out)
      have HF := Lib.hid ((HNP.out.fin0 H.out hqa 2 Q.dat).of (hN.trans (by rw [hqa])))
      clear hp5 hd hqa hN hne hs
      go_wp2_with (first
        | (with_reducible (show wpList _ _ _ ((⟨none, .store _ (.tmp 3) (.tmp 47), _, _, _, none⟩ : Oper) :: _) _ _)
           refine wpList_store_mid rfl 47 (.tmp 3) (.tmp 47) rfl w.heap.size 0 ansZ.toArray (by rfl) (by first | rfl | kernel_rfl) HT.out ZST.out.1 ZST.out.2 ?_
           try simp only [Act.put])
        | fail)
      refine bodyPost_ret (v := .tuple #[.int .i64 2, .agg ansZ.toArray, .string (S Q.dat)]) (by have hl := HLd.out; simp [results, Tryz.results21, asAddr, Result.andThen, hl]) rfl HF.out
end Go.Proofs.YtdmffbefppjllaaGreatDoor

/- Layer 14: a reply among other things in memory; what the statements are awake to. No conditions but on lengths. -/
namespace Go.Proofs.YtdmffbefppjllaaGreatDoor
open Go.RowKit Go.Shelf

/-- a reply that was made since w0, apart from the blocks L -/
structure Rp (w0 w : World) (p : Nat) (X : List Nat) (P : ReS) (n : Nat) (L : List Nat) : Prop where
  re : Re w0.heap.size w p X [] P
  ok : P.ok n
  kp : Keep [] w0 w
  ap : ∀ l ∈ L, l ∉ X ∧ l < w.heap.size
theorem Rp.keep {w0 w w' : World} {p n : Nat} {X L S : List Nat} {P : ReS} (h : Rp w0 w p X P n L) (k : Keep S w w') (hS : ∀ x ∈ S, w0.heap.size ≤ x) (hX : ∀ x ∈ X, x ∉ S) : Rp w0 w' p X P n L :=
  ⟨h.re.keep k hX (by simp), h.ok, h.kp.above k hS, fun l hl => ⟨(h.ap l hl).1, Nat.lt_of_lt_of_le (h.ap l hl).2 k.size⟩⟩
theorem Rp.keep0 {w0 w w' : World} {p n : Nat} {X L : List Nat} {P : ReS} (h : Rp w0 w p X P n L) (k : Keep [] w w') : Rp w0 w' p X P n L := h.keep k (by simp) (by simp)
theorem Rp.less {w0 w : World} {p n : Nat} {X L L' : List Nat} {P : ReS} (h : Rp w0 w p X P n L) (hL : ∀ l ∈ L', l ∈ L) : Rp w0 w p X P n L' := ⟨h.re, h.ok, h.kp, fun l hl => h.ap l (hL l hl)⟩
/-- a block that was just made is apart -/
theorem Rp.add {w0 w w' : World} {p n : Nat} {X L : List Nat} {P : ReS} (h : Rp w0 w p X P n L) (k : Keep [] w w') (l : Nat) (hl : w.heap.size ≤ l) (hl2 : l < w'.heap.size) : Rp w0 w' p X P n (l :: L) :=
  ⟨h.re.keep0 k, h.ok, h.kp.trans k, fun x hx => by
    rcases List.mem_cons.1 hx with rfl | hx
    · exact ⟨fun hh => by have := (h.re.lo _ hh).2; omega, hl2⟩
    · exact ⟨(h.ap x hx).1, Nat.lt_of_lt_of_le (h.ap x hx).2 k.size⟩⟩
theorem rp_new {w0 w : World} (hd : Bool) {most : Int} (hm : in64 most) (k : Keep [] w0 w) (L : List Nat) (hL : ∀ l ∈ L, l < w.heap.size) :
    Calls Tryz.prog 16 #[.bool hd, .int .i64 most] w fun e w' => ∃ p, e = .returned (.pointer (some ⟨p, 0, Option.none⟩)) ∧ w.heap.size ≤ p ∧ p < w'.heap.size ∧ Rp w0 w' p [p] (reNew hd most) 0 L ∧ Keep [] w w' := by
  refine (reply_New w0.heap.size hd most w k.size).mono ?_
  rintro e w' ⟨p, rfl, hp, h1, h2⟩
  exact ⟨p, rfl, hp, h1.lt, ⟨h1, reNew_ok hd hm, k.trans h2, fun l hl => ⟨by have := hL l hl; simp; omega, Nat.lt_of_lt_of_le (hL l hl) h2.size⟩⟩, h2⟩
theorem rp_add {w0 w : World} {p n : Nat} {X L : List Nat} {P : ReS} (s : List UInt8) (h : Rp w0 w p X P n L) (hn : n ≤ 60000) (hs : s.length ≤ 1048576) :
    Calls Tryz.prog 17 #[.pointer (some ⟨p, 0, Option.none⟩), .string (S s)] w fun e w' => e = .returned (.int .i64 (reAdd P s).2) ∧ Rp w0 w' p X (reAdd P s).1 (n + 2 * s.length) L ∧ Keep [p] w w' := by
  have hwt := h.ok.wt
  have hlen : 2 * P.inp.length + P.dat.length ≤ n := by unfold ReS.wt at hwt; omega
  refine (reply_Add s h.re (by omega) hs).mono ?_
  rintro e w' ⟨rfl, h1, h2⟩
  exact ⟨rfl, ⟨h1, reAdd_ok h.ok s, h.kp.above h2 (fun x hx => by have h9 : x = p := (by simpa using hx); rw [h9]; exact h.re.base), fun l hl => ⟨(h.ap l hl).1, Nat.lt_of_lt_of_le (h.ap l hl).2 h2.size⟩⟩, h2⟩
/-- what Next comes to, among other things -/
def NpOut (w0 w : World) (p : Nat) (X : List Nat) (n : Nat) (L : List Nat) (r : NrR) (e : Ending) (w' : World) : Prop :=
  ∃ sa sl sc X', e = .returned (.tuple #[.int .i64 r.k, .agg (ansC r.a.st (.slice sa sl sc) r.a.len r.a.ch r.a.cl).toArray, .string (S r.s)]) ∧ Rp w0 w' p X' r.p n L ∧ Keep X w w' ∧ (∀ x ∈ X', x ∈ X ∨ w.heap.size ≤ x) ∧ Own Fld.cells 2 w0.heap.size 26 w' (.slice sa sl sc) r.a.F ∧ ∀ g, (Value.slice sa sl sc).ownBlock = some g → w.heap.size ≤ g ∧ g ∉ X'
theorem rp_next {w0 w : World} {p n : Nat} {X L : List Nat} {P : ReS} (h : Rp w0 w p X P n L) (hm : ML w0) (hn : n ≤ 60000) {r : NrR} (hr : nextR P = r) :
    Calls Tryz.prog 21 #[.pointer (some ⟨p, 0, Option.none⟩)] w (NpOut w0 w p X n L r) := by
  subst hr
  refine (reply_Next h.re (hm.keep h.kp (by simp)) h.kp.size hm.lt h.ok hn).mono ?_
  rintro e w' ⟨v, X', rfl, h1, h2, h3, h4, h5⟩
  obtain ⟨sa, sc, rfl, _⟩ := h4.shape
  exact ⟨sa, _, sc, X', rfl, ⟨h1, nextR_ok h.ok, h.kp.above h2 (fun x hx => (h.re.lo x hx).1), fun l hl => ⟨fun hh => by
    rcases h3 l hh with h6 | h6
    · exact (h.ap l hl).1 h6
    · have := (h.ap l hl).2; omega, Nat.lt_of_lt_of_le (h.ap l hl).2 h2.size⟩⟩, h2, h3, h4, fun g hg => ⟨(h5 g hg).1.elim (fun hh => by cases hh) id, (h5 g hg).2⟩⟩
theorem rp_rest {w0 w : World} {p n : Nat} {X L : List Nat} {P : ReS} (h : Rp w0 w p X P n L) :
    Calls Tryz.prog 19 #[.pointer (some ⟨p, 0, Option.none⟩)] w fun e w' => e = .returned (.string (S (reRest P))) ∧ w = w' := reply_Rest h.re

theorem aw14_P : (reAdd (reNew false 100) aw14a).2 = 0 := by kernel_rfl
theorem aw14_Q : (reAdd (reNew true 100) aw14b).2 = 0 := by kernel_rfl
theorem in64_100 : in64 100 := by unfold in64; omega
theorem aw14a_len : aw14a.length = 42 := by kernel_rfl
theorem aw14b_len : aw14b.length = 38 := by kernel_rfl
set_option maxRecDepth 100000 in
set_option maxHeartbeats 8000000 in
theorem reply_awake (w : World) (hm : ML w) : Calls Tryz.prog 13 #[] w fun e w' => e = .returned (.bool true) ∧ Keep [] w w' := by
  have HM := Lib.hid hm
  have HN := Lib.hid (rp_new (w0 := w) (w := w) false in64_100 (Keep.refl [] w) [] (by simp))
  have HLn := Lib.hid (fun w' (k : Keep [] w w') => reply_Line [72, 84, 84, 80, 47, 49, 46, 48, 32, 52, 48, 52] w' (hm.keep k (by simp)) (by decide))
  rw [aw14_line] at HLn
  obtain ⟨⟨P1, k1, ⟨st1, F1, len1, ch1, cl1⟩, s1⟩, hr1⟩ : ∃ r, nextR aw14P = r := ⟨_, rfl⟩
  obtain ⟨⟨P2, k2, ⟨st2, F2, len2, ch2, cl2⟩, s2⟩, hr2⟩ : ∃ r, nextR P1 = r := ⟨_, rfl⟩
  obtain ⟨⟨P3, k3, ⟨st3, F3, len3, ch3, cl3⟩, s3⟩, hr3⟩ : ∃ r, nextR P2 = r := ⟨_, rfl⟩
  obtain ⟨⟨P4, k4, ⟨st4, F4, len4, ch4, cl4⟩, s4⟩, hr4⟩ : ∃ r, nextR aw14Q = r := ⟨_, rfl⟩
  obtain ⟨⟨P5, k5, ⟨st5, F5, len5, ch5, cl5⟩, s5⟩, hr5⟩ : ∃ r, nextR P4 = r := ⟨_, rfl⟩
  have q1 := aw14_1
  have q2 := aw14_2
  have q3 := aw14_3
  have q4 := aw14_4
  rw [hr1] at q1 q2 q3
  dsimp only at q1 q2 q3
  rw [hr2] at q2 q3
  dsimp only at q2 q3
  rw [hr3] at q3
  rw [hr4] at q4
  dsimp only at q3 q4
  rw [hr5] at q4
  dsimp only at q4
  obtain ⟨rfl, rfl, rfl⟩ := q1
  obtain ⟨rfl, rfl⟩ := q2
  obtain ⟨rfl, hrest⟩ := q3
  obtain ⟨rfl, rfl, rfl⟩ := q4
  have R1 := Lib.hid hr1
  have R2 := Lib.hid hr2
  have R3 := Lib.hid hr3
  have R4 := Lib.hid hr4
  have R5 := Lib.hid hr5
  have RR := Lib.hid hrest
  have t1 := S_toList [97, 98, 99]
  have t2 := S_toList [100]
  have E0 := Lib.hid (show (reAdd (reNew false 100) aw14a).1 = aw14P from rfl)
  have E1 := Lib.hid (show (reAdd (reNew true 100) aw14b).1 = aw14Q from rfl)
  clear hm hr1 hr2 hr3 hr4 hr5 hrest
  go_enter Tryz.func13, Tryz.ntmps13
  go_wp2_with fail
  refine HN.out.mono ?_
  rintro e w1 ⟨p, rfl, hp, hpl, h1, k1⟩
  have HA := Lib.hid (rp_add aw14a h1 (by omega) (by rw [aw14a_len]; omega))
  rw [aw14_P, E0.out, aw14a_len] at HA
  clear h1 k1 HN E0
  go_wp2_with fail
  refine HA.out.mono ?_
  rintro e w2 ⟨rfl, h2, k2⟩
  have H := Lib.hid h2
  have HX := Lib.hid (rp_next H.out HM.out (by omega) R1.out)
  unfold NpOut at HX
  dsimp only at HX
  clear h2 k2 HA
  go_wp2_with fail
  refine HX.out.mono ?_
  rintro e v1 ⟨sa1, sl1, sc1, X1, rfl, h, k, _, _, _⟩
  have kA := (Keep.refl [] v1).alloc (.cells (ansC 200 (.slice sa1 sl1 sc1) 3 ch1 cl1).toArray 47)
  have bA := Blk.newA v1 (ansC 200 (.slice sa1 sl1 sc1) 3 ch1 cl1).toArray 47
  have hlA : v1.heap.size < (v1.alloc (.cells (ansC 200 (.slice sa1 sl1 sc1) 3 ch1 cl1).toArray 47)).heap.size := by simp
  generalize hw1 : v1.alloc (.cells (ansC 200 (.slice sa1 sl1 sc1) 3 ch1 cl1).toArray 47) = u1 at kA bA hlA
  have h' := h.add kA v1.heap.size (Nat.le_refl _) hlA
  have HO1 := Lib.hid (ansC_one 200 (v := .slice sa1 sl1 sc1) 3 ch1 cl1 rfl)
  clear H HX
  have H := Lib.hid h'
  have B1 := Lib.hid (show Blk u1 v1.heap.size 47 (ansC 200 (.slice sa1 sl1 sc1) 3 ch1 cl1) from bA)
  have HX := Lib.hid (rp_next H.out HM.out (by omega) R2.out)
  unfold NpOut at HX
  dsimp only at HX
  clear h k kA bA h' hlA
  go_wp2_with (first
    | (with_reducible (show wpList _ _ _ ((⟨none, .store _ (.tmp 3) (.tmp 33), _, _, _, none⟩ : Oper) :: _) _ _)
       refine wpList_store_fresh rfl 47 (.tmp 3) (.tmp 33) rfl _ (ansC 200 (.slice sa1 sl1 sc1) 3 ch1 cl1) (by rfl) (by rfl) ans_size (by rfl) HO1.out ?_
       rw [hw1]
       try simp only [Act.put])
    | fail)
  refine HX.out.mono ?_
  rintro e v2 ⟨sa2, sl2, sc2, X2, rfl, h, k, _, _, _⟩
  have b_B1 := k.blk B1.out (H.out.ap _ (by simp)).1
  have kA := (Keep.refl [] v2).alloc (.cells (ansC st2 (.slice sa2 sl2 sc2) len2 ch2 cl2).toArray 47)
  have bA := Blk.newA v2 (ansC st2 (.slice sa2 sl2 sc2) len2 ch2 cl2).toArray 47
  have hlA : v2.heap.size < (v2.alloc (.cells (ansC st2 (.slice sa2 sl2 sc2) len2 ch2 cl2).toArray 47)).heap.size := by simp
  generalize hw2 : v2.alloc (.cells (ansC st2 (.slice sa2 sl2 sc2) len2 ch2 cl2).toArray 47) = u2 at kA bA hlA
  have c_B1 := kA.blk b_B1 (by simp)
  have h' := h.add kA v2.heap.size (Nat.le_refl _) hlA
  have HO2 := Lib.hid (ansC_one st2 (v := .slice sa2 sl2 sc2) len2 ch2 cl2 rfl)
  clear H HX
  have H := Lib.hid h'
  clear B1 b_B1
  have B1 := Lib.hid c_B1
  clear c_B1
  have B2 := Lib.hid (show Blk u2 v2.heap.size 47 (ansC st2 (.slice sa2 sl2 sc2) len2 ch2 cl2) from bA)
  have HX := Lib.hid (rp_next H.out HM.out (by omega) R3.out)
  unfold NpOut at HX
  dsimp only at HX
  clear h k kA bA h' hlA
  go_wp2_with (first
    | (with_reducible (show wpList _ _ _ ((⟨none, .store _ (.tmp 6) (.tmp 39), _, _, _, none⟩ : Oper) :: _) _ _)
       refine wpList_store_fresh rfl 47 (.tmp 6) (.tmp 39) rfl _ (ansC st2 (.slice sa2 sl2 sc2) len2 ch2 cl2) (by rfl) (by rfl) ans_size (by rfl) HO2.out ?_
       rw [hw2]
       try simp only [Act.put])
    | fail)
  refine HX.out.mono ?_
  rintro e v3 ⟨sa3, sl3, sc3, X3, rfl, h, k, _, _, _⟩
  have b_B1 := k.blk B1.out (H.out.ap _ (by simp)).1
  have b_B2 := k.blk B2.out (H.out.ap _ (by simp)).1
  have kA := (Keep.refl [] v3).alloc (.cells (ansC st3 (.slice sa3 sl3 sc3) len3 ch3 cl3).toArray 47)
  have bA := Blk.newA v3 (ansC st3 (.slice sa3 sl3 sc3) len3 ch3 cl3).toArray 47
  have hlA : v3.heap.size < (v3.alloc (.cells (ansC st3 (.slice sa3 sl3 sc3) len3 ch3 cl3).toArray 47)).heap.size := by simp
  generalize hw3 : v3.alloc (.cells (ansC st3 (.slice sa3 sl3 sc3) len3 ch3 cl3).toArray 47) = u3 at kA bA hlA
  have c_B1 := kA.blk b_B1 (by simp)
  have c_B2 := kA.blk b_B2 (by simp)
  have h' := h.add kA v3.heap.size (Nat.le_refl _) hlA
  have HO3 := Lib.hid (ansC_one st3 (v := .slice sa3 sl3 sc3) len3 ch3 cl3 rfl)
  clear H HX
  have H := Lib.hid h'
  clear B1 b_B1
  have B1 := Lib.hid c_B1
  clear c_B1
  clear B2 b_B2
  have B2 := Lib.hid c_B2
  clear c_B2
  have B3 := Lib.hid (show Blk u3 v3.heap.size 47 (ansC st3 (.slice sa3 sl3 sc3) len3 ch3 cl3) from bA)
  clear h k kA bA h' hlA
  have HP := H
  have HN := Lib.hid (rp_new (w0 := w) (w := u3) true in64_100 H.out.kp (v1.heap.size :: X3) (by
    intro l hl
    rcases List.mem_cons.1 hl with rfl | hl
    · exact B1.out.lt
    · exact (HP.out.re.lo l hl).2))
  clear H B2 B3
  go_wp2_with (first
    | (with_reducible (show wpList _ _ _ ((⟨none, .store _ (.tmp 9) (.tmp 45), _, _, _, none⟩ : Oper) :: _) _ _)
       refine wpList_store_fresh rfl 47 (.tmp 9) (.tmp 45) rfl _ (ansC st3 (.slice sa3 sl3 sc3) len3 ch3 cl3) (by rfl) (by rfl) ans_size (by rfl) HO3.out ?_
       rw [hw3]
       try simp only [Act.put])
    | fail)
  refine HN.out.mono ?_
  rintro e w4 ⟨q, rfl, hq, hql, h1, k⟩
  have hP' := HP.out.keep0 k
  have b1' := k.blk B1.out (by simp)
  have HA := Lib.hid (rp_add aw14b h1 (by omega) (by rw [aw14b_len]; omega))
  rw [aw14_Q, E1.out, aw14b_len] at HA
  have HQX := Lib.hid (fun l hl => (h1.ap l hl).1)
  clear h1 k HP B1 HN E1 hw3
  have HP := Lib.hid hP'
  have B1 := Lib.hid b1'
  clear hP' b1'
  go_wp2_with fail
  refine HA.out.mono ?_
  rintro e w5 ⟨rfl, h2, k⟩
  have hP' := HP.out.keep k (fun x hx => by have h9 : x = q := (by simpa using hx); rw [h9]; exact h2.re.base) (fun x hx => HQX.out x (List.mem_cons_of_mem _ hx))
  have b1' := k.blk B1.out (HQX.out _ (by simp))
  have H := Lib.hid h2
  have HX := Lib.hid (rp_next H.out HM.out (by omega) R4.out)
  unfold NpOut at HX
  dsimp only at HX
  clear h2 k HP B1 HA HQX
  have HP := Lib.hid hP'
  have B1 := Lib.hid b1'
  clear hP' b1'
  go_wp2_with fail
  refine HX.out.mono ?_
  rintro e v4 ⟨sa4, sl4, sc4, X4, rfl, h, k, _, _, _⟩
  have b_B1 := k.blk B1.out (H.out.ap _ (by simp)).1
  have hP' := HP.out.keep k (fun x hx => (H.out.re.lo x hx).1) (fun x hx hh => (H.out.ap x (List.mem_cons_of_mem _ (by first | exact hx | simp [hx]))).1 hh)
  have kA := (Keep.refl [] v4).alloc (.cells (ansC st4 (.slice sa4 sl4 sc4) 3 ch4 cl4).toArray 47)
  have bA := Blk.newA v4 (ansC st4 (.slice sa4 sl4 sc4) 3 ch4 cl4).toArray 47
  have hlA : v4.heap.size < (v4.alloc (.cells (ansC st4 (.slice sa4 sl4 sc4) 3 ch4 cl4).toArray 47)).heap.size := by simp
  generalize hw4 : v4.alloc (.cells (ansC st4 (.slice sa4 sl4 sc4) 3 ch4 cl4).toArray 47) = u4 at kA bA hlA
  have c_B1 := kA.blk b_B1 (by simp)
  have hP2 := hP'.keep0 kA
  have h' := h.add kA v4.heap.size (Nat.le_refl _) hlA
  have HO4 := Lib.hid (ansC_one st4 (v := .slice sa4 sl4 sc4) 3 ch4 cl4 rfl)
  clear H HX
  have H := Lib.hid h'
  clear B1 b_B1
  have B1 := Lib.hid c_B1
  clear c_B1
  have B4 := Lib.hid (show Blk u4 v4.heap.size 47 (ansC st4 (.slice sa4 sl4 sc4) 3 ch4 cl4) from bA)
  have HX := Lib.hid (rp_next H.out HM.out (by omega) R5.out)
  unfold NpOut at HX
  dsimp only at HX
  clear HP
  have HP := Lib.hid hP2
  clear hP' hP2
  clear h k kA bA h' hlA
  go_wp2_with (first
    | (with_reducible (show wpList _ _ _ ((⟨none, .store _ (.tmp 13) (.tmp 54), _, _, _, none⟩ : Oper) :: _) _ _)
       refine wpList_store_fresh rfl 47 (.tmp 13) (.tmp 54) rfl _ (ansC st4 (.slice sa4 sl4 sc4) 3 ch4 cl4) (by rfl) (by rfl) ans_size (by rfl) HO4.out ?_
       rw [hw4]
       try simp only [Act.put])
    | fail)
  refine HX.out.mono ?_
  rintro e v5 ⟨sa5, sl5, sc5, X5, rfl, h, k, _, _, _⟩
  have b_B1 := k.blk B1.out (H.out.ap _ (by simp)).1
  have b_B4 := k.blk B4.out (H.out.ap _ (by simp)).1
  have hP' := HP.out.keep k (fun x hx => (H.out.re.lo x hx).1) (fun x hx hh => (H.out.ap x (List.mem_cons_of_mem _ (by first | exact hx | simp [hx]))).1 hh)
  have kA := (Keep.refl [] v5).alloc (.cells (ansC st5 (.slice sa5 sl5 sc5) len5 ch5 cl5).toArray 47)
  have bA := Blk.newA v5 (ansC st5 (.slice sa5 sl5 sc5) len5 ch5 cl5).toArray 47
  have hlA : v5.heap.size < (v5.alloc (.cells (ansC st5 (.slice sa5 sl5 sc5) len5 ch5 cl5).toArray 47)).heap.size := by simp
  generalize hw5 : v5.alloc (.cells (ansC st5 (.slice sa5 sl5 sc5) len5 ch5 cl5).toArray 47) = u5 at kA bA hlA
  have c_B1 := kA.blk b_B1 (by simp)
  have c_B4 := kA.blk b_B4 (by simp)
  have hP2 := hP'.keep0 kA
  have h' := h.add kA v5.heap.size (Nat.le_refl _) hlA
  have HO5 := Lib.hid (ansC_one st5 (v := .slice sa5 sl5 sc5) len5 ch5 cl5 rfl)
  clear H HX
  have H := Lib.hid h'
  clear B1 b_B1
  have B1 := Lib.hid c_B1
  clear c_B1
  clear B4 b_B4
  have B4 := Lib.hid c_B4
  clear c_B4
  have B5 := Lib.hid (show Blk u5 v5.heap.size 47 (ansC st5 (.slice sa5 sl5 sc5) len5 ch5 cl5) from bA)
  clear HP
  have HP := Lib.hid hP2
  clear hP' hP2
  clear h k kA bA h' hlA
  have HRe := Lib.hid (rp_rest HP.out)
  rw [RR.out] at HRe
  have HLq := HLn.out _ H.out.kp
  unfold StL.out at HLq
  have HLq := Lib.hid HLq
  have x0 := B1.out.get (k := 0) rfl
  have x2 := B1.out.get (k := 2) rfl
  have y2 := B4.out.get (k := 2) rfl
  have HK := Lib.hid H.out.kp
  clear HLn HM
  go_wp2_with (first
    | (with_reducible (show wpList _ _ _ ((⟨none, .store _ (.tmp 16) (.tmp 60), _, _, _, none⟩ : Oper) :: _) _ _)
       refine wpList_store_fresh rfl 47 (.tmp 16) (.tmp 60) rfl _ (ansC st5 (.slice sa5 sl5 sc5) len5 ch5 cl5) (by rfl) (by rfl) ans_size (by rfl) HO5.out ?_
       rw [hw5]
       try simp only [Act.put])
    | fail)
  refine HLq.out.mono ?_
  rintro e w6 ⟨rfl, k⟩
  have hRe := rp_rest (HP.out.keep0 k)
  rw [RR.out] at hRe
  have HRe := Lib.hid hRe
  have x0' := k.load x0
  have x2' := k.load x2
  have y2' := k.load y2
  have HK6 := Lib.hid (HK.out.trans k)
  clear k x0 x2 y2 hRe hw5
  go_wp2_with fail
  refine HRe.out.mono ?_
  rintro e w7 ⟨rfl, rfl⟩
  go_wp2_with fail
  go_ret
  exact ⟨rfl, HK6.out⟩
end Go.Proofs.YtdmffbefppjllaaGreatDoor

/- Layer 16: what the statements are awake to; the statement SliceCovers: its function answers true for every input. No conditions but on the library's tables. -/
namespace Go.Proofs.YtdmffbefppjllaaGreatDoor
open Go.RowKit Go.Shelf

def q1 : List UInt8 := [98, 121, 116, 101, 115, 61, 50, 45, 52]
def q2 : List UInt8 := [98, 121, 116, 101, 115, 61, 45, 51]
def q3 : List UInt8 := [98, 121, 116, 101, 115, 61, 49, 48, 45]
def q4 : List UInt8 := [98, 121, 116, 101, 115, 61, 49, 45, 50, 44, 52, 45, 53]
theorem awake16_parse : prtM 1 (bdsM q1) 10 = ⟨2, 2, 4⟩ ∧ prtM 1 (bdsM q2) 10 = ⟨2, 7, 9⟩ ∧ prtM 1 (bdsM q3) 10 = ⟨3, 0, 0⟩ ∧ prtM 1 (bdsM q4) 10 = ⟨1, 0, 9⟩ := by decide +kernel
theorem itoa_10 : Lib.itoa 10 = [49, 48] := by
  have := Lib.itoa_nonneg 10
  rw [show ((10 : Nat) : Int) = 10 from rfl] at this
  rw [this, dec_big (by omega), dec_small (by omega)]
  rfl
theorem itoa_1 {n : Nat} (h : n < 10) : Lib.itoa (n : Int) = [UInt8.ofNat (48 + n)] := by rw [Lib.itoa_nonneg, dec_small h]
theorem awake16_print : prnS 2 4 10 = [98, 121, 116, 101, 115, 32, 50, 45, 52, 47, 49, 48] ∧ prnE 2 4 10 = 0 ∧ unmetS 10 = [98, 121, 116, 101, 115, 32, 42, 47, 49, 48] := by
  have h2 : Lib.itoa 2 = [50] := itoa_1 (n := 2) (by omega)
  have h4 : Lib.itoa 4 = [52] := itoa_1 (n := 4) (by omega)
  refine ⟨?_, rfl, ?_⟩
  · unfold prnS
    rw [if_pos (show prnOk 2 4 10 = true by decide), h2, h4, itoa_10]; rfl
  · unfold unmetS
    rw [show max (10 : Int) 0 = 10 from rfl, itoa_10]; rfl

def unitC : List UInt8 := [66, 121, 116, 101, 115, 61]
theorem num_zero : numN [48] = 0 ∧ numI [48] = true ∧ numK [48] = true ∧ numN [] = 0 ∧ numI [] = false ∧ numK [] = true := by decide +kernel
/-- the three parts that are asked for -/
theorem covers_plain (size n : Nat) (h2 : 2 ≤ size) (hs : (size : Int) ≤ 4611686018427387904) (h1 : 1 ≤ n) (hn : n < size) :
    prtM 1 (bdsM (unitB ++ ([48] ++ 45 :: Lib.decDigits (n - 1)))) size = ⟨2, 0, (n : Int) - 1⟩ ∧ prtM 1 (bdsM (unitB ++ (Lib.decDigits n ++ 45 :: []))) size = ⟨2, n, (size : Int) - 1⟩ ∧ prtM 1 (bdsM (unitC ++ ([] ++ 45 :: Lib.decDigits (size - n)))) size = ⟨2, n, (size : Int) - 1⟩ := by
  obtain ⟨z1, z2, z3, z4, z5, z6⟩ := num_zero
  have hB : (unitB.zip unitB).all (fun p => unitOk p.2 p.1) = true := by decide
  have hC : (unitC.zip unitB).all (fun p => unitOk p.2 p.1) = true := by decide
  refine ⟨?_, ?_, ?_⟩
  · obtain ⟨n1, n2, n3⟩ := num_dec (n - 1) (by omega)
    rw [bds_of rfl hB (by decide), z1, z2, z3, n1, n2, n3]
    unfold prtM
    dsimp only
    rw [if_neg (by simp <;> omega), if_neg (by simp <;> omega), if_neg (by simp), if_pos rfl]
    congr 1
    omega
  · obtain ⟨n1, n2, n3⟩ := num_dec n (by omega)
    rw [bds_of rfl hB (dec_no n (by decide)), z4, z5, z6, n1, n2, n3]
    unfold prtM
    dsimp only
    rw [if_neg (by simp), if_neg (by simp <;> omega), if_neg (by simp), if_neg (by simp)]
    congr 1
    omega
  · obtain ⟨n1, n2, n3⟩ := num_dec (size - n) (by omega)
    rw [bds_of rfl hC (by simp), z4, z5, z6, n1, n2, n3]
    unfold prtM
    dsimp only
    rw [if_neg (by simp), if_neg (by simp <;> omega), if_pos rfl]
    congr 1
    · omega
    · omega
end Go.Proofs.YtdmffbefppjllaaGreatDoor

/- Layer 16: Read. No conditions but on lengths and the library's tables. -/
namespace Go.Proofs.YtdmffbefppjllaaGreatDoor
open Go.RowKit Go.Shelf

/-- what a Content-Range is read as -/
structure Rd3 where
  a : Int
  b : Int
  c : Int
  e : Int
  deriving DecidableEq
/-- the three texts -/
def rdA (l : List UInt8) : List UInt8 := (Lib.cut (Lib.trimPrefix l saidB) [45]).1
def rdB (l : List UInt8) : List UInt8 := (Lib.cut (Lib.cut (Lib.trimPrefix l saidB) [45]).2.1 [47]).1
def rdC (l : List UInt8) : List UInt8 := (Lib.cut (Lib.cut (Lib.trimPrefix l saidB) [45]).2.1 [47]).2.1
def rdcM (l : List UInt8) : Rd3 :=
  if undecE (rdA l) 4611686018427387904 ≠ 0 then ⟨0, 0, 0, 3⟩ else if undecE (rdB l) 4611686018427387904 ≠ 0 then ⟨0, 0, 0, 3⟩ else if undecE (rdC l) 4611686018427387904 ≠ 0 then ⟨0, 0, 0, 3⟩
  else if prnE (undecV (rdA l) 4611686018427387904) (undecV (rdB l) 4611686018427387904) (undecV (rdC l) 4611686018427387904) ≠ 0 ∨ prnS (undecV (rdA l) 4611686018427387904) (undecV (rdB l) 4611686018427387904) (undecV (rdC l) 4611686018427387904) ≠ l then ⟨0, 0, 0, 3⟩
  else ⟨undecV (rdA l) 4611686018427387904, undecV (rdB l) 4611686018427387904, undecV (rdC l) 4611686018427387904, 0⟩
def Rd3.asV (r : Rd3) : Value := .tuple #[.int .i64 r.a, .int .i64 r.b, .int .i64 r.c, .int .i64 r.e]
theorem trim_len (l p : List UInt8) : (Lib.trimPrefix l p).length ≤ l.length := by
  unfold Lib.trimPrefix
  split <;> simp

end Go.Proofs.YtdmffbefppjllaaGreatDoor

/- Layer 16: what is written is read as it was. Plain laws; arrays of three numbers. No conditions. -/
namespace Go.Proofs.YtdmffbefppjllaaGreatDoor
open Go.RowKit Go.Shelf

theorem trim_pre (p r : List UInt8) : Lib.trimPrefix (p ++ r) p = r := by
  unfold Lib.trimPrefix Lib.hasPrefix
  simp
theorem prn_nat {a b c : Int} (h : prnOk a b c = true) : ∃ x y z : Nat, a = x ∧ b = y ∧ c = z ∧ (x : Int) ≤ 4611686018427387904 ∧ (y : Int) ≤ 4611686018427387904 ∧ (z : Int) ≤ 4611686018427387904 := by
  unfold prnOk at h
  simp only [Bool.and_eq_true, decide_eq_true_eq] at h
  exact ⟨a.toNat, b.toNat, c.toNat, by omega, by omega, by omega, by omega, by omega, by omega⟩
theorem prn_parts {x y z : Nat} (h : prnOk x y z = true) : rdA (prnS x y z) = Lib.decDigits x ∧ rdB (prnS x y z) = Lib.decDigits y ∧ rdC (prnS x y z) = Lib.decDigits z := by
  have e : prnS x y z = saidB ++ (Lib.decDigits x ++ 45 :: (Lib.decDigits y ++ 47 :: Lib.decDigits z)) := by
    unfold prnS
    rw [if_pos h, Lib.itoa_nonneg, Lib.itoa_nonneg, Lib.itoa_nonneg]
    simp
  unfold rdA rdB rdC
  rw [e, trim_pre, cut_by _ _ _ (dec_no x (by decide)), cut_by _ _ _ (dec_no y (by decide))]
  exact ⟨rfl, rfl, rfl⟩
theorem rdc_ok {a b c : Int} (h : prnOk a b c = true) : rdcM (prnS a b c) = ⟨a, b, c, 0⟩ := by
  obtain ⟨x, y, z, rfl, rfl, rfl, h1, h2, h3⟩ := prn_nat h
  obtain ⟨p1, p2, p3⟩ := prn_parts h
  obtain ⟨u1, u2⟩ := undec_dec x 4611686018427387904 h1 (by omega)
  obtain ⟨u3, u4⟩ := undec_dec y 4611686018427387904 h2 (by omega)
  obtain ⟨u5, u6⟩ := undec_dec z 4611686018427387904 h3 (by omega)
  unfold rdcM
  rw [p1, p2, p3, u1, u2, u3, u4, u5, u6, if_neg (by simp), if_neg (by simp), if_neg (by simp), if_neg]
  have : prnE x y z = 0 := by unfold prnE; rw [if_pos h]
  simp [this]
theorem rdc_or (l : List UInt8) : rdcM l = ⟨0, 0, 0, 3⟩ ∨ ∃ a b c, rdcM l = ⟨a, b, c, 0⟩ ∧ prnOk a b c = true ∧ prnS a b c = l := by
  unfold rdcM
  split
  · exact .inl rfl
  · split
    · exact .inl rfl
    · split
      · exact .inl rfl
      · split
        · exact .inl rfl
        · rename_i h
          refine .inr ⟨_, _, _, rfl, ?_, ?_⟩
          · have h1 : prnE (undecV (rdA l) 4611686018427387904) (undecV (rdB l) 4611686018427387904) (undecV (rdC l) 4611686018427387904) = 0 := by
              by_cases hz : prnE (undecV (rdA l) 4611686018427387904) (undecV (rdB l) 4611686018427387904) (undecV (rdC l) 4611686018427387904) = 0
              · exact hz
              · exact absurd (Or.inl hz) h
            unfold prnE at h1
            split at h1
            · assumption
            · cases h1
          · by_cases hz : prnS (undecV (rdA l) 4611686018427387904) (undecV (rdB l) 4611686018427387904) (undecV (rdC l) 4611686018427387904) = l
            · exact hz
            · exact absurd (Or.inr hz) h
theorem prnE_iff (a b c : Int) : prnE a b c = 0 ↔ prnOk a b c = true := by
  unfold prnE
  split
  · rename_i h; simp [h]
  · rename_i h; simp [h]
theorem prn_inj {a b c a' b' c' : Int} (h : prnOk a b c = true) (h' : prnOk a' b' c' = true) : prnS a b c = prnS a' b' c' ↔ (a = a' ∧ b = b' ∧ c = c') := by
  constructor
  · intro e
    have h1 := rdc_ok h
    rw [e, rdc_ok h'] at h1
    injection h1 with e1 e2 e3
    exact ⟨e1.symm, e2.symm, e3.symm⟩
  · rintro ⟨rfl, rfl, rfl⟩; rfl
end Go.Proofs.YtdmffbefppjllaaGreatDoor

/- Layers 1 and 10: the document's Undec and Frame. No conditions but on lengths. -/
namespace Go.Proofs.YtdmffbefppjllaaGreatDoor
open Go.RowKit Go.Shelf

theorem digV_dec {c : UInt8} (h : 48 ≤ c.toNat ∧ c.toNat ≤ 57) : digV c = (c.toNat : Int) - 48 := by
  unfold digV
  rw [if_pos h]
/-- where the document's loop over digits stands -/
def UStage (l : List UInt8) (k : Nat) (n : Int) (b : Bool) : Prop :=
  (l.take k).all decB = true ∧ 0 ≤ n ∧ n ≤ 4611686018427387913 ∧ ((b = true ∧ gatherM 10 l 0 = none) ∨ (b = false ∧ ((gatherM 10 l 0 = gatherM 10 (l.drop k) n ∧ n ≤ 4611686018427387904) ∨ (gatherM 10 l 0 = none ∧ 4611686018427387904 < n))))

end Go.Proofs.YtdmffbefppjllaaGreatDoor

/- Layer 16: the document's Dec, Print, Read. No conditions but on lengths. -/
namespace Go.Proofs.YtdmffbefppjllaaGreatDoor
open Go.RowKit Go.Shelf

theorem dig_cut16 {r : Nat} (h : r < 10) : (⟨#[48, 49, 50, 51, 52, 53, 54, 55, 56, 57, 97, 98, 99, 100, 101, 102]⟩ : ByteArray).extract r (r + 1) = S [UInt8.ofNat (48 + r)] := by
  have : ∀ r : Fin 10, (⟨#[48, 49, 50, 51, 52, 53, 54, 55, 56, 57, 97, 98, 99, 100, 101, 102]⟩ : ByteArray).extract r.1 (r.1 + 1) = S [UInt8.ofNat (48 + r.1)] := by decide +kernel
  exact this ⟨r, h⟩
def decP (n : Nat) : List UInt8 := if 0 < n then Lib.decDigits n else []
theorem decP_step (n : Nat) (h : 0 < n) : decP n = decP (n / 10) ++ [UInt8.ofNat (48 + n % 10)] := by
  have := decI_step false n (.inr h)
  unfold decI at this
  unfold decP
  simpa using this
theorem dec_first (n : Nat) : Lib.decDigits n = decP (n / 10) ++ [UInt8.ofNat (48 + n % 10)] := by
  have := decI_step true n (.inl rfl)
  unfold decI at this
  unfold decP
  simpa using this

end Go.Proofs.YtdmffbefppjllaaGreatDoor

/- Layer 1: numbers in base 16 are written: FormatInt at base 16, Hexnum, the document's. No conditions but on the library's table. -/
namespace Go.Proofs.YtdmffbefppjllaaGreatDoor
open Go.RowKit Go.Shelf

def digL : List UInt8 := [48, 49, 50, 51, 52, 53, 54, 55, 56, 57, 97, 98, 99, 100, 101, 102]
def hexD (r : Nat) : UInt8 := digL.getD r 0
/-- the digits of a number in base 16; of 0: none -/
def hexP (n : Nat) : List UInt8 := if _ : 0 < n then hexP (n / 16) ++ [hexD (n % 16)] else []
termination_by n
decreasing_by omega
def hexL (n : Nat) : List UInt8 := hexP (n / 16) ++ [hexD (n % 16)]
theorem hexP_pos {n : Nat} (h : 0 < n) : hexP n = hexP (n / 16) ++ [hexD (n % 16)] := by rw [hexP, dif_pos h]
theorem hexL_pos {n : Nat} (h : 0 < n) : hexP n = hexL n := hexP_pos h
theorem hexP_zero : hexP 0 = [] := by rw [hexP, dif_neg (by omega)]
theorem hex_cut16 {r : Nat} (h : r < 16) : (⟨#[48, 49, 50, 51, 52, 53, 54, 55, 56, 57, 97, 98, 99, 100, 101, 102]⟩ : ByteArray).extract r (r + 1) = S [hexD r] := by
  have : ∀ r : Fin 16, (⟨#[48, 49, 50, 51, 52, 53, 54, 55, 56, 57, 97, 98, 99, 100, 101, 102]⟩ : ByteArray).extract r.1 (r.1 + 1) = S [hexD r.1] := by decide +kernel
  exact this ⟨r, h⟩
theorem hexP_len : ∀ (k n : Nat), n < 16 ^ k → (hexP n).length ≤ k
  | 0, n, h => by
    have : n = 0 := by simpa using h
    subst this
    rw [hexP_zero]; simp
  | k + 1, n, h => by
    rcases Nat.eq_zero_or_pos n with rfl | hn
    · rw [hexP_zero]; simp
    · have := hexP_len k (n / 16) (by rw [Nat.pow_succ] at h; omega)
      rw [hexP_pos hn, List.length_append]
      simp
      omega
theorem hexL_len {n : Nat} (h : n < 9223372036854775808) : (hexL n).length ≤ 16 := by
  have := hexP_len 15 (n / 16) (by have : (16 : Nat) ^ 15 = 1152921504606846976 := by decide
                                   omega)
  unfold hexL
  rw [List.length_append]
  simp
  omega
theorem nat_mod16 (m : Nat) : (m : Int).tmod 16 = ((m % 16 : Nat) : Int) := by
  rw [Int.tmod_eq_emod_of_nonneg (by omega)]; omega
theorem nat_div16 (m : Nat) : (m : Int).tdiv 16 = ((m / 16 : Nat) : Int) := by
  rw [Int.tdiv_eq_ediv_of_nonneg (by omega)]; omega

/-- bits.TrailingZeros64's table -/
def db64 : List Int := [0, 1, 56, 2, 57, 49, 28, 3, 61, 58, 42, 50, 38, 29, 17, 4, 62, 47, 59, 36, 45, 43, 51, 22, 53, 39, 33, 30, 24, 18, 12, 5, 63, 55, 48, 27, 60, 41, 37, 16, 46, 35, 44, 21, 52, 32, 23, 11, 54, 26, 40, 15, 34, 20, 31, 10, 25, 14, 19, 9, 13, 8, 7, 6]
def P64 (w : World) : Prop := Lib.TabIs Tryz.prog w "math/bits.deBruijn64tab" .u8 db64
theorem P64.keep0 {w w' : World} (h : P64 w) (k : Keep [] w w') : P64 w' := by
  unfold P64 Lib.TabIs World.var? at *
  cases hg : Tryz.prog.globalNamed "math/bits.deBruijn64tab" with
  | none => simp [hg] at h
  | some g =>
    try rw [hg] at h
    simp only [Option.bind_some] at h ⊢
    cases ho : w.heap[g]? with
    | none => rw [ho] at h; simp at h
    | some o =>
      rw [k.heap ho (by simp)]
      rw [ho] at h
      exact h
theorem P64.laid {W : World} {laid : List (String × DataW Unit)} (h : laidMet Tryz.prog laid W) (hm : ("math/bits.deBruijn64tab", Lib.tabData .u8 db64) ∈ laid := by first | (repeat (first | exact List.Mem.head _ | exact List.Mem.tail _ (List.Mem.head _) | exact List.Mem.tail _ (List.Mem.tail _ (List.Mem.head _)))) | simp) : P64 W := by
  obtain ⟨ps, h, _⟩ := h
  exact laid_at (g := 3) (t := 155) (e := 5) (n := 64) (by kernel_rfl) rfl (by kernel_rfl) (by kernel_rfl) (by kernel_rfl) (by kernel_rfl) hm h

set_option maxRecDepth 100000 in
set_option maxHeartbeats 1000000 in
theorem bits_TZ64 (w : World) (h : P64 w) : Calls Tryz.prog 131 #[.int .u64 16] w fun e w' => e = .returned (.int .i64 4) ∧ w = w' := by
  have hc := Lib.TabIs.cell h (g := 3) (by kernel_rfl) 15 (by decide)
  have hb1 : bits BinOp.and IntKind.u64 16 (IntKind.u64.wrap (-16)) = 16 := by decide
  have hb2 : IntKind.u64.wrap 4573923408821661840 = 4573923408821661840 := by decide
  have hb3 : db64[15]?.getD 0 = 4 := rfl
  clear h
  go_enter Tryz.func131, Tryz.ntmps131
  go_wp2_with fail
  go_ret
  exact ⟨rfl, rfl⟩
set_option maxRecDepth 100000 in
set_option maxHeartbeats 1000000 in
theorem bits_TZ (w : World) (h : P64 w) : Calls Tryz.prog 121 #[.int .u64 16] w fun e w' => e = .returned (.int .i64 4) ∧ w = w' := by
  have H := Lib.hid (bits_TZ64 w h)
  clear h
  go_enter Tryz.func121, Tryz.ntmps121
  go_wp2_with fail
  refine H.out.mono ?_
  rintro e w1 ⟨rfl, rfl⟩
  go_wp2_with fail
  go_ret
  exact ⟨rfl, rfl⟩
set_option maxHeartbeats 1000000 in
theorem is_pow16 (w : World) : Calls Tryz.prog 120 #[.int .i64 16] w fun e w' => e = .returned (.bool true) ∧ w = w' := by
  have hb1 : bits BinOp.and IntKind.i64 16 15 = 0 := by decide
  go_enter Tryz.func120, Tryz.ntmps120
  go_wp2_with fail
  go_ret
  exact ⟨rfl, rfl⟩
end Go.Proofs.YtdmffbefppjllaaGreatDoor

/- Layer 11, plain laws: a body as it is written in chunks, and what a reader makes of it. No program. No conditions but those that each theorem states. -/
namespace Go.Proofs.YtdmffbefppjllaaGreatDoor
open Go.RowKit

/-- chunks of at most k + 1 bytes -/
def wrL (k : Nat) (s : List UInt8) : List UInt8 :=
  if _h : s = [] then [] else hexL (min (k + 1) s.length) ++ crlfC ++ (s.take (k + 1) ++ crlfC) ++ wrL k (s.drop (k + 1))
termination_by s.length
decreasing_by
  cases s with
  | nil => exact absurd rfl _h
  | cons => simp; omega
def endC : List UInt8 := [48, 13, 10, 13, 10]
theorem wrL_nil (k : Nat) : wrL k [] = [] := by rw [wrL, dif_pos rfl]
theorem wrL_cons (k : Nat) {s : List UInt8} (h : s ≠ []) : wrL k s = hexL (min (k + 1) s.length) ++ crlfC ++ (s.take (k + 1) ++ crlfC) ++ wrL k (s.drop (k + 1)) := by rw [wrL, dif_neg h]
theorem len_pos {s : List UInt8} (h : s ≠ []) : 0 < s.length := by cases s with | nil => exact absurd rfl h | cons => simp
theorem wrL_len (k : Nat) : ∀ (n : Nat) (s : List UInt8), s.length ≤ n → s.length ≤ 1048576 → (wrL k s).length ≤ 21 * s.length
  | n, s, hn, h => by
    by_cases h0 : s = []
    · subst h0; rw [wrL_nil]; simp
    · have hp := len_pos h0
      match n, hn with
      | 0, hn => omega
      | n + 1, hn =>
        have hd : (s.drop (k + 1)).length = s.length - (k + 1) := List.length_drop
        have ih := wrL_len k n (s.drop (k + 1)) (by omega) (by omega)
        have hx := hexL_len (n := min (k + 1) s.length) (by omega)
        have ht : (s.take (k + 1)).length = min (k + 1) s.length := List.length_take
        rw [wrL_cons k h0]
        simp only [List.length_append, ht, crlfC, List.length_cons, List.length_nil]
        omega
theorem wrL_clamp (k j : Nat) (s : List UInt8) (h : s.length ≤ k + 1) (h2 : s.length ≤ j + 1) : wrL k s = wrL j s := by
  by_cases h0 : s = []
  · subst h0; rw [wrL_nil, wrL_nil]
  · rw [wrL_cons k h0, wrL_cons j h0, List.take_of_length_le h, List.take_of_length_le h2, List.drop_eq_nil_of_le h, List.drop_eq_nil_of_le h2, wrL_nil, wrL_nil, Nat.min_eq_right h, Nat.min_eq_right h2]

theorem hexD_ok {r : Nat} (h : r < 16) : digOk (hexD r) = true ∧ digV (hexD r) = (r : Int) ∧ hexD r ≠ 10 := by
  have : ∀ r : Fin 16, digOk (hexD r.1) = true ∧ digV (hexD r.1) = ((r.1 : Nat) : Int) ∧ hexD r.1 ≠ 10 := by decide +kernel
  exact this ⟨r, h⟩
theorem hexP_ok (n : Nat) : (hexP n).all digOk = true ∧ hexN (hexP n) 0 = (n : Int) ∧ (10 : UInt8) ∉ hexP n := by
  induction n using Nat.strongRecOn with
  | _ n ih =>
    rcases Nat.eq_zero_or_pos n with rfl | hn
    · rw [hexP_zero]; exact ⟨rfl, rfl, by simp⟩
    · obtain ⟨h1, h2, h3⟩ := ih (n / 16) (by omega)
      obtain ⟨d1, d2, d3⟩ := hexD_ok (r := n % 16) (Nat.mod_lt _ (by omega))
      rw [hexP_pos hn]
      refine ⟨by rw [List.all_append, h1]; simp [d1], ?_, ?_⟩
      · unfold hexN at h2 ⊢
        rw [List.foldl_append, h2]
        simp only [List.foldl_cons, List.foldl_nil]
        rw [d2]; omega
      · simp only [List.mem_append, List.mem_singleton, not_or]
        exact ⟨h3, fun h => d3 h.symm⟩
theorem hexL_ok (n : Nat) : (hexL n).all digOk = true ∧ hexN (hexL n) 0 = (n : Int) ∧ (10 : UInt8) ∉ hexL n := by
  rcases Nat.eq_zero_or_pos n with rfl | hn
  · have : hexL 0 = [48] := by unfold hexL; rw [show 0 / 16 = 0 from rfl, hexP_zero]; rfl
    rw [this]; decide
  · rw [← hexL_pos hn]; exact hexP_ok n
theorem hexL_ne (n : Nat) : hexL n ≠ [] := by unfold hexL; simp
theorem num_hex (n : Nat) (m : Int) (hn : n ≤ 1048576) : numE (hexL n) m = (if m < n then 4 else 0) ∧ ((n : Int) ≤ m → numV (hexL n) m = n) := by
  obtain ⟨h1, h2, _⟩ := hexL_ok n
  have h3 := hexL_len (n := n) (by omega)
  have hne := hexL_ne n
  have hr : numRest (hexL n) = [] := by
    rw [numRest_at (k := (hexL n).length) (Nat.le_refl _) (by rw [List.take_length]; exact h1) (fun b hb => by have := (List.getElem?_eq_some_iff.1 hb).1; omega), List.drop_length]
  have ht : numT (hexL n) = hexL n := by rw [numT_at (k := (hexL n).length) (Nat.le_refl _) (by rw [hr, List.drop_length]), List.take_length]
  have hok : hexOk (hexL n) = true := by
    unfold hexOk
    rw [h1, decide_eq_true h3]
    cases hx : hexL n with
    | nil => exact absurd hx hne
    | cons => rfl
  obtain ⟨b1, b2⟩ := bound_fold (hexL n) m
  rw [h2] at b1 b2
  have hu : unhexE (hexL n) m = if m < (n : Int) then 14 else 0 := by
    unfold unhexE
    rw [hok, if_pos rfl, b2]
    by_cases hm : m < (n : Int)
    · rw [if_pos hm, if_pos (show (4611686018427387904 : Int) < (n : Int) ∨ m < (n : Int) from Or.inr hm)]
    · rw [if_neg hm, if_neg (by omega)]
  have hv : (n : Int) ≤ m → unhexV (hexL n) m = (n : Int) := fun hm => by
    unfold unhexV
    rw [hok, if_pos rfl, b1, if_neg (by omega)]
  have hro : restOk [] = true := rfl
  unfold numE numV
  rw [hr, ht, hro, if_pos rfl, hu]
  refine ⟨?_, hv⟩
  by_cases hm : m < (n : Int)
  · rw [if_pos hm, if_pos rfl, if_pos hm]
  · rw [if_neg hm, if_neg (by decide), if_neg hm]
/-- a line that stands first -/
theorem ln_first {t rest : List UInt8} (ht : (10 : UInt8) ∉ t) (hl : t.length ≤ 254) : lnC (t ++ crlfC ++ rest) = ⟨t, 0, rest⟩ := by
  have hg : ∀ j, j < t.length → (t ++ crlfC ++ rest)[j]? = t[j]? := fun j hj => by
    rw [List.append_assoc, List.getElem?_append_left hj]
  have e1 : (t ++ crlfC ++ rest)[t.length]? = some 13 := by rw [List.append_assoc, List.getElem?_append_right (Nat.le_refl _), Nat.sub_self]; rfl
  have e2 : (t ++ crlfC ++ rest)[t.length + 1]? = some 10 := by rw [List.append_assoc, List.getElem?_append_right (by omega), show t.length + 1 - t.length = 1 by omega]; rfl
  have hi : Lib.indexByte ((t ++ crlfC ++ rest).take 256) 10 = ((t.length + 1 : Nat) : Int) := by
    refine indexByte_at ?_ (fun j hj => ?_)
    · rw [List.getElem?_take, if_pos (by omega)]; exact e2
    · rw [List.getElem?_take, if_pos (by omega)]
      rcases Nat.lt_or_ge j t.length with h | h
      · rw [hg j h]; intro hh; exact ht (List.mem_of_getElem? hh)
      · rw [show j = t.length by omega, e1]; decide
  have hl2 : (t ++ crlfC ++ rest).take (t.length + 1 + 1) = t ++ crlfC := by
    rw [List.take_append_of_le_length (by simp [crlfC])]
    exact List.take_of_length_le (by simp [crlfC])
  have hd : (t ++ crlfC ++ rest).drop (t.length + 1 + 1) = rest := by
    have : t.length + 1 + 1 = (t ++ crlfC).length := by simp [crlfC]
    rw [this, List.drop_left]
  have hs : Lib.hasSuffix (t ++ crlfC) crlfC = true := by unfold Lib.hasSuffix; rw [List.isSuffixOf_iff_suffix]; exact List.suffix_append _ _
  rw [line_at hi, hl2, hd, if_pos hs]
  have : Lib.trimSuffix (t ++ crlfC) crlfC = t := by
    unfold Lib.trimSuffix
    rw [if_pos hs, List.length_append, show t.length + crlfC.length - crlfC.length = t.length by omega, List.take_left]
  rw [this]

theorem runs_more' {c c1 d : Ck} {e : Int} (h : stepM c = (c1, 0)) (hr : Runs c1 d e) : Runs c d e := .more (by rw [h]) (by rw [h]; exact hr)
theorem runs_stop' {c d : Ck} {e : Int} (h : stepM c = (d, e)) (he : e ≠ 0) : Runs c d e := by
  have := Runs.stop (c := c) (by rw [h]; exact he)
  rw [h] at this
  exact this
theorem begin_hex {lf most : Nat} {D rest : List UInt8} {er : Int} {n : Nat} (hn : n ≤ 1048576) (hm : D.length + n ≤ most) :
    stepM ⟨0, lf, most, 0, hexL n ++ crlfC ++ rest, D, er⟩ = (⟨if n = 0 then 3 else 1, n, most, 0, rest, D, er⟩, 0) := by
  have hl := ln_first (t := hexL n) (rest := rest) (hexL_ok n).2.2 (by have := hexL_len (n := n) (by omega); omega)
  obtain ⟨n1, n2⟩ := num_hex n ((most : Int) - D.length) hn
  rw [if_neg (by omega)] at n1
  have n2 := n2 (by omega)
  rw [step0 rfl]
  unfold beginM
  dsimp only
  rw [hl]
  dsimp only
  rw [if_neg (by simp), n1, n2, if_neg (by simp)]
  congr 2
  by_cases h : n = 0
  · rw [if_pos h, if_pos (by omega)]
  · rw [if_neg h, if_neg (by omega)]
theorem begin_long {lf most : Nat} {D rest : List UInt8} {er : Int} {n : Nat} (hn : n ≤ 1048576) (hm : most < D.length + n) :
    stepM ⟨0, lf, most, 0, hexL n ++ crlfC ++ rest, D, er⟩ = (⟨0, lf, most, 0, rest, D, er⟩, 4) := by
  have hl := ln_first (t := hexL n) (rest := rest) (hexL_ok n).2.2 (by have := hexL_len (n := n) (by omega); omega)
  obtain ⟨n1, _⟩ := num_hex n ((most : Int) - D.length) hn
  rw [if_pos (by omega)] at n1
  rw [step0 rfl]
  unfold beginM
  dsimp only
  rw [hl]
  dsimp only
  rw [if_neg (by simp), n1, if_pos (by simp)]
theorem data_hex {most : Nat} {D t rest : List UInt8} {er : Int} {n : Nat} (hn : t.length = n) :
    stepM ⟨1, n, most, 0, t ++ rest, D, er⟩ = (⟨2, 0, most, 0, rest, D ++ t, er⟩, 0) := by
  subst hn
  rw [step1 rfl, data_eq _ t.length (by show min t.length (t ++ rest).length = _; simp), if_neg (by show ¬ 0 < t.length - t.length; omega)]
  show (({ st := 2, left := t.length - t.length, most := most, flds := 0, inp := (t ++ rest).drop t.length, dat := D ++ (t ++ rest).take t.length, err := er } : Ck), (0 : Int)) = _
  rw [List.drop_left, List.take_left, Nat.sub_self]
theorem close_hex {lf most : Nat} {D rest : List UInt8} {er : Int} : stepM ⟨2, lf, most, 0, crlfC ++ rest, D, er⟩ = (⟨0, lf, most, 0, rest, D, er⟩, 0) := by
  rw [step2 rfl]
  unfold closeM
  have h1 : (crlfC ++ rest).take 2 = crlfC := rfl
  have h2 : crlfC.take (crlfC ++ rest).length = crlfC := List.take_of_length_le (by simp)
  have h3 : (crlfC ++ rest).drop 2 = rest := rfl
  dsimp only
  rw [h1, h2, h3, if_neg (by simp), if_neg (by simp [crlfC])]
theorem runs_end {lf most : Nat} {D more : List UInt8} {er : Int} (hm : D.length ≤ most) : Runs ⟨0, lf, most, 0, endC ++ more, D, er⟩ ⟨4, 0, most, 0, more, D, er⟩ 17 := by
  have h48 : hexL 0 = [48] := by unfold hexL; rw [show 0 / 16 = 0 from rfl, hexP_zero]; rfl
  have hb := begin_hex (lf := lf) (most := most) (D := D) (rest := crlfC ++ more) (er := er) (n := 0) (by omega) (by omega)
  rw [h48] at hb
  refine runs_more' (c1 := ⟨3, 0, most, 0, crlfC ++ more, D, er⟩) hb ?_
  have hl := ln_first (t := []) (rest := more) (by simp) (by simp)
  rw [List.nil_append] at hl
  have ht : stepM ⟨3, 0, most, 0, crlfC ++ more, D, er⟩ = (⟨4, 0, most, 0, more, D, er⟩, 0) := by
    rw [step3 rfl]
    unfold trailM
    dsimp only
    rw [hl]
    dsimp only
    rw [if_neg (by simp), if_pos rfl]
  exact runs_more' ht (runs_stop' (step4 rfl) (by decide))
/-- one chunk -/
theorem runs_chunk {lf k most : Nat} {s D R : List UInt8} {er : Int} {d : Ck} {e : Int} (h0 : s ≠ []) (hl : s.length ≤ 1048576) (hm : D.length + min (k + 1) s.length ≤ most)
    (hr : Runs ⟨0, 0, most, 0, wrL k (s.drop (k + 1)) ++ R, D ++ s.take (k + 1), er⟩ d e) : Runs ⟨0, lf, most, 0, wrL k s ++ R, D, er⟩ d e := by
  have hp := len_pos h0
  have ht : (s.take (k + 1)).length = min (k + 1) s.length := List.length_take
  rw [wrL_cons k h0]
  have hb := begin_hex (lf := lf) (most := most) (D := D) (rest := s.take (k + 1) ++ (crlfC ++ (wrL k (s.drop (k + 1)) ++ R))) (er := er) (n := min (k + 1) s.length) (by omega) hm
  rw [if_neg (by omega)] at hb
  refine runs_more' (c1 := ⟨1, min (k + 1) s.length, most, 0, s.take (k + 1) ++ (crlfC ++ (wrL k (s.drop (k + 1)) ++ R)), D, er⟩) ?_ (runs_more' (data_hex ht) (runs_more' close_hex hr))
  rw [← hb]
  simp only [List.append_assoc]
theorem runs_write (k most : Nat) (more : List UInt8) (er : Int) : ∀ (n : Nat) (s D : List UInt8) (lf : Nat), s.length ≤ n → s.length ≤ 1048576 → D.length + s.length ≤ most →
    Runs ⟨0, lf, most, 0, wrL k s ++ (endC ++ more), D, er⟩ ⟨4, 0, most, 0, more, D ++ s, er⟩ 17
  | n, s, D, lf, hn, hl, hm => by
    by_cases h0 : s = []
    · subst h0
      rw [wrL_nil, List.append_nil, List.nil_append]
      exact runs_end (by simp at hm; exact hm)
    · have hp := len_pos h0
      match n, hn with
      | 0, hn => omega
      | n + 1, hn =>
        have hd : (s.drop (k + 1)).length = s.length - (k + 1) := List.length_drop
        have ht : (s.take (k + 1)).length = min (k + 1) s.length := List.length_take
        refine runs_chunk h0 hl (by omega) ?_
        have := runs_write k most more er n (s.drop (k + 1)) (D ++ s.take (k + 1)) 0 (by omega) (by omega) (by rw [List.length_append]; omega)
        rw [List.append_assoc, List.take_append_drop] at this
        exact this
theorem runs_long (k most : Nat) (more : List UInt8) (er : Int) : ∀ (n : Nat) (s D : List UInt8) (lf : Nat), s.length ≤ n → s.length ≤ 1048576 → D.length ≤ most → most < D.length + s.length →
    ∃ d, Runs ⟨0, lf, most, 0, wrL k s ++ more, D, er⟩ d 4 ∧ d.st = 0 ∧ d.most = most ∧ d.dat.length ≤ most
  | n, s, D, lf, hn, hl, hD, hm => by
    by_cases h0 : s = []
    · subst h0; simp at hm; omega
    · have hp := len_pos h0
      match n, hn with
      | 0, hn => omega
      | n + 1, hn =>
        have hd : (s.drop (k + 1)).length = s.length - (k + 1) := List.length_drop
        have ht : (s.take (k + 1)).length = min (k + 1) s.length := List.length_take
        by_cases hf : D.length + min (k + 1) s.length ≤ most
        · obtain ⟨d, hr, h1, h2, h3⟩ := runs_long k most more er n (s.drop (k + 1)) (D ++ s.take (k + 1)) 0 (by omega) (by omega) (by rw [List.length_append]; omega) (by rw [List.length_append]; omega)
          exact ⟨d, runs_chunk h0 hl hf hr, h1, h2, h3⟩
        · have hb := begin_long (lf := lf) (most := most) (D := D) (rest := s.take (k + 1) ++ (crlfC ++ (wrL k (s.drop (k + 1)) ++ more))) (er := er) (n := min (k + 1) s.length) (by omega) (by omega)
          refine ⟨_, runs_stop' (d := ⟨0, lf, most, 0, s.take (k + 1) ++ (crlfC ++ (wrL k (s.drop (k + 1)) ++ more)), D, er⟩) ?_ (by decide), rfl, rfl, hD⟩
          rw [← hb, wrL_cons k h0]
          simp only [List.append_assoc]
end Go.Proofs.YtdmffbefppjllaaGreatDoor

/- Layer 11, plain laws: what was written is read as it was, cut off it isn't whole, with a byte less allowed it is too long. No program. -/
namespace Go.Proofs.YtdmffbefppjllaaGreatDoor
open Go.RowKit

theorem addC_of_runs {c d : Ck} {s : List UInt8} {e : Int} (h0 : c.err = 0) (hok : c.ok) (hr : Runs (c.add s) d e) : addC c s = { d with err := if e = 17 then 0 else e } := by
  have h := addC_R (c := c) (s := s) (fun _ => hok)
  unfold AddR at h
  rw [if_neg (by simp [h0])] at h
  obtain ⟨d', e', hr', hc⟩ := h
  obtain ⟨rfl, rfl⟩ := runs_det hr hr'
  exact hc
theorem addC_rd {m : Int} (s : List UInt8) : Rdc m s (addC (ck0 m) s) := by
  have h := (rd_nil m).add (addC_R (c := ck0 m) (s := s) (fun _ => ck0_ok m))
  exact h.1 rfl
theorem addC_rq {m : Int} {all : List UInt8} {c : Ck} (h : Rq m all c) (s : List UInt8) : Rq m (all ++ s) (addC c s) := h.add (addC_R h.sound.1)
/-- all bytes of a body in chunks -/
def wrT (k : Nat) (s : List UInt8) : List UInt8 := wrL k s ++ endC
theorem back_full (k : Nat) (s more : List UInt8) (hs : s.length ≤ 1048576) : addC (ck0 (s.length : Nat)) (wrT k s ++ more) = ⟨4, 0, s.length, 0, more, s, 0⟩ := by
  have hr := runs_write k s.length more 0 s.length s [] 0 (Nat.le_refl _) hs (by simp)
  have e1 : (ck0 (s.length : Nat)).add (wrT k s ++ more) = ⟨0, 0, s.length, 0, wrL k s ++ (endC ++ more), [], 0⟩ := by
    unfold ck0 Ck.add wrT
    have : (max (s.length : Int) 0).toNat = s.length := by omega
    rw [this]
    simp
  rw [← e1] at hr
  rw [addC_of_runs rfl (ck0_ok _) hr]
  simp
theorem back_cut (k : Nat) (s : List UInt8) (hs : s.length ≤ 1048576) (j : Nat) (hj : j < (wrT k s).length) :
    (addC (ck0 (s.length : Nat)) ((wrT k s).take j)).err = 0 ∧ (addC (ck0 (s.length : Nat)) ((wrT k s).take j)).st ≠ 4 ∧ (addC (ck0 (s.length : Nat)) ((wrT k s).take j)).dat <+: s ∧ (addC (ck0 (s.length : Nat)) ((wrT k s).take j)).st ≤ 4 := by
  have hp := addC_rd (m := (s.length : Nat)) ((wrT k s).take j)
  have hf := addC_rd (m := (s.length : Nat)) (wrT k s)
  have hb := back_full k s [] hs
  rw [List.append_nil] at hb
  rw [hb] at hf
  generalize addC (ck0 (s.length : Nat)) ((wrT k s).take j) = d at *
  have hall : (wrT k s).take j ++ (wrT k s).drop j = wrT k s := List.take_append_drop _ _
  have hsd := hp.sound
  have h0 : d.err = 0 := by
    by_cases h : d.err = 0
    · exact h
    · rw [← hall] at hf
      have := (rd_prefix hp h hf).1
      exact this.symm
  have hadd := (hp.add (addC_R (c := d) (s := (wrT k s).drop j) (fun h => (hsd.1 h).1))).1 h0
  rw [hall] at hadd
  have heq := rd_det hf hadd
  have hok := (hsd.1 h0).1
  have hR := addC_R (c := d) (s := (wrT k s).drop j) (fun h => (hsd.1 h).1)
  unfold AddR at hR
  rw [if_neg (by simp [h0])] at hR
  obtain ⟨x, e, hr, hc⟩ := hR
  rw [← heq] at hc
  refine ⟨h0, fun h4 => ?_, ?_, hsd.2.2.2.1⟩
  · have h4' : (d.add ((wrT k s).drop j)).st = 4 := h4
    rcases runs_eq hr (step4 h4') with hh | hh
    · have := hh.1; simp at this
    · rw [hh.2.1] at hc
      have hi := congrArg Ck.inp hc
      have hl := congrArg List.length hi
      simp [Ck.add] at hl
      omega
  · have := (runs_ok hr (add_ok hok _)).2.2.2.2
    have hd := congrArg Ck.dat hc
    dsimp only at hd
    rw [hd]
    exact this
theorem back_long (k : Nat) (s : List UInt8) (hs : s.length ≤ 1048576) (h0 : s ≠ []) : (addC (ck0 ((s.length - 1 : Nat) : Int)) (wrT k s)).err = 4 ∧ (addC (ck0 ((s.length - 1 : Nat) : Int)) (wrT k s)).st = 0 ∧
    (addC (ck0 ((s.length - 1 : Nat) : Int)) (wrT k s)).inp.length + (addC (ck0 ((s.length - 1 : Nat) : Int)) (wrT k s)).dat.length ≤ (wrT k s).length ∧ ((addC (ck0 ((s.length - 1 : Nat) : Int)) (wrT k s)).most : Int) ≤ 1048576 := by
  have hp := len_pos h0
  obtain ⟨d, hr, h1, h2, h3⟩ := runs_long k (s.length - 1) endC 0 s.length s [] 0 (Nat.le_refl _) hs (by simp) (by simp; omega)
  have e1 : (ck0 ((s.length - 1 : Nat) : Int)).add (wrT k s) = ⟨0, 0, s.length - 1, 0, wrL k s ++ endC, [], 0⟩ := by
    unfold ck0 Ck.add wrT
    have : (max ((s.length - 1 : Nat) : Int) 0).toNat = s.length - 1 := by omega
    rw [this]
    simp
  have hsd := (addC_rd (m := ((s.length - 1 : Nat) : Int)) (wrT k s)).sound
  rw [← e1] at hr
  have hx := addC_of_runs (c := ck0 ((s.length - 1 : Nat) : Int)) rfl (ck0_ok _) hr
  refine ⟨by rw [hx]; simp, by rw [hx]; exact h1, hsd.2.2.1, by rw [hsd.2.1]; omega⟩
theorem addC_bad {c : Ck} (h : c.err ≠ 0) (s : List UInt8) : addC c s = c := by unfold addC; rw [if_pos h]
theorem wrT_len (k : Nat) (s : List UInt8) (h : s.length ≤ 1048576) : (wrT k s).length ≤ 21 * s.length + 5 := by
  have := wrL_len k s.length s (Nat.le_refl _) h
  unfold wrT
  simp [endC]
  omega
theorem wrT_pos (k : Nat) (s : List UInt8) : 5 ≤ (wrT k s).length := by unfold wrT; simp [endC]
end Go.Proofs.YtdmffbefppjllaaGreatDoor

/- Layer 12, plain laws: however the bytes are cut the same requests come of them. No program. No conditions but those that each theorem states. -/
namespace Go.Proofs.YtdmffbefppjllaaGreatDoor
open Go.RowKit

theorem addC_cases {c : Ck} (s : List UInt8) (h0 : c.err = 0) (hk : c.ok) : ∃ d e, Runs (c.add s) d e ∧ addC c s = { d with err := if e = 17 then 0 else e } ∧ d.err = 0 ∧ e ≠ 0 := by
  have hr := addC_R (c := c) (s := s) (fun _ => hk)
  unfold AddR at hr
  rw [if_neg (by simp [h0])] at hr
  obtain ⟨d, e, hr, hc⟩ := hr
  exact ⟨d, e, hr, hc, by rw [(runs_ok hr (add_ok hk s)).2.2.1]; exact h0, runs_ne hr⟩
theorem add_add (c : Ck) (s t : List UInt8) : (c.add s).add t = c.add (s ++ t) := by simp [Ck.add]
theorem addC_bad_app {c : Ck} (s t : List UInt8) (h0 : c.err = 0) (hk : c.ok) (he : (addC c s).err ≠ 0) : (addC c (s ++ t)).err = (addC c s).err := by
  obtain ⟨d, e, hr, hc, hd, hn⟩ := addC_cases s h0 hk
  have h17 : e ≠ 17 := by rintro rfl; rw [hc] at he; exact he rfl
  have ha := (runs_app hr t).1 h17
  rw [add_add] at ha
  rw [addC_of_runs h0 hk ha, hc]
theorem addC_ok_app {c : Ck} (s t : List UInt8) (h0 : c.err = 0) (hk : c.ok) (he : (addC c s).err = 0) : addC c (s ++ t) = addC (addC c s) t := by
  obtain ⟨d, e, hr, hc, hd, hn⟩ := addC_cases s h0 hk
  have h17 : e = 17 := by
    rw [hc] at he
    simp only at he
    split at he
    · assumption
    · exact absurd he hn
  subst h17
  have hcd : addC c s = d := by rw [hc, if_pos rfl, ← hd]
  have hkd := (runs_ok hr (add_ok hk s)).1 rfl
  obtain ⟨d2, e2, hr2, hc2, _, _⟩ := addC_cases t hd hkd
  have ha := (runs_app hr t).2 rfl d2 e2 hr2
  rw [add_add] at ha
  rw [addC_of_runs h0 hk ha, hcd, hc2]
theorem addC_end {d : Ck} (t : List UInt8) (h0 : d.err = 0) (hk : d.ok) (h4 : d.st = 4) : (addC d t).inp = d.inp ++ t ∧ (addC d t).st = 4 ∧ (addC d t).err = 0 := by
  have hr : Runs (d.add t) (d.add t) 17 := runs_stop' (step4 h4) (by decide)
  rw [addC_of_runs h0 hk hr]
  exact ⟨rfl, h4, rfl⟩
def InS.add (p : InS) (t : List UInt8) : InS := { p with inp := p.inp ++ t }
theorem inS_ext {a b : InS} (h1 : a.inp = b.inp) (h2 : a.held = b.held) (h3 : a.req = b.req) (h4 : a.skip = b.skip) (h5 : a.chk = b.chk) (h6 : a.st = b.st) : a = b := by
  cases a; cases b; simp only at h1 h2 h3 h4 h5 h6; subst h1 h2 h3 h4 h5 h6; rfl
theorem nxR_ext {a b : NxR} (h1 : a.p = b.p) (h2 : a.q = b.q) (h3 : a.s = b.s) : a = b := by
  cases a; cases b; simp only at h1 h2 h3; subst h1 h2 h3; rfl
/-- what a result says of the same with more bytes behind -/
structure Tells (a : NxR) (b : NxR) (again : NxR) (t : List UInt8) : Prop where
  yes : a.s = 200 → b = ⟨a.p.add t, a.q, 200⟩
  no : a.s ≠ 200 → a.s ≠ 0 → b.s = a.s ∧ b.q = req0 ∧ a.q = req0
  wait : a.s = 0 → b = again ∧ a.p.st = 0
theorem tail_app {p : InS} {q : Req} (h : p.ok) (h0 : p.st = 0) (hq : p.req = some q) (t : List UInt8) : Tells (tailI p q) (tailI (p.add t) q) (tailI ((tailI p q).p.add t) q) t ∧ ((tailI p q).s = 0 → (tailI p q).p.req = some q) := by
  have hal : (p.add t).inp.length = p.inp.length + t.length := by simp [InS.add]
  cases hc : p.chk with
  | none =>
    rcases Nat.lt_or_ge p.inp.length p.skip with hlt | hge
    · have e1 := tail_none' q hc hlt
      rw [e1]
      refine ⟨⟨fun hh => by simp at hh, fun _ hh => absurd rfl hh, fun _ => ⟨?_, h0⟩⟩, fun _ => hq⟩
      dsimp only
      rcases Nat.lt_or_ge (p.add t).inp.length p.skip with h2 | h2
      · rw [tail_none' (p := p.add t) q hc h2, tail_none' (p := InS.add { p with inp := [], held := p.held + p.inp.length, skip := p.skip - p.inp.length } t) q hc (by simp only [InS.add, List.nil_append]; omega)]
        refine nxR_ext (inS_ext rfl ?_ rfl ?_ rfl rfl) rfl rfl
        · simp [InS.add]; omega
        · simp [InS.add]; omega
      · rw [tail_none (p := p.add t) q hc h2, tail_none (p := InS.add { p with inp := [], held := p.held + p.inp.length, skip := p.skip - p.inp.length } t) q hc (by simp only [InS.add, List.nil_append]; omega)]
        refine nxR_ext (inS_ext ?_ rfl rfl rfl rfl rfl) rfl rfl
        simp only [InS.add, List.nil_append]
        rw [List.drop_append, List.drop_eq_nil_of_le (by omega), List.nil_append]
    · have e1 := tail_none q hc hge
      rw [e1, tail_none (p := p.add t) q hc (by show p.skip ≤ (p.add t).inp.length; omega)]
      refine ⟨⟨fun _ => ?_, fun hh => absurd rfl hh, fun hh => by simp at hh⟩, fun hh => by simp at hh⟩
      refine nxR_ext (inS_ext ?_ rfl rfl rfl rfl rfl) rfl rfl
      simp only [InS.add]
      exact List.drop_append_of_le_length hge
  | some c =>
    obtain ⟨k1, k2, k3, k4⟩ := h.chk c hc
    have ke := h.bad c h0 hc
    have kk := k1 ke
    have d5 := addC_ne17 (c := c) p.inp (by rw [ke]; decide)
    have d6 := addC_ne17 (c := c) (p.inp ++ t) (by rw [ke]; decide)
    have d4 := (addC_sound p.inp k1 k4).2.2.2
    by_cases e1 : (addC c p.inp).err = 0
    · have hcat := addC_ok_app p.inp t ke kk e1
      by_cases e2 : (addC c p.inp).st = 4
      · obtain ⟨f1, f2, f3⟩ := addC_end t e1 (d4 e1) e2
        rw [← hcat] at f1 f2 f3
        rw [tail_done q hc e1 e2, tail_done (p := p.add t) q hc f3 f2]
        refine ⟨⟨fun _ => ?_, fun hh => absurd rfl hh, fun hh => by simp at hh⟩, fun hh => by simp at hh⟩
        exact nxR_ext (inS_ext f1 rfl rfl rfl rfl rfl) rfl rfl
      · rw [tail_more q hc e1 e2]
        refine ⟨⟨fun hh => by simp at hh, fun _ hh => absurd rfl hh, fun _ => ⟨?_, h0⟩⟩, fun _ => hq⟩
        dsimp only
        have hi : (p.add t).inp = p.inp ++ t := rfl
        have hcA : (p.add t).chk = some c := hc
        have hin : (InS.add { p with inp := [], held := p.held + p.inp.length, chk := some (addC c p.inp) } t).inp = t := rfl
        by_cases g1 : (addC c (p.inp ++ t)).err = 0
        · by_cases g2 : (addC c (p.inp ++ t)).st = 4
          · rw [tail_done (p := p.add t) q hcA g1 g2, tail_done (p := InS.add { p with inp := [], held := p.held + p.inp.length, chk := some (addC c p.inp) } t) (c := addC c p.inp) q rfl (by rw [hin, ← hcat]; exact g1) (by rw [hin, ← hcat]; exact g2)]
            exact nxR_ext (inS_ext (by rw [hi, hin, hcat]) rfl rfl rfl rfl rfl) rfl rfl
          · rw [tail_more (p := p.add t) q hcA g1 g2, tail_more (p := InS.add { p with inp := [], held := p.held + p.inp.length, chk := some (addC c p.inp) } t) (c := addC c p.inp) q rfl (by rw [hin, ← hcat]; exact g1) (by rw [hin, ← hcat]; exact g2)]
            refine nxR_ext (inS_ext rfl ?_ rfl rfl (by rw [hi, hin, hcat]) rfl) rfl rfl
            rw [hi, hin]; simp [InS.add]; omega
        · rw [tail_bad (p := p.add t) q hcA g1 d6, tail_bad (p := InS.add { p with inp := [], held := p.held + p.inp.length, chk := some (addC c p.inp) } t) (c := addC c p.inp) q rfl (by rw [hin, ← hcat]; exact g1) (by rw [hin, ← hcat]; exact d6)]
          refine nxR_ext (inS_ext rfl ?_ rfl rfl (by rw [hi, hin, hcat]) (by rw [hi, hin, hcat])) rfl (by rw [hi, hin, hcat])
          rw [hi, hin]; simp [InS.add]; omega
    · have hb := addC_bad_app p.inp t ke kk e1
      have ht := told_ne (long := 413) e1 d5 (by decide)
      rw [tail_bad q hc e1 d5, tail_bad (p := p.add t) (c := c) q hc (by show (addC c (p.inp ++ t)).err ≠ 0; rw [hb]; exact e1) d6]
      have ht2 : toldE (addC c p.inp).err 413 ≠ 200 := by unfold toldE; split; (simp); split <;> simp
      refine ⟨⟨fun hh => absurd hh ht2, fun _ _ => ⟨?_, rfl, rfl⟩, fun hh => absurd hh ht⟩, fun hh => absurd hh ht⟩
      show toldE (addC c (p.inp ++ t)).err 413 = toldE (addC c p.inp).err 413
      rw [hb]
theorem head_app (l t : List UInt8) : headM l = hr0 0 ∨ headM (l ++ t) = headM l := by
  rcases split_append l t with h | h
  · left
    unfold headM
    rw [if_pos (by rw [h]; decide), h]
    rfl
  · right
    unfold headM
    rw [h]
theorem next_some {p : InS} {q : Req} (h0 : p.st = 0) (hq : p.req = some q) : nextI p = tailI p q := by unfold nextI; rw [if_neg (by simp [h0]), hq]
theorem next_none {p : InS} (h0 : p.st = 0) (hq : p.req = none) : nextI p = if (headM p.inp).s ≠ 0 then ⟨{ p with st := (headM p.inp).s }, req0, (headM p.inp).s⟩ else if (headM p.inp).got then tailI (headed p (headM p.inp)) (headM p.inp).q else ⟨p, req0, 0⟩ := by
  unfold nextI; rw [if_neg (by simp [h0]), hq]
theorem next_app {p : InS} (h : p.ok) (h0 : p.st = 0) (t : List UInt8) : Tells (nextI p) (nextI (p.add t)) (nextI ((nextI p).p.add t)) t := by
  cases hr : p.req with
  | some q =>
    have ha := tail_app h h0 hr t
    rw [next_some h0 hr, next_some (p := p.add t) h0 hr]
    refine ⟨ha.1.yes, ha.1.no, fun hs => ?_⟩
    have hw := ha.1.wait hs
    rw [next_some (p := (tailI p q).p.add t) hw.2 (ha.2 hs)]
    exact hw
  | none =>
    have hrA : (p.add t).req = none := hr
    have h0A : (p.add t).st = 0 := h0
    by_cases hs : (headM p.inp).s = 0
    · cases hg : (headM p.inp).got with
      | false =>
        have e1 : nextI p = ⟨p, req0, 0⟩ := by rw [next_none h0 hr, if_neg (by simp [hs]), hg, if_neg (by simp)]
        rw [e1]
        refine ⟨fun hh => by simp at hh, fun _ hh => absurd rfl hh, fun _ => ⟨rfl, h0⟩⟩
      | true =>
        have hA : headM (p.inp ++ t) = headM p.inp := by
          rcases head_app p.inp t with hx | hx
          · rw [hx] at hg; cases hg
          · exact hx
        have hok := headed_ok h h0 hr hg
        have hb := (head_bounds p.inp).2.1 hg
        have ha := tail_app hok h0 (q := (headM p.inp).q) rfl t
        have hAi : headM (p.add t).inp = headM p.inp := hA
        have hhd : headed (p.add t) (headM p.inp) = (headed p (headM p.inp)).add t := by
          refine inS_ext ?_ rfl rfl rfl rfl rfl
          exact List.drop_append_of_le_length hb
        have e1 : nextI p = tailI (headed p (headM p.inp)) (headM p.inp).q := by rw [next_none h0 hr, if_neg (by simp [hs]), hg, if_pos rfl]
        have e2 : nextI (p.add t) = tailI ((headed p (headM p.inp)).add t) (headM p.inp).q := by rw [next_none h0A hrA, hAi, if_neg (by simp [hs]), hg, if_pos rfl, hhd]
        rw [e1, e2]
        refine ⟨ha.1.yes, ha.1.no, fun hs2 => ?_⟩
        have hw := ha.1.wait hs2
        rw [next_some (p := (tailI (headed p (headM p.inp)) (headM p.inp).q).p.add t) hw.2 (ha.2 hs2)]
        exact hw
    · have hA : headM (p.inp ++ t) = headM p.inp := by
        rcases head_app p.inp t with hx | hx
        · rw [hx] at hs; exact absurd rfl hs
        · exact hx
      have hAi : headM (p.add t).inp = headM p.inp := hA
      have e1 : nextI p = ⟨{ p with st := (headM p.inp).s }, req0, (headM p.inp).s⟩ := by rw [next_none h0 hr, if_pos hs]
      have e2 : nextI (p.add t) = ⟨{ p.add t with st := (headM p.inp).s }, req0, (headM p.inp).s⟩ := by rw [next_none h0A hrA, hAi, if_pos hs]
      rw [e1, e2]
      exact ⟨fun hh => absurd hh (head_ne200 _), fun _ _ => ⟨rfl, rfl, rfl⟩, fun hh => absurd hh hs⟩
/-- all requests that an inlet has, what is wrong then, what is left -/
inductive Alls : InS → List Req → Int → InS → Prop
  | stop {p : InS} : (nextI p).s ≠ 200 → Alls p [] (nextI p).s (nextI p).p
  | more {p p' : InS} {L : List Req} {n : Int} : (nextI p).s = 200 → Alls (nextI p).p L n p' → Alls p ((nextI p).q :: L) n p'
theorem alls_det {p p1 p2 : InS} {L1 L2 : List Req} {n1 n2 : Int} (h : Alls p L1 n1 p1) : Alls p L2 n2 p2 → L1 = L2 ∧ n1 = n2 ∧ p1 = p2 := by
  induction h generalizing L2 n2 p2 with
  | stop h => intro k; cases k with
    | stop _ => exact ⟨rfl, rfl, rfl⟩
    | more k _ => exact absurd k h
  | more h _ ih => intro k; cases k with
    | stop k => exact absurd h k
    | more _ k => obtain ⟨rfl, rfl, rfl⟩ := ih k; exact ⟨rfl, rfl, rfl⟩
theorem alls_of {p r p' : InS} {L : List Req} {n : Int} (he : nextI p = nextI r) (h : Alls r L n p') : Alls p L n p' := by
  cases h with
  | stop h => rw [← he] at h ⊢; exact .stop h
  | more h k => rw [← he] at h k ⊢; exact .more h k
theorem alls_app {p p1 : InS} {L1 : List Req} {n1 : Int} (h : Alls p L1 n1 p1) (t : List UInt8) : p.ok → p.st = 0 →
    (n1 = 0 → ∀ L2 n p', Alls (p1.add t) L2 n p' → Alls (p.add t) (L1 ++ L2) n p') ∧ (n1 ≠ 0 → ∃ p', Alls (p.add t) L1 n1 p') ∧ (n1 = 0 → p1.st = 0) ∧ p1.ok ∧ n1 ≠ 200 := by
  induction h with
  | @stop p h =>
    intro hok h0
    have ha := next_app hok h0 t
    refine ⟨fun hn L2 n p' k => ?_, fun hn => ?_, fun hn => (ha.wait hn).2, next_ok hok, h⟩
    · exact alls_of (ha.wait hn).1 k
    · obtain ⟨e1, _, _⟩ := ha.no h hn
      refine ⟨(nextI (p.add t)).p, ?_⟩
      rw [← e1]
      exact .stop (by rw [e1]; exact h)
  | @more p p' L n h k ih =>
    intro hok h0
    have ha := (next_app hok h0 t).yes h
    obtain ⟨i1, i2, i3, i4, i5⟩ := ih (next_ok hok) (next_st hok h0 h)
    refine ⟨fun hn L2 m r kk => ?_, fun hn => ?_, i3, i4, i5⟩
    · have := Alls.more (p := p.add t) (L := L ++ L2) (n := m) (p' := r) (by rw [ha]) (by rw [ha]; exact i1 hn L2 m r kk)
      rw [ha] at this
      exact this
    · obtain ⟨r, kk⟩ := i2 hn
      refine ⟨r, ?_⟩
      have := Alls.more (p := p.add t) (L := L) (n := n) (p' := r) (by rw [ha]) (by rw [ha]; exact kk)
      rw [ha] at this
      exact this
theorem in0_add (t : List UInt8) : (in0.add t) = { in0 with inp := t } := rfl
theorem alls_nil : Alls in0 [] 0 in0 := by
  have h : nextI in0 = ⟨in0, req0, 0⟩ := by kernel_rfl
  have := Alls.stop (p := in0) (by rw [h]; decide)
  rw [h] at this
  exact this
end Go.Proofs.YtdmffbefppjllaaGreatDoor

/- Layer 14, plain laws: however the bytes are cut the same comes of them. No program. No conditions but those that each theorem states. -/
namespace Go.Proofs.YtdmffbefppjllaaGreatDoor
open Go.RowKit

def ReS.add (P : ReS) (t : List UInt8) : ReS := { P with inp := P.inp ++ t }
/-- all that can be read is read, whether or not a head waits to be told -/
def reRun : Nat → ReS → ReS
  | 0, p => p
  | n + 1, p => if (readR p).2 then reRun n (readR p).1 else (readR p).1
def reAll (P : ReS) : ReS := reRun (P.inp.length + 2) P
theorem read_shut (P : ReS) : (readR P).1.shut = P.shut := by
  unfold readR
  split
  · unfold readHeadR
    have hf : ∀ a, (reFrame (headP P) a).p.shut = P.shut := fun a => by
      unfold reFrame
      split
      · rfl
      · split
        · rfl
        · split
          · rfl
          · split <;> rfl
    split
    · rfl
    · split
      · rfl
      · split
        · split <;> rfl
        · split
          · exact hf _
          · rfl
  · split
    · unfold readChunksR
      split
      · rfl
      · split
        · rfl
        · split
          · rfl
          · split <;> rfl
    · split
      · unfold readLengthR
        split <;> rfl
      · split
        · unfold readCloseR
          split
          · rfl
          · split <;> rfl
        · rfl
theorem length_same (P : ReS) : ({ P with dat := P.dat ++ P.inp.take 0, inp := P.inp.drop 0, left := P.left - 0 } : ReS) = P := by cases P; simp
theorem close_same {P : ReS} (h : min (P.most - P.size) P.inp.length = 0) : closeP P = P := by unfold closeP; rw [h]; cases P; simp
theorem read_false {P : ReS} (h : (readR P).2 = false) : (readR P).1 = P := by
  unfold readR at h ⊢
  split
  · rename_i h0
    rw [if_pos h0] at h
    unfold readHeadR at h ⊢
    split
    · rfl
    · rename_i h1
      rw [if_neg h1] at h
      split
      · rename_i h2; rw [if_pos h2] at h; simp at h
      · rename_i h2
        rw [if_neg h2] at h
        split
        · rename_i h3
          rw [if_pos h3] at h
          split at h <;> simp at h
        · rename_i h3
          rw [if_neg h3] at h
          split at h <;> simp at h
  · rename_i h0
    rw [if_neg h0] at h
    split
    · rename_i h1
      rw [if_pos h1] at h
      unfold readChunksR at h ⊢
      split
      · rfl
      · rename_i c hc
        rw [hc] at h
        dsimp only at h
        split
        · rfl
        · rename_i h2
          rw [if_neg h2] at h
          split at h
          · simp at h
          · split at h <;> simp at h
    · rename_i h1
      rw [if_neg h1] at h
      split
      · rename_i h2
        rw [if_pos h2] at h
        unfold readLengthR at h ⊢
        split
        · rename_i h3; rw [if_pos h3] at h; simp at h
        · rename_i h3
          rw [if_neg h3] at h
          have h4 : min P.left P.inp.length = 0 := by simpa using h
          rw [h4]
          exact length_same P
      · rename_i h2
        rw [if_neg h2] at h
        split
        · rename_i h3
          rw [if_pos h3] at h
          unfold readCloseR at h ⊢
          split
          · rename_i h4; rw [if_pos h4] at h; simp at h
          · rename_i h4
            rw [if_neg h4] at h
            split
            · rename_i h5; rw [if_pos h5] at h; simp at h
            · rename_i h5
              rw [if_neg h5] at h
              exact close_same (by simpa using h)
        · rfl
theorem reRun_fuel {n : Nat} : ∀ (i j : Nat) (P : ReS), P.ok n → P.mu < i → P.mu < j → reRun i P = reRun j P
  | 0, _, _, _, h, _ => absurd h (by omega)
  | _ + 1, 0, _, _, _, h => absurd h (by omega)
  | i + 1, j + 1, P, hP, hi, hj => by
    unfold reRun
    split
    · rename_i h2
      have := (read_ok hP).2 h2
      exact reRun_fuel i j _ (read_ok hP).1 (by omega) (by omega)
    · rfl
theorem reAll_read {P : ReS} {n : Nat} (hP : P.ok n) : reAll P = reAll (readR P).1 := by
  have hm := mu_lt P
  cases h2 : (readR P).2 with
  | false => rw [read_false h2]
  | true =>
    have hr := read_ok hP
    have hlt := hr.2 h2
    have e1 : reAll P = reRun (P.inp.length + 1) (readR P).1 := by unfold reAll; rw [reRun, if_pos h2]
    rw [e1]
    exact reRun_fuel _ _ _ hr.1 (by omega) (mu_lt _)
theorem reAll_stop {P : ReS} (h : (readR P).2 = false) : reAll P = P := by
  unfold reAll; rw [reRun, if_neg (by simp [h])]; exact read_false h
theorem reRun_ok {n : Nat} : ∀ (i : Nat) (P : ReS), P.ok n → (reRun i P).ok n
  | 0, P, h => h
  | i + 1, P, h => by
    unfold reRun
    split
    · exact reRun_ok i _ (read_ok h).1
    · exact (read_ok h).1
theorem reAll_ok {P : ReS} {n : Nat} (h : P.ok n) : (reAll P).ok n := reRun_ok _ P h
/-- an induction along what is read -/
theorem re_ind {n : Nat} {C : ReS → Prop} (hs : ∀ P, P.ok n → (readR P).2 = false → C P) (hm : ∀ P, P.ok n → (readR P).2 = true → C (readR P).1 → C P) : ∀ P, P.ok n → C P := by
  have : ∀ (m : Nat) (P : ReS), P.ok n → P.mu ≤ m → C P := by
    intro m
    induction m with
    | zero =>
      intro P hP h0
      cases h2 : (readR P).2 with
      | false => exact hs P hP h2
      | true => have := (read_ok hP).2 h2; omega
    | succ m ih =>
      intro P hP h0
      cases h2 : (readR P).2 with
      | false => exact hs P hP h2
      | true => have := (read_ok hP).2 h2; exact hm P hP h2 (ih _ (read_ok hP).1 (by omega))
  exact fun P hP => this P.mu P hP (Nat.le_refl _)
theorem reAll_end {P : ReS} {n : Nat} (h : P.ok n) : (readR (reAll P)).2 = false := by
  refine re_ind (n := n) (C := fun P => (readR (reAll P)).2 = false) ?_ ?_ P h
  · intro P _ h2; rw [reAll_stop h2]; exact h2
  · intro P hP _ ih; rw [reAll_read hP]; exact ih
theorem reAll_shut {P : ReS} {n : Nat} (h : P.ok n) : (reAll P).shut = P.shut := by
  refine re_ind (n := n) (C := fun P => (reAll P).shut = P.shut) ?_ ?_ P h
  · intro P _ h2; rw [reAll_stop h2]
  · intro P hP _ ih; rw [reAll_read hP, ih, read_shut]
theorem add_wt (P : ReS) (t : List UInt8) : (P.add t).wt = P.wt + 2 * t.length := by
  have e : (P.add t).inp.length = P.inp.length + t.length := by simp [ReS.add]
  by_cases h1 : P.st = 1
  · have a : (P.add t).wt = 2 * (P.add t).inp.length + P.dat.length + ckW P.chk := by unfold ReS.wt; rw [if_pos (show (P.add t).st = 1 from h1)]; rfl
    have b : P.wt = 2 * P.inp.length + P.dat.length + ckW P.chk := by unfold ReS.wt; rw [if_pos h1]
    omega
  · have a : (P.add t).wt = 2 * (P.add t).inp.length + P.dat.length := wt_of (P := P.add t) h1
    have b := wt_of h1
    omega
theorem add_okR {P : ReS} {n : Nat} (h : P.ok n) (t : List UInt8) : (P.add t).ok (n + 2 * t.length) :=
  ⟨by rw [add_wt]; have := h.wt; omega, h.big, h.size, h.left, h.st, h.head, h.chk⟩
/-- the same, as far as anything is told of it -/
def Tl2 (a b : ReS) : Prop := 4 ≤ a.st ∧ a.st = b.st ∧ a.dat = b.dat ∧ a.ans = b.ans ∧ (a.st = 4 → a.inp = b.inp)
def ToldEq (a b : ReS) : Prop := a = b ∨ Tl2 a b
theorem ToldEq.refl (a : ReS) : ToldEq a a := .inl rfl
theorem ToldEq.trans {a b c : ReS} (h : ToldEq a b) (k : ToldEq b c) : ToldEq a c := by
  rcases h with rfl | ⟨h1, h2, h3, h4, h5⟩
  · exact k
  · rcases k with rfl | ⟨k1, k2, k3, k4, k5⟩
    · exact .inr ⟨h1, h2, h3, h4, h5⟩
    · exact .inr ⟨h1, h2.trans k2, h3.trans k3, h4.trans k4, fun h => (h5 h).trans (k5 (by omega))⟩
theorem read5 {P : ReS} (h : 4 ≤ P.st) : readR P = (P, false) := by unfold readR; rw [if_neg (by omega), if_neg (by omega), if_neg (by omega), if_neg (by omega)]
theorem reAll5 {P : ReS} (h : 4 ≤ P.st) : reAll P = P := reAll_stop (by rw [read5 h])
theorem reFrame_add (P : ReS) (a : Ans) (t : List UInt8) : reFrame (P.add t) a = ⟨(reFrame P a).p.add t, (reFrame P a).a, (reFrame P a).ok⟩ := by
  unfold reFrame
  simp only [show (P.add t).head = P.head from rfl, show (P.add t).most = P.most from rfl]
  split
  · rfl
  · split
    · rfl
    · split
      · rfl
      · split <;> rfl
theorem headR_add {P : ReS} (h : (readHeadR P).2 = true) (t : List UInt8) : readHeadR (P.add t) = ((readHeadR P).1.add t, true) := by
  have h1 : (splitM P.inp).e ≠ 17 := by
    intro hh
    unfold readHeadR at h
    rw [if_pos hh] at h
    simp at h
  have hs : splitM (P.add t).inp = splitM P.inp := (split_append P.inp t).resolve_left h1
  have hn := (split_small P.inp).2.2
  have hP : headP (P.add t) = (headP P).add t := by unfold headP ReS.add; rw [show splitM (P.inp ++ t) = splitM P.inp from hs, List.drop_append_of_le_length hn]
  have hA : headA (P.add t) = headA P := by unfold headA; rw [hs]
  unfold readHeadR
  rw [hs, hP, hA, reFrame_add]
  simp only [show (P.add t).passed = P.passed from rfl, if_neg h1]
  split
  · rfl
  · split
    · split <;> rfl
    · split <;> rfl
theorem take_more (a b : List UInt8) (m : Nat) : (a ++ b).take (a.length + m) = a ++ b.take m := by rw [List.take_append, List.take_of_length_le (l := a) (by omega)]; congr 2; omega
theorem drop_more (a b : List UInt8) (m : Nat) : (a ++ b).drop (a.length + m) = b.drop m := by rw [List.drop_append, List.drop_of_length_le (l := a) (by omega)]; simp
def lenA (P : ReS) (n : Nat) : ReS := { P with dat := P.dat ++ P.inp.take n, inp := P.inp.drop n, left := 0, st := 4 }
def lenB (P : ReS) (n : Nat) : ReS := { P with dat := P.dat ++ P.inp.take n, inp := P.inp.drop n, left := P.left - n }
theorem lengthR_eq (P : ReS) : readLengthR P = if P.left - min P.left P.inp.length = 0 then (lenA P (min P.left P.inp.length), true) else (lenB P (min P.left P.inp.length), decide (0 < min P.left P.inp.length)) := rfl
theorem lengthR_add {P : ReS} (t : List UInt8) : (readLengthR (P.add t)).1 = (readLengthR P).1.add t ∨ (P.st = 2 → (readR ((readLengthR P).1.add t)).1 = (readLengthR (P.add t)).1) := by
  have hl : (P.add t).left = P.left := rfl
  have hi : (P.add t).inp = P.inp ++ t := rfl
  have hd : (P.add t).dat = P.dat := rfl
  rw [lengthR_eq, lengthR_eq P, hl, hi, List.length_append]
  by_cases h : P.left ≤ P.inp.length
  · left
    rw [show min P.left P.inp.length = P.left by omega, show min P.left (P.inp.length + t.length) = P.left by omega, if_pos (by omega), if_pos (by omega)]
    unfold lenA
    rw [hi, hd, List.take_append_of_le_length h, List.drop_append_of_le_length h]
    rfl
  · right
    intro h2
    rw [show min P.left P.inp.length = P.inp.length by omega, show min P.left (P.inp.length + t.length) = P.inp.length + min (P.left - P.inp.length) t.length by omega, if_neg (by omega : ¬ P.left - P.inp.length = 0)]
    have hE : lenB P P.inp.length = { P with dat := P.dat ++ P.inp, inp := [], left := P.left - P.inp.length } := by unfold lenB; rw [List.take_length, List.drop_length]
    generalize hQ : ReS.add (lenB P P.inp.length) t = Q
    have q1 : Q.st = 2 := by rw [← hQ, hE]; exact h2
    have q2 : Q.left = P.left - P.inp.length := by rw [← hQ, hE]; rfl
    have q3 : Q.inp = t := by rw [← hQ, hE]; rfl
    have q4 : readR Q = readLengthR Q := by unfold readR; rw [if_neg (by omega), if_neg (by omega), if_pos q1]
    rw [show (readR Q).1 = (readLengthR Q).1 by rw [q4], lengthR_eq, q2, q3]
    have a1 : lenA Q (min (P.left - P.inp.length) t.length) = lenA (P.add t) (P.inp.length + min (P.left - P.inp.length) t.length) := by
      unfold lenA
      rw [hi, take_more, drop_more, ← hQ, hE]
      simp [ReS.add]
    have a2 : lenB Q (min (P.left - P.inp.length) t.length) = lenB (P.add t) (P.inp.length + min (P.left - P.inp.length) t.length) := by
      unfold lenB
      rw [hi, take_more, drop_more, ← hQ, hE]
      simp [ReS.add, Nat.sub_add_eq]
    rw [a1, a2, show P.left - (P.inp.length + min (P.left - P.inp.length) t.length) = P.left - P.inp.length - min (P.left - P.inp.length) t.length by omega]
    split <;> rfl
theorem closeR_add {P : ReS} (hsh : P.shut = false) (hsz : P.size ≤ P.most) (t : List UInt8) : (readCloseR (P.add t)).1 = (readCloseR P).1.add t ∨ (P.st = 3 → (readR ((readCloseR P).1.add t)).1 = (readCloseR (P.add t)).1) := by
  have hi : (P.add t).inp = P.inp ++ t := rfl
  have hs2 : (P.add t).shut = false := hsh
  have hC : ∀ Q : ReS, Q.shut = false → readCloseR Q = if (closeP Q).inp ≠ [] then (reFail (closeP Q), true) else (closeP Q, decide (0 < min (Q.most - Q.size) Q.inp.length)) := fun Q hq => by
    unfold readCloseR
    split
    · rfl
    · rw [if_neg (by simp [hq])]
  by_cases h : P.most - P.size < P.inp.length
  · left
    have e1 : min (P.most - P.size) P.inp.length = P.most - P.size := by omega
    have e2 : min ((P.add t).most - (P.add t).size) (P.add t).inp.length = P.most - P.size := by
      rw [hi, List.length_append]
      show min (P.most - P.size) (P.inp.length + t.length) = _
      omega
    have c1 : closeP (P.add t) = (closeP P).add t := by
      unfold closeP
      rw [e1, e2, hi, List.take_append_of_le_length (by omega), List.drop_append_of_le_length (by omega)]
      rfl
    have n1 : (closeP P).inp ≠ [] := by
      intro hh
      have := congrArg List.length hh
      unfold closeP at this
      rw [e1] at this
      simp at this
      omega
    rw [hC P hsh, hC _ hs2, c1, if_pos n1, if_pos (show ((closeP P).add t).inp ≠ [] from fun hh => n1 (List.append_eq_nil_iff.1 hh).1)]
    rfl
  · right
    intro h3
    have e1 : min (P.most - P.size) P.inp.length = P.inp.length := by omega
    have c0 : closeP P = { P with dat := P.dat ++ P.inp, size := P.size + P.inp.length, inp := [] } := by unfold closeP; rw [e1, List.take_length, List.drop_length]
    have hE : (readCloseR P).1 = { P with dat := P.dat ++ P.inp, size := P.size + P.inp.length, inp := [] } := by
      rw [hC P hsh, c0, if_neg (by simp)]
    generalize hQ : ReS.add (readCloseR P).1 t = Q
    have q1 : Q.st = 3 := by rw [← hQ, hE]; exact h3
    have q0 : Q.shut = false := by rw [← hQ, hE]; exact hsh
    have q3 : Q.inp = t := by rw [← hQ, hE]; rfl
    have q5 : Q.most - Q.size = P.most - P.size - P.inp.length := by rw [← hQ, hE]; show P.most - (P.size + P.inp.length) = _; omega
    have c1 : closeP Q = closeP (P.add t) := by
      unfold closeP
      rw [q5, q3, hi, List.length_append]
      show _ = ({ P.add t with dat := P.dat ++ (P.inp ++ t).take (min (P.most - P.size) (P.inp.length + t.length)), size := P.size + min (P.most - P.size) (P.inp.length + t.length), inp := (P.inp ++ t).drop (min (P.most - P.size) (P.inp.length + t.length)) } : ReS)
      rw [show min (P.most - P.size) (P.inp.length + t.length) = P.inp.length + min (P.most - P.size - P.inp.length) t.length by omega, take_more, drop_more, ← hQ, hE]
      simp [ReS.add, Nat.add_assoc]
    have q4 : readR Q = readCloseR Q := by unfold readR; rw [if_neg (by omega), if_neg (by omega), if_neg (by omega), if_pos q1]
    rw [q4, hC Q q0, hC _ hs2, c1]
    split <;> rfl
theorem addC_bad_dat {c : Ck} (s t : List UInt8) (h0 : c.err = 0) (hk : c.ok) (he : (addC c s).err ≠ 0) : (addC c (s ++ t)).dat = (addC c s).dat := by
  obtain ⟨d, e, hr, hc, hd, hn⟩ := addC_cases s h0 hk
  have h17 : e ≠ 17 := by rintro rfl; rw [hc] at he; exact he rfl
  have ha := (runs_app hr t).1 h17
  rw [add_add] at ha
  rw [addC_of_runs h0 hk ha, hc]
  rfl
theorem addC_end_eq {d : Ck} (t : List UInt8) (h0 : d.err = 0) (hk : d.ok) (h4 : d.st = 4) : addC d t = d.add t := by
  have hr : Runs (d.add t) (d.add t) 17 := runs_stop' (step4 h4) (by decide)
  rw [addC_of_runs h0 hk hr, if_pos rfl]
  have : (d.add t).err = 0 := h0
  generalize d.add t = y at this ⊢
  cases y; simp only at this; subst this; rfl
def chA (P : ReS) (c d : Ck) : ReS := reFail { P with inp := [], dat := P.dat ++ d.dat.drop c.dat.length, chk := some d }
def chB (P : ReS) (c d : Ck) : ReS := { P with inp := d.inp, dat := P.dat ++ d.dat.drop c.dat.length, chk := some d, st := 4 }
def chC (P : ReS) (c d : Ck) : ReS := { P with inp := [], dat := P.dat ++ d.dat.drop c.dat.length, chk := some d }
theorem chunksR_eq {Q : ReS} {c : Ck} (hq : Q.chk = some c) (hi : Q.inp ≠ []) : readChunksR Q = if (addC c Q.inp).err ≠ 0 then (chA Q c (addC c Q.inp), true) else if (addC c Q.inp).st = 4 then (chB Q c (addC c Q.inp), true) else (chC Q c (addC c Q.inp), true) := by
  unfold readChunksR; rw [hq]; dsimp only; rw [if_neg hi]; rfl
theorem chunksR_add {P : ReS} {n : Nat} (h : P.ok n) (h1 : P.st = 1) (hr : (readChunksR P).2 = true) (t : List UInt8) :
    (readChunksR (P.add t)).1 = (readChunksR P).1.add t ∨ (readR ((readChunksR P).1.add t)).1 = (readChunksR (P.add t)).1 ∨ Tl2 (readChunksR (P.add t)).1 ((readChunksR P).1.add t) := by
  obtain ⟨c, hc, cb, ce, co⟩ := h.chk h1
  have h0 : P.inp ≠ [] := by
    intro hh
    unfold readChunksR at hr
    rw [hc] at hr
    simp [hh] at hr
  obtain ⟨a1, a2, a3, a4⟩ := addC_ok ce co P.inp
  have hadd : (P.add t).inp = P.inp ++ t := rfl
  have h0t : (P.add t).inp ≠ [] := by rw [hadd]; intro hh; exact h0 (List.append_eq_nil_iff.1 hh).1
  have hct : (P.add t).chk = some c := hc
  rw [chunksR_eq hc h0, chunksR_eq hct h0t, hadd]
  by_cases he : (addC c P.inp).err = 0
  · have e1 := addC_ok_app P.inp t ce co he
    by_cases h4 : (addC c P.inp).st = 4
    · right; right
      have e2 := addC_end_eq t he (a4 he) h4
      rw [e1, e2, if_neg (show ¬ (addC c P.inp).err ≠ 0 by simp [he]), if_pos h4, if_neg (show ¬ ((addC c P.inp).add t).err ≠ 0 from fun hh => hh he), if_pos (show ((addC c P.inp).add t).st = 4 from h4)]
      exact ⟨Nat.le_refl 4, rfl, rfl, rfl, fun _ => rfl⟩
    · rw [if_neg (show ¬ (addC c P.inp).err ≠ 0 by simp [he]), if_neg h4]
      by_cases ht : t = []
      · left
        subst ht
        rw [List.append_nil, if_neg (show ¬ (addC c P.inp).err ≠ 0 by simp [he]), if_neg h4]
        unfold chC ReS.add
        simp
      · right; left
        generalize hQ : (chC P c (addC c P.inp)).add t = Q
        have q1 : Q.st = 1 := by rw [← hQ]; exact h1
        have q2 : Q.chk = some (addC c P.inp) := by rw [← hQ]; rfl
        have q3 : Q.inp = t := by rw [← hQ]; rfl
        have q4 : readR Q = readChunksR Q := by unfold readR; rw [if_neg (by omega), if_pos q1]
        have q5 : Q.dat = P.dat ++ (addC c P.inp).dat.drop c.dat.length := by rw [← hQ]; rfl
        rw [q4, chunksR_eq q2 (by rw [q3]; exact ht), q3, e1]
        have hpre : c.dat.length ≤ (addC c P.inp).dat.length := a3.length_le
        obtain ⟨b1, b2, b3, b4⟩ := addC_ok he (a4 he) t
        have hd : P.dat ++ (addC c P.inp).dat.drop c.dat.length ++ (addC (addC c P.inp) t).dat.drop (addC c P.inp).dat.length = P.dat ++ (addC (addC c P.inp) t).dat.drop c.dat.length := by
          obtain ⟨r, hr2⟩ := b3
          rw [← hr2, List.drop_left, List.drop_append_of_le_length hpre, List.append_assoc]
        have x1 : chA Q (addC c P.inp) (addC (addC c P.inp) t) = chA (P.add t) c (addC (addC c P.inp) t) := by unfold chA; rw [q5, hd, ← hQ]; rfl
        have x2 : chB Q (addC c P.inp) (addC (addC c P.inp) t) = chB (P.add t) c (addC (addC c P.inp) t) := by unfold chB; rw [q5, hd, ← hQ]; rfl
        have x3 : chC Q (addC c P.inp) (addC (addC c P.inp) t) = chC (P.add t) c (addC (addC c P.inp) t) := by unfold chC; rw [q5, hd, ← hQ]; rfl
        rw [x1, x2, x3]
  · right; right
    have e1 := addC_bad_app P.inp t ce co he
    have e2 := addC_bad_dat P.inp t ce co he
    rw [if_pos he, if_pos (by rw [e1]; exact he)]
    refine ⟨by show 4 ≤ 5; decide, rfl, ?_, rfl, fun hh => absurd (show (5 : Nat) = 4 from hh) (by decide)⟩
    show P.dat ++ _ = P.dat ++ _
    rw [e2]
theorem step_add {P : ReS} {n : Nat} (h : P.ok n) (hsh : P.shut = false) (hr : (readR P).2 = true) (t : List UInt8) : ToldEq (reAll (P.add t)) (reAll ((readR P).1.add t)) := by
  have ho := add_okR h t
  have hro := add_okR (read_ok h).1 t
  have key : (readR (P.add t)).1 = (readR P).1.add t ∨ (readR ((readR P).1.add t)).1 = (readR (P.add t)).1 ∨ Tl2 (readR (P.add t)).1 ((readR P).1.add t) := by
    by_cases h0 : P.st = 0
    · left
      have e1 : readR P = readHeadR P := by unfold readR; rw [if_pos h0]
      have e2 : readR (P.add t) = readHeadR (P.add t) := by unfold readR; rw [if_pos (by exact h0)]
      rw [e1] at hr
      rw [e2, e1, headR_add hr t]
    by_cases h1 : P.st = 1
    · have e1 : readR P = readChunksR P := by unfold readR; rw [if_neg h0, if_pos h1]
      have e2 : readR (P.add t) = readChunksR (P.add t) := by unfold readR; rw [if_neg (by exact h0), if_pos (by exact h1)]
      rw [e1] at hr ⊢
      rw [e2]
      exact chunksR_add h h1 hr t
    by_cases h2 : P.st = 2
    · have e1 : readR P = readLengthR P := by unfold readR; rw [if_neg h0, if_neg h1, if_pos h2]
      have e2 : readR (P.add t) = readLengthR (P.add t) := by unfold readR; rw [if_neg (by exact h0), if_neg (by exact h1), if_pos (by exact h2)]
      rw [e1, e2]
      rcases lengthR_add (P := P) t with hh | hh
      · exact .inl hh
      · exact .inr (.inl (hh h2))
    by_cases h3 : P.st = 3
    · have e1 : readR P = readCloseR P := by unfold readR; rw [if_neg h0, if_neg h1, if_neg h2, if_pos h3]
      have e2 : readR (P.add t) = readCloseR (P.add t) := by unfold readR; rw [if_neg (by exact h0), if_neg (by exact h1), if_neg (by exact h2), if_pos (by exact h3)]
      rw [e1, e2]
      rcases closeR_add (P := P) hsh h.size t with hh | hh
      · exact .inl hh
      · exact .inr (.inl (hh h3))
    · rw [read5 (by omega)] at hr; simp at hr
  rcases key with hk | hk | hk
  · rw [reAll_read ho, hk]; exact ToldEq.refl _
  · rw [reAll_read ho, reAll_read hro, hk]; exact ToldEq.refl _
  · rw [reAll_read ho, reAll5 (P := (readR (P.add t)).1) hk.1, reAll5 (P := (readR P).1.add t) (by have := hk.1; have := hk.2.1; omega)]
    exact .inr hk
/-- THE LAW: what comes of the bytes cut is what comes of them at once -/
theorem reAll_add {P : ReS} {n : Nat} (h : P.ok n) (hsh : P.shut = false) (t : List UInt8) : ToldEq (reAll (P.add t)) (reAll ((reAll P).add t)) := by
  refine re_ind (n := n) (C := fun P => P.shut = false → ToldEq (reAll (P.add t)) (reAll ((reAll P).add t))) ?_ ?_ P h hsh
  · intro P _ h2 _; rw [reAll_stop h2]; exact ToldEq.refl _
  · intro P hP h2 ih hs
    rw [reAll_read hP]
    exact (step_add hP hs h2 t).trans (ih (by rw [read_shut]; exact hs))
end Go.Proofs.YtdmffbefppjllaaGreatDoor

/- Layer 14, plain laws: what is told of a reply till nothing comes; told in pieces it is told as at once. No program. No conditions but those that each theorem states. -/
namespace Go.Proofs.YtdmffbefppjllaaGreatDoor
open Go.RowKit

/-- the same with a head that waits and data that was read before -/
def ReS.with' (P : ReS) (a : Option Ans) (d : List UInt8) : ReS := { P with ans := a, dat := d }
theorem length_with (P : ReS) (a : Option Ans) (d : List UInt8) : readLengthR (P.with' a (d ++ P.dat)) = ((readLengthR P).1.with' a (d ++ (readLengthR P).1.dat), (readLengthR P).2) := by
  rw [lengthR_eq, lengthR_eq P]
  show (if P.left - min P.left P.inp.length = 0 then (lenA (P.with' a (d ++ P.dat)) (min P.left P.inp.length), true) else (lenB (P.with' a (d ++ P.dat)) (min P.left P.inp.length), decide (0 < min P.left P.inp.length))) = _
  have e1 : lenA (P.with' a (d ++ P.dat)) (min P.left P.inp.length) = (lenA P (min P.left P.inp.length)).with' a (d ++ (lenA P (min P.left P.inp.length)).dat) := by unfold lenA ReS.with'; simp
  have e2 : lenB (P.with' a (d ++ P.dat)) (min P.left P.inp.length) = (lenB P (min P.left P.inp.length)).with' a (d ++ (lenB P (min P.left P.inp.length)).dat) := by unfold lenB ReS.with'; simp
  rw [e1, e2]
  split <;> rfl
theorem close_with (P : ReS) (a : Option Ans) (d : List UInt8) : readCloseR (P.with' a (d ++ P.dat)) = ((readCloseR P).1.with' a (d ++ (readCloseR P).1.dat), (readCloseR P).2) := by
  have c1 : closeP (P.with' a (d ++ P.dat)) = (closeP P).with' a (d ++ (closeP P).dat) := by unfold closeP ReS.with'; simp
  unfold readCloseR
  rw [c1]
  show (if (closeP P).inp ≠ [] then (reFail ((closeP P).with' a (d ++ (closeP P).dat)), true) else if P.shut then ({ (closeP P).with' a (d ++ (closeP P).dat) with st := 4 }, true) else ((closeP P).with' a (d ++ (closeP P).dat), decide (0 < min (P.most - P.size) P.inp.length))) = _
  split
  · rfl
  · split <;> rfl
theorem chunks_with (P : ReS) (a : Option Ans) (d : List UInt8) : readChunksR (P.with' a (d ++ P.dat)) = ((readChunksR P).1.with' a (d ++ (readChunksR P).1.dat), (readChunksR P).2) := by
  have hc : (P.with' a (d ++ P.dat)).chk = P.chk := rfl
  have hi : (P.with' a (d ++ P.dat)).inp = P.inp := rfl
  cases hk : P.chk with
  | none => unfold readChunksR; rw [hc, hk]
  | some c =>
    by_cases h0 : P.inp = []
    · unfold readChunksR; rw [hc, hk]; dsimp only; rw [hi, if_pos h0, if_pos h0]
    · rw [chunksR_eq (hc.trans hk) (by rw [hi]; exact h0), chunksR_eq hk h0, hi]
      have e1 : ∀ y, chA (P.with' a (d ++ P.dat)) c y = (chA P c y).with' a (d ++ (chA P c y).dat) := fun y => by unfold chA reFail ReS.with'; simp
      have e2 : ∀ y, chB (P.with' a (d ++ P.dat)) c y = (chB P c y).with' a (d ++ (chB P c y).dat) := fun y => by unfold chB ReS.with'; simp
      have e3 : ∀ y, chC (P.with' a (d ++ P.dat)) c y = (chC P c y).with' a (d ++ (chC P c y).dat) := fun y => by unfold chC ReS.with'; simp
      rw [e1, e2, e3]
      split
      · rfl
      · split <;> rfl
/-- behind the head, what waits is of no matter -/
theorem read_with {P : ReS} (h : P.st ≠ 0) (a : Option Ans) (d : List UInt8) : readR (P.with' a (d ++ P.dat)) = ((readR P).1.with' a (d ++ (readR P).1.dat), (readR P).2) := by
  unfold readR
  have hst : (P.with' a (d ++ P.dat)).st = P.st := rfl
  rw [hst, if_neg h, if_neg h]
  split
  · exact chunks_with P a d
  · split
    · exact length_with P a d
    · split
      · exact close_with P a d
      · rfl
theorem read_st0 {P : ReS} (h : P.st ≠ 0) : (readR P).1.st ≠ 0 := by
  unfold readR
  rw [if_neg h]
  split
  · unfold readChunksR
    split
    · exact h
    · split
      · exact h
      · split
        · exact fun hh => absurd (show (5 : Nat) = 0 from hh) (by decide)
        · split
          · exact fun hh => absurd (show (4 : Nat) = 0 from hh) (by decide)
          · exact h
  · split
    · unfold readLengthR
      split
      · exact fun hh => absurd (show (4 : Nat) = 0 from hh) (by decide)
      · exact h
    · split
      · unfold readCloseR
        split
        · exact fun hh => absurd (show (5 : Nat) = 0 from hh) (by decide)
        · split
          · exact fun hh => absurd (show (4 : Nat) = 0 from hh) (by decide)
          · exact h
      · exact h
theorem read_ans {P : ReS} (h : P.st ≠ 0) : (readR P).1.ans = P.ans := by
  unfold readR
  rw [if_neg h]
  split
  · unfold readChunksR
    split
    · rfl
    · split
      · rfl
      · split
        · rfl
        · split <;> rfl
  · split
    · unfold readLengthR
      split <;> rfl
    · split
      · unfold readCloseR
        split
        · rfl
        · split <;> rfl
      · rfl
theorem with_ok {P : ReS} {n : Nat} (h : P.ok n) (h0 : P.st ≠ 0) (a : Option Ans) (d : List UInt8) : (P.with' a d).ok (n + d.length) := by
  refine ⟨?_, h.big, h.size, h.left, h.st, fun hh => absurd hh h0, h.chk⟩
  have hw := h.wt
  by_cases h1 : P.st = 1
  · have e1 : (P.with' a d).wt = 2 * P.inp.length + d.length + ckW P.chk := by unfold ReS.wt; rw [if_pos (show (P.with' a d).st = 1 from h1)]; rfl
    have e2 : P.wt = 2 * P.inp.length + P.dat.length + ckW P.chk := by unfold ReS.wt; rw [if_pos h1]
    omega
  · have e1 : (P.with' a d).wt = 2 * P.inp.length + d.length := wt_of (P := P.with' a d) h1
    have e2 := wt_of h1
    omega
theorem all_with {P : ReS} {n : Nat} (h : P.ok n) (h0 : P.st ≠ 0) (a : Option Ans) (d : List UInt8) : reAll (P.with' a (d ++ P.dat)) = (reAll P).with' a (d ++ (reAll P).dat) := by
  refine re_ind (n := n) (C := fun P => P.st ≠ 0 → reAll (P.with' a (d ++ P.dat)) = (reAll P).with' a (d ++ (reAll P).dat)) ?_ ?_ P h h0
  · intro P _ h2 h0
    have hw := read_with h0 a d
    rw [reAll_stop h2, reAll_stop (by rw [hw]; exact h2)]
  · intro P hP h2 ih h0
    have hw := read_with h0 a d
    have hok := with_ok hP h0 a (d ++ P.dat)
    rw [reAll_read hok, hw, reAll_read hP]
    exact ih (read_st0 h0)
theorem all_st0 {P : ReS} {n : Nat} (h : P.ok n) (h0 : P.st ≠ 0) : (reAll P).st ≠ 0 ∧ (reAll P).ans = P.ans := by
  refine re_ind (n := n) (C := fun P => P.st ≠ 0 → (reAll P).st ≠ 0 ∧ (reAll P).ans = P.ans) ?_ ?_ P h h0
  · intro P _ h2 h0; rw [reAll_stop h2]; exact ⟨h0, rfl⟩
  · intro P hP h2 ih h0
    rw [reAll_read hP]
    have := ih (read_st0 h0)
    exact ⟨this.1, this.2.trans (read_ans h0)⟩
/-- what a head's reading does -/
theorem head_step {P : ReS} (h0 : P.st = 0) (ha : P.ans = none) (h2 : (readR P).2 = true) : (readR P).1.dat = P.dat ∧ ((readR P).1.st = 0 ∧ (readR P).1.ans = none ∨ (readR P).1.st = 5 ∧ (readR P).1.ans = none ∨ ∃ a, (readR P).1.ans = some a ∧ (readR P).1.st ≠ 0 ∧ 200 ≤ a.st) := by
  have e1 : readR P = readHeadR P := by unfold readR; rw [if_pos h0]
  rw [e1] at h2 ⊢
  unfold readHeadR at h2 ⊢
  split
  · rename_i h1; rw [if_pos h1] at h2; simp at h2
  · split
    · exact ⟨rfl, .inr (.inl ⟨rfl, ha⟩)⟩
    · split
      · split
        · exact ⟨rfl, .inr (.inl ⟨rfl, ha⟩)⟩
        · exact ⟨rfl, .inl ⟨h0, ha⟩⟩
      · rename_i h3
        split
        · rename_i h4
          have hs := reFrame_st h4
          refine ⟨(reFrame_inp (headP P) (headA P)).2.1, .inr (.inr ⟨_, rfl, ?_, ?_⟩)⟩
          · show (reFrame (headP P) (headA P)).p.st ≠ 0
            omega
          · have hx : (reFrame (headP P) (headA P)).a.st = (headA P).st := by
              unfold reFrame
              split
              · rfl
              · split
                · rfl
                · split
                  · rfl
                  · split <;> rfl
            rw [hx]
            show 200 ≤ (slM (splitM P.inp).st).n
            omega
        · exact ⟨rfl, .inr (.inl ⟨rfl, ha⟩)⟩
/-- Next's reading: to a head, or to where nothing can be read -/
theorem end_cases {P : ReS} {n : Nat} (h : P.ok n) (ha : P.ans = none) :
    (reEnd P = reAll P ∧ (reAll P).ans = none) ∨ (∃ a, (reEnd P).ans = some a ∧ 200 ≤ a.st ∧ (reEnd P).st ≠ 0 ∧ P.st = 0 ∧ (reEnd P).dat = P.dat ∧ reAll P = reAll (reEnd P)) := by
  refine re_ind (n := n) (C := fun P => P.ans = none → (reEnd P = reAll P ∧ (reAll P).ans = none) ∨ (∃ a, (reEnd P).ans = some a ∧ 200 ≤ a.st ∧ (reEnd P).st ≠ 0 ∧ P.st = 0 ∧ (reEnd P).dat = P.dat ∧ reAll P = reAll (reEnd P))) ?_ ?_ P h ha
  · intro P _ h2 ha
    have hf := read_false h2
    exact .inl ⟨by rw [reEnd_stop ha h2, reAll_stop h2, hf], by rw [reAll_stop h2]; exact ha⟩
  · intro P hP h2 ih ha
    rw [reEnd_more hP ha h2, reAll_read hP]
    by_cases h0 : P.st = 0
    · obtain ⟨hd, hx⟩ := head_step h0 ha h2
      rcases hx with ⟨x1, x2⟩ | ⟨x1, x2⟩ | ⟨a, x1, x2, x3⟩
      · rcases ih x2 with hh | ⟨a, y1, y2, y3, y4, y5, y6⟩
        · exact .inl hh
        · exact .inr ⟨a, y1, y2, y3, h0, y5.trans hd, y6⟩
      · rcases ih x2 with hh | ⟨a, y1, y2, y3, y4, y5, y6⟩
        · exact .inl hh
        · exact absurd (x1.symm.trans y4) (by decide)
      · right
        have he : reEnd (readR P).1 = (readR P).1 := reEnd_some (by rw [x1]; rfl)
        rw [he]
        exact ⟨a, x1, x3, x2, h0, hd, rfl⟩
    · have x2 : (readR P).1.ans = none := (read_ans h0).trans ha
      rcases ih x2 with hh | ⟨a, y1, y2, y3, y4, y5, y6⟩
      · exact .inl hh
      · exact absurd y4 (read_st0 h0)
/-- what comes till nothing does -/
structure CmR where
  p : ReS
  a : Ans
  d : List UInt8
  k : Int
def comeR : Nat → ReS → Ans → List UInt8 → CmR
  | 0, p, a, d => ⟨p, a, d, -1⟩
  | n + 1, p, a, d => if (nextR p).k = 1 then comeR n (nextR p).p (nextR p).a d else if (nextR p).k = 2 then comeR n (nextR p).p a (d ++ (nextR p).s) else ⟨(nextR p).p, a, d, (nextR p).k⟩
theorem end_all {P : ReS} {n : Nat} (h : P.ok n) (h0 : P.st ≠ 0) (ha : P.ans = none) : reEnd P = reAll P := by
  rcases end_cases h ha with hh | ⟨_, _, _, _, h4, _⟩
  · exact hh.1
  · exact absurd h4 h0
theorem finish_k (P : ReS) : (reFinish P).2 = 3 ∨ (reFinish P).2 = 4 ∨ (reFinish P).2 = 0 := by
  unfold reFinish
  split
  · exact .inl rfl
  · split
    · exact .inr (.inl rfl)
    · exact .inr (.inr rfl)
theorem fin_with (P : ReS) (a : Option Ans) (d : List UInt8) : (reFinish (P.with' a d)).2 = (reFinish P).2 := by
  have e1 : (P.with' a d).st = P.st := rfl
  have e2 : (P.with' a d).shut = P.shut := rfl
  unfold reFinish
  rw [e1, e2]
  split
  · rfl
  · split <;> rfl
/-- behind the head: data, then the end -/
theorem come_rest {Q : ReS} {n : Nat} (h : Q.ok n) (hq : (readR Q).2 = false) (ha : Q.ans = none) (i : Nat) (a : Ans) (d : List UInt8) : comeR (i + 2) Q a d = ⟨(reFinish (Q.with' none [])).1, a, d ++ Q.dat, (reFinish Q).2⟩ := by
  have he : reEnd Q = Q := by rw [reEnd_stop ha hq, read_false hq]
  by_cases hd : Q.dat = []
  · have hn : nextR Q = ⟨(reFinish Q).1, (reFinish Q).2, ans0, []⟩ := by rw [nextR_eq, he, ha]; simp [hd]
    have hw : Q.with' none [] = Q := by unfold ReS.with'; cases Q; simp at ha hd; simp [ha, hd]
    have hk := finish_k Q
    unfold comeR
    rw [hn, hw, hd, List.append_nil]
    dsimp only
    rw [if_neg (by omega), if_neg (by omega)]
  · have hn : nextR Q = ⟨Q.with' none [], 2, ans0, Q.dat⟩ := by
      rw [nextR_eq, he, ha]
      simp only [ne_eq, hd, not_false_eq_true, if_true]
      congr 1
      unfold ReS.with'
      cases Q; simp at ha; simp [ha]
    have hw : (readR (Q.with' none [])).2 = false := by
      by_cases h0 : Q.st = 0
      · have e1 : readR Q = readHeadR Q := by unfold readR; rw [if_pos h0]
        have e2 : readR (Q.with' none []) = readHeadR (Q.with' none []) := by unfold readR; rw [if_pos (by exact h0)]
        rw [e1] at hq
        rw [e2]
        have h17 : (splitM Q.inp).e = 17 := by
          by_cases hh : (splitM Q.inp).e = 17
          · exact hh
          · exfalso
            unfold readHeadR at hq
            rw [if_neg hh] at hq
            split at hq
            · simp at hq
            · split at hq
              · split at hq <;> simp at hq
              · split at hq <;> simp at hq
        unfold readHeadR
        rw [if_pos (show (splitM (Q.with' none []).inp).e = 17 from h17)]
      · have := read_with (P := Q.with' none []) (by exact h0) none Q.dat
        have e2 : (Q.with' none []).with' none (Q.dat ++ (Q.with' none []).dat) = Q := by unfold ReS.with'; cases Q; simp at ha; simp [ha]
        rw [e2] at this
        rw [this] at hq
        exact hq
    have he2 : reEnd (Q.with' none []) = Q.with' none [] := by rw [reEnd_stop rfl hw, read_false hw]
    have hn2 : nextR (Q.with' none []) = ⟨(reFinish (Q.with' none [])).1, (reFinish (Q.with' none [])).2, ans0, []⟩ := by
      rw [nextR_eq, he2]
      show (if ([] : List UInt8) ≠ [] then _ else _) = _
      rw [if_neg (by simp)]
    have hk := finish_k (Q.with' none [])
    have hf := fin_with Q none []
    unfold comeR
    rw [hn]
    dsimp only
    rw [if_neg (by decide), if_pos rfl]
    unfold comeR
    rw [hn2]
    dsimp only
    rw [if_neg (by omega), if_neg (by omega), hf]
/-- THE LAW: what comes of a reply is what was read of it -/
theorem come_all {P : ReS} {n : Nat} (h : P.ok n) (ha : P.ans = none) (hd : P.dat = []) (i : Nat) (a : Ans) (d : List UInt8) :
    comeR (i + 3) P a d = ⟨(reFinish ((reAll P).with' none [])).1, (reAll P).ans.getD a, d ++ (reAll P).dat, (reFinish (reAll P)).2⟩ := by
  have hAok := reAll_ok h
  have hAq := reAll_end h
  rcases end_cases h ha with ⟨he, hn⟩ | ⟨b, h1, h2, h3, h4, h5, h6⟩
  · have hc := come_rest hAok hAq hn (i + 1) a d
    rw [hn]
    have hne : nextR P = nextR (reAll P) := by
      have e2 : reEnd (reAll P) = reAll P := by rw [reEnd_stop hn hAq, read_false hAq]
      rw [nextR_eq, nextR_eq, he, e2]
    have : comeR (i + 3) P a d = comeR (i + 3) (reAll P) a d := by unfold comeR; rw [hne]
    rw [this, hc]
    rfl
  · have hE := reEnd_ok h
    have hn : nextR P = ⟨(reEnd P).with' none (reEnd P).dat, 1, b, []⟩ := by
      rw [nextR_eq, h1]; rfl
    have hok : ((reEnd P).with' none (reEnd P).dat).ok n := ⟨hE.wt, hE.big, hE.size, hE.left, hE.st, fun hh => absurd hh h3, hE.chk⟩
    have h5' : (reEnd P).dat = [] := h5.trans hd
    have hall : reAll ((reEnd P).with' none (reEnd P).dat) = (reAll P).with' none (reAll P).dat := by
      have := all_with hE h3 none []
      rw [List.nil_append, List.nil_append] at this
      rw [this, h6]
    have hAa : (reAll P).ans = some b := by rw [h6, (all_st0 hE h3).2, h1]
    have hst0 : ((reEnd P).with' none (reEnd P).dat).st ≠ 0 := h3
    have heq : reEnd ((reEnd P).with' none (reEnd P).dat) = reAll ((reEnd P).with' none (reEnd P).dat) := end_all hok hst0 rfl
    have hQok := reAll_ok hok
    have hQq := reAll_end hok
    have hQa : (reAll ((reEnd P).with' none (reEnd P).dat)).ans = none := by rw [hall]; rfl
    have hc := come_rest hQok hQq hQa i b d
    have hne : nextR ((reEnd P).with' none (reEnd P).dat) = nextR (reAll ((reEnd P).with' none (reEnd P).dat)) := by
      have e2 : reEnd (reAll ((reEnd P).with' none (reEnd P).dat)) = reAll ((reEnd P).with' none (reEnd P).dat) := by rw [reEnd_stop hQa hQq, read_false hQq]
      rw [nextR_eq, nextR_eq, heq, e2]
    have hcc : comeR (i + 2) ((reEnd P).with' none (reEnd P).dat) b d = comeR (i + 2) (reAll ((reEnd P).with' none (reEnd P).dat)) b d := by unfold comeR; rw [hne]
    have h0 : comeR (i + 3) P a d = comeR (i + 2) ((reEnd P).with' none (reEnd P).dat) b d := by
      rw [comeR, hn]
      dsimp only
      rw [if_pos rfl]
    rw [h0, hcc, hc, hall, hAa, fin_with]
    rfl
end Go.Proofs.YtdmffbefppjllaaGreatDoor

/- Layer 14, plain laws: bytes more, when all was told so far. No program. No conditions but those that each theorem states. -/
namespace Go.Proofs.YtdmffbefppjllaaGreatDoor
open Go.RowKit

/-- behind the bytes l, when all that comes of them was told (a head a, data d) and it goes on: the reply is P -/
structure Seen (N : ReS) (l : List UInt8) (P : ReS) (a : Option Ans) (d : List UInt8) : Prop where
  all : reAll (N.add l) = P.with' a d
  quiet : (readR P).2 = false
  bare : P.ans = none ∧ P.dat = []
  sh : P.shut = false
  st : P.st ≤ 3
  first : P.st = 0 → a = none ∧ d = []
  ok : P.ok (2 * l.length)
  big : ∀ x, a = some x → 200 ≤ x.st
theorem bare_ok {P : ReS} {n : Nat} (h : P.ok n) : (P.with' none []).ok n := by
  refine ⟨?_, h.big, h.size, h.left, h.st, fun hh => ⟨(h.head hh).1, rfl, (h.head hh).2.2⟩, h.chk⟩
  have hw := h.wt
  by_cases h1 : P.st = 1
  · have e1 : (P.with' none []).wt = 2 * P.inp.length + 0 + ckW P.chk := by unfold ReS.wt; rw [if_pos (show (P.with' none []).st = 1 from h1)]; rfl
    have e2 : P.wt = 2 * P.inp.length + P.dat.length + ckW P.chk := by unfold ReS.wt; rw [if_pos h1]
    omega
  · have e1 : (P.with' none []).wt = 2 * P.inp.length + 0 := wt_of (P := P.with' none []) h1
    have e2 := wt_of h1
    omega
theorem all_dat0 {P : ReS} {n : Nat} (h : P.ok n) (ha : P.ans = none) (h0 : (reAll P).st = 0) : (reAll P).dat = P.dat ∧ (reAll P).ans = none := by
  refine re_ind (n := n) (C := fun P => P.ans = none → (reAll P).st = 0 → (reAll P).dat = P.dat ∧ (reAll P).ans = none) ?_ ?_ P h ha h0
  · intro P _ h2 ha _; rw [reAll_stop h2]; exact ⟨rfl, ha⟩
  · intro P hP h2 ih ha h0
    rw [reAll_read hP] at h0 ⊢
    by_cases hs : P.st = 0
    · obtain ⟨hd, hx⟩ := head_step hs ha h2
      rcases hx with ⟨x1, x2⟩ | ⟨x1, x2⟩ | ⟨a, x1, x2, x3⟩
      · have := ih x2 h0
        exact ⟨this.1.trans hd, this.2⟩
      · exact absurd h0 (all_st0 (read_ok hP).1 (by omega)).1
      · exact absurd h0 (all_st0 (read_ok hP).1 x2).1
    · exact absurd h0 (all_st0 (read_ok hP).1 (read_st0 hs)).1
theorem all_big {P : ReS} {n : Nat} (h : P.ok n) (ha : P.ans = none) {x : Ans} (hx : (reAll P).ans = some x) : 200 ≤ x.st := by
  rcases end_cases h ha with ⟨_, h2⟩ | ⟨a, h1, h2, h3, _, _, h6⟩
  · rw [hx] at h2; cases h2
  · rw [h6, (all_st0 (reEnd_ok h) h3).2, h1] at hx
    cases hx; exact h2
theorem seen0 {N : ReS} (hN : ∃ hd most, N = reNew hd most ∧ in64 most) : Seen N [] N none [] := by
  obtain ⟨hd, most, rfl, hm⟩ := hN
  have hq : (readR (reNew hd most)).2 = false := by
    unfold readR
    rw [if_pos (show (reNew hd most).st = 0 from rfl)]
    unfold readHeadR
    rw [if_pos (show (splitM (reNew hd most).inp).e = 17 from by show (splitM []).e = 17; kernel_rfl)]
  exact ⟨by rw [reAll_stop (by exact hq)]; rfl, hq, ⟨rfl, rfl⟩, rfl, by show 0 ≤ 3; omega, fun _ => ⟨rfl, rfl⟩, ok_mono (reNew_ok hd hm) (by omega), fun x hx => by cases hx⟩
theorem fin_0 {P : ReS} (hs : P.shut = false) (h5 : P.st ≤ 5) : ((reFinish P).2 = 0 ↔ P.st ≤ 3) ∧ ((reFinish P).2 = 0 → (reFinish P).1 = P) := by
  unfold reFinish
  split
  · rename_i h; exact ⟨⟨fun hh => absurd (show (3 : Int) = 0 from hh) (by decide), fun hh => by omega⟩, fun hh => absurd (show (3 : Int) = 0 from hh) (by decide)⟩
  · split
    · rename_i h1 h2
      have : P.st = 5 := by simpa [hs] using h2
      exact ⟨⟨fun hh => absurd (show (4 : Int) = 0 from hh) (by decide), fun hh => by omega⟩, fun hh => absurd (show (4 : Int) = 0 from hh) (by decide)⟩
    · rename_i h1 h2
      have : P.st ≠ 5 := by simpa [hs] using h2
      exact ⟨⟨fun _ => by omega, fun _ => rfl⟩, fun _ => rfl⟩
theorem fin_eq {P Q : ReS} (h : P.st = Q.st) (hs : P.shut = Q.shut) : (reFinish P).2 = (reFinish Q).2 := by
  unfold reFinish
  rw [h, hs]
  split
  · rfl
  · split <;> rfl
theorem told_parts {P Q : ReS} (h : ToldEq P Q) : P.st = Q.st ∧ P.dat = Q.dat ∧ P.ans = Q.ans := by
  rcases h with rfl | ⟨_, h2, h3, h4, _⟩
  · exact ⟨rfl, rfl, rfl⟩
  · exact ⟨h2, h3, h4⟩
/-- bytes more -/
theorem seen_step {N P : ReS} {l : List UInt8} {a : Option Ans} {d : List UInt8} (hN : ∃ hd most, N = reNew hd most ∧ in64 most) (h : Seen N l P a d) (s : List UInt8) :
    ToldEq (reAll (N.add (l ++ s))) ((reAll (P.add s)).with' (a.or (reAll (P.add s)).ans) (d ++ (reAll (P.add s)).dat)) ∧ (a ≠ none → (reAll (P.add s)).ans = none) ∧ (∀ x, (reAll (P.add s)).ans = some x → 200 ≤ x.st) ∧ (reAll (P.add s)).shut = false ∧ (reAll (P.add s)).ok (2 * (l ++ s).length) ∧
    ((reAll (P.add s)).st ≤ 3 → Seen N (l ++ s) ((reAll (P.add s)).with' none []) (a.or (reAll (P.add s)).ans) (d ++ (reAll (P.add s)).dat)) := by
  have hNok : (N.add l).ok (2 * l.length) := by obtain ⟨hd, most, rfl, hm⟩ := hN; exact ok_mono (add_okR (reNew_ok hd hm) l) (by omega)
  have hNsh : (N.add l).shut = false := by obtain ⟨hd, most, rfl, hm⟩ := hN; rfl
  have hPok := add_okR h.ok s
  have hlen : (l ++ s).length = l.length + s.length := by simp
  have hBok : (reAll (P.add s)).ok (2 * (l ++ s).length) := ok_mono (reAll_ok hPok) (by omega)
  have hBsh : (reAll (P.add s)).shut = false := (reAll_shut hPok).trans h.sh
  have hPa : (P.add s).ans = none := h.bare.1
  have hadd : N.add (l ++ s) = (N.add l).add s := by unfold ReS.add; simp
  have hlaw := reAll_add hNok hNsh s
  rw [← hadd, h.all] at hlaw
  have hcore : reAll ((P.with' a d).add s) = (reAll (P.add s)).with' (a.or (reAll (P.add s)).ans) (d ++ (reAll (P.add s)).dat) ∧ (a ≠ none → (reAll (P.add s)).ans = none) := by
    by_cases h0 : P.st = 0
    · obtain ⟨rfl, rfl⟩ := h.first h0
      have e1 : P.with' none [] = P := by have hb := h.bare; unfold ReS.with'; cases P; simp at hb; simp [hb.1, hb.2]
      rw [e1]
      refine ⟨?_, fun hh => absurd rfl hh⟩
      show _ = (reAll (P.add s)).with' (reAll (P.add s)).ans (reAll (P.add s)).dat
      rfl
    · have hs0 : (P.add s).st ≠ 0 := h0
      have e2 : (P.with' a d).add s = (P.add s).with' a (d ++ (P.add s).dat) := by
        show _ = (P.add s).with' a (d ++ P.dat)
        rw [h.bare.2, List.append_nil]; rfl
      have e3 : (reAll (P.add s)).ans = none := (all_st0 hPok hs0).2.trans hPa
      rw [e2, all_with hPok hs0, e3, Option.or_none]
      exact ⟨rfl, fun _ => rfl⟩
  have hbig : ∀ x, (reAll (P.add s)).ans = some x → 200 ≤ x.st := fun x hx => all_big hPok hPa hx
  rw [hcore.1] at hlaw
  refine ⟨hlaw, hcore.2, hbig, hBsh, hBok, fun h3 => ⟨?_, ?_, ⟨rfl, rfl⟩, hBsh, h3, ?_, ?_, ?_⟩⟩
  · rcases hlaw with hh | ⟨hh, hh2, _⟩
    · rw [hh]; rfl
    · have : (reAll (N.add (l ++ s))).st = (reAll (P.add s)).st := hh2
      omega
  · have hq := reAll_end hPok
    generalize hB : reAll (P.add s) = B at hq ⊢
    by_cases h0 : B.st = 0
    · have e1 : readR B = readHeadR B := by unfold readR; rw [if_pos h0]
      have e2 : readR (B.with' none []) = readHeadR (B.with' none []) := by unfold readR; rw [if_pos (by exact h0)]
      rw [e1] at hq
      rw [e2]
      have h17 : (splitM B.inp).e = 17 := by
        by_cases hh : (splitM B.inp).e = 17
        · exact hh
        · exfalso
          unfold readHeadR at hq
          rw [if_neg hh] at hq
          split at hq
          · simp at hq
          · split at hq
            · split at hq <;> simp at hq
            · split at hq <;> simp at hq
      unfold readHeadR
      rw [if_pos (show (splitM (B.with' none []).inp).e = 17 from h17)]
    · have := read_with (P := B.with' none []) (by exact h0) B.ans B.dat
      have e2 : (B.with' none []).with' B.ans (B.dat ++ (B.with' none []).dat) = B := by unfold ReS.with'; cases B; simp
      rw [e2] at this
      rw [this] at hq
      exact hq
  · intro h0
    have h0' : (reAll (P.add s)).st = 0 := h0
    obtain ⟨x1, x2⟩ := all_dat0 hPok hPa h0'
    have hp0 : P.st = 0 := by
      by_cases hh : P.st = 0
      · exact hh
      · exact absurd h0' (all_st0 hPok hh).1
    obtain ⟨rfl, rfl⟩ := h.first hp0
    rw [x2, x1]
    exact ⟨rfl, by show [] ++ P.dat = []; rw [h.bare.2]; rfl⟩
  · exact bare_ok hBok
  · intro x hx
    cases ha : a with
    | none => rw [ha] at hx; exact hbig x hx
    | some y => rw [ha] at hx; cases hx; exact h.big _ ha
/-- when it is at its end, bytes more tell nothing -/
theorem seen_end {N : ReS} {l : List UInt8} (hN : ∃ hd most, N = reNew hd most ∧ in64 most) (h : ¬ (reAll (N.add l)).st ≤ 3) (s : List UInt8) : (reAll (N.add (l ++ s))).st = (reAll (N.add l)).st ∧ (reAll (N.add (l ++ s))).dat = (reAll (N.add l)).dat ∧ (reAll (N.add (l ++ s))).ans = (reAll (N.add l)).ans := by
  have hNok : (N.add l).ok (2 * l.length) := by obtain ⟨hd, most, rfl, hm⟩ := hN; exact ok_mono (add_okR (reNew_ok hd hm) l) (by omega)
  have hNsh : (N.add l).shut = false := by obtain ⟨hd, most, rfl, hm⟩ := hN; rfl
  have hadd : N.add (l ++ s) = (N.add l).add s := by unfold ReS.add; simp
  have hlaw := reAll_add hNok hNsh s
  rw [← hadd, reAll5 (P := (reAll (N.add l)).add s) (by show 4 ≤ (reAll (N.add l)).st; omega)] at hlaw
  have := told_parts hlaw
  exact this
/-- which of two heads is kept -/
def pickA (y z : Ans) : Ans := if z.st ≠ 0 then z else y
theorem pick_or {a b : Option Ans} (ha : a ≠ none → b = none) (hb : ∀ x, b = some x → 200 ≤ x.st) : (a.or b).getD ans0 = pickA (a.getD ans0) (b.getD ans0) := by
  unfold pickA
  cases b with
  | none => rw [Option.or_none]; rw [if_neg (by simp [ans0])]
  | some x =>
    have h1 := hb x rfl
    have h2 : a = none := by
      cases a with
      | none => rfl
      | some y => exact absurd (ha (by simp)) (by simp)
    rw [h2, if_pos (by simp; omega)]
    rfl
end Go.Proofs.YtdmffbefppjllaaGreatDoor

/- Layer 14: what comes of a reply till nothing does ('come'). No conditions but on lengths. -/
namespace Go.Proofs.YtdmffbefppjllaaGreatDoor
open Go.RowKit Go.Shelf

theorem comeR_step (m : Nat) (Q : ReS) (a : Ans) (d : List UInt8) {r : NrR} (hr : nextR Q = r) : comeR (m + 1) Q a d = if r.k = 1 then comeR m r.p r.a d else if r.k = 2 then comeR m r.p a (d ++ r.s) else ⟨r.p, a, d, r.k⟩ := by subst hr; rfl
theorem nextR_s {Q : ReS} {n : Nat} (h : Q.ok n) : (nextR Q).s.length ≤ n := by
  have hE := (reEnd_ok h).wt
  have h2 : (reEnd Q).dat.length ≤ n := by unfold ReS.wt at hE; omega
  rw [nextR_eq]
  split
  · simp
  · split
    · exact h2
    · simp
theorem Blk.over {b : Nat} {T : TypeId} : ∀ (vs : List Value) {w : World} {pre xs : List Value}, xs.length = vs.length → Blk w b T (pre ++ xs) → Blk (w.setCells b pre.length vs) b T (pre ++ vs)
  | [], w, pre, [], _, h => h
  | [], w, pre, x :: xs, hl, _ => by simp at hl
  | v :: r, w, pre, [], hl, _ => by simp at hl
  | v :: r, w, pre, x :: xs, hl, h => by
    rw [World.setCells]
    have h2 := h.set pre.length v
    have e : (pre ++ x :: xs).set pre.length v = (pre ++ [v]) ++ xs := by simp
    rw [e] at h2
    have := Blk.over r (pre := pre ++ [v]) (by simpa using hl) h2
    simpa using this
theorem Blk.over0 {b : Nat} {T : TypeId} {w : World} {xs vs : List Value} (h : Blk w b T xs) (hl : xs.length = vs.length) : Blk (w.setCells b 0 vs) b T vs := Blk.over vs (pre := []) hl h
/-- come under way: the result's block, the head's block -/
def CmS (w0 w : World) (p n lim : Nat) (X L : List Nat) (P : ReS) (k : Nat) (d : List UInt8) (wr : World) : Prop :=
  ∃ sa sl sc X1 Q a, Rp w0 wr p X1 Q n (w.heap.size :: (w.heap.size + 1) :: ((Value.slice sa sl sc).ownBlock.toList ++ L)) ∧ Keep X w wr ∧ (∀ x ∈ X1, x ∈ X ∨ w.heap.size + 1 < x) ∧
    Blk wr w.heap.size 47 ansZ ∧ Blk wr (w.heap.size + 1) 47 (ansC a.st (.slice sa sl sc) a.len a.ch a.cl) ∧ Own Fld.cells 2 w0.heap.size 26 wr (.slice sa sl sc) a.F ∧
    (∀ g, (Value.slice sa sl sc).ownBlock = some g → w.heap.size + 1 < g) ∧ comeR (lim - k) Q a d = comeR lim P ans0 []
/-- what come comes to -/
def CmOut (w0 w : World) (p : Nat) (X : List Nat) (n : Nat) (L : List Nat) (r : CmR) (e : Ending) (w' : World) : Prop :=
  ∃ sa sl sc X', e = .returned (.tuple #[.agg (ansC r.a.st (.slice sa sl sc) r.a.len r.a.ch r.a.cl).toArray, .string (S r.d), .int .i64 r.k]) ∧ Rp w0 w' p X' r.p n L ∧ Keep X w w' ∧ (∀ x ∈ X', x ∈ X ∨ w.heap.size ≤ x) ∧ Own Fld.cells 2 w0.heap.size 26 w' (.slice sa sl sc) r.a.F ∧ ∀ g, (Value.slice sa sl sc).ownBlock = some g → w.heap.size ≤ g ∧ g ∉ X'
/-- the end: the head is stored into the result -/
theorem CmS.fin {w0 w wr : World} {p n lim k : Nat} {X L : List Nat} {P : ReS} {d : List UInt8} {sa : Option Addr} {sl sc : Nat} {X1 : List Nat} {Q : ReS} {a : Ans} (kk : Int)
    (h : Rp w0 wr p X1 Q n (w.heap.size :: (w.heap.size + 1) :: ((Value.slice sa sl sc).ownBlock.toList ++ L))) (hk : Keep X w wr) (hx : ∀ x ∈ X1, x ∈ X ∨ w.heap.size + 1 < x) (ho : Own Fld.cells 2 w0.heap.size 26 wr (.slice sa sl sc) a.F)
    (hg : ∀ g, (Value.slice sa sl sc).ownBlock = some g → w.heap.size + 1 < g) (hw0 : w0.heap.size ≤ w.heap.size) (_ : k = k) {r : CmR} (hr : r = ⟨Q, a, d, kk⟩) (_ : lim = lim) (_ : P = P) :
    CmOut w0 w p X n L r (.returned (.tuple #[.agg (ansC a.st (.slice sa sl sc) a.len a.ch a.cl).toArray, .string (S d), .int .i64 kk])) (wr.setCells w.heap.size 0 (ansC a.st (.slice sa sl sc) a.len a.ch a.cl)) := by
  subst hr
  have kS : Keep [w.heap.size] wr (wr.setCells w.heap.size 0 (ansC a.st (.slice sa sl sc) a.len a.ch a.cl)) := Keep.setCells' (S := [w.heap.size]) _ (by simp) _ _ _ (Keep.refl _ _)
  have hne : ∀ x ∈ X1, x ∉ [w.heap.size] := fun x hx' hh => by
    have h9 : x = w.heap.size := (by simpa using hh)
    exact (h.ap w.heap.size (by simp)).1 (h9 ▸ hx')
  refine ⟨sa, sl, sc, X1, rfl, (h.keep kS (fun x hx' => by have h9 : x = w.heap.size := (by simpa using hx'); omega) hne).less (fun l hl => by simp [hl]), hk.trans' kS (fun x hx' hlt => by have h9 : x = w.heap.size := (by simpa using hx'); omega), fun x hx' => (hx x hx').imp id (fun hh => by omega), ho.keep kS (fun g hh => ?_), fun g hh => ⟨by have := hg g hh; omega, (h.ap g (by simp [hh])).1⟩⟩
  have := hg g hh
  simp only [List.mem_singleton]
  omega
set_option maxRecDepth 100000 in
set_option maxHeartbeats 8000000 in
theorem reply_come {w0 w : World} {p n : Nat} {X L : List Nat} {P : ReS} (lim : Nat) (h : Rp w0 w p X P n L) (hm : ML w0) (hn : n ≤ 60000) (hlim : lim ≤ 1000) :
    Calls Tryz.prog 18 #[.pointer (some ⟨p, 0, Option.none⟩), .int .i64 (lim : Nat)] w (CmOut w0 w p X n L (comeR lim P ans0 [])) := by
  have HM := Lib.hid hm
  have hsz0 := h.kp.size
  have kA := (Keep.refl [] w).alloc (.cells ansZ.toArray 47)
  have bA := Blk.newA w ansZ.toArray 47
  have hszA : (w.alloc (.cells ansZ.toArray 47)).heap.size = w.heap.size + 1 := by simp
  generalize hwA : w.alloc (.cells #[.int .i64 0, .slice Option.none 0 0, .int .i64 0, .bool false, .bool false] 47) = wA
  have hwA' : w.alloc (.cells ansZ.toArray 47) = wA := hwA
  rw [hwA'] at kA bA hszA
  have kB := (Keep.refl [] wA).alloc (.cells ansZ.toArray 47)
  have bB := Blk.newA wA ansZ.toArray 47
  have hszB : (wA.alloc (.cells ansZ.toArray 47)).heap.size = w.heap.size + 2 := by simp [hszA]
  generalize hwB : wA.alloc (.cells #[.int .i64 0, .slice Option.none 0 0, .int .i64 0, .bool false, .bool false] 47) = wB
  have hwB' : wA.alloc (.cells ansZ.toArray 47) = wB := hwB
  rw [hwB', hszA] at bB
  rw [hwB'] at kB hszB
  have hR2 : Rp w0 wB p X P n (w.heap.size :: (w.heap.size + 1) :: ((Value.slice Option.none 0 0).ownBlock.toList ++ L)) := by
    have h1 := h.add kA w.heap.size (Nat.le_refl _) (by omega)
    have h2 := h1.add kB (w.heap.size + 1) (by omega) (by omega)
    exact h2.less (fun l hl => by simp [Value.ownBlock] at hl ⊢; rcases hl with h | h | h <;> simp [h])
  have bB : Blk wB (w.heap.size + 1) 47 ansZ := bB
  have HT0 := Lib.hid (bB.there' 0 5 (by simp [ansZ, ansC]))
  have kS0 : Keep [w.heap.size + 1] wB (wB.setCells (w.heap.size + 1) 0 ansZ) := Keep.setCells' (S := [w.heap.size + 1]) _ (by simp) _ _ _ (Keep.refl _ _)
  have hXs : ∀ x ∈ X, x ∉ [w.heap.size + 1] := fun x hx hh => by
    have h9 : x = w.heap.size + 1 := (by simpa using hh)
    exact (hR2.ap (w.heap.size + 1) (by simp)).1 (h9 ▸ hx)
  have HS := Lib.hid (show CmS w0 w p n lim X L P 0 [] (wB.setCells (w.heap.size + 1) 0 ansZ) from ⟨Option.none, 0, 0, X, P, ans0, hR2.keep kS0 (fun x hx => by have h9 : x = w.heap.size + 1 := (by simpa using hx); omega) hXs, ((kA.trans kB).mono (S' := X) (by simp)).trans' kS0 (fun x hx hlt => by have h9 : x = w.heap.size + 1 := (by simpa using hx); omega), fun x hx => .inl hx, kS0.blk (kB.blk (show Blk wA w.heap.size 47 ansZ from bA) (by simp)) (by simp), bB.over0 (by rfl), Own.nil _ _ _ _ _, fun g hg => by simp [Value.ownBlock] at hg, rfl⟩)
  have ZST := Lib.hid (ans_st 0 (v := .slice Option.none 0 0) 0 false false rfl)
  clear h hm kA bA kB bB hR2 hwA' hwB' kS0 hXs
  go_enter Tryz.func18, Tryz.ntmps18
  go_wp2_with (first
    | (with_reducible (show wpList _ _ _ ((⟨none, .store _ (.tmp 7) (.tmp 13), _, _, _, none⟩ : Oper) :: _) _ _)
       refine wpList_store_mid rfl 47 (.tmp 7) (.tmp 13) rfl (w.heap.size + 1) 0 ansZ.toArray (by rfl) (by first | rfl | kernel_rfl) HT0.out ZST.out.1 ZST.out.2 ?_
       try simp only [Act.put])
    | fail)
  clear hwA hwB
  go_loopg [8, 9] lim (fun g dv iv wr => ∃ (k : Nat) (d : List UInt8), dv = .string (S d) ∧ iv = .int .i64 (k : Nat) ∧ k ≤ lim ∧ g = lim - k ∧ d.length ≤ k * 60000 ∧ Hid (CmS w0 w p n lim X L P k d wr))
  case atStart => exact ⟨0, [], rfl, rfl, by omega, rfl, by simp, HS⟩
  case round =>
    obtain ⟨k, d, rfl, rfl, hk, hg, hdl, HC⟩ := hrel
    obtain ⟨sa, sl, sc, X1, Q, a, h, hkp, hnx, hbr, hbh, ho, hgo, hco⟩ := HC.out
    have wk := IntWalk.i64_in ((k : Int) + 1) (by omega)
    by_cases hlt : k < lim
    case neg =>
      have q1 : decide (k < lim) = false := decide_eq_false hlt
      have hke : lim - k = 0 := by omega
      rw [hke] at hco
      have HF := Lib.hid (CmS.fin (k := k) (lim := lim) (P := P) (-1) h hkp hnx ho hgo hsz0 rfl (r := comeR lim P ans0 []) hco.symm rfl rfl)
      have RNG := Lib.hid hbh.range'
      have HT := Lib.hid (hbr.there' 0 5 (by simp [ansZ, ansC]))
      have HLd := Lib.hid (ans_back (st := a.st) (v := .slice sa sl sc) (len := a.len) (ch := a.ch) (cl := a.cl) HT.out)
      have ST := Lib.hid (ans_st a.st (v := .slice sa sl sc) a.len a.ch a.cl rfl)
      clear h hkp hnx hbr hbh ho hgo hco hlt hke HC
      go_wp2_with (first
        | (with_reducible (show wpList _ _ _ ((⟨_, .load _ (.tmp 7), _, _, _, none⟩ : Oper) :: _) _ _)
           refine wpList_load_mid rfl 47 (.tmp 7) rfl (w.heap.size + 1) 0 (by rfl) (ansC a.st (.slice sa sl sc) a.len a.ch a.cl) _ RNG.out Tryz.underlying47 rfl ans_size ?_
           try simp only [Act.put, List.setIfInBounds_toArray, List.set_cons_succ, List.set_cons_zero])
        | (with_reducible (show wpList _ _ _ ((⟨none, .store _ (.tmp 4) (.tmp 37), _, _, _, none⟩ : Oper) :: _) _ _)
           refine wpList_store_mid rfl 47 (.tmp 4) (.tmp 37) rfl w.heap.size 0 (ansC a.st (.slice sa sl sc) a.len a.ch a.cl).toArray (by rfl) (by first | rfl | kernel_rfl) HT.out ST.out.1 ST.out.2 ?_
           try simp only [Act.put])
        | fail)
      refine bodyPost_ret (v := .tuple #[.agg (ansC a.st (.slice sa sl sc) a.len a.ch a.cl).toArray, .string (S d), .int .i64 (-1)]) (by have hl := HLd.out; simp [results, Tryz.results18, asAddr, Result.andThen, hl]) rfl HF.out
    have q1 : decide (k < lim) = true := decide_eq_true hlt
    have hk60 : (k + 1) * 60000 = k * 60000 + 60000 := Nat.succ_mul _ _
    have hdl1 : d.length ≤ (k + 1) * 60000 := by rw [hk60]; exact Nat.le_trans hdl (Nat.le_add_right _ _)
    obtain ⟨⟨Q', kk, a', s'⟩, hr⟩ : ∃ r, nextR Q = r := ⟨_, rfl⟩
    have hs' : s'.length ≤ 60000 := by have := nextR_s h.ok; rw [hr] at this; dsimp only at this; omega
    have hstep := comeR_step (lim - (k + 1)) Q a d hr
    rw [show lim - (k + 1) + 1 = lim - k by omega, hco] at hstep
    dsimp only at hstep
    have HX := Lib.hid (rp_next h HM.out hn hr)
    unfold NpOut at HX
    dsimp only at HX
    have HA := Lib.hid (show (∀ l ∈ w.heap.size :: (w.heap.size + 1) :: ((Value.slice sa sl sc).ownBlock.toList ++ L), l ∉ X1 ∧ l < wr.heap.size) from h.ap)
    have HB := Lib.hid (And.intro hkp (And.intro hnx (And.intro hbr (And.intro hbh (And.intro ho hgo)))))
    have ss := S_size s'
    have sd := S_size d
    have happ := S_append d s'
    have hov : ¬ 9223372036854775807 < d.length + s'.length := by omega
    have HST := Lib.hid hstep
    clear h hkp hnx hbr hbh ho hgo hco hr hstep HC
    go_wp2_with fail
    refine HX.out.mono ?_
    rintro e v1 ⟨sb, sm, sn, X2, rfl, h1, k1, n1, o1, g1⟩
    obtain ⟨hkp, hnx, hbr, hbh, ho, hgo⟩ := HB.out
    have hwsz := hbh.lt
    have hbr1 := k1.blk hbr (HA.out _ (by simp)).1
    have hbh1 := k1.blk hbh (HA.out _ (by simp)).1
    have ho1 := ho.keep k1 (fun g hg => (HA.out g (by simp [hg])).1)
    have hkp1 : Keep X w v1 := hkp.trans' k1 (fun x hx hlt' => (hnx x hx).elim id (fun hh => by omega))
    have hnx1 : ∀ x ∈ X2, x ∈ X ∨ w.heap.size + 1 < x := fun x hx => by
      rcases n1 x hx with h2 | h2
      · exact hnx x h2
      · exact .inr (by omega)
    have kA := (Keep.refl [] v1).alloc (.cells (ansC a'.st (.slice sb sm sn) a'.len a'.ch a'.cl).toArray 47)
    have bA := Blk.newA v1 (ansC a'.st (.slice sb sm sn) a'.len a'.ch a'.cl).toArray 47
    generalize hwA : v1.alloc (.cells (ansC a'.st (.slice sb sm sn) a'.len a'.ch a'.cl).toArray 47) = u1 at kA bA
    have h2 := h1.keep0 kA
    have hbr2 := kA.blk hbr1 (by simp)
    have hbh2 := kA.blk hbh1 (by simp)
    have ho2 := ho1.keep0 kA
    have o2 := o1.keep0 kA
    have hkp2 := hkp1.trans (kA.mono (S' := X) (by simp))
    have HO1 := Lib.hid (ansC_one a'.st (v := .slice sb sm sn) a'.len a'.ch a'.cl rfl)
    have hg2 : ∀ g, (Value.slice sb sm sn).ownBlock = some g → w.heap.size + 1 < g ∧ g ∉ X2 := fun g hg => ⟨by have := (g1 g hg).1; omega, (g1 g hg).2⟩
    by_cases hk1 : kk = 1
    · subst hk1
      rw [if_pos rfl] at HST
      have RNG := Lib.hid (show Blk u1 v1.heap.size 47 (ansC a'.st (.slice sb sm sn) a'.len a'.ch a'.cl) from bA).range'
      have HT := Lib.hid (hbh2.there' 0 5 (by simp [ansC]))
      have ST := Lib.hid (ans_st a'.st (v := .slice sb sm sn) a'.len a'.ch a'.cl rfl)
      have kS : Keep [w.heap.size + 1] u1 (u1.setCells (w.heap.size + 1) 0 (ansC a'.st (.slice sb sm sn) a'.len a'.ch a'.cl)) := Keep.setCells' (S := [w.heap.size + 1]) _ (by simp) _ _ _ (Keep.refl _ _)
      have hnk : ∀ x ∈ X2, x ∉ [w.heap.size + 1] := fun x hx hh => by
        have h9 : x = w.heap.size + 1 := (by simpa using hh)
        exact (h2.ap (w.heap.size + 1) (by simp)).1 (h9 ▸ hx)
      have HF := Lib.hid (show CmS w0 w p n lim X L P (k + 1) d (u1.setCells (w.heap.size + 1) 0 (ansC a'.st (.slice sb sm sn) a'.len a'.ch a'.cl)) from by
        have h3 := h2.keep kS (fun x hx => by have h9 : x = w.heap.size + 1 := (by simpa using hx); omega) hnk
        refine ⟨sb, sm, sn, X2, Q', a', ⟨h3.re, h3.ok, h3.kp, fun l hl => ?_⟩, hkp2.trans' kS (fun x hx hlt' => by have h9 : x = w.heap.size + 1 := (by simpa using hx); omega), hnx1, kS.blk hbr2 (by simp), hbh2.over0 (by simp [ansC]), o2.keep kS (fun g hg => by have := (hg2 g hg).1; simp only [List.mem_singleton]; omega), fun g hg => (hg2 g hg).1, HST.out.symm⟩
        rcases List.mem_cons.1 hl with rfl | hl
        · exact h3.ap _ (by simp)
        rcases List.mem_cons.1 hl with rfl | hl
        · exact h3.ap _ (by simp)
        rcases List.mem_append.1 hl with hl | hl
        · have hl' := by simpa using hl
          exact ⟨(hg2 l hl').2, Nat.lt_of_lt_of_le (o2.lt l hl').2 kS.size⟩
        · exact h3.ap _ (by simp [hl]))
      have HDL := Lib.hid hdl1
      clear h1 k1 n1 o1 g1 hkp hnx hbr hbh ho hgo hbr1 hbh1 ho1 hkp1 hnx1 kA bA h2 hbr2 hbh2 ho2 o2 hkp2 hg2 kS hnk HB HA HX hdl1 hk60
      go_wp2_with (first
        | (with_reducible (show wpList _ _ _ ((⟨none, .store _ (.tmp 11) (.tmp 23), _, _, _, none⟩ : Oper) :: _) _ _)
           refine wpList_store_fresh rfl 47 (.tmp 11) (.tmp 23) rfl _ (ansC a'.st (.slice sb sm sn) a'.len a'.ch a'.cl) (by rfl) (by rfl) ans_size (by rfl) HO1.out ?_
           rw [hwA]
           try simp only [Act.put])
        | (with_reducible (show wpList _ _ _ ((⟨_, .load _ (.tmp 11), _, _, _, none⟩ : Oper) :: _) _ _)
           refine wpList_load_mid rfl 47 (.tmp 11) rfl v1.heap.size 0 (by rfl) (ansC a'.st (.slice sb sm sn) a'.len a'.ch a'.cl) _ RNG.out Tryz.underlying47 rfl ans_size ?_
           try simp only [Act.put, List.setIfInBounds_toArray, List.set_cons_succ, List.set_cons_zero])
        | (with_reducible (show wpList _ _ _ ((⟨none, .store _ (.tmp 7) (.tmp 31), _, _, _, none⟩ : Oper) :: _) _ _)
           refine wpList_store_mid rfl 47 (.tmp 7) (.tmp 31) rfl (w.heap.size + 1) 0 (ansC a'.st (.slice sb sm sn) a'.len a'.ch a'.cl).toArray (by rfl) (by first | rfl | kernel_rfl) HT.out ST.out.1 ST.out.2 ?_
           try simp only [Act.put])
        | fail)
      go_roundg (lim - (k + 1))
      case measure => omega
      case rel => exact ⟨k + 1, d, rfl, by go_num, hlt, rfl, HDL.out, HF⟩
    have e1 := int_ne hk1
    rw [if_neg hk1] at HST
    by_cases hk2 : kk = 2
    · subst hk2
      rw [if_pos rfl] at HST
      have HF := Lib.hid (show CmS w0 w p n lim X L P (k + 1) (d ++ s') u1 from ⟨sa, sl, sc, X2, Q', a, h2, hkp2, hnx1, hbr2, hbh2, ho2, hgo, HST.out.symm⟩)
      have hdl2 : (d ++ s').length ≤ (k + 1) * 60000 := by rw [hk60, List.length_append]; exact Nat.add_le_add hdl hs'
      have HDL := Lib.hid hdl2
      clear h1 k1 n1 o1 g1 hkp hnx hbr hbh ho hgo hbr1 hbh1 ho1 hkp1 hnx1 kA bA h2 hbr2 hbh2 ho2 o2 hkp2 hg2 HB HA HX hdl1 hk60 hdl2
      go_wp2_with (first
        | (with_reducible (show wpList _ _ _ ((⟨none, .store _ (.tmp 11) (.tmp 23), _, _, _, none⟩ : Oper) :: _) _ _)
           refine wpList_store_fresh rfl 47 (.tmp 11) (.tmp 23) rfl _ (ansC a'.st (.slice sb sm sn) a'.len a'.ch a'.cl) (by rfl) (by rfl) ans_size (by rfl) HO1.out ?_
           rw [hwA]
           try simp only [Act.put])
        | fail)
      go_roundg (lim - (k + 1))
      case measure => omega
      case rel => exact ⟨k + 1, d ++ s', rfl, by go_num, hlt, rfl, HDL.out, HF⟩
    · have e2 := int_ne hk2
      rw [if_neg hk2] at HST
      have HF := Lib.hid (CmS.fin (k := k) (lim := lim) (P := P) kk h2 hkp2 hnx1 ho2 hgo hsz0 rfl (r := comeR lim P ans0 []) HST.out rfl rfl)
      have RNG := Lib.hid hbh2.range'
      have HT := Lib.hid (hbr2.there' 0 5 (by simp [ansZ, ansC]))
      have HLd := Lib.hid (ans_back (st := a.st) (v := .slice sa sl sc) (len := a.len) (ch := a.ch) (cl := a.cl) HT.out)
      have ST := Lib.hid (ans_st a.st (v := .slice sa sl sc) a.len a.ch a.cl rfl)
      clear h1 k1 n1 o1 g1 hkp hnx hbr hbh ho hgo hbr1 hbh1 ho1 hkp1 hnx1 kA bA h2 hbr2 hbh2 ho2 o2 hkp2 hg2 HB HA HX hk1 hk2
      obtain ⟨e1, e1'⟩ := e1
      obtain ⟨e2, e2'⟩ := e2
      go_wp2_with (first
        | (with_reducible (show wpList _ _ _ ((⟨none, .store _ (.tmp 11) (.tmp 23), _, _, _, none⟩ : Oper) :: _) _ _)
           refine wpList_store_fresh rfl 47 (.tmp 11) (.tmp 23) rfl _ (ansC a'.st (.slice sb sm sn) a'.len a'.ch a'.cl) (by rfl) (by rfl) ans_size (by rfl) HO1.out ?_
           rw [hwA]
           try simp only [Act.put])
        | (with_reducible (show wpList _ _ _ ((⟨_, .load _ (.tmp 7), _, _, _, none⟩ : Oper) :: _) _ _)
           refine wpList_load_mid rfl 47 (.tmp 7) rfl (w.heap.size + 1) 0 (by rfl) (ansC a.st (.slice sa sl sc) a.len a.ch a.cl) _ RNG.out Tryz.underlying47 rfl ans_size ?_
           try simp only [Act.put, List.setIfInBounds_toArray, List.set_cons_succ, List.set_cons_zero])
        | (with_reducible (show wpList _ _ _ ((⟨none, .store _ (.tmp 4) (.tmp 26), _, _, _, none⟩ : Oper) :: _) _ _)
           refine wpList_store_mid rfl 47 (.tmp 4) (.tmp 26) rfl w.heap.size 0 (ansC a.st (.slice sa sl sc) a.len a.ch a.cl).toArray (by rfl) (by first | rfl | kernel_rfl) HT.out ST.out.1 ST.out.2 ?_
           try simp only [Act.put])
        | fail)
      try rw [Exit.noGoto_ret]
      refine bodyPost_ret (v := .tuple #[.agg (ansC a.st (.slice sa sl sc) a.len a.ch a.cl).toArray, .string (S d), .int .i64 kk]) (by have hl := HLd.out; simp [results, Tryz.results18, asAddr, Result.andThen, hl]) rfl HF.out
end Go.Proofs.YtdmffbefppjllaaGreatDoor
