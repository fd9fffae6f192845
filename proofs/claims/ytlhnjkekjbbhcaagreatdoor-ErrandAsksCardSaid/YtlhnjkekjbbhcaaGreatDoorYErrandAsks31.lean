/- Parts of the proof of ErrandAsks, in order. No conditions but those that each theorem states. -/
import Derived.Test.YtlhnjkekjbbhcaaGreatDoorYErrandAsks0
import Derived.Lib.SlBytesConst
import Derived.Lib.LaidTab
import Derived.Lib.ItoaNum
import Derived.Lib.ItoaLen
import Derived.Sort.Grow
import Derived.Test.YtlhnjkekjbbhcaaGreatDoorYErrandAsks30
set_option linter.unusedSimpArgs false
set_option linter.unusedVariables false
namespace Go.Proofs.YtlhnjkekjbbhcaaGreatDoor
open Go.RowKit Go.Shelf
theorem req_size : (Tryz.prog.info? 73).map (·.size) = some 4 := by kernel_rfl
theorem req_st (m t : List UInt8) {v : Value} (cl : Bool) (hv : v.oneCell' = true) : (Tryz.prog.info? 73).map (·.size) = some (reqC m t v cl).toArray.size ∧ (reqC m t v cl).toArray.all (·.oneCell') = true :=
  ⟨req_size, by simp [reqC, hv]; exact ⟨rfl, rfl, rfl⟩⟩
theorem req_load {w : World} {b : Nat} {m t : List UInt8} {v : Value} {cl : Bool} (h : w.rangeAt b 0 (reqC m t v cl)) : (loadVar 73 ⟨b, 0, none⟩).run Tryz.prog w = .ok (.agg (reqC m t v cl).toArray) w :=
  run_loadVar_mid (P := Tryz.prog) w b 0 73 (reqC m t v cl) _ h Tryz.underlying73 rfl req_size
def reqZ : List Value := reqC [] [] (.slice none 0 0) false
theorem req_back {w : World} {b : Nat} {m t : List UInt8} {v : Value} {cl : Bool} (h : w.there b 0 4) : (loadVar 73 ⟨b, 0, none⟩).run Tryz.prog (w.setCells b 0 (reqC m t v cl)) = .ok (.agg (reqC m t v cl).toArray) (w.setCells b 0 (reqC m t v cl)) := req_load (World.rangeAt_setCells_same _ b 0 (reqC m t v cl) h)
theorem reqZ_back {w : World} {b : Nat} (h : w.there b 0 4) : (loadVar 73 ⟨b, 0, none⟩).run Tryz.prog (w.setCells b 0 reqZ) = .ok (.agg reqZ.toArray) (w.setCells b 0 reqZ) := req_back h
set_option maxRecDepth 100000 in
set_option maxHeartbeats 2000000 in
theorem inlet_fail {B p : Nat} {X R : List Nat} {I : InS} {w : World} (s : Int) (h : It B w p X R I) :
    Calls Tryz.prog 72 #[.pointer (some ⟨p, 0, none⟩), .int .i64 s] w fun e w' => e = .returned (.tuple #[.agg reqZ.toArray, .int .i64 s]) ∧ It B w' p X R { I with st := s } ∧ Keep [p] w w' := by
  have kA := (Keep.refl [] w).alloc (.cells reqZ.toArray 73); have bA := Blk.newA w reqZ.toArray 73; have hne : w.heap.size ≠ p := by have := h.lt; omega
  have zst := req_st [] [] (v := .slice none 0 0) false rfl; have H := Lib.hid h; generalize hwA : w.alloc (.cells #[.string ⟨#[]⟩, .string ⟨#[]⟩, .slice none 0 0, .bool false] 73) = wA; have hwA' : w.alloc (.cells reqZ.toArray 73) = wA := hwA; rw [hwA'] at kA bA; have hA := h.keep0 kA; obtain ⟨_, _, _, c5⟩ := hA.at_; have f5 := hA.free 5; have hS := hA.set (I' := { I with st := s }) 5 (.int .i64 s) (fun _ _ => rfl) rfl rfl; have kS := (kA.mono (S' := [p]) (by simp)).setCell ⟨p, 5, none⟩ (.int .i64 s) (by simp); have bS := (show Blk wA w.heap.size 73 reqZ from bA).setOther (a := ⟨p, 5, none⟩) (by simpa using hne) (.int .i64 s); have hT := bS.there' 0 4 (by simp [reqZ, reqC]); have hload := reqZ_back hT; have hlt : w.heap.size < (wA.setCell ⟨p, 5, none⟩ (.int .i64 s)).heap.size := bS.lt; have HX := Lib.hid (And.intro hS (And.intro kS hload)); have HT := Lib.hid hT; have ZST := Lib.hid zst; clear h kA bA hA hS kS bS hT hload hwA' zst; go_enter Tryz.func72, Tryz.ntmps72
  go_wp2_with (first
    | (refine wpList_store_mid rfl 73 (.tmp 4) (.tmp 10) rfl w.heap.size 0 reqZ.toArray (by rfl) (by first | rfl | kernel_rfl) HT.out ZST.out.1 ZST.out.2 ?_
       try simp only [Act.put])
    | fail)
  refine bodyPost_ret (v := .tuple #[.agg reqZ.toArray, .int .i64 s]) (by have hl := HX.out.2.2; simp [results, Tryz.results72, asAddr, Result.andThen, hl]) rfl ⟨rfl, ?_, ?_⟩
  · exact HX.out.1.keep (Keep.setCells' (S := [w.heap.size]) _ (by simp) _ _ _ (Keep.refl _ _)) (fun x hx => by have := (H.out.lo x hx).2; simp; omega) (fun x hx => by have := (H.out.ro x hx).2.1; simp; omega)
  · exact Keep.setCells' _ (fun hh => absurd hh (by omega)) _ _ _ HX.out.2.1
theorem wpList_store_fresh {P : Program} {ops : Array Oper} {rest : List Oper} {op : Oper} {a : Act} {w : World} {Q : Exit → Act → World → Prop} (hgd : op.guard = none) (ty : TypeId) (x y : Operand) (ho : op.op = .store ty x y)
    (Z : Array Value) (cells : List Value) (hx : a.eval x = .pointer (some ⟨w.heap.size, 0, none⟩)) (hy : a.eval y = .agg cells.toArray) (hi : (P.info? ty).map (·.size) = some cells.length) (hz : Z.size = cells.length)
    (h1 : ∀ v ∈ cells, v.oneCell' = true) (h : wpList P ops Q rest (a.put op.dst undef) (w.alloc (.cells cells.toArray ty))) : wpList P ops Q (op :: rest) a (w.alloc (.cells Z ty)) :=
  wpList_plain hgd fun _ hK => by
    unfold Oper.wp execOp; simp only [ho, hx, hy, Instr.storeAt, Instr.sureAddr, Sem.run_bind, Sem.run_pure, Result.andThen_ok, run_storeVar_new (P := P) w ty Z cells.toArray (by simpa using hi) (by simpa using hz) (all_oneCell_toArray h1)]; exact hK _ _ h
theorem reqC_one (m t : List UInt8) {v : Value} (cl : Bool) (hv : v.oneCell' = true) : ∀ x ∈ reqC m t v cl, x.oneCell' = true := by
  intro x hx; simp [reqC] at hx; rcases hx with rfl | rfl | rfl | rfl
  · rfl
  · rfl
  · exact hv
  · rfl
structure NxS (B : Nat) (w : World) (p : Nat) (X R : List Nat) (wt : World) (X1 R1 : List Nat) (J : InS) : Prop where
  it : It B wt p X1 R1 J
  kp : Keep X w wt
  nx : ∀ x ∈ X1, x ∈ X ∨ w.heap.size < x
  nr : ∀ x ∈ R1, x ∈ R ∨ w.heap.size < x
  bk : Blk wt w.heap.size 73 reqZ
theorem NxS.off {B p : Nat} {w wt : World} {X R X1 R1 : List Nat} {I J : InS} (h : NxS B w p X R wt X1 R1 J) (h0 : It B w p X R I) : w.heap.size ∉ X1 ∧ w.heap.size ∉ R1 :=
  ⟨fun hh => by rcases h.nx _ hh with h1 | h1; (have := (h0.lo _ h1).2; omega); omega, fun hh => by rcases h.nr _ hh with h1 | h1; (have := (h0.ro _ h1).2.1; omega); omega⟩
theorem NxS.step {B p : Nat} {w wt w2 : World} {X R X1 R1 X2 R2 : List Nat} {I J J2 : InS} (h : NxS B w p X R wt X1 R1 J) (h0 : It B w p X R I) (k : Keep X1 wt w2) (hi : It B w2 p X2 R2 J2)
    (hX : ∀ x ∈ X2, x ∈ X1 ∨ wt.heap.size ≤ x) (hR : ∀ x ∈ R2, x ∈ R1 ∨ wt.heap.size ≤ x) : NxS B w p X R w2 X2 R2 J2 := by
  have hl := h.bk.lt; refine ⟨hi, h.kp.trans' k (fun x hx hlt => (h.nx x hx).elim id (fun hh => by omega)), fun x hx => ?_, fun x hx => ?_, k.blk h.bk (h.off h0).1⟩
  · rcases hX x hx with h1 | h1
    · exact h.nx x h1
    · exact .inr (by omega)
  · rcases hR x hx with h1 | h1
    · exact h.nr x h1
    · exact .inr (by omega)
def NextOut (B : Nat) (w : World) (p : Nat) (X R : List Nat) (r : NxR) (e : Ending) (w' : World) : Prop :=
  ∃ v X' R', e = .returned (.tuple #[.agg (reqC r.q.m r.q.t v r.q.cl).toArray, .int .i64 r.s]) ∧ It B w' p X' R' r.p ∧ Keep X w w' ∧ (∀ x ∈ X', x ∈ X ∨ w.heap.size ≤ x) ∧ (∀ x ∈ R', x ∈ R ∨ w.heap.size ≤ x) ∧ Own Fld.cells 2 B 89 w' v r.q.F ∧ ∀ g, v.ownBlock = some g → (g ∈ R ∨ w.heap.size ≤ g) ∧ g ∉ X'
theorem NextOut.of {B p : Nat} {w w' : World} {X R : List Nat} {r r' : NxR} {e : Ending} (h : NextOut B w p X R r e w') (hr : r' = r) : NextOut B w p X R r' e w' := hr ▸ h
theorem NxS.fin {B p : Nat} {w wt : World} {X R X1 R1 : List Nat} {I J : InS} (h : NxS B w p X R wt X1 R1 J) (h0 : It B w p X R I) (q : Req) (v : Value) (s : Int) (ho : Own Fld.cells 2 B 89 wt v q.F) (hg : ∀ g, v.ownBlock = some g → (g ∈ R ∨ w.heap.size < g) ∧ g ∉ X1) :
    NextOut B w p X R ⟨J, q, s⟩ (.returned (.tuple #[.agg (reqC q.m q.t v q.cl).toArray, .int .i64 s])) (wt.setCells w.heap.size 0 (reqC q.m q.t v q.cl)) := by
  have k : Keep [w.heap.size] wt (wt.setCells w.heap.size 0 (reqC q.m q.t v q.cl)) := Keep.setCells' (S := [w.heap.size]) _ (by simp) _ _ _ (Keep.refl _ _); obtain ⟨o1, o2⟩ := h.off h0; refine ⟨v, X1, R1, rfl, h.it.keep k (fun x hx => by simp; rintro rfl; exact o1 hx) (fun x hx => by simp; rintro rfl; exact o2 hx), h.kp.trans' k (fun x hx hlt => by simp at hx; omega), fun x hx => (h.nx x hx).imp id (fun hh => by omega), fun x hx => (h.nr x hx).imp id (fun hh => by omega), ho.keep k (fun g hh => ?_), fun g hh => ⟨(hg g hh).1.imp id (fun hh => by omega), (hg g hh).2⟩⟩; simp only [List.mem_singleton]; rintro rfl; rcases (hg _ hh).1 with h1 | h1
  · have := (h0.ro _ h1).2.1; omega
  · omega
theorem NxS.fin0 {B p : Nat} {w wt : World} {X R X1 R1 : List Nat} {I J : InS} (h : NxS B w p X R wt X1 R1 J) (h0 : It B w p X R I) (s : Int) :
    NextOut B w p X R ⟨J, req0, s⟩ (.returned (.tuple #[.agg reqZ.toArray, .int .i64 s])) (wt.setCells w.heap.size 0 reqZ) := h.fin h0 req0 (.slice none 0 0) s (Own.nil _ _ _ _ _) (by simp [Value.ownBlock])
theorem it_unreq {B p : Nat} {w : World} {X R : List Nat} {I : InS} (h : It B w p X R I) : It B ((w.setCell ⟨p, 2, none⟩ (.pointer none)).setCell ⟨p, 1, none⟩ (.int .i64 0)) p X [] { I with req := none, held := 0 } := by
  obtain ⟨⟨rv, cv, b1, b2, b3⟩, h4, h5, h6⟩ := h; have hk : Keep [p] w ((w.setCell ⟨p, 2, none⟩ (.pointer none)).setCell ⟨p, 1, none⟩ (.int .i64 0)) := ((Keep.refl _ _).setCell _ _ (by simp)).setCell _ _ (by simp); exact ⟨⟨.pointer none, cv, (b1.set 2 (.pointer none)).set 1 (.int .i64 0), b2.keep hk (fun y _ hy => by simpa using hy), rfl⟩, h4, fun y hy => ⟨(h5 y hy).1, Nat.lt_of_lt_of_le (h5 y hy).2 hk.size⟩, by simp⟩
theorem it_req {B p : Nat} {w : World} {X R : List Nat} {I : InS} {q : Req} (h : It B w p X R I) (hq : I.req = some q) : ∃ rb a l c, w.cell? ⟨p, 2, none⟩ = some (.pointer (some ⟨rb, 0, none⟩)) ∧ Blk w rb 73 (reqC q.m q.t (.slice a l c) q.cl) ∧ Own Fld.cells 2 B 89 w (.slice a l c) q.F ∧ (∀ g, (Value.slice a l c).ownBlock = some g → g ∈ R) ∧ rb ∈ R := by
  obtain ⟨⟨rv, cv, b1, b2, b3⟩, h4, h5, h6⟩ := h; rw [hq] at b3; obtain ⟨rb, v, rfl, g1, g2, g3, g4⟩ := b3; obtain ⟨a, c, rfl, _⟩ := g3.shape; exact ⟨rb, a, _, c, b1.get (k := 2) rfl, g2, g3, g4, g1⟩
theorem it_noReq {B p : Nat} {w : World} {X R : List Nat} {I : InS} (h : It B w p X R I) (hq : I.req = none) : w.cell? ⟨p, 2, none⟩ = some (.pointer none) := by
  obtain ⟨⟨rv, cv, b1, b2, b3⟩, h4, h5, h6⟩ := h; rw [hq] at b3; have : rv = .pointer none := b3; subst this; exact b1.get (k := 2) rfl
theorem body_req (J : InS) : (bodyB J).p.req = J.req ∧ (bodyB J).p.st = J.st := by
  unfold bodyB
  cases J.chk with
  | none => exact ⟨rfl, rfl⟩
  | some c => dsimp only; split; exact ⟨rfl, rfl⟩; split <;> exact ⟨rfl, rfl⟩
theorem ans_size : (Tryz.prog.info? 30).map (·.size) = some 5 := by kernel_rfl
theorem ans_st (st : Int) {v : Value} (len : Int) (ch cl : Bool) (hv : v.oneCell' = true) : (Tryz.prog.info? 30).map (·.size) = some (ansC st v len ch cl).toArray.size ∧ (ansC st v len ch cl).toArray.all (·.oneCell') = true :=
  ⟨ans_size, by simp [ansC, hv]; exact ⟨rfl, rfl, rfl, rfl⟩⟩
theorem ans_load {w : World} {b : Nat} {st len : Int} {v : Value} {ch cl : Bool} (h : w.rangeAt b 0 (ansC st v len ch cl)) : (loadVar 30 ⟨b, 0, Option.none⟩).run Tryz.prog w = .ok (.agg (ansC st v len ch cl).toArray) w :=
  run_loadVar_mid (P := Tryz.prog) w b 0 30 (ansC st v len ch cl) _ h Tryz.underlying30 rfl ans_size
def ansZ : List Value := ansC 0 (.slice Option.none 0 0) 0 false false
theorem ans_back {w : World} {b : Nat} {st len : Int} {v : Value} {ch cl : Bool} (h : w.there b 0 5) : (loadVar 30 ⟨b, 0, Option.none⟩).run Tryz.prog (w.setCells b 0 (ansC st v len ch cl)) = .ok (.agg (ansC st v len ch cl).toArray) (w.setCells b 0 (ansC st v len ch cl)) := ans_load (World.rangeAt_setCells_same _ b 0 (ansC st v len ch cl) h)
theorem ansZ_back {w : World} {b : Nat} (h : w.there b 0 5) : (loadVar 30 ⟨b, 0, Option.none⟩).run Tryz.prog (w.setCells b 0 ansZ) = .ok (.agg ansZ.toArray) (w.setCells b 0 ansZ) := ans_back h
theorem ansC_one (st : Int) {v : Value} (len : Int) (ch cl : Bool) (hv : v.oneCell' = true) : ∀ x ∈ ansC st v len ch cl, x.oneCell' = true := by
  intro x hx; simp [ansC] at hx; rcases hx with rfl | rfl | rfl | rfl | rfl
  · rfl
  · exact hv
  · rfl
  · rfl
  · rfl
structure NeS (B : Nat) (w : World) (p : Nat) (X R : List Nat) (wt : World) (X1 R1 : List Nat) (J : ReS) : Prop where
  it : Re B wt p X1 R1 J
  kp : Keep X w wt
  nx : ∀ x ∈ X1, x ∈ X ∨ w.heap.size < x
  nr : ∀ x ∈ R1, x ∈ R ∨ w.heap.size < x
  bk : Blk wt w.heap.size 30 ansZ
theorem NeS.off {B p : Nat} {w wt : World} {X R X1 R1 : List Nat} {I J : ReS} (h : NeS B w p X R wt X1 R1 J) (h0 : Re B w p X R I) : w.heap.size ∉ X1 ∧ w.heap.size ∉ R1 :=
  ⟨fun hh => by rcases h.nx _ hh with h1 | h1; (have := (h0.lo _ h1).2; omega); omega, fun hh => by rcases h.nr _ hh with h1 | h1; (have := (h0.ro _ h1).2.1; omega); omega⟩
theorem NeS.step {B p : Nat} {w wt w2 : World} {X R X1 R1 X2 R2 : List Nat} {I J J2 : ReS} (h : NeS B w p X R wt X1 R1 J) (h0 : Re B w p X R I) (k : Keep X1 wt w2) (hi : Re B w2 p X2 R2 J2)
    (hX : ∀ x ∈ X2, x ∈ X1 ∨ wt.heap.size ≤ x) (hR : ∀ x ∈ R2, x ∈ R1 ∨ wt.heap.size ≤ x) : NeS B w p X R w2 X2 R2 J2 := by
  have hl := h.bk.lt; refine ⟨hi, h.kp.trans' k (fun x hx hlt => (h.nx x hx).elim id (fun hh => by omega)), fun x hx => ?_, fun x hx => ?_, k.blk h.bk (h.off h0).1⟩
  · rcases hX x hx with h1 | h1
    · exact h.nx x h1
    · exact .inr (by omega)
  · rcases hR x hx with h1 | h1
    · exact h.nr x h1
    · exact .inr (by omega)
def NeOut (B : Nat) (w : World) (p : Nat) (X R : List Nat) (r : NrR) (e : Ending) (w' : World) : Prop :=
  ∃ v X', e = .returned (.tuple #[.int .i64 r.k, .agg (ansC r.a.st v r.a.len r.a.ch r.a.cl).toArray, .string (S r.s)]) ∧ Re B w' p X' [] r.p ∧ Keep X w w' ∧ (∀ x ∈ X', x ∈ X ∨ w.heap.size ≤ x) ∧ Own Fld.cells 2 B 89 w' v r.a.F ∧ ∀ g, v.ownBlock = some g → (g ∈ R ∨ w.heap.size ≤ g) ∧ g ∉ X'
theorem Re.bare {B p : Nat} {w : World} {X R : List Nat} {P : ReS} (h : Re B w p X R P) (ha : P.ans = none) : Re B w p X [] P := by
  obtain ⟨⟨cv, av, h1, h2, h3⟩, h4, h5, h6⟩ := h; rw [ha] at h3; exact ⟨⟨cv, av, h1, h2, by rw [ha]; exact h3⟩, h4, h5, by simp⟩
theorem NeS.fin {B p : Nat} {w wt : World} {X R X1 R1 : List Nat} {I J : ReS} (h : NeS B w p X R wt X1 R1 J) (h0 : Re B w p X R I) (hj : J.ans = none) (k : Int) (a : Ans) (v : Value) (s : List UInt8) (ho : Own Fld.cells 2 B 89 wt v a.F) (hg : ∀ g, v.ownBlock = some g → (g ∈ R ∨ w.heap.size < g) ∧ g ∉ X1) :
    NeOut B w p X R ⟨J, k, a, s⟩ (.returned (.tuple #[.int .i64 k, .agg (ansC a.st v a.len a.ch a.cl).toArray, .string (S s)])) (wt.setCells w.heap.size 0 (ansC a.st v a.len a.ch a.cl)) := by
  have kk : Keep [w.heap.size] wt (wt.setCells w.heap.size 0 (ansC a.st v a.len a.ch a.cl)) := Keep.setCells' (S := [w.heap.size]) _ (by simp) _ _ _ (Keep.refl _ _); obtain ⟨o1, o2⟩ := h.off h0; refine ⟨v, X1, rfl, (h.it.bare hj).keep kk (fun x hx => by simp; rintro rfl; exact o1 hx) (by simp), h.kp.trans' kk (fun x hx hlt => by simp at hx; omega), fun x hx => (h.nx x hx).imp id (fun hh => by omega), ho.keep kk (fun g hh => ?_), fun g hh => ⟨(hg g hh).1.imp id (fun hh => by omega), (hg g hh).2⟩⟩; simp only [List.mem_singleton]; rintro rfl; rcases (hg _ hh).1 with h1 | h1
  · have := (h0.ro _ h1).2.1; omega
  · omega
theorem NeS.fin0 {B p : Nat} {w wt : World} {X R X1 R1 : List Nat} {I J : ReS} (h : NeS B w p X R wt X1 R1 J) (h0 : Re B w p X R I) (hj : J.ans = none) (k : Int) (s : List UInt8) :
    NeOut B w p X R ⟨J, k, ans0, s⟩ (.returned (.tuple #[.int .i64 k, .agg ansZ.toArray, .string (S s)])) (wt.setCells w.heap.size 0 ansZ) := h.fin h0 hj k ans0 (.slice Option.none 0 0) s (Own.nil _ _ _ _ _) (by simp [Value.ownBlock])
theorem NeOut.of {B p : Nat} {w w' : World} {X R : List Nat} {r r' : NrR} {e : Ending} (h : NeOut B w p X R r e w') (hr : r' = r) : NeOut B w p X R r' e w' := hr ▸ h
theorem re_ans {B p : Nat} {w : World} {X R : List Nat} {P : ReS} {a : Ans} (h : Re B w p X R P) (ha : P.ans = some a) : ∃ ab sa sl sc, w.cell? ⟨p, 9, Option.none⟩ = some (.pointer (some ⟨ab, 0, Option.none⟩)) ∧ Blk w ab 30 (ansC a.st (.slice sa sl sc) a.len a.ch a.cl) ∧ Own Fld.cells 2 B 89 w (.slice sa sl sc) a.F ∧ (∀ g, (Value.slice sa sl sc).ownBlock = some g → g ∈ R) ∧ ab ∈ R := by
  obtain ⟨⟨cv, av, b1, b2, b3⟩, h4, h5, h6⟩ := h; rw [ha] at b3; obtain ⟨ab, v, rfl, g1, g2, g3, g4⟩ := b3; obtain ⟨sa, sc, rfl, _⟩ := g3.shape; exact ⟨ab, sa, _, sc, b1.get (k := 9) rfl, g2, g3, g4, g1⟩
theorem re_noAns {B p : Nat} {w : World} {X R : List Nat} {P : ReS} (h : Re B w p X R P) (ha : P.ans = none) : w.cell? ⟨p, 9, Option.none⟩ = some (.pointer Option.none) := by
  obtain ⟨⟨cv, av, b1, b2, b3⟩, h4, h5, h6⟩ := h; rw [ha] at b3; have : av = .pointer Option.none := b3; subst this; exact b1.get (k := 9) rfl
theorem re_unans {B p : Nat} {w : World} {X R : List Nat} {P : ReS} (h : Re B w p X R P) : Re B (w.setCell ⟨p, 9, Option.none⟩ (.pointer Option.none)) p X R { P with ans := none } := by
  obtain ⟨⟨cv, av, b1, b2, b3⟩, h4, h5, h6⟩ := h; have hk : Keep [p] w (w.setCell ⟨p, 9, Option.none⟩ (.pointer Option.none)) := (Keep.refl _ _).setCell _ _ (by simp); exact ⟨⟨cv, .pointer Option.none, b1.set 9 (.pointer Option.none), b2.keep hk (fun y _ hy => by simpa using hy), rfl⟩, h4, fun y hy => ⟨(h5 y hy).1, Nat.lt_of_lt_of_le (h5 y hy).2 hk.size⟩, fun y hy => ⟨(h6 y hy).1, Nat.lt_of_lt_of_le (h6 y hy).2.1 hk.size, (h6 y hy).2.2⟩⟩
def LpS (B : Nat) (w : World) (p n : Nat) (X R : List Nat) (P : ReS) (g : Nat) (wr : World) : Prop :=
  ∃ Q X1 R1, NeS B w p X R wr X1 R1 Q ∧ Q.ok n ∧ reEnd Q = reEnd P ∧ g = Q.mu
def LpE (B : Nat) (w : World) (p n : Nat) (X R : List Nat) (P : ReS) (wr : World) : Prop :=
  ∃ X1 R1, NeS B w p X R wr X1 R1 (reEnd P) ∧ (reEnd P).ok n
set_option maxHeartbeats 4000000 in
set_option maxRecDepth 100000 in
theorem reply_Next {B p n : Nat} {X R : List Nat} {P : ReS} {w : World} (h : Re B w p X R P) (hm : ML w) (hB : B ≤ w.heap.size) (hbig : 1 < B) (hok : P.ok n) (hn : n ≤ 400000) :
    Calls Tryz.prog 102 #[.pointer (some ⟨p, 0, Option.none⟩)] w (NeOut B w p X R (nextR P)) := by
  have kA := (Keep.refl [] w).alloc (.cells ansZ.toArray 30); have bA := Blk.newA w ansZ.toArray 30; have zst := ans_st 0 (v := .slice Option.none 0 0) 0 false false rfl; have H := Lib.hid h; generalize hwA : w.alloc (.cells #[.int .i64 0, .slice Option.none 0 0, .int .i64 0, .bool false, .bool false] 30) = wA; have hwA' : w.alloc (.cells ansZ.toArray 30) = wA := hwA; have hszA : wA.heap.size = w.heap.size + 1 := by rw [← hwA']; simp
  rw [hwA'] at kA bA; have hA := h.keep0 kA; have NA : NeS B w p X R wA X R P := ⟨hA, kA.mono (by simp), fun x hx => .inl hx, fun x hx => .inl hx, show Blk wA w.heap.size 30 ansZ from bA⟩
  have HL := Lib.hid (show LpS B w p n X R P P.mu wA from ⟨P, X, R, NA, hok, rfl, rfl⟩); have MA := Lib.hid (fun wt X1 R1 J (hh : NeS B w p X R wt X1 R1 J) => (hm.keepB hbig hh.kp (fun x hx => (h.lo x hx).1) : ML wt)); have ZST := Lib.hid zst; have HN := Lib.hid (nextR_eq P); clear h kA bA hA NA hwA' zst hm hok; go_enter Tryz.func102, Tryz.ntmps102; go_wp2_with fail; go_step3; go_wp2_with fail; go_step3
  go_upto_block 0 with fail
  clear hwA
  go_cut [0] (fun y wx => y = .pointer (some ⟨p, 0, Option.none⟩) ∧ Hid (LpE B w p n X R P wx))
  case first =>
    go_wp2_with fail
    go_loopg [] P.mu (fun g wr => Hid (LpS B w p n X R P g wr))
    case atStart => exact HL
    case round =>
      obtain ⟨Q, X1, R1, hne, hqok, hqe, hg⟩ := hrel.out; have HNE := Lib.hid hne; have HQ := Lib.hid (And.intro hqok hqe)
      cases hqa : Q.ans with
      | some a =>
        obtain ⟨ab, sa, sl, sc, c9, _⟩ := re_ans hne.it hqa; have hE : reEnd P = Q := by rw [← hqe]; exact reEnd_some (by rw [hqa]; rfl)
        have HF := Lib.hid (show LpE B w p n X R P wr from ⟨X1, R1, by rw [hE]; exact hne, by rw [hE]; exact hqok⟩); clear hne hqok hqe hqa hE hrel; go_wp2_with fail; go_meet; exact ⟨rfl, HF⟩
      | none =>
        have c9 := re_noAns hne.it hqa; have HR := Lib.hid (reply_read hne.it (MA.out wr X1 R1 Q hne) (Nat.le_trans hB hne.kp.size) hbig hqok hn); unfold RdOut at HR; have HQA := Lib.hid hqa; have HG := Lib.hid hg; clear hne hqok hqe hqa hrel hg
        cases h2 : (readR Q).2 with
        | true =>
          have HE := Lib.hid ((reEnd_more HQ.out.1 HQA.out h2).symm.trans HQ.out.2); have HM := Lib.hid ((read_ok HQ.out.1).2 h2); rw [h2] at HR; clear h2; go_wp2_with fail; refine HR.out.mono ?_; rintro e w2 ⟨rfl, k2, X2, R2, h2, n2, r2⟩; have HS := Lib.hid (show LpS B w p n X R P (readR Q).1.mu w2 from ⟨(readR Q).1, X2, R2, HNE.out.step H.out k2 h2 n2 r2, (read_ok HQ.out.1).1, HE.out, rfl⟩); clear k2 h2 n2 r2; go_wp2_with fail
          go_roundg (readR Q).1.mu
          case measure => rw [HG.out]; exact HM.out
          case rel => exact HS
        | false =>
          have hE := (reEnd_stop HQA.out h2).symm.trans HQ.out.2; rw [h2] at HR; have HE := Lib.hid hE; clear h2 hE; go_wp2_with fail; refine HR.out.mono ?_; rintro e w2 ⟨rfl, k2, X2, R2, h2, n2, r2⟩; have HF := Lib.hid (show LpE B w p n X R P w2 from ⟨X2, R2, by rw [← HE.out]; exact HNE.out.step H.out k2 h2 n2 r2, by rw [← HE.out]; exact (read_ok HQ.out.1).1⟩); clear k2 h2 n2 r2; go_wp2_with fail; go_meet; exact ⟨rfl, HF⟩
  case rest =>
  obtain ⟨rfl, HE⟩ := hcut; obtain ⟨X1, R1, hne, hqok⟩ := HE.out; have HNE := Lib.hid hne; have hN := HN.out; have hp5 := hqok.st; clear HE HN HL hqok; generalize reEnd P = Q at *
  cases hqa : Q.ans with
  | some a =>
    rw [hqa] at hN; dsimp only at hN; obtain ⟨ab, sa, sl, sc, c9, hb, ho, hgr, hab⟩ := re_ans hne.it hqa; have hoff := hne.off H.out; have hbk := hne.bk; have kW := (Keep.refl [] wc).alloc (.cells (ansC a.st (.slice sa sl sc) a.len a.ch a.cl).toArray 30); have nW := Blk.newA wc (ansC a.st (.slice sa sl sc) a.len a.ch a.cl).toArray 30; have hp5' := hne.it.lt; have RNG := Lib.hid hb.range'; generalize hwW : wc.alloc (.cells (ansC a.st (.slice sa sl sc) a.len a.ch a.cl).toArray 30) = wW at kW nW; have iW := hne.it.keep0 kW; have d9 : wW.cell? ⟨p, 9, Option.none⟩ = some (.pointer (some ⟨ab, 0, Option.none⟩)) := kW.load c9; have g9 := iW.free 9; have kP := (Keep.refl [p] wW).setCell ⟨p, 9, Option.none⟩ (.pointer Option.none) (by simp); have hnep : wc.heap.size ≠ p := by omega
    have nP := kP.blk (show Blk wW wc.heap.size 30 (ansC a.st (.slice sa sl sc) a.len a.ch a.cl) from nW) (by simpa using hnep); have iP := re_unans iW; have HNP := Lib.hid ((hne.step H.out (kW.mono (S' := X1) (by simp)) iW (fun x hx => .inl hx) (fun x hx => .inl hx)).step H.out (iW.keepX kP) iP (fun x hx => .inl hx) (fun x hx => .inl hx)); have kD := (Keep.refl [] (wW.setCell ⟨p, 9, Option.none⟩ (.pointer Option.none))).drew; have HND := Lib.hid (HNP.out.step H.out (kD.mono (S' := X1) (by simp)) (HNP.out.it.keep0 kD) (fun x hx => .inl hx) (fun x hx => .inl hx)); have HT := Lib.hid (HND.out.bk.there' 0 5 (by simp [ansZ, ansC])); have hload := ans_back (st := a.st) (v := .slice sa sl sc) (len := a.len) (ch := a.ch) (cl := a.cl) HT.out; have HLd := Lib.hid hload; have OP := (ho.keep0 kW).keep kP (fun g hg => by simp; rintro rfl; exact (hne.it.ro _ (hgr _ hg)).2.2 hne.it.mem); have HF := Lib.hid ((HND.out.fin H.out rfl 1 a (.slice sa sl sc) [] (OP.keep0 kD) (fun g hg => ⟨hne.nr g (hgr g hg), (hne.it.ro g (hgr g hg)).2.2⟩)).of hN); have HS1 := Lib.hid (ansC_one a.st (v := .slice sa sl sc) a.len a.ch a.cl rfl); have ST := Lib.hid (ans_st a.st (v := .slice sa sl sc) a.len a.ch a.cl rfl); have nD := kD.blk nP (by simp); have RP := Lib.hid nD.range'; have hneq : wc.heap.size ≠ w.heap.size := by have := hne.bk.lt; omega
    have kS : Keep [w.heap.size] (wW.setCell ⟨p, 9, Option.none⟩ (.pointer Option.none)).drew ((wW.setCell ⟨p, 9, Option.none⟩ (.pointer Option.none)).drew.setCells w.heap.size 0 (ansC a.st (.slice sa sl sc) a.len a.ch a.cl)) := Keep.setCells' (S := [w.heap.size]) _ (by simp) _ _ _ (Keep.refl _ _); have RP2 := Lib.hid (kS.blk nD (by simpa using hneq)).range'; clear kS kD nD hload ho hgr hab hoff hbk kW nW iW kP nP iP OP hp5 hp5' hb hqa hN hne
    go_wp2_with (first | ((with_reducible refine gM 28 ?_); refine wpList_load_mid rfl 30 (.tmp 28) rfl ab 0 (by rfl) (ansC a.st (.slice sa sl sc) a.len a.ch a.cl) _ RNG.out Tryz.underlying30 rfl ans_size ?_; try simp only [Act.put, sqA, sqB, sqC]) | ((with_reducible refine gS 5 29 ?_); refine wpList_store_fresh rfl 30 (.tmp 5) (.tmp 29) rfl _ (ansC a.st (.slice sa sl sc) a.len a.ch a.cl) (by rfl) (by rfl) ans_size (by rfl) HS1.out ?_; rw [hwW]; try simp only [Act.put]) | fail); refine wp_region_noPanic ?_; refine wp_region_held_drew (S := fun w' => w'.rangeAt wc.heap.size 0 (ansC a.st (.slice sa sl sc) a.len a.ch a.cl)) (by kernel_rfl) RP.out (fun hHeld => ?_); refine gU 0 (oi := ⟨some 33, .load _ (.tmp 5), _, _, _, none⟩) rfl (yieldsIf_load_mid (by rfl) 30 (.tmp 5) rfl wc.heap.size 0 rfl (ansC a.st (.slice sa sl sc) a.len a.ch a.cl) _ (fun _ h => h) Tryz.underlying30 rfl ans_size) (by assumption) ?_; (try simp only [Act.put, sqA, sqC, sqB]); refine gU 1 (oi := ⟨some 2, .assign _, _, _, _, none⟩) (v := ?_) rfl (Or.inl ⟨by rfl, ?_⟩) (by assumption) ?_; rotate_left
    · (intro w' hSw; go_simp) <;> (with_reducible rfl)
    (try simp only [Act.put, sqA, sqC, sqB]); refine wpAnyH_ready (rs := [2]) (by kernel_rfl) (by simp) ?_; refine AllReadyH.cons (o := ⟨none, .store _ (.tmp 3) (.tmp 33), _, _, _, none⟩) rfl (fun K hK => ?_) AllReadyH.nil; rw [if_pos (by rfl)]; refine wp_store_mid 30 (.tmp 3) (.tmp 33) rfl w.heap.size 0 (ansC a.st (.slice sa sl sc) a.len a.ch a.cl).toArray (by rfl) (by first | rfl | kernel_rfl) HT.out ST.out.1 ST.out.2 ?_; refine hK.out _ _ RP2.out (fun hHeld2 => ?_); clear hK K hHeld; (try simp only [Act.put]); refine gU 3 (oi := ⟨some 4, .assign _, _, _, _, none⟩) (v := ?_) rfl (Or.inl ⟨by rfl, ?_⟩) (by assumption) ?_; rotate_left
    · (intro w' hSw; go_simp) <;> (with_reducible rfl)
    (try simp only [Act.put, sqA, sqC, sqB]); refine wpAnyH_done (by kernel_rfl) ?_ _; refine NoPanic.normal ?_; go_wp2_with fail; refine bodyPost_ret (v := .tuple #[.int .i64 1, .agg (ansC a.st (.slice sa sl sc) a.len a.ch a.cl).toArray, .string (S [])]) (by have hl := HLd.out; simp [results, Tryz.results102, asAddr, Result.andThen, hl]; rfl) rfl HF.out
  | none =>
    rw [hqa] at hN; dsimp only at hN; have c9 := re_noAns hne.it hqa; obtain ⟨_, _, c2, _, c4, _⟩ := hne.it.at_; by_cases hd : Q.dat = []
    · rw [if_neg (by simp [hd])] at hN; replace c4 : wc.cell? ⟨p, 4, Option.none⟩ = some (.string ⟨#[]⟩) := by rw [hd] at c4; exact c4
      have HR := Lib.hid (reply_finish hne.it hp5)
      have ha2 : (reFinish Q).1.ans = none := by
        rw [← hqa]; unfold reFinish
        split
        · rfl
        · split <;> rfl
      have HA2 := Lib.hid ha2; have HNN := Lib.hid hN; clear hp5 hd hqa hN hne ha2; go_wp2_with fail; refine HR.out.mono ?_; rintro e w2 ⟨rfl, h2, k2⟩; have HNP := Lib.hid (HNE.out.step H.out (HNE.out.it.keepX k2) h2 (fun x hx => .inl hx) (fun x hx => .inl hx)); have HT := Lib.hid (HNP.out.bk.there' 0 5 (by simp [ansZ, ansC])); have HLd := Lib.hid (ansZ_back HT.out); have HF := Lib.hid ((HNP.out.fin0 H.out HA2.out (reFinish Q).2 []).of HNN.out); clear h2 k2
      go_wp2_with (first | ((with_reducible refine gS 3 51 ?_); refine wpList_store_mid rfl 30 (.tmp 3) (.tmp 51) rfl w.heap.size 0 ansZ.toArray (by rfl) (by first | rfl | kernel_rfl) HT.out ZST.out.1 ZST.out.2 ?_; try simp only [Act.put]) | fail); refine bodyPost_ret (v := .tuple #[.int .i64 (reFinish Q).2, .agg ansZ.toArray, .string (S [])]) (by have hl := HLd.out; simp [results, Tryz.results102, asAddr, Result.andThen, hl]; rfl) rfl HF.out
    · rw [if_pos hd] at hN; have tl := S_toList Q.dat; have te : Q.dat.isEmpty = false := by simpa [List.isEmpty_iff] using hd
      have te2 : (Q.dat == []) = false := by simpa using hd
      have f4 := hne.it.free 4; have hs := hne.it.set (P' := { Q with dat := [] }) 4 (.string ⟨#[]⟩) (fun _ _ => rfl) rfl rfl; have HNP := Lib.hid (hne.step H.out (hne.it.keepX ((Keep.refl [p] _).setCell ⟨p, 4, Option.none⟩ (.string ⟨#[]⟩) (by simp))) hs (fun x hx => .inl hx) (fun x hx => .inl hx)); have HT := Lib.hid (HNP.out.bk.there' 0 5 (by simp [ansZ, ansC])); have HLd := Lib.hid (ansZ_back HT.out); have HF := Lib.hid ((HNP.out.fin0 H.out hqa 2 Q.dat).of (hN.trans (by rw [hqa]))); clear hp5 hd hqa hN hne hs
      go_wp2_with (first | ((with_reducible refine gS 3 47 ?_); refine wpList_store_mid rfl 30 (.tmp 3) (.tmp 47) rfl w.heap.size 0 ansZ.toArray (by rfl) (by first | rfl | kernel_rfl) HT.out ZST.out.1 ZST.out.2 ?_; try simp only [Act.put]) | fail); refine bodyPost_ret (v := .tuple #[.int .i64 2, .agg ansZ.toArray, .string (S Q.dat)]) (by have hl := HLd.out; simp [results, Tryz.results102, asAddr, Result.andThen, hl]) rfl HF.out
end Go.Proofs.YtlhnjkekjbbhcaaGreatDoor
