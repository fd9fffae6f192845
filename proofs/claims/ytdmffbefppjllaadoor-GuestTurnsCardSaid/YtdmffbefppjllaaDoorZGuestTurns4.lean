/- Parts of the proof of GuestTurns, in order. No conditions but those that each theorem states. -/
import Derived.Test.YtdmffbefppjllaaDoorZGuestTurns3
import Derived.Deep.LoopGhost
import Derived.DeepKeys4
/- Layer 12: fail, Next. No conditions but on lengths. -/
namespace Go.Proofs.YtdmffbefppjllaaDoor
open Go.RowKit Go.Shelf

theorem reqC_len (m t : List UInt8) (v : Value) (cl : Bool) : (reqC m t v cl).length = 4 := rfl
theorem req_size : (Tryd.prog.info? 44).map (·.size) = some 4 := by kernel_rfl
theorem req_st (m t : List UInt8) {v : Value} (cl : Bool) (hv : v.oneCell' = true) : (Tryd.prog.info? 44).map (·.size) = some (reqC m t v cl).toArray.size ∧ (reqC m t v cl).toArray.all (·.oneCell') = true :=
  ⟨req_size, by simp [reqC, hv]; exact ⟨rfl, rfl, rfl⟩⟩
theorem req_load {w : World} {b : Nat} {m t : List UInt8} {v : Value} {cl : Bool} (h : w.rangeAt b 0 (reqC m t v cl)) : (loadVar 44 ⟨b, 0, none⟩).run Tryd.prog w = .ok (.agg (reqC m t v cl).toArray) w :=
  run_loadVar_mid (P := Tryd.prog) w b 0 44 (reqC m t v cl) _ h Tryd.underlying44 rfl req_size
def reqZ : List Value := reqC [] [] (.slice none 0 0) false
theorem req_back {w : World} {b : Nat} {m t : List UInt8} {v : Value} {cl : Bool} (h : w.there b 0 4) : (loadVar 44 ⟨b, 0, none⟩).run Tryd.prog (w.setCells b 0 (reqC m t v cl)) = .ok (.agg (reqC m t v cl).toArray) (w.setCells b 0 (reqC m t v cl)) := req_load (World.rangeAt_setCells_same _ b 0 (reqC m t v cl) h)
theorem reqZ_back {w : World} {b : Nat} (h : w.there b 0 4) : (loadVar 44 ⟨b, 0, none⟩).run Tryd.prog (w.setCells b 0 reqZ) = .ok (.agg reqZ.toArray) (w.setCells b 0 reqZ) := req_back h
theorem own_one {α : Type} {enc : α → List Value} {n B : Nat} {E : TypeId} {w : World} {v : Value} {L : List α} (h : Own enc n B E w v L) : v.oneCell' = true := by
  obtain ⟨a, cap, rfl, _⟩ := h.shape
  rfl
set_option maxRecDepth 100000 in
set_option maxHeartbeats 2000000 in
theorem inlet_fail {B p : Nat} {X R : List Nat} {I : InS} {w : World} (s : Int) (h : It B w p X R I) :
    Calls Tryd.prog 44 #[.pointer (some ⟨p, 0, none⟩), .int .i64 s] w fun e w' => e = .returned (.tuple #[.agg reqZ.toArray, .int .i64 s]) ∧ It B w' p X R { I with st := s } ∧ Keep [p] w w' := by
  have kA := (Keep.refl [] w).alloc (.cells reqZ.toArray 44)
  have bA := Blk.newA w reqZ.toArray 44
  have hne : w.heap.size ≠ p := by have := h.lt; omega
  have zst := req_st [] [] (v := .slice none 0 0) false rfl
  have H := Lib.hid h
  generalize hwA : w.alloc (.cells #[.string ⟨#[]⟩, .string ⟨#[]⟩, .slice none 0 0, .bool false] 44) = wA
  have hwA' : w.alloc (.cells reqZ.toArray 44) = wA := hwA
  rw [hwA'] at kA bA
  have hA := h.keep0 kA
  obtain ⟨_, _, _, c5⟩ := hA.at_
  have f5 := hA.free 5
  have hS := hA.set (I' := { I with st := s }) 5 (.int .i64 s) (fun _ _ => rfl) rfl rfl
  have kS := (kA.mono (S' := [p]) (by simp)).setCell ⟨p, 5, none⟩ (.int .i64 s) (by simp)
  have bS := (show Blk wA w.heap.size 44 reqZ from bA).setOther (a := ⟨p, 5, none⟩) (by simpa using hne) (.int .i64 s)
  have hT := bS.there' 0 4 (by simp [reqZ, reqC])
  have hload := reqZ_back hT
  have hlt : w.heap.size < (wA.setCell ⟨p, 5, none⟩ (.int .i64 s)).heap.size := bS.lt
  have HX := Lib.hid (And.intro hS (And.intro kS hload))
  have HT := Lib.hid hT
  have ZST := Lib.hid zst
  clear h kA bA hA hS kS bS hT hload hwA' zst
  go_enter Tryd.func44, Tryd.ntmps44
  go_wp2_with (first
    | (refine wpList_store_mid rfl 44 (.tmp 4) (.tmp 10) rfl w.heap.size 0 reqZ.toArray (by rfl) (by first | rfl | kernel_rfl) HT.out ZST.out.1 ZST.out.2 ?_
       try simp only [Act.put])
    | fail)
  refine bodyPost_ret (v := .tuple #[.agg reqZ.toArray, .int .i64 s]) (by have hl := HX.out.2.2; simp [Act.put, results, Tryd.results44, asAddr, Result.andThen, hl]) rfl ⟨rfl, ?_, ?_⟩
  · exact HX.out.1.keep (Keep.setCells' (S := [w.heap.size]) _ (by simp) _ _ _ (Keep.refl _ _)) (fun x hx => by have := (H.out.lo x hx).2; simp; omega) (fun x hx => by have := (H.out.ro x hx).2.1; simp; omega)
  · exact Keep.setCells' _ (fun hh => absurd hh (by omega)) _ _ _ HX.out.2.1

theorem wpList_store_fresh {P : Program} {ops : Array Oper} {rest : List Oper} {op : Oper} {a : Act} {w : World} {Q : Exit → Act → World → Prop} (hgd : op.guard = none) (ty : TypeId) (x y : Operand) (ho : op.op = .store ty x y)
    (Z : Array Value) (cells : List Value) (hx : a.eval x = .pointer (some ⟨w.heap.size, 0, none⟩)) (hy : a.eval y = .agg cells.toArray) (hi : (P.info? ty).map (·.size) = some cells.length) (hz : Z.size = cells.length)
    (h1 : ∀ v ∈ cells, v.oneCell' = true) (h : wpList P ops Q rest (a.put op.dst undef) (w.alloc (.cells cells.toArray ty))) : wpList P ops Q (op :: rest) a (w.alloc (.cells Z ty)) :=
  wpList_plain hgd fun _ hK => by
    unfold Oper.wp execOp
    simp only [ho, hx, hy, Instr.storeAt, Instr.sureAddr, Sem.run_bind, Sem.run_pure, Result.andThen_ok, run_storeVar_new (P := P) w ty Z cells.toArray (by simpa using hi) (by simpa using hz) (all_oneCell_toArray h1)]
    exact hK _ _ h
theorem reqC_one (m t : List UInt8) {v : Value} (cl : Bool) (hv : v.oneCell' = true) : ∀ x ∈ reqC m t v cl, x.oneCell' = true := by
  intro x hx
  simp [reqC] at hx
  rcases hx with rfl | rfl | rfl | rfl
  · rfl
  · rfl
  · exact hv
  · rfl

/-- Next under way: nb: the result's block -/
structure NxS (B : Nat) (w : World) (p : Nat) (X R : List Nat) (wt : World) (X1 R1 : List Nat) (J : InS) : Prop where
  it : It B wt p X1 R1 J
  kp : Keep X w wt
  nx : ∀ x ∈ X1, x ∈ X ∨ w.heap.size < x
  nr : ∀ x ∈ R1, x ∈ R ∨ w.heap.size < x
  bk : Blk wt w.heap.size 44 reqZ
theorem NxS.off {B p : Nat} {w wt : World} {X R X1 R1 : List Nat} {I J : InS} (h : NxS B w p X R wt X1 R1 J) (h0 : It B w p X R I) : w.heap.size ∉ X1 ∧ w.heap.size ∉ R1 :=
  ⟨fun hh => by rcases h.nx _ hh with h1 | h1; (have := (h0.lo _ h1).2; omega); omega, fun hh => by rcases h.nr _ hh with h1 | h1; (have := (h0.ro _ h1).2.1; omega); omega⟩
theorem NxS.step {B p : Nat} {w wt w2 : World} {X R X1 R1 X2 R2 : List Nat} {I J J2 : InS} (h : NxS B w p X R wt X1 R1 J) (h0 : It B w p X R I) (k : Keep X1 wt w2) (hi : It B w2 p X2 R2 J2)
    (hX : ∀ x ∈ X2, x ∈ X1 ∨ wt.heap.size ≤ x) (hR : ∀ x ∈ R2, x ∈ R1 ∨ wt.heap.size ≤ x) : NxS B w p X R w2 X2 R2 J2 := by
  have hl := h.bk.lt
  refine ⟨hi, h.kp.trans' k (fun x hx hlt => (h.nx x hx).elim id (fun hh => by omega)), fun x hx => ?_, fun x hx => ?_, k.blk h.bk (h.off h0).1⟩
  · rcases hX x hx with h1 | h1
    · exact h.nx x h1
    · exact .inr (by omega)
  · rcases hR x hx with h1 | h1
    · exact h.nr x h1
    · exact .inr (by omega)
/-- what Next comes to -/
def NextOut (B : Nat) (w : World) (p : Nat) (X R : List Nat) (r : NxR) (e : Ending) (w' : World) : Prop :=
  ∃ v X' R', e = .returned (.tuple #[.agg (reqC r.q.m r.q.t v r.q.cl).toArray, .int .i64 r.s]) ∧ It B w' p X' R' r.p ∧ Keep X w w' ∧ (∀ x ∈ X', x ∈ X ∨ w.heap.size ≤ x) ∧ (∀ x ∈ R', x ∈ R ∨ w.heap.size ≤ x) ∧ Own Fld.cells 2 B 69 w' v r.q.F ∧ ∀ g, v.ownBlock = some g → (g ∈ R ∨ w.heap.size ≤ g) ∧ g ∉ X'
theorem NextOut.of {B p : Nat} {w w' : World} {X R : List Nat} {r r' : NxR} {e : Ending} (h : NextOut B w p X R r e w') (hr : r' = r) : NextOut B w p X R r' e w' := hr ▸ h
theorem NxS.fin {B p : Nat} {w wt : World} {X R X1 R1 : List Nat} {I J : InS} (h : NxS B w p X R wt X1 R1 J) (h0 : It B w p X R I) (q : Req) (v : Value) (s : Int) (ho : Own Fld.cells 2 B 69 wt v q.F) (hg : ∀ g, v.ownBlock = some g → (g ∈ R ∨ w.heap.size < g) ∧ g ∉ X1) :
    NextOut B w p X R ⟨J, q, s⟩ (.returned (.tuple #[.agg (reqC q.m q.t v q.cl).toArray, .int .i64 s])) (wt.setCells w.heap.size 0 (reqC q.m q.t v q.cl)) := by
  have k : Keep [w.heap.size] wt (wt.setCells w.heap.size 0 (reqC q.m q.t v q.cl)) := Keep.setCells' (S := [w.heap.size]) _ (by simp) _ _ _ (Keep.refl _ _)
  obtain ⟨o1, o2⟩ := h.off h0
  refine ⟨v, X1, R1, rfl, h.it.keep k (fun x hx => by simp; rintro rfl; exact o1 hx) (fun x hx => by simp; rintro rfl; exact o2 hx), h.kp.trans' k (fun x hx hlt => by simp at hx; omega), fun x hx => (h.nx x hx).imp id (fun hh => by omega), fun x hx => (h.nr x hx).imp id (fun hh => by omega), ho.keep k (fun g hh => ?_), fun g hh => ⟨(hg g hh).1.imp id (fun hh => by omega), (hg g hh).2⟩⟩
  simp only [List.mem_singleton]
  rintro rfl
  rcases (hg _ hh).1 with h1 | h1
  · have := (h0.ro _ h1).2.1; omega
  · omega
theorem NxS.fin0 {B p : Nat} {w wt : World} {X R X1 R1 : List Nat} {I J : InS} (h : NxS B w p X R wt X1 R1 J) (h0 : It B w p X R I) (s : Int) :
    NextOut B w p X R ⟨J, req0, s⟩ (.returned (.tuple #[.agg reqZ.toArray, .int .i64 s])) (wt.setCells w.heap.size 0 reqZ) := h.fin h0 req0 (.slice none 0 0) s (Own.nil _ _ _ _ _) (by simp [Value.ownBlock])
/-- the request goes out of the inlet -/
theorem it_unreq {B p : Nat} {w : World} {X R : List Nat} {I : InS} (h : It B w p X R I) : It B ((w.setCell ⟨p, 2, none⟩ (.pointer none)).setCell ⟨p, 1, none⟩ (.int .i64 0)) p X [] { I with req := none, held := 0 } := by
  obtain ⟨⟨rv, cv, b1, b2, b3⟩, h4, h5, h6⟩ := h
  have hk : Keep [p] w ((w.setCell ⟨p, 2, none⟩ (.pointer none)).setCell ⟨p, 1, none⟩ (.int .i64 0)) := ((Keep.refl _ _).setCell _ _ (by simp)).setCell _ _ (by simp)
  exact ⟨⟨.pointer none, cv, (b1.set 2 (.pointer none)).set 1 (.int .i64 0), b2.keep hk (fun y _ hy => by simpa using hy), rfl⟩, h4, fun y hy => ⟨(h5 y hy).1, Nat.lt_of_lt_of_le (h5 y hy).2 hk.size⟩, by simp⟩
theorem it_req {B p : Nat} {w : World} {X R : List Nat} {I : InS} {q : Req} (h : It B w p X R I) (hq : I.req = some q) : ∃ rb a l c, w.cell? ⟨p, 2, none⟩ = some (.pointer (some ⟨rb, 0, none⟩)) ∧ Blk w rb 44 (reqC q.m q.t (.slice a l c) q.cl) ∧ Own Fld.cells 2 B 69 w (.slice a l c) q.F ∧ (∀ g, (Value.slice a l c).ownBlock = some g → g ∈ R) ∧ rb ∈ R := by
  obtain ⟨⟨rv, cv, b1, b2, b3⟩, h4, h5, h6⟩ := h
  rw [hq] at b3
  obtain ⟨rb, v, rfl, g1, g2, g3, g4⟩ := b3
  obtain ⟨a, c, rfl, _⟩ := g3.shape
  exact ⟨rb, a, _, c, b1.get (k := 2) rfl, g2, g3, g4, g1⟩
theorem it_noReq {B p : Nat} {w : World} {X R : List Nat} {I : InS} (h : It B w p X R I) (hq : I.req = none) : w.cell? ⟨p, 2, none⟩ = some (.pointer none) := by
  obtain ⟨⟨rv, cv, b1, b2, b3⟩, h4, h5, h6⟩ := h
  rw [hq] at b3
  have : rv = .pointer none := b3
  subst this
  exact b1.get (k := 2) rfl
theorem body_req (J : InS) : (bodyB J).p.req = J.req ∧ (bodyB J).p.st = J.st := by
  unfold bodyB
  cases J.chk with
  | none => exact ⟨rfl, rfl⟩
  | some c => dsimp only; split; exact ⟨rfl, rfl⟩; split <;> exact ⟨rfl, rfl⟩
end Go.Proofs.YtdmffbefppjllaaDoor

/- Layer 12, plain laws: what holds of an inlet at any time. No program. No conditions but those that each theorem states. -/
namespace Go.Proofs.YtdmffbefppjllaaDoor
open Go.RowKit

theorem frame_max (L : List Fld) : (frameM L 4096).e = 0 → (frameM L 4096).n ≤ 4096 := by
  unfold frameM
  split
  · intro h; simp at h
  · split
    · split
      · intro _; simp
      · intro h; simp at h
    · split
      · intro _; simp
      · have hu := undec_range (getV L nCL) 4096
        intro h
        simp only at h ⊢
        by_cases h0 : undecE (getV L nCL) 4096 = 0
        · exact (hu.1 h0).2
        · rcases (hu.2 h0).2 with h1 | h1 <;> rw [h1] at h <;> simp at h
theorem frame_e (L : List Fld) (m : Int) : (frameM L m).e = 0 ∨ (frameM L m).e = 3 ∨ (frameM L m).e = 4 := by
  unfold frameM
  split
  · simp
  · split
    · split <;> simp
    · split
      · simp
      · have hu := undec_range (getV L nCL) m
        simp only
        by_cases h0 : undecE (getV L nCL) m = 0
        · left; rw [h0]; simp
        · rcases (hu.2 h0).2 with h1 | h1 <;> rw [h1] <;> simp
theorem head_bounds (l : List UInt8) : ((headM l).got = true → (headM l).s = 0) ∧ ((headM l).got = true → (headM l).n ≤ l.length) ∧ ((headM l).got = true → (headM l).skip ≤ 4096) ∧ ((headM l).got = true → 2 ≤ (headM l).n) := by
  have hn := (split_small l).2.2
  have hp := split_pos l
  have hf := frame_max (splitM l).F
  unfold headM
  split
  · exact ⟨fun h => (by cases h), fun h => (by cases h), fun h => (by cases h), fun h => (by cases h)⟩
  rename_i h1
  split
  · exact ⟨fun h => (by cases h), fun h => (by cases h), fun h => (by cases h), fun h => (by cases h)⟩
  split
  · exact ⟨fun h => (by cases h), fun h => (by cases h), fun h => (by cases h), fun h => (by cases h)⟩
  split
  · exact ⟨fun h => (by cases h), fun h => (by cases h), fun h => (by cases h), fun h => (by cases h)⟩
  · rename_i h4
    have h5 := hf (by simpa using h4)
    exact ⟨fun _ => rfl, fun _ => hn, fun _ => by simp only; omega, fun _ => hp (by simpa using h1)⟩
theorem head_ne200 (l : List UInt8) : (headM l).s ≠ 200 := by
  unfold headM
  have ht : ∀ e long : Int, long ≠ 200 → toldE e long ≠ 200 := fun e long h => by unfold toldE; split; (simp); split; (exact h); simp
  split
  · exact ht _ _ (by decide)
  split
  · rename_i h; exact h
  split
  · simp [hr0]
  split
  · exact ht _ _ (by decide)
  · simp
theorem addC_sound {c : Ck} (s : List UInt8) (h : c.err = 0 → c.ok) (hs : c.st ≤ 4) : (addC c s).most = c.most ∧ (addC c s).inp.length + (addC c s).dat.length ≤ c.inp.length + c.dat.length + s.length ∧ (addC c s).st ≤ 4 ∧ ((addC c s).err = 0 → (addC c s).ok) := by
  have hr := addC_R (s := s) h
  unfold AddR at hr
  by_cases h0 : c.err = 0
  · rw [if_neg (by simp [h0])] at hr
    obtain ⟨d, e, hr, hc⟩ := hr
    have ho := runs_ok hr (add_ok (h h0) s)
    have hst := runs_st hr (show (c.add s).st ≤ 4 from hs)
    have hl := ho.2.2.2.1
    simp only [Ck.add, List.length_append] at hl
    rw [hc]
    refine ⟨ho.2.1, by simp only; omega, hst.1, fun he => ?_⟩
    simp only at he
    split at he
    · rename_i h17; exact ho.1 h17
    · exact absurd he (runs_ne hr)
  · rw [if_pos h0] at hr
    rw [hr]
    exact ⟨rfl, by omega, hs, h⟩
theorem next_hst {I : InS} (h : I.ok) : ∀ J c, J = I ∨ J = headed I (headM I.inp) → J.chk = some c → (addC c J.inp).st ≤ 4 ∧ (c.err = 0 → c.ok) := by
  intro J c hJ hc
  have key : (c.err = 0 → c.ok) ∧ c.st ≤ 4 := by
    rcases hJ with rfl | rfl
    · have := h.chk c hc; exact ⟨this.1, this.2.2.2⟩
    · have h2 : (if (headM I.inp).ch then some (ck0 4096) else I.chk) = some c := hc
      split at h2
      · cases h2; exact ⟨fun _ => ck0_ok _, by simp [ck0]⟩
      · have := h.chk c h2; exact ⟨this.1, this.2.2.2⟩
  exact ⟨(addC_sound _ key.1 key.2).2.2.1, key.1⟩
theorem in0_ok : in0.ok := ⟨by simp [in0], by simp [in0], by simp [in0], by simp [in0], by simp [in0], by simp [in0]⟩
theorem inAdd_ok {I : InS} (h : I.ok) (s : List UInt8) : (inAdd I s).1.ok := by
  unfold inAdd
  split
  · exact h
  · split
    · exact h
    · rename_i h1 h2
      have : I.left = I.inp.length + I.held := rfl
      exact ⟨by simp only [List.length_append]; omega, h.skp, h.chk, h.req, h.bad, h.hld⟩
theorem told_ne {e long : Int} (h : e ≠ 0) (h17 : e ≠ 17) (hl : long ≠ 0) : toldE e long ≠ 0 := by
  unfold toldE
  rw [if_neg (by omega)]
  split <;> omega
theorem addC_ne17 {c : Ck} (s : List UInt8) (h : c.err ≠ 17) : (addC c s).err ≠ 17 := by
  unfold addC
  split
  · exact h
  · simp only; split <;> omega
theorem toldE_ne {e : Int} (h : toldE e 413 = 0) : e = 0 ∨ e = 17 := by
  unfold toldE at h
  split at h
  · assumption
  · split at h <;> simp at h
theorem tail_none {p : InS} (q : Req) (hc : p.chk = none) (h : p.skip ≤ p.inp.length) : tailI p q = ⟨{ p with inp := p.inp.drop p.skip, held := 0, skip := 0, req := none }, q, 200⟩ := by
  have hb : bodyB p = ⟨{ p with inp := p.inp.drop p.skip, held := p.held + p.skip, skip := 0 }, true, 0⟩ := by
    unfold bodyB
    rw [hc]
    dsimp only
    rw [Nat.min_eq_left h, Nat.sub_self]
    rfl
  unfold tailI
  rw [hb]
  rfl
theorem tail_none' {p : InS} (q : Req) (hc : p.chk = none) (h : p.inp.length < p.skip) : tailI p q = ⟨{ p with inp := [], held := p.held + p.inp.length, skip := p.skip - p.inp.length }, req0, 0⟩ := by
  have hb : bodyB p = ⟨{ p with inp := [], held := p.held + p.inp.length, skip := p.skip - p.inp.length }, false, 0⟩ := by
    unfold bodyB
    rw [hc]
    dsimp only
    rw [Nat.min_eq_right (by omega), List.drop_length, decide_eq_false (by omega)]
  unfold tailI
  rw [hb]
  rfl
theorem tail_bad {p : InS} {c : Ck} (q : Req) (hc : p.chk = some c) (he : (addC c p.inp).err ≠ 0) (h17 : (addC c p.inp).err ≠ 17) :
    tailI p q = ⟨{ p with inp := [], held := p.held + p.inp.length, chk := some (addC c p.inp), st := toldE (addC c p.inp).err 413 }, req0, toldE (addC c p.inp).err 413⟩ := by
  have hb : bodyB p = ⟨{ p with inp := [], held := p.held + p.inp.length, chk := some (addC c p.inp) }, false, toldE (addC c p.inp).err 413⟩ := by
    unfold bodyB
    rw [hc]
    dsimp only
    rw [if_pos he]
  unfold tailI
  rw [hb]
  dsimp only
  rw [if_pos (told_ne he h17 (by decide))]
theorem tail_more {p : InS} {c : Ck} (q : Req) (hc : p.chk = some c) (he : (addC c p.inp).err = 0) (h4 : (addC c p.inp).st ≠ 4) :
    tailI p q = ⟨{ p with inp := [], held := p.held + p.inp.length, chk := some (addC c p.inp) }, req0, 0⟩ := by
  have hb : bodyB p = ⟨{ p with inp := [], held := p.held + p.inp.length, chk := some (addC c p.inp) }, false, 0⟩ := by
    unfold bodyB
    rw [hc]
    dsimp only
    rw [if_neg (by simp [he]), if_pos h4]
  unfold tailI
  rw [hb]
  rfl
theorem tail_done {p : InS} {c : Ck} (q : Req) (hc : p.chk = some c) (he : (addC c p.inp).err = 0) (h4 : (addC c p.inp).st = 4) :
    tailI p q = ⟨{ p with inp := (addC c p.inp).inp, held := 0, chk := none, req := none }, q, 200⟩ := by
  have hb : bodyB p = ⟨{ p with inp := (addC c p.inp).inp, held := p.held + p.inp.length, chk := none }, true, 0⟩ := by
    unfold bodyB
    rw [hc]
    dsimp only
    rw [if_neg (by simp [he]), if_neg (by simp [h4])]
  unfold tailI
  rw [hb]
  rfl
/-- a body's piece keeps what holds -/
theorem tail_ok {p : InS} (q : Req) (h : p.ok) (hq : p.req ≠ none) (h0 : p.st = 0) : (tailI p q).p.ok := by
  have hl := h.len
  have hs := h.skp
  cases hc : p.chk with
  | none =>
    rcases Nat.lt_or_ge p.inp.length p.skip with hlt | hge
    · rw [tail_none' q hc hlt]
      exact ⟨by simp only [List.length_nil]; omega, by simp only; omega, fun c hh => absurd (hc.symm.trans hh) (by simp), fun _ hh => absurd hh hq, fun c _ hh => absurd (hc.symm.trans hh) (by simp), fun _ _ => by have := h.hld h0 hq; simp only; omega⟩
    · rw [tail_none q hc hge]
      exact ⟨by simp only [List.length_drop]; omega, by simp only; omega, fun c hh => absurd (hc.symm.trans hh) (by simp), fun _ _ => ⟨hc, rfl⟩, fun c _ hh => absurd (hc.symm.trans hh) (by simp), fun _ hh => absurd rfl hh⟩
  | some c =>
    obtain ⟨k1, k2, k3, k4⟩ := h.chk c hc
    have ke := h.bad c h0 hc
    obtain ⟨d1, d2, d3, d4⟩ := addC_sound p.inp k1 k4
    have d5 := addC_ne17 (c := c) p.inp (by rw [ke]; decide)
    by_cases e1 : (addC c p.inp).err = 0
    · by_cases e2 : (addC c p.inp).st = 4
      · rw [tail_done q hc e1 e2]
        exact ⟨by simp only; omega, hs, fun c hh => by simp at hh, fun _ _ => ⟨rfl, rfl⟩, fun c _ hh => by simp at hh, fun _ hh => absurd rfl hh⟩
      · rw [tail_more q hc e1 e2]
        refine ⟨by simp only [List.length_nil]; omega, hs, fun c' hh => ?_, fun _ hh => absurd hh hq, fun c' _ hh => ?_, fun _ _ => by have := h.hld h0 hq; simp only; omega⟩
        · obtain rfl : addC c p.inp = c' := by simpa using hh
          exact ⟨d4, by rw [d1]; exact k2, by simp only; omega, d3⟩
        · obtain rfl : addC c p.inp = c' := by simpa using hh
          exact e1
    · have ht := told_ne (long := 413) e1 d5 (by decide)
      rw [tail_bad q hc e1 d5]
      refine ⟨by simp only [List.length_nil]; omega, hs, fun c' hh => ?_, fun hh => absurd hh ht, fun c' hh => absurd hh ht, fun hh => absurd hh ht⟩
      obtain rfl : addC c p.inp = c' := by simpa using hh
      exact ⟨d4, by rw [d1]; exact k2, by simp only; omega, d3⟩
theorem headed_ok {p : InS} (h : p.ok) (h0 : p.st = 0) (hr : p.req = none) (hg : (headM p.inp).got = true) : (headed p (headM p.inp)).ok := by
  obtain ⟨b1, b2, b3, b4⟩ := head_bounds p.inp
  have b4 := b4 hg
  have b2 := b2 hg
  have b3 := b3 hg
  have hl := h.len
  have hc := (h.req h0 hr).1
  generalize headM p.inp = hd at *
  have hk : ∀ c, (headed p hd).chk = some c → c = ck0 4096 := fun c hh => by
    have h2 : (if hd.ch then some (ck0 4096) else p.chk) = some c := hh
    rw [hc] at h2
    split at h2
    · cases h2; rfl
    · cases h2
  refine ⟨?_, b3, fun c hh => ?_, fun _ hh => (by cases hh), fun c _ hh => ?_, fun _ _ => b4⟩
  · show (p.inp.drop hd.n).length + hd.n ≤ 16384
    rw [List.length_drop]; omega
  · rw [hk c hh]
    exact ⟨fun _ => ck0_ok _, rfl, b4, by simp [ck0]⟩
  · rw [hk c hh]; rfl
theorem next_ok {p : InS} (h : p.ok) : (nextI p).p.ok := by
  unfold nextI
  by_cases h0 : p.st = 0
  · rw [if_neg (by simp [h0])]
    cases hr : p.req with
    | some q => exact tail_ok q h (by rw [hr]; simp) h0
    | none =>
      dsimp only
      by_cases hs : (headM p.inp).s = 0
      · rw [if_neg (by simp [hs])]
        cases hg : (headM p.inp).got with
        | false => exact h
        | true => exact tail_ok _ (headed_ok h h0 hr hg) (by simp [headed]) h0
      · rw [if_pos hs]
        exact ⟨h.len, h.skp, h.chk, fun hh => absurd hh hs, fun c hh => absurd hh hs, fun hh => absurd hh hs⟩
  · rw [if_pos h0]; exact h
/-- with a request that came whole nothing is wrong, and fewer bytes are left -/
theorem tail_200 {p : InS} {q : Req} (h : p.ok) (h0 : p.st = 0) (hq : p.req ≠ none) (hs : (tailI p q).s = 200) : (tailI p q).p.st = 0 ∧ (tailI p q).p.left + 2 ≤ p.left := by
  have hh := h.hld h0 hq
  unfold InS.left
  cases hc : p.chk with
  | none =>
    rcases Nat.lt_or_ge p.inp.length p.skip with hlt | hge
    · rw [tail_none' q hc hlt] at hs; simp at hs
    · rw [tail_none q hc hge]
      refine ⟨h0, ?_⟩
      simp only [List.length_drop]; omega
  | some c =>
    obtain ⟨k1, k2, k3, k4⟩ := h.chk c hc
    have ke := h.bad c h0 hc
    obtain ⟨d1, d2, d3, d4⟩ := addC_sound p.inp k1 k4
    have d5 := addC_ne17 (c := c) p.inp (by rw [ke]; decide)
    by_cases e1 : (addC c p.inp).err = 0
    · by_cases e2 : (addC c p.inp).st = 4
      · rw [tail_done q hc e1 e2]
        refine ⟨h0, ?_⟩
        simp only; omega
      · rw [tail_more q hc e1 e2] at hs; simp at hs
    · rw [tail_bad q hc e1 d5] at hs
      exfalso
      simp only at hs
      unfold toldE at hs
      split at hs
      · simp at hs
      · split at hs <;> simp at hs
theorem next_200 {p : InS} (h : p.ok) (h0 : p.st = 0) (hs : (nextI p).s = 200) : (nextI p).p.st = 0 ∧ (nextI p).p.left + 2 ≤ p.left := by
  unfold nextI at hs ⊢
  rw [if_neg (by simp [h0])] at hs ⊢
  cases hr : p.req with
  | some q =>
    rw [hr] at hs
    exact tail_200 h h0 (by rw [hr]; simp) hs
  | none =>
    rw [hr] at hs
    dsimp only at hs ⊢
    by_cases h1 : (headM p.inp).s = 0
    · rw [if_neg (by simp [h1])] at hs ⊢
      cases hg : (headM p.inp).got with
      | false => rw [hg] at hs; simp at hs
      | true =>
        rw [hg] at hs
        have := tail_200 (headed_ok h h0 hr hg) h0 (by simp [headed]) hs
        refine ⟨this.1, Nat.le_trans this.2 ?_⟩
        have hb := (head_bounds p.inp).2.1 hg
        unfold InS.left
        show (p.inp.drop (headM p.inp).n).length + (headM p.inp).n ≤ p.inp.length + p.held
        rw [List.length_drop]; omega
    · rw [if_pos h1] at hs
      exact absurd hs (head_ne200 p.inp)
theorem tail_le {p : InS} (q : Req) (h : p.ok) (h0 : p.st = 0) (hq : p.req ≠ none) : (tailI p q).p.left ≤ p.left := by
  cases hc : p.chk with
  | none =>
    rcases Nat.lt_or_ge p.inp.length p.skip with hlt | hge
    · rw [tail_none' q hc hlt]; unfold InS.left; simp only [List.length_nil]; omega
    · rw [tail_none q hc hge]; unfold InS.left; simp only [List.length_drop]; omega
  | some c =>
    obtain ⟨k1, k2, k3, k4⟩ := h.chk c hc
    have ke := h.bad c h0 hc
    obtain ⟨d1, d2, d3, d4⟩ := addC_sound p.inp k1 k4
    have d5 := addC_ne17 (c := c) p.inp (by rw [ke]; decide)
    by_cases e1 : (addC c p.inp).err = 0
    · by_cases e2 : (addC c p.inp).st = 4
      · rw [tail_done q hc e1 e2]; unfold InS.left; simp only; omega
      · rw [tail_more q hc e1 e2]; unfold InS.left; simp only [List.length_nil]; omega
    · rw [tail_bad q hc e1 d5]; unfold InS.left; simp only [List.length_nil]; omega
theorem next_le {p : InS} (h : p.ok) : (nextI p).p.left ≤ p.left := by
  unfold nextI
  by_cases h0 : p.st = 0
  · rw [if_neg (by simp [h0])]
    cases hr : p.req with
    | some q => exact tail_le q h h0 (by rw [hr]; simp)
    | none =>
      dsimp only
      by_cases hs : (headM p.inp).s = 0
      · rw [if_neg (by simp [hs])]
        cases hg : (headM p.inp).got with
        | false => exact Nat.le_refl _
        | true =>
          refine Nat.le_trans (tail_le _ (headed_ok h h0 hr hg) h0 (by simp [headed])) ?_
          have hb := (head_bounds p.inp).2.1 hg
          unfold InS.left
          show (p.inp.drop (headM p.inp).n).length + (headM p.inp).n ≤ p.inp.length + p.held
          rw [List.length_drop]; omega
      · rw [if_pos hs]; exact Nat.le_refl _
  · rw [if_pos h0]; exact Nat.le_refl _
theorem next_st {p : InS} (h : p.ok) (h0 : p.st = 0) (hs : (nextI p).s = 200) : (nextI p).p.st = 0 := (next_200 h h0 hs).1
end Go.Proofs.YtdmffbefppjllaaDoor

/- Layer 12: Next, when nothing more can come, or nothing has come whole. No conditions but on lengths. -/
namespace Go.Proofs.YtdmffbefppjllaaDoor
open Go.RowKit Go.Shelf


set_option maxRecDepth 100000 in
set_option maxHeartbeats 3000000 in
theorem next_neg {B p : Nat} {X R : List Nat} {I : InS} {w : World} (h : It B w p X R I) (hm : ML w) (hB : B ≤ w.heap.size) (hbig : 0 < B) (hok : I.ok) (hs0 : ¬ I.st = 0) :
    Calls Tryd.prog 36 #[.pointer (some ⟨p, 0, none⟩)] w (NextOut B w p X R (nextI I)) := by
  have hst := next_hst hok
  have kA := (Keep.refl [] w).alloc (.cells reqZ.toArray 44)
  have bA := Blk.newA w reqZ.toArray 44
  have zst := req_st [] [] (v := .slice none 0 0) false rfl
  have H := Lib.hid h
  generalize hwA : w.alloc (.cells #[.string ⟨#[]⟩, .string ⟨#[]⟩, .slice none 0 0, .bool false] 44) = wA
  have hwA' : w.alloc (.cells reqZ.toArray 44) = wA := hwA
  have hszA : wA.heap.size = w.heap.size + 1 := by rw [← hwA']; simp
  rw [hwA'] at kA bA
  have hA := h.keep0 kA
  have NA : NxS B w p X R wA X R I := ⟨hA, kA.mono (by simp), fun x hx => .inl hx, fun x hx => .inl hx, show Blk wA w.heap.size 44 reqZ from bA⟩
  obtain ⟨a0, a1, a3, a5⟩ := hA.at_
  have HNA := Lib.hid NA
  have MA := Lib.hid (hm.keep kA (by simp))
  have ZST := Lib.hid zst
  have HW := Lib.hid (inlet_wrong hA)
  have HFl := Lib.hid (fun s wt X1 R1 J (hh : It B wt p X1 R1 J) => inlet_fail (I := J) s hh)
  have hBA : B ≤ wA.heap.size := by omega
  have hlen := hok.len
  have HOK := Lib.hid hok
  have HLO := Lib.hid h.lo
  clear h kA bA hA NA hwA' zst hm hok
  have hN : nextI I = ⟨I, req0, I.st⟩ := by unfold nextI; rw [if_pos hs0]
  have q1 := (int_ne hs0).2
  have HF := Lib.hid (HNA.out.fin0 H.out I.st)
  have HT := Lib.hid (HNA.out.bk.there' 0 4 (by simp [reqZ, reqC]))
  have hload := reqZ_back HT.out
  have HLd := Lib.hid hload
  rw [hN]
  clear hs0 hN hload hst
  go_enter Tryd.func36, Tryd.ntmps36
  go_wp2_with fail
  refine HW.out.mono ?_
  rintro e w1 ⟨rfl, rfl⟩
  clear hwA
  go_wp2_with (first
    | (refine wpList_store_mid rfl 44 (.tmp 2) (.tmp 17) rfl w.heap.size 0 reqZ.toArray (by rfl) (by first | rfl | kernel_rfl) HT.out ZST.out.1 ZST.out.2 ?_
       try simp only [Act.put])
    | fail)
  refine bodyPost_ret (v := .tuple #[.agg reqZ.toArray, .int .i64 I.st]) (by have hl := HLd.out; simp [Act.put, results, Tryd.results36, asAddr, Result.andThen, hl]) rfl HF.out
set_option maxRecDepth 100000 in
set_option maxHeartbeats 3000000 in
theorem next_wrong {B p : Nat} {X R : List Nat} {I : InS} {w : World} (h : It B w p X R I) (hm : ML w) (hB : B ≤ w.heap.size) (hbig : 0 < B) (hok : I.ok) (hs0 : I.st = 0) (hrq : I.req = none) (hd0 : ¬ (headM I.inp).s = 0) :
    Calls Tryd.prog 36 #[.pointer (some ⟨p, 0, none⟩)] w (NextOut B w p X R (nextI I)) := by
  have hst := next_hst hok
  have kA := (Keep.refl [] w).alloc (.cells reqZ.toArray 44)
  have bA := Blk.newA w reqZ.toArray 44
  have zst := req_st [] [] (v := .slice none 0 0) false rfl
  have H := Lib.hid h
  generalize hwA : w.alloc (.cells #[.string ⟨#[]⟩, .string ⟨#[]⟩, .slice none 0 0, .bool false] 44) = wA
  have hwA' : w.alloc (.cells reqZ.toArray 44) = wA := hwA
  have hszA : wA.heap.size = w.heap.size + 1 := by rw [← hwA']; simp
  rw [hwA'] at kA bA
  have hA := h.keep0 kA
  have NA : NxS B w p X R wA X R I := ⟨hA, kA.mono (by simp), fun x hx => .inl hx, fun x hx => .inl hx, show Blk wA w.heap.size 44 reqZ from bA⟩
  obtain ⟨a0, a1, a3, a5⟩ := hA.at_
  have HNA := Lib.hid NA
  have MA := Lib.hid (hm.keep kA (by simp))
  have ZST := Lib.hid zst
  have HW := Lib.hid (inlet_wrong hA)
  have HFl := Lib.hid (fun s wt X1 R1 J (hh : It B wt p X1 R1 J) => inlet_fail (I := J) s hh)
  have hBA : B ≤ wA.heap.size := by omega
  have hlen := hok.len
  have HOK := Lib.hid hok
  have HLO := Lib.hid h.lo
  clear h kA bA hA NA hwA' zst hm hok
  have q1 := (int_eq hs0).2
  have hN : nextI I = if (headM I.inp).s ≠ 0 then ⟨{ I with st := (headM I.inp).s }, req0, (headM I.inp).s⟩
    else if (headM I.inp).got then tailI (headed I (headM I.inp)) (headM I.inp).q else ⟨I, req0, 0⟩ := by unfold nextI; rw [if_neg (by simp [hs0]), hrq]
  have hck := (HOK.out.req hs0 hrq).1
  have HH := Lib.hid (inlet_head HNA.out.it MA.out hBA hbig (by omega) hrq hck)
  have HX2 := Lib.hid (fun c => hst (headed I (headM I.inp)) c (.inr rfl))
  have hhd := head_bounds I.inp
  have c2 := it_noReq HNA.out.it hrq
  generalize headM I.inp = hd at *
  obtain ⟨hd1, hd2, hd3, _⟩ := hhd
  clear hst
  rw [if_pos hd0] at hN
  have hgot : hd.got = false := by cases hg : hd.got with | false => rfl | true => exact absurd (hd1 hg) hd0
  have q2 := (int_ne hd0).2
  rw [hN]
  clear hN hd0 hrq hs0 hck hd1
  go_enter Tryd.func36, Tryd.ntmps36
  go_wp2_with fail
  refine HH.out.mono ?_
  rintro e w1 ⟨rfl, _, k1, _⟩
  have HN1 := Lib.hid (HNA.out.step H.out (k1 hgot |>.mono (by simp)) (HNA.out.it.keep0 (k1 hgot)) (fun x hx => .inl hx) (fun x hx => .inl hx))
  clear k1 hwA
  go_wp2_with fail
  refine (HFl.out _ _ _ _ _ HN1.out.it).mono ?_
  rintro e w2 ⟨rfl, hi2, k2⟩
  have HN2 := Lib.hid (HN1.out.step H.out (HN1.out.it.keepX k2) hi2 (fun x hx => .inl hx) (fun x hx => .inl hx))
  have HF := Lib.hid (HN2.out.fin0 H.out hd.s)
  have HT := Lib.hid (HN2.out.bk.there' 0 4 (by simp [reqZ, reqC]))
  have hload := reqZ_back HT.out
  have HLd := Lib.hid hload
  clear hi2 k2 hload
  go_wp2_with (first
    | (refine wpList_store_mid rfl 44 (.tmp 2) (.tmp 32) rfl w.heap.size 0 reqZ.toArray (by rfl) (by first | rfl | kernel_rfl) HT.out ZST.out.1 ZST.out.2 ?_
       try simp only [Act.put])
    | fail)
  refine bodyPost_ret (v := .tuple #[.agg reqZ.toArray, .int .i64 hd.s]) (by have hl := HLd.out; simp [Act.put, results, Tryd.results36, asAddr, Result.andThen, hl]) rfl HF.out
set_option maxRecDepth 100000 in
set_option maxHeartbeats 3000000 in
theorem next_wait {B p : Nat} {X R : List Nat} {I : InS} {w : World} (h : It B w p X R I) (hm : ML w) (hB : B ≤ w.heap.size) (hbig : 0 < B) (hok : I.ok) (hs0 : I.st = 0) (hrq : I.req = none) (hd0 : (headM I.inp).s = 0) (hgot : (headM I.inp).got = false) :
    Calls Tryd.prog 36 #[.pointer (some ⟨p, 0, none⟩)] w (NextOut B w p X R (nextI I)) := by
  have hst := next_hst hok
  have kA := (Keep.refl [] w).alloc (.cells reqZ.toArray 44)
  have bA := Blk.newA w reqZ.toArray 44
  have zst := req_st [] [] (v := .slice none 0 0) false rfl
  have H := Lib.hid h
  generalize hwA : w.alloc (.cells #[.string ⟨#[]⟩, .string ⟨#[]⟩, .slice none 0 0, .bool false] 44) = wA
  have hwA' : w.alloc (.cells reqZ.toArray 44) = wA := hwA
  have hszA : wA.heap.size = w.heap.size + 1 := by rw [← hwA']; simp
  rw [hwA'] at kA bA
  have hA := h.keep0 kA
  have NA : NxS B w p X R wA X R I := ⟨hA, kA.mono (by simp), fun x hx => .inl hx, fun x hx => .inl hx, show Blk wA w.heap.size 44 reqZ from bA⟩
  obtain ⟨a0, a1, a3, a5⟩ := hA.at_
  have HNA := Lib.hid NA
  have MA := Lib.hid (hm.keep kA (by simp))
  have ZST := Lib.hid zst
  have HW := Lib.hid (inlet_wrong hA)
  have HFl := Lib.hid (fun s wt X1 R1 J (hh : It B wt p X1 R1 J) => inlet_fail (I := J) s hh)
  have hBA : B ≤ wA.heap.size := by omega
  have hlen := hok.len
  have HOK := Lib.hid hok
  have HLO := Lib.hid h.lo
  clear h kA bA hA NA hwA' zst hm hok
  have q1 := (int_eq hs0).2
  have hN : nextI I = if (headM I.inp).s ≠ 0 then ⟨{ I with st := (headM I.inp).s }, req0, (headM I.inp).s⟩
    else if (headM I.inp).got then tailI (headed I (headM I.inp)) (headM I.inp).q else ⟨I, req0, 0⟩ := by unfold nextI; rw [if_neg (by simp [hs0]), hrq]
  have hck := (HOK.out.req hs0 hrq).1
  have HH := Lib.hid (inlet_head HNA.out.it MA.out hBA hbig (by omega) hrq hck)
  have HX2 := Lib.hid (fun c => hst (headed I (headM I.inp)) c (.inr rfl))
  have hhd := head_bounds I.inp
  have c2 := it_noReq HNA.out.it hrq
  generalize headM I.inp = hd at *
  obtain ⟨hd1, hd2, hd3, _⟩ := hhd
  clear hst
  rw [if_neg (by simp [hd0])] at hN
  rw [hgot, if_neg (by simp)] at hN
  rw [hN]
  rw [hd0] at HH
  have HRQ := Lib.hid hrq
  clear hN hd0 hrq hs0 hck hd1
  go_enter Tryd.func36, Tryd.ntmps36
  go_wp2_with fail
  refine HH.out.mono ?_
  rintro e w1 ⟨rfl, _, k1, _⟩
  have HN2 := Lib.hid (HNA.out.step H.out (k1 hgot |>.mono (by simp)) (HNA.out.it.keep0 (k1 hgot)) (fun x hx => .inl hx) (fun x hx => .inl hx))
  have c22 := it_noReq HN2.out.it HRQ.out
  have HF := Lib.hid (HN2.out.fin0 H.out 0)
  have HT := Lib.hid (HN2.out.bk.there' 0 4 (by simp [reqZ, reqC]))
  have hload := reqZ_back HT.out
  have HLd := Lib.hid hload
  clear k1 hload hwA
  go_wp2_with (first
    | (refine wpList_store_mid rfl 44 (.tmp 2) (.tmp 39) rfl w.heap.size 0 reqZ.toArray (by rfl) (by first | rfl | kernel_rfl) HT.out ZST.out.1 ZST.out.2 ?_
       try simp only [Act.put])
    | fail)
  refine bodyPost_ret (v := .tuple #[.agg reqZ.toArray, .int .i64 0]) (by have hl := HLd.out; simp [Act.put, results, Tryd.results36, asAddr, Result.andThen, hl]) rfl HF.out
end Go.Proofs.YtdmffbefppjllaaDoor

/- Layer 12: Next, when a request's head has come before. No conditions but on lengths. -/
namespace Go.Proofs.YtdmffbefppjllaaDoor
open Go.RowKit Go.Shelf


set_option maxRecDepth 100000 in
set_option maxHeartbeats 3000000 in
theorem next_pend {B p : Nat} {X R : List Nat} {I : InS} {w : World} (h : It B w p X R I) (hm : ML w) (hB : B ≤ w.heap.size) (hbig : 0 < B) (hok : I.ok) {q : Req} (hs0 : I.st = 0) (hrq : I.req = some q) :
    Calls Tryd.prog 36 #[.pointer (some ⟨p, 0, none⟩)] w (NextOut B w p X R (nextI I)) := by
  have hst := next_hst hok
  have kA := (Keep.refl [] w).alloc (.cells reqZ.toArray 44)
  have bA := Blk.newA w reqZ.toArray 44
  have zst := req_st [] [] (v := .slice none 0 0) false rfl
  have H := Lib.hid h
  generalize hwA : w.alloc (.cells #[.string ⟨#[]⟩, .string ⟨#[]⟩, .slice none 0 0, .bool false] 44) = wA
  have hwA' : w.alloc (.cells reqZ.toArray 44) = wA := hwA
  have hszA : wA.heap.size = w.heap.size + 1 := by rw [← hwA']; simp
  rw [hwA'] at kA bA
  have hA := h.keep0 kA
  have NA : NxS B w p X R wA X R I := ⟨hA, kA.mono (by simp), fun x hx => .inl hx, fun x hx => .inl hx, show Blk wA w.heap.size 44 reqZ from bA⟩
  obtain ⟨a0, a1, a3, a5⟩ := hA.at_
  have HNA := Lib.hid NA
  have MA := Lib.hid (hm.keep kA (by simp))
  have ZST := Lib.hid zst
  have HW := Lib.hid (inlet_wrong hA)
  have HFl := Lib.hid (fun s wt X1 R1 J (hh : It B wt p X1 R1 J) => inlet_fail (I := J) s hh)
  have hBA : B ≤ wA.heap.size := by omega
  have hlen := hok.len
  have HOK := Lib.hid hok
  have HLO := Lib.hid h.lo
  clear h kA bA hA NA hwA' zst hm hok
  have q1 := (int_eq hs0).2
  have hN : nextI I = tailI I q := by unfold nextI; rw [if_neg (by simp [hs0]), hrq]
  have HNt := HNA
  have MT := MA
  have HOt := Lib.hid (show I.inp.length + I.held ≤ 65536 ∧ I.skip ≤ 65536 ∧ (∀ c, I.chk = some c → (c.err = 0 → c.ok) ∧ c.most = 4096 ∧ c.inp.length + c.dat.length ≤ 65536 ∧ (addC c I.inp).st ≤ 4) ∧ I.req = some q from
    ⟨by omega, by have := HOK.out.skp; omega, fun c hc => ⟨(hst I c (.inl rfl) hc).2, (HOK.out.chk c hc).2.1, by have := (HOK.out.chk c hc).2.2.1; omega, (hst I c (.inl rfl) hc).1⟩, hrq⟩)
  obtain ⟨rb, ra, rl, rc, c2, hjunk⟩ := it_req HNA.out.it hrq; clear hjunk
  rw [hN]
  clear hrq hN hst hs0
  go_enter Tryd.func36, Tryd.ntmps36
  go_wp2_with fail
  have HBd := Lib.hid (inlet_body HNt.out.it MT.out hBA hbig HOt.out.1 HOt.out.2.1 HOt.out.2.2.1)
  have hbr := body_req I
  have hT : tailI I q = if (bodyB I).s ≠ 0 then ⟨{ (bodyB I).p with st := (bodyB I).s }, req0, (bodyB I).s⟩
    else if (bodyB I).whole then ⟨{ (bodyB I).p with req := none, held := 0 }, q, 200⟩ else ⟨(bodyB I).p, req0, 0⟩ := rfl
  generalize bodyB I = bd at *
  obtain ⟨bp, bwh, bs⟩ := bd
  dsimp only at HBd hbr hT
  have hbq : bp.req = some q := hbr.1.trans HOt.out.2.2.2
  clear hbr c2
  refine HBd.out.mono ?_
  rintro e w5 ⟨rfl, k5, X5, hi5, n5⟩
  have HN5 := Lib.hid (HNt.out.step H.out k5 hi5 n5 (fun x hx => .inl hx))
  clear k5 hi5 n5 HBd
  by_cases hs5 : bs = 0
  case neg =>
    rw [if_pos hs5] at hT
    have q5 := (int_ne hs5).2
    clear hs5
    go_wp2_with fail
    refine (HFl.out _ _ _ _ _ HN5.out.it).mono ?_
    rintro e w6 ⟨rfl, hi2, k2⟩
    have HN2 := Lib.hid (HN5.out.step H.out (HN5.out.it.keepX k2) hi2 (fun x hx => .inl hx) (fun x hx => .inl hx))
    have HF := Lib.hid ((HN2.out.fin0 H.out bs).of hT)
    have HT := Lib.hid (HN2.out.bk.there' 0 4 (by simp [reqZ, reqC]))
    have hload := reqZ_back HT.out
    have HLd := Lib.hid hload
    clear hi2 k2 hload hT
    go_wp2_with (first
      | (with_reducible (show wpList _ _ _ ((⟨none, .store _ (.tmp 2) (.tmp 51), _, _, _, none⟩ : Oper) :: _) _ _)
         refine wpList_store_mid rfl 44 (.tmp 2) (.tmp 51) rfl w.heap.size 0 reqZ.toArray (by rfl) (by first | rfl | kernel_rfl) HT.out ZST.out.1 ZST.out.2 ?_
         try simp only [Act.put])
      | fail)
    refine bodyPost_ret (v := .tuple #[.agg reqZ.toArray, .int .i64 bs]) (by have hl := HLd.out; simp [Act.put, results, Tryd.results36, asAddr, Result.andThen, hl]) rfl HF.out
  rw [if_neg (by simp [hs5])] at hT
  subst hs5
  cases bwh with
  | false =>
    rw [if_neg (by simp)] at hT
    have HF := Lib.hid ((HN5.out.fin0 H.out 0).of hT)
    have HT := Lib.hid (HN5.out.bk.there' 0 4 (by simp [reqZ, reqC]))
    have hload := reqZ_back HT.out
    have HLd := Lib.hid hload
    clear hT hload
    go_wp2_with (first
      | (with_reducible (show wpList _ _ _ ((⟨none, .store _ (.tmp 2) (.tmp 56), _, _, _, none⟩ : Oper) :: _) _ _)
         refine wpList_store_mid rfl 44 (.tmp 2) (.tmp 56) rfl w.heap.size 0 reqZ.toArray (by rfl) (by first | rfl | kernel_rfl) HT.out ZST.out.1 ZST.out.2 ?_
         try simp only [Act.put])
      | fail)
    refine bodyPost_ret (v := .tuple #[.agg reqZ.toArray, .int .i64 0]) (by have hl := HLd.out; simp [Act.put, results, Tryd.results36, asAddr, Result.andThen, hl]) rfl HF.out
  | true =>
    rw [if_pos rfl] at hT
    obtain ⟨rb2, sa, sl, sc, c2, hq2, ho2, hg2, hrb2⟩ := it_req HN5.out.it hbq
    have hoff := HN5.out.off H.out
    have hbk := HN5.out.bk
    have kW := (Keep.refl [] w5).alloc (.cells (reqC q.m q.t (.slice sa sl sc) q.cl).toArray 44)
    have nW := Blk.newA w5 (reqC q.m q.t (.slice sa sl sc) q.cl).toArray 44
    have hp5 := HN5.out.it.lt
    have RNG := Lib.hid hq2.range'
    generalize hwW : w5.alloc (.cells (reqC q.m q.t (.slice sa sl sc) q.cl).toArray 44) = wW at kW nW
    have iW := HN5.out.it.keep0 kW
    have d2 : wW.cell? ⟨p, 2, none⟩ = some (.pointer (some ⟨rb2, 0, none⟩)) := kW.load c2
    have d1 := iW.at_.2.1
    have g1 := iW.free 1
    have g2 := iW.free 2
    have kP := ((Keep.refl [p] wW).setCell ⟨p, 2, none⟩ (.pointer none) (by simp)).setCell ⟨p, 1, none⟩ (.int .i64 0) (by simp)
    have hnep : w5.heap.size ≠ p := by omega
    have nP := kP.blk (show Blk wW w5.heap.size 44 (reqC q.m q.t (.slice sa sl sc) q.cl) from nW) (by simpa using hnep)
    have iP := it_unreq iW
    have HNP := Lib.hid ((HN5.out.step H.out (kW.mono (S' := X5) (by simp)) iW (fun x hx => .inl hx) (fun x hx => .inl hx)).step H.out (iW.keepX kP) iP (fun x hx => .inl hx) (by simp))
    have HT := Lib.hid (HNP.out.bk.there' 0 4 (by simp [reqZ, reqC]))
    have hload := req_back (m := q.m) (t := q.t) (v := .slice sa sl sc) (cl := q.cl) HT.out
    have HLd := Lib.hid hload
    have OP := ((ho2.keep0 kW).keep kP (fun g hg => by simp; rintro rfl; exact (HN5.out.it.ro _ (hg2 _ hg)).2.2 HN5.out.it.mem))
    have HF := Lib.hid ((HNP.out.fin H.out q (.slice sa sl sc) 200 OP (fun g hg => ⟨HN5.out.nr g (hg2 g hg), (HN5.out.it.ro g (hg2 g hg)).2.2⟩)).of hT)
    have HS1 := Lib.hid (reqC_one q.m q.t (v := .slice sa sl sc) q.cl rfl)
    have ST := Lib.hid (req_st q.m q.t (v := .slice sa sl sc) q.cl rfl)
    have RP := Lib.hid nP.range'
    clear hT hload hq2 ho2 hg2 hrb2 hoff hbk kW nW iW kP nP iP OP hp5
    go_wp2_with (first
      | (with_reducible (show wpList _ _ _ ((⟨_, .load _ (.tmp 61), _, _, _, none⟩ : Oper) :: _) _ _)
         refine wpList_load_mid rfl 44 (.tmp 61) rfl rb2 0 (by rfl) (reqC q.m q.t (.slice sa sl sc) q.cl) _ RNG.out Tryd.underlying44 rfl req_size ?_
         try simp only [Act.put, List.setIfInBounds_toArray, List.set_cons_succ, List.set_cons_zero])
      | (with_reducible (show wpList _ _ _ ((⟨none, .store _ (.tmp 7) (.tmp 62), _, _, _, none⟩ : Oper) :: _) _ _)
         refine wpList_store_fresh rfl 44 (.tmp 7) (.tmp 62) rfl _ (reqC q.m q.t (.slice sa sl sc) q.cl) (by rfl) (by rfl) req_size (by rfl) HS1.out ?_
         rw [hwW]
         try simp only [Act.put, List.setIfInBounds_toArray, List.set_cons_succ, List.set_cons_zero])
      | (with_reducible (show wpList _ _ _ ((⟨_, .load _ (.tmp 7), _, _, _, none⟩ : Oper) :: _) _ _)
         refine wpList_load_mid rfl 44 (.tmp 7) rfl w5.heap.size 0 (by rfl) (reqC q.m q.t (.slice sa sl sc) q.cl) _ RP.out Tryd.underlying44 rfl req_size ?_
         try simp only [Act.put, List.setIfInBounds_toArray, List.set_cons_succ, List.set_cons_zero])
      | (with_reducible (show wpList _ _ _ ((⟨none, .store _ (.tmp 2) (.tmp 69), _, _, _, none⟩ : Oper) :: _) _ _)
         refine wpList_store_mid rfl 44 (.tmp 2) (.tmp 69) rfl w.heap.size 0 (reqC q.m q.t (.slice sa sl sc) q.cl).toArray (by rfl) (by first | rfl | kernel_rfl) HT.out ST.out.1 ST.out.2 ?_
         try simp only [Act.put])
      | fail)
    refine bodyPost_ret (v := .tuple #[.agg (reqC q.m q.t (.slice sa sl sc) q.cl).toArray, .int .i64 200]) (by have hl := HLd.out; simp [Act.put, results, Tryd.results36, asAddr, Result.andThen, hl]) rfl HF.out
end Go.Proofs.YtdmffbefppjllaaDoor

/- Layer 12: Next, when a request's head has come now. No conditions but on lengths. -/
namespace Go.Proofs.YtdmffbefppjllaaDoor
open Go.RowKit Go.Shelf


set_option maxRecDepth 100000 in
set_option maxHeartbeats 3000000 in
theorem next_got {B p : Nat} {X R : List Nat} {I : InS} {w : World} (h : It B w p X R I) (hm : ML w) (hB : B ≤ w.heap.size) (hbig : 0 < B) (hok : I.ok) (hs0 : I.st = 0) (hrq : I.req = none) (hd0 : (headM I.inp).s = 0) (hgot : (headM I.inp).got = true) :
    Calls Tryd.prog 36 #[.pointer (some ⟨p, 0, none⟩)] w (NextOut B w p X R (nextI I)) := by
  have hst := next_hst hok
  have kA := (Keep.refl [] w).alloc (.cells reqZ.toArray 44)
  have bA := Blk.newA w reqZ.toArray 44
  have zst := req_st [] [] (v := .slice none 0 0) false rfl
  have H := Lib.hid h
  generalize hwA : w.alloc (.cells #[.string ⟨#[]⟩, .string ⟨#[]⟩, .slice none 0 0, .bool false] 44) = wA
  have hwA' : w.alloc (.cells reqZ.toArray 44) = wA := hwA
  have hszA : wA.heap.size = w.heap.size + 1 := by rw [← hwA']; simp
  rw [hwA'] at kA bA
  have hA := h.keep0 kA
  have NA : NxS B w p X R wA X R I := ⟨hA, kA.mono (by simp), fun x hx => .inl hx, fun x hx => .inl hx, show Blk wA w.heap.size 44 reqZ from bA⟩
  obtain ⟨a0, a1, a3, a5⟩ := hA.at_
  have HNA := Lib.hid NA
  have MA := Lib.hid (hm.keep kA (by simp))
  have ZST := Lib.hid zst
  have HW := Lib.hid (inlet_wrong hA)
  have HFl := Lib.hid (fun s wt X1 R1 J (hh : It B wt p X1 R1 J) => inlet_fail (I := J) s hh)
  have hBA : B ≤ wA.heap.size := by omega
  have hlen := hok.len
  have HOK := Lib.hid hok
  have HLO := Lib.hid h.lo
  clear h kA bA hA NA hwA' zst hm hok
  have q1 := (int_eq hs0).2
  have hN : nextI I = if (headM I.inp).s ≠ 0 then ⟨{ I with st := (headM I.inp).s }, req0, (headM I.inp).s⟩
    else if (headM I.inp).got then tailI (headed I (headM I.inp)) (headM I.inp).q else ⟨I, req0, 0⟩ := by unfold nextI; rw [if_neg (by simp [hs0]), hrq]
  have hck := (HOK.out.req hs0 hrq).1
  have HH := Lib.hid (inlet_head HNA.out.it MA.out hBA hbig (by omega) hrq hck)
  have HX2 := Lib.hid (fun c => hst (headed I (headM I.inp)) c (.inr rfl))
  have hhd := head_bounds I.inp
  have c2 := it_noReq HNA.out.it hrq
  generalize headM I.inp = hd at *
  obtain ⟨hd1, hd2, hd3, _⟩ := hhd
  clear hst
  rw [if_neg (by simp [hd0])] at hN
  rw [hgot, if_pos rfl] at hN
  rw [hN]
  rw [hd0] at HH
  have HOt' := Lib.hid (show (headed I hd).inp.length + (headed I hd).held ≤ 65536 ∧ (headed I hd).skip ≤ 65536 ∧ (∀ c, (headed I hd).chk = some c → (c.err = 0 → c.ok) ∧ c.most = 4096 ∧ c.inp.length + c.dat.length ≤ 65536 ∧ (addC c (headed I hd).inp).st ≤ 4) ∧ (headed I hd).req = some hd.q from
    ⟨by show (I.inp.drop hd.n).length + hd.n ≤ 65536; have := hd2 hgot; rw [List.length_drop]; omega, by have := hd3 hgot; show hd.skip ≤ 65536; omega, fun c hc => (by
      have h1 := HX2.out c hc
      have h2 : (if hd.ch then some (ck0 4096) else I.chk) = some c := hc
      rw [hck] at h2
      split at h2
      · cases h2; exact ⟨h1.2, rfl, by simp [ck0], h1.1⟩
      · cases h2), rfl⟩)
  clear hN hd0 hrq hs0 hck hd1 hd2 hd3 HX2
  generalize headed I hd = J at *
  generalize hd.q = q at *
  go_enter Tryd.func36, Tryd.ntmps36
  go_wp2_with fail
  refine HH.out.mono ?_
  rintro e w1 ⟨rfl, k1, _, hx1⟩
  obtain ⟨X1, R1, hi1, n1, r1⟩ := hx1 hgot
  have HN1 := Lib.hid (HNA.out.step H.out (HNA.out.it.keepX k1) hi1 n1 (fun x hx => .inr (r1 x hx)))
  have M1 := Lib.hid (MA.out.keepB hbig (HNA.out.it.keepX k1) (fun x hx => (HLO.out x hx).1))
  have hsz1 : B ≤ w1.heap.size := Nat.le_trans hBA k1.size
  clear k1 hx1 hi1 n1 r1 c2 a0 a1 a3 a5 q1 hwA HH
  obtain ⟨rb, ra, rl, rc, c2, hjunk⟩ := it_req HN1.out.it HOt'.out.2.2.2; clear hjunk
  go_wp2_with fail
  have HBd := Lib.hid (inlet_body HN1.out.it M1.out hsz1 hbig HOt'.out.1 HOt'.out.2.1 HOt'.out.2.2.1)
  have hbr := body_req J
  have hT : tailI J q = if (bodyB J).s ≠ 0 then ⟨{ (bodyB J).p with st := (bodyB J).s }, req0, (bodyB J).s⟩
    else if (bodyB J).whole then ⟨{ (bodyB J).p with req := none, held := 0 }, q, 200⟩ else ⟨(bodyB J).p, req0, 0⟩ := rfl
  generalize bodyB J = bd at *
  obtain ⟨bp, bwh, bs⟩ := bd
  dsimp only at HBd hbr hT
  have hbq : bp.req = some q := hbr.1.trans HOt'.out.2.2.2
  clear hbr c2
  refine HBd.out.mono ?_
  rintro e w5 ⟨rfl, k5, X5, hi5, n5⟩
  have HN5 := Lib.hid (HN1.out.step H.out k5 hi5 n5 (fun x hx => .inl hx))
  clear k5 hi5 n5 HBd
  by_cases hs5 : bs = 0
  case neg =>
    rw [if_pos hs5] at hT
    have q5 := (int_ne hs5).2
    clear hs5
    go_wp2_with fail
    refine (HFl.out _ _ _ _ _ HN5.out.it).mono ?_
    rintro e w6 ⟨rfl, hi2, k2⟩
    have HN2 := Lib.hid (HN5.out.step H.out (HN5.out.it.keepX k2) hi2 (fun x hx => .inl hx) (fun x hx => .inl hx))
    have HF := Lib.hid ((HN2.out.fin0 H.out bs).of hT)
    have HT := Lib.hid (HN2.out.bk.there' 0 4 (by simp [reqZ, reqC]))
    have hload := reqZ_back HT.out
    have HLd := Lib.hid hload
    clear hi2 k2 hload hT
    go_wp2_with (first
      | (with_reducible (show wpList _ _ _ ((⟨none, .store _ (.tmp 2) (.tmp 51), _, _, _, none⟩ : Oper) :: _) _ _)
         refine wpList_store_mid rfl 44 (.tmp 2) (.tmp 51) rfl w.heap.size 0 reqZ.toArray (by rfl) (by first | rfl | kernel_rfl) HT.out ZST.out.1 ZST.out.2 ?_
         try simp only [Act.put])
      | fail)
    refine bodyPost_ret (v := .tuple #[.agg reqZ.toArray, .int .i64 bs]) (by have hl := HLd.out; simp [Act.put, results, Tryd.results36, asAddr, Result.andThen, hl]) rfl HF.out
  rw [if_neg (by simp [hs5])] at hT
  subst hs5
  cases bwh with
  | false =>
    rw [if_neg (by simp)] at hT
    have HF := Lib.hid ((HN5.out.fin0 H.out 0).of hT)
    have HT := Lib.hid (HN5.out.bk.there' 0 4 (by simp [reqZ, reqC]))
    have hload := reqZ_back HT.out
    have HLd := Lib.hid hload
    clear hT hload
    go_wp2_with (first
      | (with_reducible (show wpList _ _ _ ((⟨none, .store _ (.tmp 2) (.tmp 56), _, _, _, none⟩ : Oper) :: _) _ _)
         refine wpList_store_mid rfl 44 (.tmp 2) (.tmp 56) rfl w.heap.size 0 reqZ.toArray (by rfl) (by first | rfl | kernel_rfl) HT.out ZST.out.1 ZST.out.2 ?_
         try simp only [Act.put])
      | fail)
    refine bodyPost_ret (v := .tuple #[.agg reqZ.toArray, .int .i64 0]) (by have hl := HLd.out; simp [Act.put, results, Tryd.results36, asAddr, Result.andThen, hl]) rfl HF.out
  | true =>
    rw [if_pos rfl] at hT
    obtain ⟨rb2, sa, sl, sc, c2, hq2, ho2, hg2, hrb2⟩ := it_req HN5.out.it hbq
    have hoff := HN5.out.off H.out
    have hbk := HN5.out.bk
    have kW := (Keep.refl [] w5).alloc (.cells (reqC q.m q.t (.slice sa sl sc) q.cl).toArray 44)
    have nW := Blk.newA w5 (reqC q.m q.t (.slice sa sl sc) q.cl).toArray 44
    have hp5 := HN5.out.it.lt
    have RNG := Lib.hid hq2.range'
    generalize hwW : w5.alloc (.cells (reqC q.m q.t (.slice sa sl sc) q.cl).toArray 44) = wW at kW nW
    have iW := HN5.out.it.keep0 kW
    have d2 : wW.cell? ⟨p, 2, none⟩ = some (.pointer (some ⟨rb2, 0, none⟩)) := kW.load c2
    have d1 := iW.at_.2.1
    have g1 := iW.free 1
    have g2 := iW.free 2
    have kP := ((Keep.refl [p] wW).setCell ⟨p, 2, none⟩ (.pointer none) (by simp)).setCell ⟨p, 1, none⟩ (.int .i64 0) (by simp)
    have hnep : w5.heap.size ≠ p := by omega
    have nP := kP.blk (show Blk wW w5.heap.size 44 (reqC q.m q.t (.slice sa sl sc) q.cl) from nW) (by simpa using hnep)
    have iP := it_unreq iW
    have HNP := Lib.hid ((HN5.out.step H.out (kW.mono (S' := X5) (by simp)) iW (fun x hx => .inl hx) (fun x hx => .inl hx)).step H.out (iW.keepX kP) iP (fun x hx => .inl hx) (by simp))
    have HT := Lib.hid (HNP.out.bk.there' 0 4 (by simp [reqZ, reqC]))
    have hload := req_back (m := q.m) (t := q.t) (v := .slice sa sl sc) (cl := q.cl) HT.out
    have HLd := Lib.hid hload
    have OP := ((ho2.keep0 kW).keep kP (fun g hg => by simp; rintro rfl; exact (HN5.out.it.ro _ (hg2 _ hg)).2.2 HN5.out.it.mem))
    have HF := Lib.hid ((HNP.out.fin H.out q (.slice sa sl sc) 200 OP (fun g hg => ⟨HN5.out.nr g (hg2 g hg), (HN5.out.it.ro g (hg2 g hg)).2.2⟩)).of hT)
    have HS1 := Lib.hid (reqC_one q.m q.t (v := .slice sa sl sc) q.cl rfl)
    have ST := Lib.hid (req_st q.m q.t (v := .slice sa sl sc) q.cl rfl)
    have RP := Lib.hid nP.range'
    clear hT hload hq2 ho2 hg2 hrb2 hoff hbk kW nW iW kP nP iP OP hp5
    go_wp2_with (first
      | (with_reducible (show wpList _ _ _ ((⟨_, .load _ (.tmp 61), _, _, _, none⟩ : Oper) :: _) _ _)
         refine wpList_load_mid rfl 44 (.tmp 61) rfl rb2 0 (by rfl) (reqC q.m q.t (.slice sa sl sc) q.cl) _ RNG.out Tryd.underlying44 rfl req_size ?_
         try simp only [Act.put, List.setIfInBounds_toArray, List.set_cons_succ, List.set_cons_zero])
      | (with_reducible (show wpList _ _ _ ((⟨none, .store _ (.tmp 7) (.tmp 62), _, _, _, none⟩ : Oper) :: _) _ _)
         refine wpList_store_fresh rfl 44 (.tmp 7) (.tmp 62) rfl _ (reqC q.m q.t (.slice sa sl sc) q.cl) (by rfl) (by rfl) req_size (by rfl) HS1.out ?_
         rw [hwW]
         try simp only [Act.put, List.setIfInBounds_toArray, List.set_cons_succ, List.set_cons_zero])
      | (with_reducible (show wpList _ _ _ ((⟨_, .load _ (.tmp 7), _, _, _, none⟩ : Oper) :: _) _ _)
         refine wpList_load_mid rfl 44 (.tmp 7) rfl w5.heap.size 0 (by rfl) (reqC q.m q.t (.slice sa sl sc) q.cl) _ RP.out Tryd.underlying44 rfl req_size ?_
         try simp only [Act.put, List.setIfInBounds_toArray, List.set_cons_succ, List.set_cons_zero])
      | (with_reducible (show wpList _ _ _ ((⟨none, .store _ (.tmp 2) (.tmp 69), _, _, _, none⟩ : Oper) :: _) _ _)
         refine wpList_store_mid rfl 44 (.tmp 2) (.tmp 69) rfl w.heap.size 0 (reqC q.m q.t (.slice sa sl sc) q.cl).toArray (by rfl) (by first | rfl | kernel_rfl) HT.out ST.out.1 ST.out.2 ?_
         try simp only [Act.put])
      | fail)
    refine bodyPost_ret (v := .tuple #[.agg (reqC q.m q.t (.slice sa sl sc) q.cl).toArray, .int .i64 200]) (by have hl := HLd.out; simp [Act.put, results, Tryd.results36, asAddr, Result.andThen, hl]) rfl HF.out
end Go.Proofs.YtdmffbefppjllaaDoor

/- Layer 12: Next. No conditions but on lengths. -/
namespace Go.Proofs.YtdmffbefppjllaaDoor

theorem inlet_Next {B p : Nat} {X R : List Nat} {I : InS} {w : World} (h : It B w p X R I) (hm : ML w) (hB : B ≤ w.heap.size) (hbig : 0 < B) (hok : I.ok) :
    Calls Tryd.prog 36 #[.pointer (some ⟨p, 0, none⟩)] w (NextOut B w p X R (nextI I)) := by
  by_cases hs0 : I.st = 0
  · cases hrq : I.req with
    | some q => exact next_pend h hm hB hbig hok hs0 hrq
    | none =>
      by_cases hd0 : (headM I.inp).s = 0
      · cases hgot : (headM I.inp).got with
        | true => exact next_got h hm hB hbig hok hs0 hrq hd0 hgot
        | false => exact next_wait h hm hB hbig hok hs0 hrq hd0 hgot
      · exact next_wrong h hm hB hbig hok hs0 hrq hd0
  · exact next_neg h hm hB hbig hok hs0
end Go.Proofs.YtdmffbefppjllaaDoor

/- Layer 16: what the statements are awake to; the statements' own decimal numbers. No conditions but on sizes. -/
namespace Go.Proofs.YtdmffbefppjllaaDoor
open Go.RowKit Go.Shelf

theorem cut_by (a b : List UInt8) (c : UInt8) (h : c ∉ a) : Lib.cut (a ++ c :: b) [c] = (a, b, true) := by
  unfold Lib.cut
  have hi : Lib.index (a ++ c :: b) [c] = (a.length : Int) := by
    rw [Lib.index_one]
    refine indexByte_at (by simp) (fun j hj => ?_)
    rw [List.getElem?_append_left hj]
    intro e
    exact h (List.mem_of_getElem? e)
  rw [hi, if_pos (by omega)]
  simp
theorem dec_no (u : Nat) {c : UInt8} (h : decB c = false) : c ∉ Lib.decDigits u := fun hm => by
  have := List.all_eq_true.1 (dec_all u) c hm
  rw [h] at this
  cases this
theorem unit_pre {u : List UInt8} (h6 : u.length = 6) (hu : (u.zip unitB).all (fun p => unitOk p.2 p.1) = true) (r : List UInt8) : isUnitM (u ++ r) = true ∧ (u ++ r).drop 6 = r := by
  refine ⟨?_, by rw [List.drop_append_of_le_length (by omega), List.drop_of_length_le (by omega)]; rfl⟩
  unfold isUnitM
  have : (u ++ r).zip unitB = u.zip unitB := by
    have e : unitB = unitB ++ [] := (List.append_nil _).symm
    rw [e, List.zip_append (by rw [h6]; rfl), List.zip_nil_right]
    simp
  rw [this, hu]
  simp; omega
/-- what a Range of two numbers is -/
theorem bds_of {u a b : List UInt8} (h6 : u.length = 6) (hu : (u.zip unitB).all (fun p => unitOk p.2 p.1) = true) (ha : (45 : UInt8) ∉ a) :
    bdsM (u ++ (a ++ 45 :: b)) = ⟨numN a, numI a, numN b, numI b, true && numK a && numK b && (numI a || numI b) && !(numI a && numI b && decide (numN b < numN a))⟩ := by
  unfold bdsM
  obtain ⟨h1, h2⟩ := unit_pre h6 hu (a ++ 45 :: b)
  rw [if_pos h1]
  simp only [h2, cut_by a b 45 ha]
theorem ask_get (l : List UInt8) : getV [⟨rangeB, l⟩] rangeB = l ∧ getN [⟨rangeB, l⟩] rangeB = 1 := by
  have : getS [⟨rangeB, l⟩] rangeB = [⟨rangeB, l⟩] := by
    unfold getS
    rw [List.filter_cons_of_pos (by simp [sameN]), List.filter_nil]
  unfold getV getN
  rw [this]
  exact ⟨rfl, rfl⟩
theorem ask_parse (l : List UInt8) (size : Int) : parseM [⟨rangeB, l⟩] size = prtM 1 (bdsM l) size := by
  unfold parseM
  rw [(ask_get l).1, (ask_get l).2]
  rfl

theorem nat_mod (n : Nat) : ((n : Int)).tmod 10 = ((n % 10 : Nat) : Int) := by rw [Int.tmod_eq_emod_of_nonneg (by omega)]; omega
theorem nat_div (n : Nat) : ((n : Int)).tdiv 10 = ((n / 10 : Nat) : Int) := by rw [Int.tdiv_eq_ediv_of_nonneg (by omega)]; omega
theorem dig_cut {r : Nat} (h : r < 10) : (⟨#[48, 49, 50, 51, 52, 53, 54, 55, 56, 57]⟩ : ByteArray).extract r (r + 1) = S [UInt8.ofNat (48 + r)] := by
  have : ∀ r : Fin 10, (⟨#[48, 49, 50, 51, 52, 53, 54, 55, 56, 57]⟩ : ByteArray).extract r.1 (r.1 + 1) = S [UInt8.ofNat (48 + r.1)] := by decide +kernel
  exact this ⟨r, h⟩
def decI (first : Bool) (n : Nat) : List UInt8 := if first = true ∨ 0 < n then Lib.decDigits n else []
theorem decI_step (first : Bool) (n : Nat) (h : first = true ∨ 0 < n) : decI first n = decI false (n / 10) ++ [UInt8.ofNat (48 + n % 10)] := by
  unfold decI
  rw [if_pos h]
  by_cases h1 : n < 10
  · rw [dec_small h1, if_neg (by simp; omega), Nat.mod_eq_of_lt h1]; rfl
  · rw [dec_big h1, if_pos (by right; omega)]

end Go.Proofs.YtdmffbefppjllaaDoor

/- Layer 16: what the statements are awake to; the statement SliceCovers: its function answers true for every input. No conditions but on the library's tables. -/
namespace Go.Proofs.YtdmffbefppjllaaDoor
open Go.RowKit Go.Shelf

def q1 : List UInt8 := [98, 121, 116, 101, 115, 61, 50, 45, 52]
def q2 : List UInt8 := [98, 121, 116, 101, 115, 61, 45, 51]
def q3 : List UInt8 := [98, 121, 116, 101, 115, 61, 49, 48, 45]
def q4 : List UInt8 := [98, 121, 116, 101, 115, 61, 49, 45, 50, 44, 52, 45, 53]
theorem awake16_parse : prtM 1 (bdsM q1) 10 = ⟨2, 2, 4⟩ ∧ prtM 1 (bdsM q2) 10 = ⟨2, 7, 9⟩ ∧ prtM 1 (bdsM q3) 10 = ⟨3, 0, 0⟩ ∧ prtM 1 (bdsM q4) 10 = ⟨1, 0, 9⟩ := by decide +kernel
theorem itoa_10 : Lib.itoa 10 = [49, 48] := by
  have := Lib.itoa_nonneg 10
  rw [show ((10 : Nat) : Int) = 10 from rfl] at this
  rw [this, dec_big (by omega), dec_small (by omega)]
  rfl
theorem itoa_1 {n : Nat} (h : n < 10) : Lib.itoa (n : Int) = [UInt8.ofNat (48 + n)] := by rw [Lib.itoa_nonneg, dec_small h]
theorem awake16_print : prnS 2 4 10 = [98, 121, 116, 101, 115, 32, 50, 45, 52, 47, 49, 48] ∧ prnE 2 4 10 = 0 ∧ unmetS 10 = [98, 121, 116, 101, 115, 32, 42, 47, 49, 48] := by
  have h2 : Lib.itoa 2 = [50] := itoa_1 (n := 2) (by omega)
  have h4 : Lib.itoa 4 = [52] := itoa_1 (n := 4) (by omega)
  refine ⟨?_, rfl, ?_⟩
  · unfold prnS
    rw [if_pos (show prnOk 2 4 10 = true by decide), h2, h4, itoa_10]; rfl
  · unfold unmetS
    rw [show max (10 : Int) 0 = 10 from rfl, itoa_10]; rfl

def unitC : List UInt8 := [66, 121, 116, 101, 115, 61]
theorem num_zero : numN [48] = 0 ∧ numI [48] = true ∧ numK [48] = true ∧ numN [] = 0 ∧ numI [] = false ∧ numK [] = true := by decide +kernel
/-- the three parts that are asked for -/
theorem covers_plain (size n : Nat) (h2 : 2 ≤ size) (hs : (size : Int) ≤ 4611686018427387904) (h1 : 1 ≤ n) (hn : n < size) :
    prtM 1 (bdsM (unitB ++ ([48] ++ 45 :: Lib.decDigits (n - 1)))) size = ⟨2, 0, (n : Int) - 1⟩ ∧ prtM 1 (bdsM (unitB ++ (Lib.decDigits n ++ 45 :: []))) size = ⟨2, n, (size : Int) - 1⟩ ∧ prtM 1 (bdsM (unitC ++ ([] ++ 45 :: Lib.decDigits (size - n)))) size = ⟨2, n, (size : Int) - 1⟩ := by
  obtain ⟨z1, z2, z3, z4, z5, z6⟩ := num_zero
  have hB : (unitB.zip unitB).all (fun p => unitOk p.2 p.1) = true := by decide
  have hC : (unitC.zip unitB).all (fun p => unitOk p.2 p.1) = true := by decide
  refine ⟨?_, ?_, ?_⟩
  · obtain ⟨n1, n2, n3⟩ := num_dec (n - 1) (by omega)
    rw [bds_of rfl hB (by decide), z1, z2, z3, n1, n2, n3]
    unfold prtM
    dsimp only
    rw [if_neg (by simp <;> omega), if_neg (by simp <;> omega), if_neg (by simp), if_pos rfl]
    congr 1
    omega
  · obtain ⟨n1, n2, n3⟩ := num_dec n (by omega)
    rw [bds_of rfl hB (dec_no n (by decide)), z4, z5, z6, n1, n2, n3]
    unfold prtM
    dsimp only
    rw [if_neg (by simp), if_neg (by simp <;> omega), if_neg (by simp), if_neg (by simp)]
    congr 1
    omega
  · obtain ⟨n1, n2, n3⟩ := num_dec (size - n) (by omega)
    rw [bds_of rfl hC (by simp), z4, z5, z6, n1, n2, n3]
    unfold prtM
    dsimp only
    rw [if_neg (by simp), if_neg (by simp <;> omega), if_pos rfl]
    congr 1
    · omega
    · omega
end Go.Proofs.YtdmffbefppjllaaDoor

/- Layer 16: Read. No conditions but on lengths and the library's tables. -/
namespace Go.Proofs.YtdmffbefppjllaaDoor
open Go.RowKit Go.Shelf

/-- what a Content-Range is read as -/
structure Rd3 where
  a : Int
  b : Int
  c : Int
  e : Int
  deriving DecidableEq
/-- the three texts -/
def rdA (l : List UInt8) : List UInt8 := (Lib.cut (Lib.trimPrefix l saidB) [45]).1
def rdB (l : List UInt8) : List UInt8 := (Lib.cut (Lib.cut (Lib.trimPrefix l saidB) [45]).2.1 [47]).1
def rdC (l : List UInt8) : List UInt8 := (Lib.cut (Lib.cut (Lib.trimPrefix l saidB) [45]).2.1 [47]).2.1
def rdcM (l : List UInt8) : Rd3 :=
  if undecE (rdA l) 4611686018427387904 ≠ 0 then ⟨0, 0, 0, 3⟩ else if undecE (rdB l) 4611686018427387904 ≠ 0 then ⟨0, 0, 0, 3⟩ else if undecE (rdC l) 4611686018427387904 ≠ 0 then ⟨0, 0, 0, 3⟩
  else if prnE (undecV (rdA l) 4611686018427387904) (undecV (rdB l) 4611686018427387904) (undecV (rdC l) 4611686018427387904) ≠ 0 ∨ prnS (undecV (rdA l) 4611686018427387904) (undecV (rdB l) 4611686018427387904) (undecV (rdC l) 4611686018427387904) ≠ l then ⟨0, 0, 0, 3⟩
  else ⟨undecV (rdA l) 4611686018427387904, undecV (rdB l) 4611686018427387904, undecV (rdC l) 4611686018427387904, 0⟩
def Rd3.asV (r : Rd3) : Value := .tuple #[.int .i64 r.a, .int .i64 r.b, .int .i64 r.c, .int .i64 r.e]
theorem trim_len (l p : List UInt8) : (Lib.trimPrefix l p).length ≤ l.length := by
  unfold Lib.trimPrefix
  split <;> simp

end Go.Proofs.YtdmffbefppjllaaDoor

/- Layer 16: what is written is read as it was. Plain laws; arrays of three numbers. No conditions. -/
namespace Go.Proofs.YtdmffbefppjllaaDoor
open Go.RowKit Go.Shelf

theorem trim_pre (p r : List UInt8) : Lib.trimPrefix (p ++ r) p = r := by
  unfold Lib.trimPrefix Lib.hasPrefix
  simp
theorem prn_nat {a b c : Int} (h : prnOk a b c = true) : ∃ x y z : Nat, a = x ∧ b = y ∧ c = z ∧ (x : Int) ≤ 4611686018427387904 ∧ (y : Int) ≤ 4611686018427387904 ∧ (z : Int) ≤ 4611686018427387904 := by
  unfold prnOk at h
  simp only [Bool.and_eq_true, decide_eq_true_eq] at h
  exact ⟨a.toNat, b.toNat, c.toNat, by omega, by omega, by omega, by omega, by omega, by omega⟩
theorem prn_parts {x y z : Nat} (h : prnOk x y z = true) : rdA (prnS x y z) = Lib.decDigits x ∧ rdB (prnS x y z) = Lib.decDigits y ∧ rdC (prnS x y z) = Lib.decDigits z := by
  have e : prnS x y z = saidB ++ (Lib.decDigits x ++ 45 :: (Lib.decDigits y ++ 47 :: Lib.decDigits z)) := by
    unfold prnS
    rw [if_pos h, Lib.itoa_nonneg, Lib.itoa_nonneg, Lib.itoa_nonneg]
    simp
  unfold rdA rdB rdC
  rw [e, trim_pre, cut_by _ _ _ (dec_no x (by decide)), cut_by _ _ _ (dec_no y (by decide))]
  exact ⟨rfl, rfl, rfl⟩
theorem rdc_ok {a b c : Int} (h : prnOk a b c = true) : rdcM (prnS a b c) = ⟨a, b, c, 0⟩ := by
  obtain ⟨x, y, z, rfl, rfl, rfl, h1, h2, h3⟩ := prn_nat h
  obtain ⟨p1, p2, p3⟩ := prn_parts h
  obtain ⟨u1, u2⟩ := undec_dec x 4611686018427387904 h1 (by omega)
  obtain ⟨u3, u4⟩ := undec_dec y 4611686018427387904 h2 (by omega)
  obtain ⟨u5, u6⟩ := undec_dec z 4611686018427387904 h3 (by omega)
  unfold rdcM
  rw [p1, p2, p3, u1, u2, u3, u4, u5, u6, if_neg (by simp), if_neg (by simp), if_neg (by simp), if_neg]
  have : prnE x y z = 0 := by unfold prnE; rw [if_pos h]
  simp [this]
theorem rdc_or (l : List UInt8) : rdcM l = ⟨0, 0, 0, 3⟩ ∨ ∃ a b c, rdcM l = ⟨a, b, c, 0⟩ ∧ prnOk a b c = true ∧ prnS a b c = l := by
  unfold rdcM
  split
  · exact .inl rfl
  · split
    · exact .inl rfl
    · split
      · exact .inl rfl
      · split
        · exact .inl rfl
        · rename_i h
          refine .inr ⟨_, _, _, rfl, ?_, ?_⟩
          · have h1 : prnE (undecV (rdA l) 4611686018427387904) (undecV (rdB l) 4611686018427387904) (undecV (rdC l) 4611686018427387904) = 0 := by
              by_cases hz : prnE (undecV (rdA l) 4611686018427387904) (undecV (rdB l) 4611686018427387904) (undecV (rdC l) 4611686018427387904) = 0
              · exact hz
              · exact absurd (Or.inl hz) h
            unfold prnE at h1
            split at h1
            · assumption
            · cases h1
          · by_cases hz : prnS (undecV (rdA l) 4611686018427387904) (undecV (rdB l) 4611686018427387904) (undecV (rdC l) 4611686018427387904) = l
            · exact hz
            · exact absurd (Or.inr hz) h
theorem prnE_iff (a b c : Int) : prnE a b c = 0 ↔ prnOk a b c = true := by
  unfold prnE
  split
  · rename_i h; simp [h]
  · rename_i h; simp [h]
theorem prn_inj {a b c a' b' c' : Int} (h : prnOk a b c = true) (h' : prnOk a' b' c' = true) : prnS a b c = prnS a' b' c' ↔ (a = a' ∧ b = b' ∧ c = c') := by
  constructor
  · intro e
    have h1 := rdc_ok h
    rw [e, rdc_ok h'] at h1
    injection h1 with e1 e2 e3
    exact ⟨e1.symm, e2.symm, e3.symm⟩
  · rintro ⟨rfl, rfl, rfl⟩; rfl
end Go.Proofs.YtdmffbefppjllaaDoor

/- Layers 1 and 10: the document's Undec and Frame. No conditions but on lengths. -/
namespace Go.Proofs.YtdmffbefppjllaaDoor
open Go.RowKit Go.Shelf

theorem digV_dec {c : UInt8} (h : 48 ≤ c.toNat ∧ c.toNat ≤ 57) : digV c = (c.toNat : Int) - 48 := by
  unfold digV
  rw [if_pos h]
/-- where the document's loop over digits stands -/
def UStage (l : List UInt8) (k : Nat) (n : Int) (b : Bool) : Prop :=
  (l.take k).all decB = true ∧ 0 ≤ n ∧ n ≤ 4611686018427387913 ∧ ((b = true ∧ gatherM 10 l 0 = none) ∨ (b = false ∧ ((gatherM 10 l 0 = gatherM 10 (l.drop k) n ∧ n ≤ 4611686018427387904) ∨ (gatherM 10 l 0 = none ∧ 4611686018427387904 < n))))

end Go.Proofs.YtdmffbefppjllaaDoor

/- Layer 16: the document's Dec, Print, Read. No conditions but on lengths. -/
namespace Go.Proofs.YtdmffbefppjllaaDoor
open Go.RowKit Go.Shelf

theorem dig_cut16 {r : Nat} (h : r < 10) : (⟨#[48, 49, 50, 51, 52, 53, 54, 55, 56, 57, 97, 98, 99, 100, 101, 102]⟩ : ByteArray).extract r (r + 1) = S [UInt8.ofNat (48 + r)] := by
  have : ∀ r : Fin 10, (⟨#[48, 49, 50, 51, 52, 53, 54, 55, 56, 57, 97, 98, 99, 100, 101, 102]⟩ : ByteArray).extract r.1 (r.1 + 1) = S [UInt8.ofNat (48 + r.1)] := by decide +kernel
  exact this ⟨r, h⟩
def decP (n : Nat) : List UInt8 := if 0 < n then Lib.decDigits n else []
theorem decP_step (n : Nat) (h : 0 < n) : decP n = decP (n / 10) ++ [UInt8.ofNat (48 + n % 10)] := by
  have := decI_step false n (.inr h)
  unfold decI at this
  unfold decP
  simpa using this
theorem dec_first (n : Nat) : Lib.decDigits n = decP (n / 10) ++ [UInt8.ofNat (48 + n % 10)] := by
  have := decI_step true n (.inl rfl)
  unfold decI at this
  unfold decP
  simpa using this

end Go.Proofs.YtdmffbefppjllaaDoor

/- Layer 1: numbers in base 16 are written: FormatInt at base 16, Hexnum, the document's. No conditions but on the library's table. -/
namespace Go.Proofs.YtdmffbefppjllaaDoor
open Go.RowKit Go.Shelf

def digL : List UInt8 := [48, 49, 50, 51, 52, 53, 54, 55, 56, 57, 97, 98, 99, 100, 101, 102]
def hexD (r : Nat) : UInt8 := digL.getD r 0
/-- the digits of a number in base 16; of 0: none -/
def hexP (n : Nat) : List UInt8 := if h : 0 < n then hexP (n / 16) ++ [hexD (n % 16)] else []
termination_by n
decreasing_by omega
def hexL (n : Nat) : List UInt8 := hexP (n / 16) ++ [hexD (n % 16)]
theorem hexP_pos {n : Nat} (h : 0 < n) : hexP n = hexP (n / 16) ++ [hexD (n % 16)] := by rw [hexP, dif_pos h]
theorem hexL_pos {n : Nat} (h : 0 < n) : hexP n = hexL n := hexP_pos h
theorem hexP_zero : hexP 0 = [] := by rw [hexP, dif_neg (by omega)]
theorem hex_cut16 {r : Nat} (h : r < 16) : (⟨#[48, 49, 50, 51, 52, 53, 54, 55, 56, 57, 97, 98, 99, 100, 101, 102]⟩ : ByteArray).extract r (r + 1) = S [hexD r] := by
  have : ∀ r : Fin 16, (⟨#[48, 49, 50, 51, 52, 53, 54, 55, 56, 57, 97, 98, 99, 100, 101, 102]⟩ : ByteArray).extract r.1 (r.1 + 1) = S [hexD r.1] := by decide +kernel
  exact this ⟨r, h⟩
theorem hexP_len : ∀ (k n : Nat), n < 16 ^ k → (hexP n).length ≤ k
  | 0, n, h => by
    have : n = 0 := by simpa using h
    subst this
    rw [hexP_zero]; simp
  | k + 1, n, h => by
    rcases Nat.eq_zero_or_pos n with rfl | hn
    · rw [hexP_zero]; simp
    · have := hexP_len k (n / 16) (by rw [Nat.pow_succ] at h; omega)
      rw [hexP_pos hn, List.length_append]
      simp
      omega
theorem hexL_len {n : Nat} (h : n < 9223372036854775808) : (hexL n).length ≤ 16 := by
  have := hexP_len 15 (n / 16) (by have : (16 : Nat) ^ 15 = 1152921504606846976 := by decide
                                   omega)
  unfold hexL
  rw [List.length_append]
  simp
  omega
theorem nat_mod16 (m : Nat) : (m : Int).tmod 16 = ((m % 16 : Nat) : Int) := by
  rw [Int.tmod_eq_emod_of_nonneg (by omega)]; omega
theorem nat_div16 (m : Nat) : (m : Int).tdiv 16 = ((m / 16 : Nat) : Int) := by
  rw [Int.tdiv_eq_ediv_of_nonneg (by omega)]; omega

/-- bits.TrailingZeros64's table -/
def db64 : List Int := [0, 1, 56, 2, 57, 49, 28, 3, 61, 58, 42, 50, 38, 29, 17, 4, 62, 47, 59, 36, 45, 43, 51, 22, 53, 39, 33, 30, 24, 18, 12, 5, 63, 55, 48, 27, 60, 41, 37, 16, 46, 35, 44, 21, 52, 32, 23, 11, 54, 26, 40, 15, 34, 20, 31, 10, 25, 14, 19, 9, 13, 8, 7, 6]
def P64 (w : World) : Prop := Lib.TabIs Tryd.prog w "math/bits.deBruijn64tab" .u8 db64
theorem P64.keep0 {w w' : World} (h : P64 w) (k : Keep [] w w') : P64 w' := by
  unfold P64 Lib.TabIs World.var? at *
  cases hg : Tryd.prog.globalNamed "math/bits.deBruijn64tab" with
  | none => simp [hg] at h
  | some g =>
    try rw [hg] at h
    simp only [Option.bind_some] at h ⊢
    cases ho : w.heap[g]? with
    | none => rw [ho] at h; simp at h
    | some o =>
      rw [k.heap ho (by simp)]
      rw [ho] at h
      exact h
end Go.Proofs.YtdmffbefppjllaaDoor

/- Layer 11, plain laws: a body as it is written in chunks, and what a reader makes of it. No program. No conditions but those that each theorem states. -/
namespace Go.Proofs.YtdmffbefppjllaaDoor
open Go.RowKit

/-- chunks of at most k + 1 bytes -/
def wrL (k : Nat) (s : List UInt8) : List UInt8 :=
  if h : s = [] then [] else hexL (min (k + 1) s.length) ++ crlfC ++ (s.take (k + 1) ++ crlfC) ++ wrL k (s.drop (k + 1))
termination_by s.length
decreasing_by
  cases s with
  | nil => exact absurd rfl h
  | cons => simp; omega
def endC : List UInt8 := [48, 13, 10, 13, 10]
theorem wrL_nil (k : Nat) : wrL k [] = [] := by rw [wrL, dif_pos rfl]
theorem wrL_cons (k : Nat) {s : List UInt8} (h : s ≠ []) : wrL k s = hexL (min (k + 1) s.length) ++ crlfC ++ (s.take (k + 1) ++ crlfC) ++ wrL k (s.drop (k + 1)) := by rw [wrL, dif_neg h]
theorem len_pos {s : List UInt8} (h : s ≠ []) : 0 < s.length := by cases s with | nil => exact absurd rfl h | cons => simp
theorem wrL_len (k : Nat) : ∀ (n : Nat) (s : List UInt8), s.length ≤ n → s.length ≤ 1048576 → (wrL k s).length ≤ 21 * s.length
  | n, s, hn, h => by
    by_cases h0 : s = []
    · subst h0; rw [wrL_nil]; simp
    · have hp := len_pos h0
      match n, hn with
      | 0, hn => omega
      | n + 1, hn =>
        have hd : (s.drop (k + 1)).length = s.length - (k + 1) := List.length_drop
        have ih := wrL_len k n (s.drop (k + 1)) (by omega) (by omega)
        have hx := hexL_len (n := min (k + 1) s.length) (by omega)
        have ht : (s.take (k + 1)).length = min (k + 1) s.length := List.length_take
        rw [wrL_cons k h0]
        simp only [List.length_append, ht, crlfC, List.length_cons, List.length_nil]
        omega
theorem wrL_clamp (k j : Nat) (s : List UInt8) (h : s.length ≤ k + 1) (h2 : s.length ≤ j + 1) : wrL k s = wrL j s := by
  by_cases h0 : s = []
  · subst h0; rw [wrL_nil, wrL_nil]
  · rw [wrL_cons k h0, wrL_cons j h0, List.take_of_length_le h, List.take_of_length_le h2, List.drop_eq_nil_of_le h, List.drop_eq_nil_of_le h2, wrL_nil, wrL_nil, Nat.min_eq_right h, Nat.min_eq_right h2]

theorem hexD_ok {r : Nat} (h : r < 16) : digOk (hexD r) = true ∧ digV (hexD r) = (r : Int) ∧ hexD r ≠ 10 := by
  have : ∀ r : Fin 16, digOk (hexD r.1) = true ∧ digV (hexD r.1) = ((r.1 : Nat) : Int) ∧ hexD r.1 ≠ 10 := by decide +kernel
  exact this ⟨r, h⟩
theorem hexP_ok (n : Nat) : (hexP n).all digOk = true ∧ hexN (hexP n) 0 = (n : Int) ∧ (10 : UInt8) ∉ hexP n := by
  induction n using Nat.strongRecOn with
  | _ n ih =>
    rcases Nat.eq_zero_or_pos n with rfl | hn
    · rw [hexP_zero]; exact ⟨rfl, rfl, by simp⟩
    · obtain ⟨h1, h2, h3⟩ := ih (n / 16) (by omega)
      obtain ⟨d1, d2, d3⟩ := hexD_ok (r := n % 16) (Nat.mod_lt _ (by omega))
      rw [hexP_pos hn]
      refine ⟨by rw [List.all_append, h1]; simp [d1], ?_, ?_⟩
      · unfold hexN at h2 ⊢
        rw [List.foldl_append, h2]
        simp only [List.foldl_cons, List.foldl_nil]
        rw [d2]; omega
      · simp only [List.mem_append, List.mem_singleton, not_or]
        exact ⟨h3, fun h => d3 h.symm⟩
theorem hexL_ok (n : Nat) : (hexL n).all digOk = true ∧ hexN (hexL n) 0 = (n : Int) ∧ (10 : UInt8) ∉ hexL n := by
  rcases Nat.eq_zero_or_pos n with rfl | hn
  · have : hexL 0 = [48] := by unfold hexL; rw [show 0 / 16 = 0 from rfl, hexP_zero]; rfl
    rw [this]; decide
  · rw [← hexL_pos hn]; exact hexP_ok n
theorem hexL_ne (n : Nat) : hexL n ≠ [] := by unfold hexL; simp
theorem num_hex (n : Nat) (m : Int) (hn : n ≤ 1048576) : numE (hexL n) m = (if m < n then 4 else 0) ∧ ((n : Int) ≤ m → numV (hexL n) m = n) := by
  obtain ⟨h1, h2, _⟩ := hexL_ok n
  have h3 := hexL_len (n := n) (by omega)
  have hne := hexL_ne n
  have hr : numRest (hexL n) = [] := by
    rw [numRest_at (k := (hexL n).length) (Nat.le_refl _) (by rw [List.take_length]; exact h1) (fun b hb => by have := (List.getElem?_eq_some_iff.1 hb).1; omega), List.drop_length]
  have ht : numT (hexL n) = hexL n := by rw [numT_at (k := (hexL n).length) (Nat.le_refl _) (by rw [hr, List.drop_length]), List.take_length]
  have hok : hexOk (hexL n) = true := by
    unfold hexOk
    rw [h1, decide_eq_true h3]
    cases hx : hexL n with
    | nil => exact absurd hx hne
    | cons => rfl
  obtain ⟨b1, b2⟩ := bound_fold (hexL n) m
  rw [h2] at b1 b2
  have hu : unhexE (hexL n) m = if m < (n : Int) then 14 else 0 := by
    unfold unhexE
    rw [hok, if_pos rfl, b2]
    by_cases hm : m < (n : Int)
    · rw [if_pos hm, if_pos (show (4611686018427387904 : Int) < (n : Int) ∨ m < (n : Int) from Or.inr hm)]
    · rw [if_neg hm, if_neg (by omega)]
  have hv : (n : Int) ≤ m → unhexV (hexL n) m = (n : Int) := fun hm => by
    unfold unhexV
    rw [hok, if_pos rfl, b1, if_neg (by omega)]
  have hro : restOk [] = true := rfl
  unfold numE numV
  rw [hr, ht, hro, if_pos rfl, hu]
  refine ⟨?_, hv⟩
  by_cases hm : m < (n : Int)
  · rw [if_pos hm, if_pos rfl, if_pos hm]
  · rw [if_neg hm, if_neg (by decide), if_neg hm]
/-- a line that stands first -/
theorem ln_first {t rest : List UInt8} (ht : (10 : UInt8) ∉ t) (hl : t.length ≤ 254) : lnC (t ++ crlfC ++ rest) = ⟨t, 0, rest⟩ := by
  have hg : ∀ j, j < t.length → (t ++ crlfC ++ rest)[j]? = t[j]? := fun j hj => by
    rw [List.append_assoc, List.getElem?_append_left hj]
  have e1 : (t ++ crlfC ++ rest)[t.length]? = some 13 := by rw [List.append_assoc, List.getElem?_append_right (Nat.le_refl _), Nat.sub_self]; rfl
  have e2 : (t ++ crlfC ++ rest)[t.length + 1]? = some 10 := by rw [List.append_assoc, List.getElem?_append_right (by omega), show t.length + 1 - t.length = 1 by omega]; rfl
  have hi : Lib.indexByte ((t ++ crlfC ++ rest).take 256) 10 = ((t.length + 1 : Nat) : Int) := by
    refine indexByte_at ?_ (fun j hj => ?_)
    · rw [List.getElem?_take, if_pos (by omega)]; exact e2
    · rw [List.getElem?_take, if_pos (by omega)]
      rcases Nat.lt_or_ge j t.length with h | h
      · rw [hg j h]; intro hh; exact ht (List.mem_of_getElem? hh)
      · rw [show j = t.length by omega, e1]; decide
  have hl2 : (t ++ crlfC ++ rest).take (t.length + 1 + 1) = t ++ crlfC := by
    rw [List.take_append_of_le_length (by simp [crlfC])]
    exact List.take_of_length_le (by simp [crlfC])
  have hd : (t ++ crlfC ++ rest).drop (t.length + 1 + 1) = rest := by
    have : t.length + 1 + 1 = (t ++ crlfC).length := by simp [crlfC]
    rw [this, List.drop_left]
  have hs : Lib.hasSuffix (t ++ crlfC) crlfC = true := by unfold Lib.hasSuffix; rw [List.isSuffixOf_iff_suffix]; exact List.suffix_append _ _
  rw [line_at hi, hl2, hd, if_pos hs]
  have : Lib.trimSuffix (t ++ crlfC) crlfC = t := by
    unfold Lib.trimSuffix
    rw [if_pos hs, List.length_append, show t.length + crlfC.length - crlfC.length = t.length by omega, List.take_left]
  rw [this]

theorem runs_more' {c c1 d : Ck} {e : Int} (h : stepM c = (c1, 0)) (hr : Runs c1 d e) : Runs c d e := .more (by rw [h]) (by rw [h]; exact hr)
theorem runs_stop' {c d : Ck} {e : Int} (h : stepM c = (d, e)) (he : e ≠ 0) : Runs c d e := by
  have := Runs.stop (c := c) (by rw [h]; exact he)
  rw [h] at this
  exact this
theorem begin_hex {lf most : Nat} {D rest : List UInt8} {er : Int} {n : Nat} (hn : n ≤ 1048576) (hm : D.length + n ≤ most) :
    stepM ⟨0, lf, most, 0, hexL n ++ crlfC ++ rest, D, er⟩ = (⟨if n = 0 then 3 else 1, n, most, 0, rest, D, er⟩, 0) := by
  have hl := ln_first (t := hexL n) (rest := rest) (hexL_ok n).2.2 (by have := hexL_len (n := n) (by omega); omega)
  obtain ⟨n1, n2⟩ := num_hex n ((most : Int) - D.length) hn
  rw [if_neg (by omega)] at n1
  have n2 := n2 (by omega)
  rw [step0 rfl]
  unfold beginM
  dsimp only
  rw [hl]
  dsimp only
  rw [if_neg (by simp), n1, n2, if_neg (by simp)]
  congr 2
  by_cases h : n = 0
  · rw [if_pos h, if_pos (by omega)]
  · rw [if_neg h, if_neg (by omega)]
theorem begin_long {lf most : Nat} {D rest : List UInt8} {er : Int} {n : Nat} (hn : n ≤ 1048576) (hm : most < D.length + n) :
    stepM ⟨0, lf, most, 0, hexL n ++ crlfC ++ rest, D, er⟩ = (⟨0, lf, most, 0, rest, D, er⟩, 4) := by
  have hl := ln_first (t := hexL n) (rest := rest) (hexL_ok n).2.2 (by have := hexL_len (n := n) (by omega); omega)
  obtain ⟨n1, _⟩ := num_hex n ((most : Int) - D.length) hn
  rw [if_pos (by omega)] at n1
  rw [step0 rfl]
  unfold beginM
  dsimp only
  rw [hl]
  dsimp only
  rw [if_neg (by simp), n1, if_pos (by simp)]
theorem data_hex {most : Nat} {D t rest : List UInt8} {er : Int} {n : Nat} (hn : t.length = n) :
    stepM ⟨1, n, most, 0, t ++ rest, D, er⟩ = (⟨2, 0, most, 0, rest, D ++ t, er⟩, 0) := by
  subst hn
  rw [step1 rfl, data_eq _ t.length (by show min t.length (t ++ rest).length = _; simp), if_neg (by show ¬ 0 < t.length - t.length; omega)]
  show (({ st := 2, left := t.length - t.length, most := most, flds := 0, inp := (t ++ rest).drop t.length, dat := D ++ (t ++ rest).take t.length, err := er } : Ck), (0 : Int)) = _
  rw [List.drop_left, List.take_left, Nat.sub_self]
theorem close_hex {lf most : Nat} {D rest : List UInt8} {er : Int} : stepM ⟨2, lf, most, 0, crlfC ++ rest, D, er⟩ = (⟨0, lf, most, 0, rest, D, er⟩, 0) := by
  rw [step2 rfl]
  unfold closeM
  have h1 : (crlfC ++ rest).take 2 = crlfC := rfl
  have h2 : crlfC.take (crlfC ++ rest).length = crlfC := List.take_of_length_le (by simp)
  have h3 : (crlfC ++ rest).drop 2 = rest := rfl
  dsimp only
  rw [h1, h2, h3, if_neg (by simp), if_neg (by simp [crlfC])]
theorem runs_end {lf most : Nat} {D more : List UInt8} {er : Int} (hm : D.length ≤ most) : Runs ⟨0, lf, most, 0, endC ++ more, D, er⟩ ⟨4, 0, most, 0, more, D, er⟩ 17 := by
  have h48 : hexL 0 = [48] := by unfold hexL; rw [show 0 / 16 = 0 from rfl, hexP_zero]; rfl
  have hb := begin_hex (lf := lf) (most := most) (D := D) (rest := crlfC ++ more) (er := er) (n := 0) (by omega) (by omega)
  rw [h48] at hb
  refine runs_more' (c1 := ⟨3, 0, most, 0, crlfC ++ more, D, er⟩) hb ?_
  have hl := ln_first (t := []) (rest := more) (by simp) (by simp)
  rw [List.nil_append] at hl
  have ht : stepM ⟨3, 0, most, 0, crlfC ++ more, D, er⟩ = (⟨4, 0, most, 0, more, D, er⟩, 0) := by
    rw [step3 rfl]
    unfold trailM
    dsimp only
    rw [hl]
    dsimp only
    rw [if_neg (by simp), if_pos rfl]
  exact runs_more' ht (runs_stop' (step4 rfl) (by decide))
/-- one chunk -/
theorem runs_chunk {lf k most : Nat} {s D R : List UInt8} {er : Int} {d : Ck} {e : Int} (h0 : s ≠ []) (hl : s.length ≤ 1048576) (hm : D.length + min (k + 1) s.length ≤ most)
    (hr : Runs ⟨0, 0, most, 0, wrL k (s.drop (k + 1)) ++ R, D ++ s.take (k + 1), er⟩ d e) : Runs ⟨0, lf, most, 0, wrL k s ++ R, D, er⟩ d e := by
  have hp := len_pos h0
  have ht : (s.take (k + 1)).length = min (k + 1) s.length := List.length_take
  rw [wrL_cons k h0]
  have hb := begin_hex (lf := lf) (most := most) (D := D) (rest := s.take (k + 1) ++ (crlfC ++ (wrL k (s.drop (k + 1)) ++ R))) (er := er) (n := min (k + 1) s.length) (by omega) hm
  rw [if_neg (by omega)] at hb
  refine runs_more' (c1 := ⟨1, min (k + 1) s.length, most, 0, s.take (k + 1) ++ (crlfC ++ (wrL k (s.drop (k + 1)) ++ R)), D, er⟩) ?_ (runs_more' (data_hex ht) (runs_more' close_hex hr))
  rw [← hb]
  simp only [List.append_assoc]
theorem runs_write (k most : Nat) (more : List UInt8) (er : Int) : ∀ (n : Nat) (s D : List UInt8) (lf : Nat), s.length ≤ n → s.length ≤ 1048576 → D.length + s.length ≤ most →
    Runs ⟨0, lf, most, 0, wrL k s ++ (endC ++ more), D, er⟩ ⟨4, 0, most, 0, more, D ++ s, er⟩ 17
  | n, s, D, lf, hn, hl, hm => by
    by_cases h0 : s = []
    · subst h0
      rw [wrL_nil, List.append_nil, List.nil_append]
      exact runs_end (by simp at hm; exact hm)
    · have hp := len_pos h0
      match n, hn with
      | 0, hn => omega
      | n + 1, hn =>
        have hd : (s.drop (k + 1)).length = s.length - (k + 1) := List.length_drop
        have ht : (s.take (k + 1)).length = min (k + 1) s.length := List.length_take
        refine runs_chunk h0 hl (by omega) ?_
        have := runs_write k most more er n (s.drop (k + 1)) (D ++ s.take (k + 1)) 0 (by omega) (by omega) (by rw [List.length_append]; omega)
        rw [List.append_assoc, List.take_append_drop] at this
        exact this
theorem runs_long (k most : Nat) (more : List UInt8) (er : Int) : ∀ (n : Nat) (s D : List UInt8) (lf : Nat), s.length ≤ n → s.length ≤ 1048576 → D.length ≤ most → most < D.length + s.length →
    ∃ d, Runs ⟨0, lf, most, 0, wrL k s ++ more, D, er⟩ d 4 ∧ d.st = 0 ∧ d.most = most ∧ d.dat.length ≤ most
  | n, s, D, lf, hn, hl, hD, hm => by
    by_cases h0 : s = []
    · subst h0; simp at hm; omega
    · have hp := len_pos h0
      match n, hn with
      | 0, hn => omega
      | n + 1, hn =>
        have hd : (s.drop (k + 1)).length = s.length - (k + 1) := List.length_drop
        have ht : (s.take (k + 1)).length = min (k + 1) s.length := List.length_take
        by_cases hf : D.length + min (k + 1) s.length ≤ most
        · obtain ⟨d, hr, h1, h2, h3⟩ := runs_long k most more er n (s.drop (k + 1)) (D ++ s.take (k + 1)) 0 (by omega) (by omega) (by rw [List.length_append]; omega) (by rw [List.length_append]; omega)
          exact ⟨d, runs_chunk h0 hl hf hr, h1, h2, h3⟩
        · have hb := begin_long (lf := lf) (most := most) (D := D) (rest := s.take (k + 1) ++ (crlfC ++ (wrL k (s.drop (k + 1)) ++ more))) (er := er) (n := min (k + 1) s.length) (by omega) (by omega)
          refine ⟨_, runs_stop' (d := ⟨0, lf, most, 0, s.take (k + 1) ++ (crlfC ++ (wrL k (s.drop (k + 1)) ++ more)), D, er⟩) ?_ (by decide), rfl, rfl, hD⟩
          rw [← hb, wrL_cons k h0]
          simp only [List.append_assoc]
end Go.Proofs.YtdmffbefppjllaaDoor

/- Layer 11, plain laws: what was written is read as it was, cut off it isn't whole, with a byte less allowed it is too long. No program. -/
namespace Go.Proofs.YtdmffbefppjllaaDoor
open Go.RowKit

theorem addC_of_runs {c d : Ck} {s : List UInt8} {e : Int} (h0 : c.err = 0) (hok : c.ok) (hr : Runs (c.add s) d e) : addC c s = { d with err := if e = 17 then 0 else e } := by
  have h := addC_R (c := c) (s := s) (fun _ => hok)
  unfold AddR at h
  rw [if_neg (by simp [h0])] at h
  obtain ⟨d', e', hr', hc⟩ := h
  obtain ⟨rfl, rfl⟩ := runs_det hr hr'
  exact hc
theorem addC_rd {m : Int} (s : List UInt8) : Rdc m s (addC (ck0 m) s) := by
  have h := (rd_nil m).add (addC_R (c := ck0 m) (s := s) (fun _ => ck0_ok m))
  exact h.1 rfl
theorem addC_rq {m : Int} {all : List UInt8} {c : Ck} (h : Rq m all c) (s : List UInt8) : Rq m (all ++ s) (addC c s) := h.add (addC_R h.sound.1)
/-- all bytes of a body in chunks -/
def wrT (k : Nat) (s : List UInt8) : List UInt8 := wrL k s ++ endC
theorem back_full (k : Nat) (s more : List UInt8) (hs : s.length ≤ 1048576) : addC (ck0 (s.length : Nat)) (wrT k s ++ more) = ⟨4, 0, s.length, 0, more, s, 0⟩ := by
  have hr := runs_write k s.length more 0 s.length s [] 0 (Nat.le_refl _) hs (by simp)
  have e1 : (ck0 (s.length : Nat)).add (wrT k s ++ more) = ⟨0, 0, s.length, 0, wrL k s ++ (endC ++ more), [], 0⟩ := by
    unfold ck0 Ck.add wrT
    have : (max (s.length : Int) 0).toNat = s.length := by omega
    rw [this]
    simp
  rw [← e1] at hr
  rw [addC_of_runs rfl (ck0_ok _) hr]
  simp
theorem back_cut (k : Nat) (s : List UInt8) (hs : s.length ≤ 1048576) (j : Nat) (hj : j < (wrT k s).length) :
    (addC (ck0 (s.length : Nat)) ((wrT k s).take j)).err = 0 ∧ (addC (ck0 (s.length : Nat)) ((wrT k s).take j)).st ≠ 4 ∧ (addC (ck0 (s.length : Nat)) ((wrT k s).take j)).dat <+: s ∧ (addC (ck0 (s.length : Nat)) ((wrT k s).take j)).st ≤ 4 := by
  have hp := addC_rd (m := (s.length : Nat)) ((wrT k s).take j)
  have hf := addC_rd (m := (s.length : Nat)) (wrT k s)
  have hb := back_full k s [] hs
  rw [List.append_nil] at hb
  rw [hb] at hf
  generalize addC (ck0 (s.length : Nat)) ((wrT k s).take j) = d at *
  have hall : (wrT k s).take j ++ (wrT k s).drop j = wrT k s := List.take_append_drop _ _
  have hsd := hp.sound
  have h0 : d.err = 0 := by
    by_cases h : d.err = 0
    · exact h
    · rw [← hall] at hf
      have := (rd_prefix hp h hf).1
      exact this.symm
  have hadd := (hp.add (addC_R (c := d) (s := (wrT k s).drop j) (fun h => (hsd.1 h).1))).1 h0
  rw [hall] at hadd
  have heq := rd_det hf hadd
  have hok := (hsd.1 h0).1
  have hR := addC_R (c := d) (s := (wrT k s).drop j) (fun h => (hsd.1 h).1)
  unfold AddR at hR
  rw [if_neg (by simp [h0])] at hR
  obtain ⟨x, e, hr, hc⟩ := hR
  rw [← heq] at hc
  refine ⟨h0, fun h4 => ?_, ?_, hsd.2.2.2.1⟩
  · have h4' : (d.add ((wrT k s).drop j)).st = 4 := h4
    rcases runs_eq hr (step4 h4') with hh | hh
    · have := hh.1; simp at this
    · rw [hh.2.1] at hc
      have hi := congrArg Ck.inp hc
      have hl := congrArg List.length hi
      simp [Ck.add] at hl
      omega
  · have := (runs_ok hr (add_ok hok _)).2.2.2.2
    have hd := congrArg Ck.dat hc
    dsimp only at hd
    rw [hd]
    exact this
theorem back_long (k : Nat) (s : List UInt8) (hs : s.length ≤ 1048576) (h0 : s ≠ []) : (addC (ck0 ((s.length - 1 : Nat) : Int)) (wrT k s)).err = 4 ∧ (addC (ck0 ((s.length - 1 : Nat) : Int)) (wrT k s)).st = 0 ∧
    (addC (ck0 ((s.length - 1 : Nat) : Int)) (wrT k s)).inp.length + (addC (ck0 ((s.length - 1 : Nat) : Int)) (wrT k s)).dat.length ≤ (wrT k s).length ∧ ((addC (ck0 ((s.length - 1 : Nat) : Int)) (wrT k s)).most : Int) ≤ 1048576 := by
  have hp := len_pos h0
  obtain ⟨d, hr, h1, h2, h3⟩ := runs_long k (s.length - 1) endC 0 s.length s [] 0 (Nat.le_refl _) hs (by simp) (by simp; omega)
  have e1 : (ck0 ((s.length - 1 : Nat) : Int)).add (wrT k s) = ⟨0, 0, s.length - 1, 0, wrL k s ++ endC, [], 0⟩ := by
    unfold ck0 Ck.add wrT
    have : (max ((s.length - 1 : Nat) : Int) 0).toNat = s.length - 1 := by omega
    rw [this]
    simp
  have hsd := (addC_rd (m := ((s.length - 1 : Nat) : Int)) (wrT k s)).sound
  rw [← e1] at hr
  have hx := addC_of_runs (c := ck0 ((s.length - 1 : Nat) : Int)) rfl (ck0_ok _) hr
  refine ⟨by rw [hx]; simp, by rw [hx]; exact h1, hsd.2.2.1, by rw [hsd.2.1]; omega⟩
theorem addC_bad {c : Ck} (h : c.err ≠ 0) (s : List UInt8) : addC c s = c := by unfold addC; rw [if_pos h]
theorem wrT_len (k : Nat) (s : List UInt8) (h : s.length ≤ 1048576) : (wrT k s).length ≤ 21 * s.length + 5 := by
  have := wrL_len k s.length s (Nat.le_refl _) h
  unfold wrT
  simp [endC]
  omega
theorem wrT_pos (k : Nat) (s : List UInt8) : 5 ≤ (wrT k s).length := by unfold wrT; simp [endC]
end Go.Proofs.YtdmffbefppjllaaDoor

/- Layer 12, plain laws: however the bytes are cut the same requests come of them. No program. No conditions but those that each theorem states. -/
namespace Go.Proofs.YtdmffbefppjllaaDoor
open Go.RowKit

theorem addC_cases {c : Ck} (s : List UInt8) (h0 : c.err = 0) (hk : c.ok) : ∃ d e, Runs (c.add s) d e ∧ addC c s = { d with err := if e = 17 then 0 else e } ∧ d.err = 0 ∧ e ≠ 0 := by
  have hr := addC_R (c := c) (s := s) (fun _ => hk)
  unfold AddR at hr
  rw [if_neg (by simp [h0])] at hr
  obtain ⟨d, e, hr, hc⟩ := hr
  exact ⟨d, e, hr, hc, by rw [(runs_ok hr (add_ok hk s)).2.2.1]; exact h0, runs_ne hr⟩
theorem add_add (c : Ck) (s t : List UInt8) : (c.add s).add t = c.add (s ++ t) := by simp [Ck.add]
theorem addC_bad_app {c : Ck} (s t : List UInt8) (h0 : c.err = 0) (hk : c.ok) (he : (addC c s).err ≠ 0) : (addC c (s ++ t)).err = (addC c s).err := by
  obtain ⟨d, e, hr, hc, hd, hn⟩ := addC_cases s h0 hk
  have h17 : e ≠ 17 := by rintro rfl; rw [hc] at he; exact he rfl
  have ha := (runs_app hr t).1 h17
  rw [add_add] at ha
  rw [addC_of_runs h0 hk ha, hc]
theorem addC_ok_app {c : Ck} (s t : List UInt8) (h0 : c.err = 0) (hk : c.ok) (he : (addC c s).err = 0) : addC c (s ++ t) = addC (addC c s) t := by
  obtain ⟨d, e, hr, hc, hd, hn⟩ := addC_cases s h0 hk
  have h17 : e = 17 := by
    rw [hc] at he
    simp only at he
    split at he
    · assumption
    · exact absurd he hn
  subst h17
  have hcd : addC c s = d := by rw [hc, if_pos rfl, ← hd]
  have hkd := (runs_ok hr (add_ok hk s)).1 rfl
  obtain ⟨d2, e2, hr2, hc2, _, _⟩ := addC_cases t hd hkd
  have ha := (runs_app hr t).2 rfl d2 e2 hr2
  rw [add_add] at ha
  rw [addC_of_runs h0 hk ha, hcd, hc2]
theorem addC_end {d : Ck} (t : List UInt8) (h0 : d.err = 0) (hk : d.ok) (h4 : d.st = 4) : (addC d t).inp = d.inp ++ t ∧ (addC d t).st = 4 ∧ (addC d t).err = 0 := by
  have hr : Runs (d.add t) (d.add t) 17 := runs_stop' (step4 h4) (by decide)
  rw [addC_of_runs h0 hk hr]
  exact ⟨rfl, h4, rfl⟩
def InS.add (p : InS) (t : List UInt8) : InS := { p with inp := p.inp ++ t }
theorem inS_ext {a b : InS} (h1 : a.inp = b.inp) (h2 : a.held = b.held) (h3 : a.req = b.req) (h4 : a.skip = b.skip) (h5 : a.chk = b.chk) (h6 : a.st = b.st) : a = b := by
  cases a; cases b; simp only at h1 h2 h3 h4 h5 h6; subst h1 h2 h3 h4 h5 h6; rfl
theorem nxR_ext {a b : NxR} (h1 : a.p = b.p) (h2 : a.q = b.q) (h3 : a.s = b.s) : a = b := by
  cases a; cases b; simp only at h1 h2 h3; subst h1 h2 h3; rfl
/-- what a result says of the same with more bytes behind -/
structure Tells (a : NxR) (b : NxR) (again : NxR) (t : List UInt8) : Prop where
  yes : a.s = 200 → b = ⟨a.p.add t, a.q, 200⟩
  no : a.s ≠ 200 → a.s ≠ 0 → b.s = a.s ∧ b.q = req0 ∧ a.q = req0
  wait : a.s = 0 → b = again ∧ a.p.st = 0
theorem tail_app {p : InS} {q : Req} (h : p.ok) (h0 : p.st = 0) (hq : p.req = some q) (t : List UInt8) : Tells (tailI p q) (tailI (p.add t) q) (tailI ((tailI p q).p.add t) q) t ∧ ((tailI p q).s = 0 → (tailI p q).p.req = some q) := by
  have hal : (p.add t).inp.length = p.inp.length + t.length := by simp [InS.add]
  cases hc : p.chk with
  | none =>
    rcases Nat.lt_or_ge p.inp.length p.skip with hlt | hge
    · have e1 := tail_none' q hc hlt
      rw [e1]
      refine ⟨⟨fun hh => by simp at hh, fun _ hh => absurd rfl hh, fun _ => ⟨?_, h0⟩⟩, fun _ => hq⟩
      dsimp only
      rcases Nat.lt_or_ge (p.add t).inp.length p.skip with h2 | h2
      · rw [tail_none' (p := p.add t) q hc h2, tail_none' (p := InS.add { p with inp := [], held := p.held + p.inp.length, skip := p.skip - p.inp.length } t) q hc (by simp only [InS.add, List.nil_append]; omega)]
        refine nxR_ext (inS_ext rfl ?_ rfl ?_ rfl rfl) rfl rfl
        · simp [InS.add]; omega
        · simp [InS.add]; omega
      · rw [tail_none (p := p.add t) q hc h2, tail_none (p := InS.add { p with inp := [], held := p.held + p.inp.length, skip := p.skip - p.inp.length } t) q hc (by simp only [InS.add, List.nil_append]; omega)]
        refine nxR_ext (inS_ext ?_ rfl rfl rfl rfl rfl) rfl rfl
        simp only [InS.add, List.nil_append]
        rw [List.drop_append, List.drop_eq_nil_of_le (by omega), List.nil_append]
    · have e1 := tail_none q hc hge
      rw [e1, tail_none (p := p.add t) q hc (by show p.skip ≤ (p.add t).inp.length; omega)]
      refine ⟨⟨fun _ => ?_, fun hh => absurd rfl hh, fun hh => by simp at hh⟩, fun hh => by simp at hh⟩
      refine nxR_ext (inS_ext ?_ rfl rfl rfl rfl rfl) rfl rfl
      simp only [InS.add]
      exact List.drop_append_of_le_length hge
  | some c =>
    obtain ⟨k1, k2, k3, k4⟩ := h.chk c hc
    have ke := h.bad c h0 hc
    have kk := k1 ke
    have d5 := addC_ne17 (c := c) p.inp (by rw [ke]; decide)
    have d6 := addC_ne17 (c := c) (p.inp ++ t) (by rw [ke]; decide)
    have d4 := (addC_sound p.inp k1 k4).2.2.2
    by_cases e1 : (addC c p.inp).err = 0
    · have hcat := addC_ok_app p.inp t ke kk e1
      by_cases e2 : (addC c p.inp).st = 4
      · obtain ⟨f1, f2, f3⟩ := addC_end t e1 (d4 e1) e2
        rw [← hcat] at f1 f2 f3
        rw [tail_done q hc e1 e2, tail_done (p := p.add t) q hc f3 f2]
        refine ⟨⟨fun _ => ?_, fun hh => absurd rfl hh, fun hh => by simp at hh⟩, fun hh => by simp at hh⟩
        exact nxR_ext (inS_ext f1 rfl rfl rfl rfl rfl) rfl rfl
      · rw [tail_more q hc e1 e2]
        refine ⟨⟨fun hh => by simp at hh, fun _ hh => absurd rfl hh, fun _ => ⟨?_, h0⟩⟩, fun _ => hq⟩
        dsimp only
        have hi : (p.add t).inp = p.inp ++ t := rfl
        have hcA : (p.add t).chk = some c := hc
        have hin : (InS.add { p with inp := [], held := p.held + p.inp.length, chk := some (addC c p.inp) } t).inp = t := rfl
        by_cases g1 : (addC c (p.inp ++ t)).err = 0
        · by_cases g2 : (addC c (p.inp ++ t)).st = 4
          · rw [tail_done (p := p.add t) q hcA g1 g2, tail_done (p := InS.add { p with inp := [], held := p.held + p.inp.length, chk := some (addC c p.inp) } t) (c := addC c p.inp) q rfl (by rw [hin, ← hcat]; exact g1) (by rw [hin, ← hcat]; exact g2)]
            exact nxR_ext (inS_ext (by rw [hi, hin, hcat]) rfl rfl rfl rfl rfl) rfl rfl
          · rw [tail_more (p := p.add t) q hcA g1 g2, tail_more (p := InS.add { p with inp := [], held := p.held + p.inp.length, chk := some (addC c p.inp) } t) (c := addC c p.inp) q rfl (by rw [hin, ← hcat]; exact g1) (by rw [hin, ← hcat]; exact g2)]
            refine nxR_ext (inS_ext rfl ?_ rfl rfl (by rw [hi, hin, hcat]) rfl) rfl rfl
            rw [hi, hin]; simp [InS.add]; omega
        · rw [tail_bad (p := p.add t) q hcA g1 d6, tail_bad (p := InS.add { p with inp := [], held := p.held + p.inp.length, chk := some (addC c p.inp) } t) (c := addC c p.inp) q rfl (by rw [hin, ← hcat]; exact g1) (by rw [hin, ← hcat]; exact d6)]
          refine nxR_ext (inS_ext rfl ?_ rfl rfl (by rw [hi, hin, hcat]) (by rw [hi, hin, hcat])) rfl (by rw [hi, hin, hcat])
          rw [hi, hin]; simp [InS.add]; omega
    · have hb := addC_bad_app p.inp t ke kk e1
      have ht := told_ne (long := 413) e1 d5 (by decide)
      rw [tail_bad q hc e1 d5, tail_bad (p := p.add t) (c := c) q hc (by show (addC c (p.inp ++ t)).err ≠ 0; rw [hb]; exact e1) d6]
      have ht2 : toldE (addC c p.inp).err 413 ≠ 200 := by unfold toldE; split; (simp); split <;> simp
      refine ⟨⟨fun hh => absurd hh ht2, fun _ _ => ⟨?_, rfl, rfl⟩, fun hh => absurd hh ht⟩, fun hh => absurd hh ht⟩
      show toldE (addC c (p.inp ++ t)).err 413 = toldE (addC c p.inp).err 413
      rw [hb]
theorem head_app (l t : List UInt8) : headM l = hr0 0 ∨ headM (l ++ t) = headM l := by
  rcases split_append l t with h | h
  · left
    unfold headM
    rw [if_pos (by rw [h]; decide), h]
    rfl
  · right
    unfold headM
    rw [h]
theorem next_some {p : InS} {q : Req} (h0 : p.st = 0) (hq : p.req = some q) : nextI p = tailI p q := by unfold nextI; rw [if_neg (by simp [h0]), hq]
theorem next_none {p : InS} (h0 : p.st = 0) (hq : p.req = none) : nextI p = if (headM p.inp).s ≠ 0 then ⟨{ p with st := (headM p.inp).s }, req0, (headM p.inp).s⟩ else if (headM p.inp).got then tailI (headed p (headM p.inp)) (headM p.inp).q else ⟨p, req0, 0⟩ := by
  unfold nextI; rw [if_neg (by simp [h0]), hq]
theorem next_app {p : InS} (h : p.ok) (h0 : p.st = 0) (t : List UInt8) : Tells (nextI p) (nextI (p.add t)) (nextI ((nextI p).p.add t)) t := by
  cases hr : p.req with
  | some q =>
    have ha := tail_app h h0 hr t
    rw [next_some h0 hr, next_some (p := p.add t) h0 hr]
    refine ⟨ha.1.yes, ha.1.no, fun hs => ?_⟩
    have hw := ha.1.wait hs
    rw [next_some (p := (tailI p q).p.add t) hw.2 (ha.2 hs)]
    exact hw
  | none =>
    have hrA : (p.add t).req = none := hr
    have h0A : (p.add t).st = 0 := h0
    by_cases hs : (headM p.inp).s = 0
    · cases hg : (headM p.inp).got with
      | false =>
        have e1 : nextI p = ⟨p, req0, 0⟩ := by rw [next_none h0 hr, if_neg (by simp [hs]), hg, if_neg (by simp)]
        rw [e1]
        refine ⟨fun hh => by simp at hh, fun _ hh => absurd rfl hh, fun _ => ⟨rfl, h0⟩⟩
      | true =>
        have hA : headM (p.inp ++ t) = headM p.inp := by
          rcases head_app p.inp t with hx | hx
          · rw [hx] at hg; cases hg
          · exact hx
        have hok := headed_ok h h0 hr hg
        have hb := (head_bounds p.inp).2.1 hg
        have ha := tail_app hok h0 (q := (headM p.inp).q) rfl t
        have hAi : headM (p.add t).inp = headM p.inp := hA
        have hhd : headed (p.add t) (headM p.inp) = (headed p (headM p.inp)).add t := by
          refine inS_ext ?_ rfl rfl rfl rfl rfl
          exact List.drop_append_of_le_length hb
        have e1 : nextI p = tailI (headed p (headM p.inp)) (headM p.inp).q := by rw [next_none h0 hr, if_neg (by simp [hs]), hg, if_pos rfl]
        have e2 : nextI (p.add t) = tailI ((headed p (headM p.inp)).add t) (headM p.inp).q := by rw [next_none h0A hrA, hAi, if_neg (by simp [hs]), hg, if_pos rfl, hhd]
        rw [e1, e2]
        refine ⟨ha.1.yes, ha.1.no, fun hs2 => ?_⟩
        have hw := ha.1.wait hs2
        rw [next_some (p := (tailI (headed p (headM p.inp)) (headM p.inp).q).p.add t) hw.2 (ha.2 hs2)]
        exact hw
    · have hA : headM (p.inp ++ t) = headM p.inp := by
        rcases head_app p.inp t with hx | hx
        · rw [hx] at hs; exact absurd rfl hs
        · exact hx
      have hAi : headM (p.add t).inp = headM p.inp := hA
      have e1 : nextI p = ⟨{ p with st := (headM p.inp).s }, req0, (headM p.inp).s⟩ := by rw [next_none h0 hr, if_pos hs]
      have e2 : nextI (p.add t) = ⟨{ p.add t with st := (headM p.inp).s }, req0, (headM p.inp).s⟩ := by rw [next_none h0A hrA, hAi, if_pos hs]
      rw [e1, e2]
      exact ⟨fun hh => absurd hh (head_ne200 _), fun _ _ => ⟨rfl, rfl, rfl⟩, fun hh => absurd hh hs⟩
/-- all requests that an inlet has, what is wrong then, what is left -/
inductive Alls : InS → List Req → Int → InS → Prop
  | stop {p : InS} : (nextI p).s ≠ 200 → Alls p [] (nextI p).s (nextI p).p
  | more {p p' : InS} {L : List Req} {n : Int} : (nextI p).s = 200 → Alls (nextI p).p L n p' → Alls p ((nextI p).q :: L) n p'
theorem alls_det {p p1 p2 : InS} {L1 L2 : List Req} {n1 n2 : Int} (h : Alls p L1 n1 p1) : Alls p L2 n2 p2 → L1 = L2 ∧ n1 = n2 ∧ p1 = p2 := by
  induction h generalizing L2 n2 p2 with
  | stop h => intro k; cases k with
    | stop _ => exact ⟨rfl, rfl, rfl⟩
    | more k _ => exact absurd k h
  | more h _ ih => intro k; cases k with
    | stop k => exact absurd h k
    | more _ k => obtain ⟨rfl, rfl, rfl⟩ := ih k; exact ⟨rfl, rfl, rfl⟩
theorem alls_of {p r p' : InS} {L : List Req} {n : Int} (he : nextI p = nextI r) (h : Alls r L n p') : Alls p L n p' := by
  cases h with
  | stop h => rw [← he] at h ⊢; exact .stop h
  | more h k => rw [← he] at h k ⊢; exact .more h k
theorem alls_app {p p1 : InS} {L1 : List Req} {n1 : Int} (h : Alls p L1 n1 p1) (t : List UInt8) : p.ok → p.st = 0 →
    (n1 = 0 → ∀ L2 n p', Alls (p1.add t) L2 n p' → Alls (p.add t) (L1 ++ L2) n p') ∧ (n1 ≠ 0 → ∃ p', Alls (p.add t) L1 n1 p') ∧ (n1 = 0 → p1.st = 0) ∧ p1.ok ∧ n1 ≠ 200 := by
  induction h with
  | @stop p h =>
    intro hok h0
    have ha := next_app hok h0 t
    refine ⟨fun hn L2 n p' k => ?_, fun hn => ?_, fun hn => (ha.wait hn).2, next_ok hok, h⟩
    · exact alls_of (ha.wait hn).1 k
    · obtain ⟨e1, _, _⟩ := ha.no h hn
      refine ⟨(nextI (p.add t)).p, ?_⟩
      rw [← e1]
      exact .stop (by rw [e1]; exact h)
  | @more p p' L n h k ih =>
    intro hok h0
    have ha := (next_app hok h0 t).yes h
    obtain ⟨i1, i2, i3, i4, i5⟩ := ih (next_ok hok) (next_st hok h0 h)
    refine ⟨fun hn L2 m r kk => ?_, fun hn => ?_, i3, i4, i5⟩
    · have := Alls.more (p := p.add t) (L := L ++ L2) (n := m) (p' := r) (by rw [ha]) (by rw [ha]; exact i1 hn L2 m r kk)
      rw [ha] at this
      exact this
    · obtain ⟨r, kk⟩ := i2 hn
      refine ⟨r, ?_⟩
      have := Alls.more (p := p.add t) (L := L) (n := n) (p' := r) (by rw [ha]) (by rw [ha]; exact kk)
      rw [ha] at this
      exact this
theorem in0_add (t : List UInt8) : (in0.add t) = { in0 with inp := t } := rfl
theorem alls_nil : Alls in0 [] 0 in0 := by
  have h : nextI in0 = ⟨in0, req0, 0⟩ := by kernel_rfl
  have := Alls.stop (p := in0) (by rw [h]; decide)
  rw [h] at this
  exact this
end Go.Proofs.YtdmffbefppjllaaDoor

/- Layer 26: a guest in memory; its calls. No conditions but on lengths. -/
namespace Go.Proofs.YtdmffbefppjllaaDoor
open Go.RowKit Go.Shelf

structure Gs where
  I : InS
  out : List UInt8
  busy : Bool
  closing : Bool
  ans : Nat
def gs0 : Gs := ⟨in0, [], false, false, 0⟩
def guC (p : Nat) (G : Gs) : List Value := [.pointer (some ⟨p, 0, none⟩), .string (S G.out), .bool G.busy, .bool G.closing, .int .i64 (G.ans : Nat)]
structure Gt (B : Nat) (w : World) (g p : Nat) (X R : List Nat) (G : Gs) : Prop where
  bk : Blk w g 67 (guC p G)
  it : It B w p X R G.I
  gx : g ∉ X ∧ g ∉ R
  lo : B ≤ g
theorem Gt.keep {B g p : Nat} {w w' : World} {X R S : List Nat} {G : Gs} (h : Gt B w g p X R G) (k : Keep S w w') (hg : g ∉ S) (hX : ∀ x ∈ X, x ∉ S) (hR : ∀ x ∈ R, x ∉ S) : Gt B w' g p X R G := ⟨k.blk h.bk hg, h.it.keep k hX hR, h.gx, h.lo⟩
theorem Gt.keep0 {B g p : Nat} {w w' : World} {X R : List Nat} {G : Gs} (h : Gt B w g p X R G) (k : Keep [] w w') : Gt B w' g p X R G := h.keep k (by simp) (by simp) (by simp)
theorem Gt.at_ {B g p : Nat} {w : World} {X R : List Nat} {G : Gs} (h : Gt B w g p X R G) : w.cell? ⟨g, 0, none⟩ = some (.pointer (some ⟨p, 0, none⟩)) ∧ w.cell? ⟨g, 1, none⟩ = some (.string (S G.out)) ∧ w.cell? ⟨g, 2, none⟩ = some (.bool G.busy) ∧ w.cell? ⟨g, 3, none⟩ = some (.bool G.closing) ∧ w.cell? ⟨g, 4, none⟩ = some (.int .i64 (G.ans : Nat)) :=
  ⟨h.bk.get (k := 0) rfl, h.bk.get (k := 1) rfl, h.bk.get (k := 2) rfl, h.bk.get (k := 3) rfl, h.bk.get (k := 4) rfl⟩
theorem Gt.set {B g p : Nat} {w : World} {X R : List Nat} {G G' : Gs} (h : Gt B w g p X R G) (k : Nat) (x : Value) (hc : (guC p G).set k x = guC p G') (hI : G'.I = G.I) : Gt B (w.setCell ⟨g, k, none⟩ x) g p X R G' := by
  have hk : Keep [g] w (w.setCell ⟨g, k, none⟩ x) := (Keep.refl _ _).setCell _ _ (by simp)
  refine ⟨by rw [← hc]; exact h.bk.set k x, ?_, h.gx, h.lo⟩
  rw [hI]
  exact h.it.keep hk (fun y hy hh => by have h9 : y = g := (by simpa using hh); exact h.gx.1 (h9 ▸ hy)) (fun y hy hh => by have h9 : y = g := (by simpa using hh); exact h.gx.2 (h9 ▸ hy))
theorem k1 (w : World) (g k : Nat) (x : Value) : Keep [g] w (w.setCell ⟨g, k, none⟩ x) := (Keep.refl _ _).setCell _ _ (by simp)

set_option maxRecDepth 100000 in
set_option maxHeartbeats 2000000 in
theorem guest_New (B : Nat) (w : World) (hB : B ≤ w.heap.size) : Calls Tryd.prog 15 #[] w fun e w' => ∃ g p, e = .returned (.pointer (some ⟨g, 0, none⟩)) ∧ w.heap.size ≤ g ∧ Gt B w' g p [p] [] gs0 ∧ Keep [] w w' := by
  have HN := Lib.hid (inlet_New B w hB)
  go_enter Tryd.func15, Tryd.ntmps15
  go_wp2_with fail
  refine HN.out.mono ?_
  rintro e w1 ⟨p, rfl, hp, hi, k1⟩
  have hbk := Blk.newA w1 (guC p gs0).toArray 67
  have HX := Lib.hid (And.intro (show Blk (w1.alloc (.cells (guC p gs0).toArray 67)) w1.heap.size 67 (guC p gs0) from hbk) (And.intro hi (And.intro hp k1)))
  clear hbk hi hp k1
  go_wp2_with fail
  go_ret
  obtain ⟨h1, h2, h3, h4⟩ := HX.out
  have hlt := h2.lt
  have hs := h4.size
  exact ⟨w1.heap.size, p, rfl, hs, ⟨h1, h2.keep0 ((Keep.refl _ _).alloc _), ⟨by simp; omega, by simp⟩, by omega⟩, h4.alloc _⟩
set_option maxRecDepth 100000 in
set_option maxHeartbeats 1000000 in
theorem guest_Busy {B g p : Nat} {w : World} {X R : List Nat} {G : Gs} (h : Gt B w g p X R G) : Calls Tryd.prog 22 #[.pointer (some ⟨g, 0, none⟩)] w fun e w' => e = .returned (.bool G.busy) ∧ w = w' := by
  obtain ⟨c0, c1, c2, c3, c4⟩ := h.at_
  clear h
  go_enter Tryd.func22, Tryd.ntmps22
  go_wp2_with fail
  go_ret
  exact ⟨rfl, rfl⟩
set_option maxRecDepth 100000 in
set_option maxHeartbeats 1000000 in
theorem guest_Closing {B g p : Nat} {w : World} {X R : List Nat} {G : Gs} (h : Gt B w g p X R G) : Calls Tryd.prog 25 #[.pointer (some ⟨g, 0, none⟩)] w fun e w' => e = .returned (.bool G.closing) ∧ w = w' := by
  obtain ⟨c0, c1, c2, c3, c4⟩ := h.at_
  clear h
  go_enter Tryd.func25, Tryd.ntmps25
  go_wp2_with fail
  go_ret
  exact ⟨rfl, rfl⟩
set_option maxRecDepth 100000 in
set_option maxHeartbeats 1000000 in
theorem guest_Answers {B g p : Nat} {w : World} {X R : List Nat} {G : Gs} (h : Gt B w g p X R G) : Calls Tryd.prog 27 #[.pointer (some ⟨g, 0, none⟩)] w fun e w' => e = .returned (.int .i64 (G.ans : Nat)) ∧ w = w' := by
  obtain ⟨c0, c1, c2, c3, c4⟩ := h.at_
  clear h
  go_enter Tryd.func27, Tryd.ntmps27
  go_wp2_with fail
  go_ret
  exact ⟨rfl, rfl⟩
set_option maxRecDepth 100000 in
set_option maxHeartbeats 1000000 in
theorem guest_Free {B g p : Nat} {w : World} {X R : List Nat} {G : Gs} (h : Gt B w g p X R G) (hl : G.out.length ≤ 1048576) : Calls Tryd.prog 19 #[.pointer (some ⟨g, 0, none⟩)] w fun e w' => e = .returned (.int .i64 (8192 - (G.out.length : Int))) ∧ w = w' := by
  obtain ⟨c0, c1, c2, c3, c4⟩ := h.at_
  clear h
  have sz := S_size G.out
  have hw := IntWalk.i64_in ((8192 : Int) - (G.out.length : Int)) (by omega)
  go_enter Tryd.func19, Tryd.ntmps19
  go_wp2_with fail
  go_ret
  exact ⟨rfl, rfl⟩
set_option maxRecDepth 100000 in
set_option maxHeartbeats 1000000 in
theorem guest_Open {B g p : Nat} {w : World} {X R : List Nat} {G : Gs} (h : Gt B w g p X R G) : Calls Tryd.prog 26 #[.pointer (some ⟨g, 0, none⟩)] w fun e w' => e = .returned (.bool (!G.closing || !G.out.isEmpty)) ∧ w = w' := by
  obtain ⟨c0, c1, c2, c3, c4⟩ := h.at_
  have tl := S_toList G.out
  clear h
  cases hc : G.closing with
  | false =>
    rw [hc] at c3
    clear hc
    go_enter Tryd.func26, Tryd.ntmps26
    go_wp2_with fail
    go_ret
    exact ⟨rfl, rfl⟩
  | true =>
    rw [hc] at c3
    clear hc
    cases ho : G.out.isEmpty with
    | true =>
      go_enter Tryd.func26, Tryd.ntmps26
      go_wp2_with fail
      go_ret
      exact ⟨rfl, rfl⟩
    | false =>
      go_enter Tryd.func26, Tryd.ntmps26
      go_wp2_with fail
      go_ret
      exact ⟨rfl, rfl⟩
def sayG (G : Gs) (s : List UInt8) : Gs × Int := if G.closing then (G, 8) else ({ G with I := (inAdd G.I s).1 }, if (inAdd G.I s).2 = 8 then 0 else (inAdd G.I s).2)
set_option maxRecDepth 100000 in
set_option maxHeartbeats 2000000 in
theorem guest_Say {B g p : Nat} {w : World} {X R : List Nat} {G : Gs} (s : List UInt8) (h : Gt B w g p X R G) (hl : G.I.inp.length + G.I.held ≤ 1048576) (hs : s.length ≤ 1048576) :
    Calls Tryd.prog 16 #[.pointer (some ⟨g, 0, none⟩), .string (S s)] w fun e w' => e = .returned (.int .i64 (sayG G s).2) ∧ Gt B w' g p X R (sayG G s).1 ∧ Keep X w w' := by
  obtain ⟨c0, c1, c2, c3, c4⟩ := h.at_
  have H := Lib.hid h
  have HA := Lib.hid (inlet_Add s h.it hl hs)
  have hS : sayG G s = if G.closing then (G, 8) else ({ G with I := (inAdd G.I s).1 }, if (inAdd G.I s).2 = 8 then 0 else (inAdd G.I s).2) := rfl
  clear h
  cases hc : G.closing with
  | true =>
    rw [hc] at c3
    rw [if_pos hc] at hS
    have HS := Lib.hid hS
    clear hS hc
    go_enter Tryd.func16, Tryd.ntmps16
    go_wp2_with fail
    go_ret
    rw [HS.out]
    exact ⟨rfl, H.out, Keep.refl _ _⟩
  | false =>
    rw [hc] at c3
    rw [if_neg (by simp [hc])] at hS
    generalize inAdd G.I s = r at *
    by_cases h8 : r.2 = 8
    · rw [if_pos h8] at hS
      have q := (int_eq h8).2
      have HS := Lib.hid hS
      clear hS hc h8
      go_enter Tryd.func16, Tryd.ntmps16
      go_wp2_with fail
      refine HA.out.mono ?_
      rintro e w1 ⟨rfl, hi, k⟩
      have HX := Lib.hid (And.intro hi k)
      clear hi k
      go_wp2_with fail
      go_ret
      rw [HS.out]
      refine ⟨rfl, ⟨show Blk _ g 67 (guC p G) from HX.out.2.blk H.out.bk (fun hh => ?_), HX.out.1, H.out.gx, H.out.lo⟩, H.out.it.keepX HX.out.2⟩
      have h9 : g = p := (by simpa using hh)
      exact H.out.gx.1 (h9 ▸ H.out.it.mem)
    · rw [if_neg h8] at hS
      have q := (int_ne h8).2
      have HS := Lib.hid hS
      clear hS hc h8
      go_enter Tryd.func16, Tryd.ntmps16
      go_wp2_with fail
      refine HA.out.mono ?_
      rintro e w1 ⟨rfl, hi, k⟩
      have HX := Lib.hid (And.intro hi k)
      clear hi k
      go_wp2_with fail
      go_ret
      rw [HS.out]
      refine ⟨rfl, ⟨show Blk _ g 67 (guC p G) from HX.out.2.blk H.out.bk (fun hh => ?_), HX.out.1, H.out.gx, H.out.lo⟩, H.out.it.keepX HX.out.2⟩
      have h9 : g = p := (by simpa using hh)
      exact H.out.gx.1 (h9 ▸ H.out.it.mem)
def putG (G : Gs) (s : List UInt8) : Gs × Int := if G.busy then (if (8192 : Int) - G.out.length < s.length then (G, 6) else ({ G with out := G.out ++ s }, 0)) else (G, 8)
set_option maxRecDepth 100000 in
set_option maxHeartbeats 2000000 in
theorem guest_Put {B g p : Nat} {w : World} {X R : List Nat} {G : Gs} (s : List UInt8) (h : Gt B w g p X R G) (hl : G.out.length ≤ 1048576) (hs : s.length ≤ 1048576) :
    Calls Tryd.prog 20 #[.pointer (some ⟨g, 0, none⟩), .string (S s)] w fun e w' => e = .returned (.int .i64 (putG G s).2) ∧ Gt B w' g p X R (putG G s).1 ∧ Keep [g] w w' := by
  obtain ⟨c0, c1, c2, c3, c4⟩ := h.at_
  have f1 := h.bk.frozen 1
  have H := Lib.hid h
  have HF := Lib.hid (guest_Free h hl)
  have sz := S_size s
  have sz2 := S_size G.out
  have hP : putG G s = if G.busy then (if (8192 : Int) - G.out.length < s.length then (G, 6) else ({ G with out := G.out ++ s }, 0)) else (G, 8) := rfl
  clear h
  cases hc : G.busy with
  | false =>
    rw [hc] at c2
    rw [if_neg (by simp [hc])] at hP
    have HS := Lib.hid hP
    clear hP hc
    go_enter Tryd.func20, Tryd.ntmps20
    go_wp2_with fail
    go_ret
    rw [HS.out]
    exact ⟨rfl, H.out, Keep.refl _ _⟩
  | true =>
    rw [hc] at c2
    rw [if_pos hc] at hP
    by_cases h6 : (8192 : Int) - G.out.length < s.length
    · rw [if_pos h6] at hP
      have HS := Lib.hid hP
      have q : decide ((s.length : Int) > (8192 : Int) - (G.out.length : Int)) = true := by simp; omega
      clear hP hc
      go_enter Tryd.func20, Tryd.ntmps20
      go_wp2_with fail
      refine HF.out.mono ?_
      rintro e w1 ⟨rfl, rfl⟩
      go_wp2_with fail
      go_ret
      rw [HS.out]
      exact ⟨rfl, H.out, Keep.refl _ _⟩
    · rw [if_neg h6] at hP
      have HS := Lib.hid hP
      have q : decide ((s.length : Int) > (8192 : Int) - (G.out.length : Int)) = false := by simp; omega
      have hcat := S_append G.out s
      have hov : ¬ 9223372036854775807 < G.out.length + s.length := by omega
      clear hP hc
      go_enter Tryd.func20, Tryd.ntmps20
      go_wp2_with fail
      refine HF.out.mono ?_
      rintro e w1 ⟨rfl, rfl⟩
      go_wp2_with fail
      go_ret
      rw [HS.out]
      exact ⟨rfl, H.out.set (G' := { G with out := G.out ++ s }) 1 (.string (S (G.out ++ s))) rfl rfl, k1 _ _ _ _⟩
def drainG (G : Gs) (n : Int) : Nat := min (max n 0).toNat G.out.length
set_option maxRecDepth 100000 in
set_option maxHeartbeats 2000000 in
theorem guest_Drain {B g p : Nat} {w : World} {X R : List Nat} {G : Gs} (n : Int) (h : Gt B w g p X R G) (hl : G.out.length ≤ 1048576) :
    Calls Tryd.prog 21 #[.pointer (some ⟨g, 0, none⟩), .int .i64 n] w fun e w' => e = .returned (.string (S (G.out.take (drainG G n)))) ∧ Gt B w' g p X R { G with out := G.out.drop (drainG G n) } ∧ Keep [g] w w' := by
  obtain ⟨c0, c1, c2, c3, c4⟩ := h.at_
  have f1 := h.bk.frozen 1
  have H := Lib.hid h
  have sz2 := S_size G.out
  have hd : min (max n 0) ((G.out.length : Nat) : Int) = ((drainG G n : Nat) : Int) := by unfold drainG; omega
  have hk : drainG G n ≤ G.out.length := Nat.min_le_right _ _
  generalize drainG G n = k at *
  have x1 : (S G.out).extract 0 k = S (G.out.take k) := by rw [S_extract, List.drop_zero]
  have x2 : (S G.out).extract k G.out.length = S (G.out.drop k) := by rw [S_extract, List.take_length]
  have i0 : (0 : Int) ≤ (k : Int) := by omega
  have i1 : (k : Int) ≤ (G.out.length : Int) := by omega
  clear h
  go_enter Tryd.func21, Tryd.ntmps21
  go_wp2_with fail
  go_ret
  exact ⟨rfl, H.out.set (G' := { G with out := G.out.drop k }) 1 (.string (S (G.out.drop k))) rfl rfl, k1 _ _ _ _⟩
def doneG (G : Gs) (last : Bool) : Gs := if G.busy then { G with busy := false, ans := G.ans + 1, closing := last } else G
set_option maxRecDepth 100000 in
set_option maxHeartbeats 2000000 in
theorem guest_Done {B g p : Nat} {w : World} {X R : List Nat} {G : Gs} (last : Bool) (h : Gt B w g p X R G) (ha : G.ans ≤ 1048576) :
    Calls Tryd.prog 24 #[.pointer (some ⟨g, 0, none⟩), .bool last] w fun e w' => e = .returned (.tuple #[]) ∧ Gt B w' g p X R (doneG G last) ∧ Keep [g] w w' := by
  obtain ⟨c0, c1, c2, c3, c4⟩ := h.at_
  have f2 := h.bk.frozen 2
  have f3 := h.bk.frozen 3
  have f4 := h.bk.frozen 4
  have H := Lib.hid h
  have hD : doneG G last = if G.busy then { G with busy := false, ans := G.ans + 1, closing := last } else G := rfl
  have hw := IntWalk.i64_in ((G.ans : Int) + 1) (by omega)
  have he : ((G.ans : Int) + 1) = ((G.ans + 1 : Nat) : Int) := by omega
  have HE := Lib.hid he
  clear h he
  cases hc : G.busy with
  | false =>
    rw [hc] at c2
    rw [if_neg (by simp [hc])] at hD
    have HS := Lib.hid hD
    clear hD hc
    go_enter Tryd.func24, Tryd.ntmps24
    go_wp2_with fail
    refine bodyPost_ret (results_none rfl _ _ _) rfl ?_
    rw [HS.out]
    exact ⟨rfl, H.out, Keep.refl _ _⟩
  | true =>
    rw [hc] at c2
    rw [if_pos hc] at hD
    have HS := Lib.hid hD
    clear hD hc
    go_enter Tryd.func24, Tryd.ntmps24
    go_wp2_with fail
    go_end0
    rw [HS.out]
    exact ⟨rfl, ((H.out.set (G' := { G with busy := false }) 2 (.bool false) rfl rfl).set (G' := { G with busy := false, ans := G.ans + 1 }) 4 (.int .i64 ((G.ans : Int) + 1)) (by rw [HE.out]; rfl) rfl).set (G' := { G with busy := false, ans := G.ans + 1, closing := last }) 3 (.bool last) rfl rfl, (((Keep.refl _ _).setCell _ _ (by simp)).setCell _ _ (by simp)).setCell _ _ (by simp)⟩
def abortG (G : Gs) : Gs := { G with busy := false, closing := true }
set_option maxRecDepth 100000 in
set_option maxHeartbeats 2000000 in
theorem guest_Abort {B g p : Nat} {w : World} {X R : List Nat} {G : Gs} (h : Gt B w g p X R G) :
    Calls Tryd.prog 23 #[.pointer (some ⟨g, 0, none⟩)] w fun e w' => e = .returned (.tuple #[]) ∧ Gt B w' g p X R (abortG G) ∧ Keep [g] w w' := by
  obtain ⟨c0, c1, c2, c3, c4⟩ := h.at_
  have f2 := h.bk.frozen 2
  have f3 := h.bk.frozen 3
  have H := Lib.hid h
  clear h
  go_enter Tryd.func23, Tryd.ntmps23
  go_wp2_with fail
  go_end0
  exact ⟨rfl, (H.out.set (G' := { G with busy := false }) 2 (.bool false) rfl rfl).set (G' := abortG G) 3 (.bool true) rfl rfl, ((Keep.refl _ _).setCell _ _ (by simp)).setCell _ _ (by simp)⟩
end Go.Proofs.YtdmffbefppjllaaDoor

/- Layer 13: laid: a head that is written. No conditions but on lengths. -/
namespace Go.Proofs.YtdmffbefppjllaaDoor
open Go.RowKit Go.Shelf

def fin (l : List UInt8) (e : Int) : Value := .tuple #[.string (S l), .int .i64 e]
theorem laid_many {st : List UInt8} {L : List Fld} (h : 32 < L.length) : laidE st L = 1 ∧ laidS st L = [] := by
  have h0 : laidOk L = false := by unfold laidOk; simp; omega
  have h1 : laidE st L = 1 := by unfold laidE; rw [h0]; rfl
  exact ⟨h1, by unfold laidS; rw [h1]; rfl⟩
theorem laid_bad {st : List UInt8} {L : List Fld} {x : Fld} (hx : x ∈ L) (hg : goodF x = false) : laidE st L = 1 ∧ laidS st L = [] := by
  have h0 : laidOk L = false := by
    unfold laidOk
    rw [show L.all goodF = false from by rw [List.all_eq_false]; exact ⟨x, hx, by simp [hg]⟩, Bool.and_false]
  have h1 : laidE st L = 1 := by unfold laidE; rw [h0]; rfl
  exact ⟨h1, by unfold laidS; rw [h1]; rfl⟩
theorem laid_good {st : List UInt8} {L : List Fld} (h : L.length ≤ 32) (hg : L.all goodF = true) : laidE st L = (if (headT st L).length ≤ 4096 then 0 else 4) ∧ laidS st L = (if (headT st L).length ≤ 4096 then headT st L else []) := by
  have h0 : laidOk L = true := by unfold laidOk; rw [hg]; simp [h]
  have h1 : laidE st L = (if (headT st L).length ≤ 4096 then 0 else 4) := by unfold laidE; rw [h0]; rfl
  refine ⟨h1, ?_⟩
  unfold laidS
  rw [h1]
  by_cases h2 : (headT st L).length ≤ 4096
  · rw [if_pos h2, if_pos h2, if_pos rfl]
  · rw [if_neg h2, if_neg h2, if_neg (by decide)]
theorem body_take {L : List Fld} {k : Nat} {x : Fld} (h : L[k]? = some x) : bodyT (L.take (k + 1)) = bodyT (L.take k) ++ (printF x ++ [13, 10]) := by
  have e : L.take (k + 1) = L.take k ++ [x] := by rw [List.take_add_one, h]; rfl
  rw [e]
  simp [bodyT]

end Go.Proofs.YtdmffbefppjllaaDoor

/- Layer 13: Answer, Ask: the program's; the document's laid, Answer. No conditions but on lengths and the library's table. -/
namespace Go.Proofs.YtdmffbefppjllaaDoor
open Go.RowKit Go.Shelf

theorem Sl.keep0 {α : Type} {enc : α → List Value} {n : Nat} {w w' : World} {v : Value} {L : List α} (h : Sl enc n w v L) (hn : ∀ x, (enc x).length = n) (h0 : 0 < n) (k : Keep [] w w') : Sl enc n w' v L := h.keep hn h0 h k (by simp) (Nat.le_refl _)
/-- 'HTTP/1.1 ' -/
def protSp : List UInt8 := [72, 84, 84, 80, 47, 49, 46, 49, 32]
theorem ans_no {s : Int} {L : List Fld} (h : statOk s = false) : ansE s L = 1 ∧ ansS s L = [] := by unfold ansE ansS; rw [h]; exact ⟨rfl, rfl⟩
theorem ans_yes {s : Int} {L : List Fld} (h : statOk s = true) : ansE s L = laidE (stOf s) L ∧ ansS s L = laidS (stOf s) L := by unfold ansE ansS; rw [h]; exact ⟨rfl, rfl⟩
theorem fin_ext {l : List UInt8} {e : Int} {x y : Value} (h1 : x = .string (S l)) (h2 : y = .int .i64 e) : Ending.returned (.tuple #[x, y]) = Ending.returned (fin l e) := by subst h1 h2; rfl

theorem ask_no {m t : List UInt8} {L : List Fld} (h : askOk m t = false) : askE m t L = 1 ∧ askS m t L = [] := by unfold askE askS; rw [h]; exact ⟨rfl, rfl⟩
theorem ask_yes {m t : List UInt8} {L : List Fld} (h : askOk m t = true) : askE m t L = laidE (askT m t) L ∧ askS m t L = laidS (askT m t) L := by unfold askE askS; rw [h]; exact ⟨rfl, rfl⟩

end Go.Proofs.YtdmffbefppjllaaDoor

/- Layer 13: the document's laid, Answer. No conditions but on lengths. -/
namespace Go.Proofs.YtdmffbefppjllaaDoor
open Go.RowKit Go.Shelf

end Go.Proofs.YtdmffbefppjllaaDoor

/- Layer 12, the document's Line; layer 13, the document's Answer, Ask. No conditions but on lengths. -/
namespace Go.Proofs.YtdmffbefppjllaaDoor
open Go.RowKit Go.Shelf

theorem cut_at {l : List UInt8} {c : UInt8} {k : Nat} (h : Lib.indexByte l c = (k : Nat)) : Lib.cut l [c] = (l.take k, l.drop (k + 1), true) := by
  unfold Lib.cut
  rw [Lib.index_one, h, if_pos (by omega)]
  simp
theorem cut_none {l : List UInt8} {c : UInt8} (h : Lib.indexByte l c = -1) : (Lib.cut l [c]).2.2 = false := by
  unfold Lib.cut
  rw [Lib.index_one, h, if_neg (by decide)]
def lnBad : Ln := ⟨[], [], 0, 400⟩
theorem ln_k {l : List UInt8} (h : Lib.indexByte l 32 = -1) : lnM l = lnBad := ln_no (by rw [cut_none h]; rfl)
theorem ln_tok {l : List UInt8} {k : Nat} (h : Lib.indexByte l 32 = (k : Nat)) (ht : isTok (l.take k) = false) : lnM l = lnBad := ln_no (by rw [cut_at h]; simp [ht])
theorem ln_n {l : List UInt8} {k : Nat} (h : Lib.indexByte l 32 = (k : Nat)) (hn : Lib.indexByte (l.drop (k + 1)) 32 = -1) : lnM l = lnBad := ln_no (by rw [cut_at h]; simp [cut_none hn])
theorem ln_tgt {l : List UInt8} {k n : Nat} (h : Lib.indexByte l 32 = (k : Nat)) (hn : Lib.indexByte (l.drop (k + 1)) 32 = (n : Nat)) (ht : isTgt ((l.drop (k + 1)).take n) = false) : lnM l = lnBad := ln_no (by rw [cut_at h]; simp only; rw [cut_at hn]; simp [ht])
theorem ln_min {l : List UInt8} {k n : Nat} (h : Lib.indexByte l 32 = (k : Nat)) (hn : Lib.indexByte (l.drop (k + 1)) 32 = (n : Nat)) (hm : minS ((l.drop (k + 1)).drop (n + 1)) = 400) : lnM l = lnBad := by
  by_cases hb : (isTok (l.take k) && isTgt ((l.drop (k + 1)).take n)) = true
  · rw [ln_yes (by rw [cut_at h]; simp only; rw [cut_at hn]; simpa using hb)]
    rw [cut_at h]
    simp only
    rw [cut_at hn]
    simp only [hm]
    rfl
  · exact ln_no (by rw [cut_at h]; simp only; rw [cut_at hn]; simpa using hb)
theorem ln_all {l : List UInt8} {k n : Nat} (h : Lib.indexByte l 32 = (k : Nat)) (hn : Lib.indexByte (l.drop (k + 1)) 32 = (n : Nat)) (ht : isTok (l.take k) = true) (hg : isTgt ((l.drop (k + 1)).take n) = true) :
    lnM l = if minS ((l.drop (k + 1)).drop (n + 1)) = 200 then ⟨l.take k, (l.drop (k + 1)).take n, minV ((l.drop (k + 1)).drop (n + 1)), 200⟩ else ⟨[], [], 0, minS ((l.drop (k + 1)).drop (n + 1))⟩ := by
  rw [ln_yes (by rw [cut_at h]; simp only; rw [cut_at hn]; simp [ht, hg])]
  rw [cut_at h]
  simp only
  rw [cut_at hn]
theorem min_http {l : List UInt8} (h : l.take 5 ≠ httpB) : minS l = 400 := (ver_no (.inl (by rw [take5_prefix]; simp [h]))).1
theorem min_len {l : List UInt8} (h : l.length ≠ 8) : minS l = 400 := (ver_no (.inr h)).1

end Go.Proofs.YtdmffbefppjllaaDoor

/- Layer 13: the document's Ask; what the statements are awake to. No conditions but on lengths and the library's table. -/
namespace Go.Proofs.YtdmffbefppjllaaDoor
open Go.RowKit Go.Shelf

/-- ' HTTP/1.1' -/
def spProt : List UInt8 := [32, 72, 84, 84, 80, 47, 49, 46, 49]
theorem itoa_200 : Lib.itoa 200 = [50, 48, 48] := by
  rw [show (200 : Int) = ((200 : Nat) : Int) from rfl, Lib.itoa_nonneg, dec_big (by omega), show 200 / 10 = 20 from rfl, dec_big (by omega), show 20 / 10 = 2 from rfl, dec_small (by omega)]
  rfl
def fAb : Fld := ⟨[65], [98]⟩
theorem awake13_plain : ansS 200 [fAb] = [72, 84, 84, 80, 47, 49, 46, 49, 32, 50, 48, 48, 32, 79, 75, 13, 10, 65, 58, 32, 98, 13, 10, 13, 10] ∧ ansE 200 [fAb] = 0 ∧
    askS [71, 69, 84] [47, 118, 50, 47] [] = [71, 69, 84, 32, 47, 118, 50, 47, 32, 72, 84, 84, 80, 47, 49, 46, 49, 13, 10, 13, 10] ∧ askE [71, 69, 84] [47, 118, 50, 47] [] = 0 ∧ askE [71, 69, 84] [47, 97, 32, 98] [] = 1 := by
  have h1 : stOf 200 = [72, 84, 84, 80, 47, 49, 46, 49, 32, 50, 48, 48, 32, 79, 75] := by unfold stOf; rw [itoa_200]; rfl
  have h2 : ansE 200 [fAb] = laidE (stOf 200) [fAb] ∧ ansS 200 [fAb] = laidS (stOf 200) [fAb] := ans_yes (by decide)
  rw [h1] at h2
  refine ⟨h2.2.trans ?_, h2.1.trans ?_, ?_, ?_, ?_⟩ <;> decide +kernel

end Go.Proofs.YtdmffbefppjllaaDoor

/- The statement OutletExact: its function answers true for every input. No conditions but on the library's table. -/
namespace Go.Proofs.YtdmffbefppjllaaDoor
open Go.RowKit Go.Shelf

theorem small_next {L : List Fld} {k n : Nat} {x : Fld} (hx : L[k]? = some x) (h : ∀ y ∈ L.take k, y.name.length ≤ n ∧ y.value.length ≤ n) (h1 : x.name.length ≤ n) (h2 : x.value.length ≤ n) : ∀ y ∈ L.take (k + 1), y.name.length ≤ n ∧ y.value.length ≤ n := by
  have e : L.take (k + 1) = L.take k ++ [x] := by rw [List.take_add_one, hx]; rfl
  rw [e]
  intro y hy
  rcases List.mem_append.1 hy with hy | hy
  · exact h y hy
  · have : y = x := by simpa using hy
    subst this
    exact ⟨h1, h2⟩
def bodyNo (s : Int) : Bool := (decide (100 ≤ s) && decide (s < 200)) || decide (s = 204) || decide (s = 304)

end Go.Proofs.YtdmffbefppjllaaDoor

/- Layer 13, plain laws: a head that is written is read as it was; a request line that is written is read as it was. No program. No conditions but those that each theorem states. -/
namespace Go.Proofs.YtdmffbefppjllaaDoor
open Go.RowKit Go.Shelf

theorem laid_ok {st : List UInt8} {L : List Fld} (h : laidE st L = 0) : laidS st L = headT st L ∧ L.length ≤ 32 ∧ (∀ f ∈ L, goodF f = true) ∧ (headT st L).length ≤ 4096 := by
  have hs : laidS st L = headT st L := by unfold laidS; rw [if_pos h]
  unfold laidE at h
  cases hk : laidOk L with
  | false => rw [hk] at h; simp at h
  | true =>
    rw [hk, if_pos rfl] at h
    have hl : (headT st L).length ≤ 4096 := by
      by_cases hl : (headT st L).length ≤ 4096
      · exact hl
      · rw [if_neg hl] at h; simp at h
    unfold laidOk at hk
    simp at hk
    exact ⟨hs, hk.1, hk.2, hl⟩
theorem clean_app {a b : List UInt8} (ha : clean a) (hb : clean b) : clean (a ++ b) := by
  intro x hx
  rcases List.mem_append.1 hx with h | h
  · exact ha x h
  · exact hb x h
theorem clean_ite {c : Prop} [Decidable c] {a b : List UInt8} (ha : clean a) (hb : clean b) : clean (if c then a else b) := by split <;> assumption
theorem reason_clean (s : Int) : clean (reasonM s) := by
  unfold reasonM
  repeat (refine clean_ite (by intro x hx; revert x; decide) ?_)
  intro x hx; revert x; decide
theorem dec_dig {n : Nat} (h1 : 100 ≤ n) (h2 : n ≤ 599) : (Lib.itoa (n : Int)).length = 3 ∧ clean (Lib.itoa (n : Int)) := by
  rw [Lib.itoa_nonneg, dec_big (by omega), dec_big (by omega), dec_small (by omega)]
  refine ⟨rfl, ?_⟩
  intro x hx
  have hd : ∀ y : Nat, y < 10 → UInt8.ofNat (48 + y) ≠ 13 ∧ UInt8.ofNat (48 + y) ≠ 10 := by decide
  rcases List.mem_append.1 hx with hx | hx
  · rcases List.mem_append.1 hx with hx | hx
    · rw [List.mem_singleton.1 hx]; exact hd _ (by omega)
    · rw [List.mem_singleton.1 hx]; exact hd _ (by omega)
  · rw [List.mem_singleton.1 hx]; exact hd _ (by omega)
theorem stOf_ok {s : Int} (h : statOk s = true) : clean (stOf s) ∧ 13 ≤ (stOf s).length ∧ (stOf s).length ≤ 1024 ∧ (stOf s).take 9 = [72, 84, 84, 80, 47, 49, 46, 49, 32] ∧ (stOf s).drop 13 = reasonM s := by
  unfold statOk at h
  simp at h
  obtain ⟨n, rfl⟩ : ∃ n : Nat, s = n := ⟨s.toNat, by omega⟩
  obtain ⟨h3, hc⟩ := dec_dig (n := n) (by omega) (by omega)
  have hr := reason_len (n : Int)
  have hcr := reason_clean (n : Int)
  unfold stOf
  generalize Lib.itoa (n : Int) = d at *
  generalize reasonM (n : Int) = r at *
  have hp : clean protB := by intro x hx; revert x; decide
  have h32 : clean [32] := by intro x hx; revert x; decide
  refine ⟨clean_app (clean_app (clean_app (clean_app hp h32) hc) h32) hcr, by simp [protB]; omega, by simp [protB]; omega, by simp [protB], ?_⟩
  match d, h3 with
  | [a, b, c], _ => rfl
theorem ans_read {s : Int} {L : List Fld} (more : List UInt8) (h : ansE s L = 0) : splitM (ansS s L ++ more) = ⟨stOf s, L, (ansS s L).length, 0⟩ ∧ (ansS s L).length ≤ 4096 ∧ 13 ≤ (stOf s).length ∧ (stOf s).take 9 = [72, 84, 84, 80, 47, 49, 46, 49, 32] ∧ (stOf s).drop 13 = reasonM s := by
  cases hs : statOk s with
  | false => rw [(ans_no (L := L) hs).1] at h; simp at h
  | true =>
    obtain ⟨h1, h2⟩ := ans_yes (L := L) hs
    rw [h1] at h
    obtain ⟨h3, h4, h5, h6⟩ := laid_ok h
    obtain ⟨c1, c2, c3, c4, c5⟩ := stOf_ok hs
    rw [h2, h3]
    exact ⟨split_head _ L more c1 (by intro h0; rw [h0] at c2; simp at c2) c3 h5 h4 h6, h6, c2, c4, c5⟩

theorem sep_inj : ∀ {a b c d : List UInt8}, (32 : UInt8) ∉ a → (32 : UInt8) ∉ b → a ++ 32 :: c = b ++ 32 :: d → a = b ∧ c = d
  | [], [], _, _, _, _, h => ⟨rfl, by simpa using h⟩
  | [], y :: b, _, _, _, hb, h => by
    simp at h
    exact absurd h.1 (by intro e; exact hb (by simp [e]))
  | x :: a, [], _, _, ha, _, h => by
    simp at h
    exact absurd h.1 (by intro e; exact ha (by simp [e]))
  | x :: a, y :: b, _, _, ha, hb, h => by
    simp at h
    obtain ⟨h1, h2⟩ := sep_inj (fun hh => ha (by simp [hh])) (fun hh => hb (by simp [hh])) h.2
    exact ⟨by rw [h.1, h1], h2⟩
theorem tok_no32 {l : List UInt8} (h : isTok l = true) : (32 : UInt8) ∉ l := by
  intro hm
  have := (isTok_parts h).1 32 hm
  revert this
  decide
theorem tgt_no {l : List UInt8} (h : isTgt l = true) : (∀ b ∈ l, 33 ≤ b.toNat ∧ b.toNat ≤ 126) ∧ l ≠ [] := by
  unfold isTgt at h
  simp [tgtB] at h
  exact ⟨h.1, h.2⟩
theorem cut_parts {l : List UInt8} {k : Nat} (h : Lib.indexByte l 32 = (k : Nat)) : l = l.take k ++ 32 :: l.drop (k + 1) := by
  have hk := (Lib.indexByte_some h).1
  obtain ⟨h1, h2⟩ := List.getElem?_eq_some_iff.1 hk
  have := List.drop_eq_getElem_cons h1
  rw [h2] at this
  rw [← this, List.take_append_drop]
theorem ask_read {m t : List UInt8} (h : (lnM (askT m t)).s = 200) : lnM (askT m t) = ⟨m, t, 1, 200⟩ ∧ isTok m = true ∧ isTgt t = true := by
  have hbad : (lnBad).s ≠ 200 := by decide
  have hdef : askT m t = (m ++ 32 :: t) ++ 32 :: protB := by unfold askT; simp
  have hge := Lib.indexByte_ge (askT m t) 32
  by_cases hk : Lib.indexByte (askT m t) 32 = -1
  · rw [ln_k hk] at h; exact absurd h hbad
  obtain ⟨k, hk'⟩ : ∃ k : Nat, Lib.indexByte (askT m t) 32 = k := ⟨(Lib.indexByte (askT m t) 32).toNat, by omega⟩
  cases ht : isTok ((askT m t).take k) with
  | false => rw [ln_tok hk' ht] at h; exact absurd h hbad
  | true =>
  have hp1 := cut_parts hk'
  have hge2 := Lib.indexByte_ge ((askT m t).drop (k + 1)) 32
  by_cases hn : Lib.indexByte ((askT m t).drop (k + 1)) 32 = -1
  · rw [ln_n hk' hn] at h; exact absurd h hbad
  obtain ⟨n, hn'⟩ : ∃ n : Nat, Lib.indexByte ((askT m t).drop (k + 1)) 32 = n := ⟨(Lib.indexByte ((askT m t).drop (k + 1)) 32).toNat, by omega⟩
  cases hg : isTgt (((askT m t).drop (k + 1)).take n) with
  | false => rw [ln_tgt hk' hn' hg] at h; exact absurd h hbad
  | true =>
  have hp2 := cut_parts hn'
  have hall := ln_all hk' hn' ht hg
  by_cases hl : (((askT m t).drop (k + 1)).drop (n + 1)).length ≠ 8
  · rw [ln_min hk' hn' (min_len hl)] at h; exact absurd h hbad
  have hl8 : (((askT m t).drop (k + 1)).drop (n + 1)).length = 8 := by omega
  rw [hp2] at hp1
  rw [hall] at h ⊢
  generalize ((askT m t).drop (k + 1)).drop (n + 1) = last at *
  generalize ((askT m t).drop (k + 1)).take n = b at *
  generalize (askT m t).take k = a at *
  have he : (m ++ 32 :: t) ++ 32 :: protB = (a ++ 32 :: b) ++ 32 :: last := by rw [← hdef, hp1]; simp
  obtain ⟨e1, e2⟩ := List.append_inj' he (by simp [protB, hl8])
  have e3 : protB = last := by simpa using e2
  have na := tok_no32 ht
  have nb : (32 : UInt8) ∉ b := fun hb => by have := (tgt_no hg).1 32 hb; revert this; decide
  have hc := congrArg (List.count (32 : UInt8)) e1
  rw [List.count_append, List.count_append, List.count_cons_self, List.count_cons_self, List.count_eq_zero.2 na, List.count_eq_zero.2 nb] at hc
  have nm : (32 : UInt8) ∉ m := List.count_eq_zero.1 (by omega)
  obtain ⟨f1, f2⟩ := sep_inj nm na e1
  subst f1 f2 e3
  have hs : minS protB = 200 := by decide
  rw [if_pos hs]
  exact ⟨by rw [show minV protB = 1 from by decide], ht, hg⟩
theorem askE_read {m t : List UInt8} {L : List Fld} (more : List UInt8) (h : askE m t L = 0) : splitM (askS m t L ++ more) = ⟨askT m t, L, (askS m t L).length, 0⟩ ∧ (askS m t L).length ≤ 4096 ∧ (askT m t).length ≤ 1024 ∧ lnM (askT m t) = ⟨m, t, 1, 200⟩ := by
  cases hs : askOk m t with
  | false => rw [(ask_no (L := L) hs).1] at h; simp at h
  | true =>
    obtain ⟨h1, h2⟩ := ask_yes (L := L) hs
    rw [h1] at h
    obtain ⟨h3, h4, h5, h6⟩ := laid_ok h
    unfold askOk at hs
    simp at hs
    obtain ⟨g1, g2, g3⟩ := ask_read hs.1
    rw [h2, h3]
    have hc : clean (askT m t) := by
      have hm : clean m := fun b hb => ⟨(tchar_clean ((isTok_parts g2).1 b hb)).1, (tchar_clean ((isTok_parts g2).1 b hb)).2.1⟩
      have ht : clean t := by
        intro b hb
        have := (tgt_no g3).1 b hb
        refine ⟨?_, ?_⟩ <;> (rintro rfl; revert this; decide)
      have hp : clean protB := by intro x hx; revert x; decide
      have h32 : clean [32] := by intro x hx; revert x; decide
      unfold askT
      exact clean_app (clean_app (clean_app (clean_app hm h32) ht) h32) hp
    exact ⟨split_head _ L more hc (by unfold askT; simp) hs.2 h5 h4 h6, h6, hs.2, g1⟩
end Go.Proofs.YtdmffbefppjllaaDoor

/- Layer 26: Next; calls of no guest; what is asked. No conditions but on lengths. -/
namespace Go.Proofs.YtdmffbefppjllaaDoor
open Go.RowKit Go.Shelf

structure NgR where
  G : Gs
  q : Req
  s : Int
def nextG (G : Gs) : NgR := if G.busy || G.closing then ⟨G, req0, 0⟩ else ⟨{ G with I := (nextI G.I).p, busy := (nextI G.I).s != 0 }, (nextI G.I).q, (nextI G.I).s⟩
/-- what Next comes to -/
def NgOut (B : Nat) (w : World) (g p : Nat) (X R : List Nat) (r : NgR) (e : Ending) (w' : World) : Prop :=
  ∃ a l c X' R', e = .returned (.tuple #[.agg (reqC r.q.m r.q.t (.slice a l c) r.q.cl).toArray, .int .i64 r.s]) ∧ Gt B w' g p X' R' r.G ∧ Keep (g :: X) w w' ∧ (∀ x ∈ X', x ∈ X ∨ w.heap.size ≤ x) ∧ (∀ x ∈ R', x ∈ R ∨ w.heap.size ≤ x)
theorem Gt.glt {B g p : Nat} {w : World} {X R : List Nat} {G : Gs} (h : Gt B w g p X R G) : g < w.heap.size := h.bk.lt
set_option maxRecDepth 100000 in
set_option maxHeartbeats 4000000 in
theorem guest_Next {B g p : Nat} {w : World} {X R : List Nat} {G : Gs} (h : Gt B w g p X R G) (hm : ML w) (hB : B ≤ w.heap.size) (hbig : 0 < B) (hok : G.I.ok) :
    Calls Tryd.prog 18 #[.pointer (some ⟨g, 0, none⟩)] w (NgOut B w g p X R (nextG G)) := by
  have kA := (Keep.refl [] w).alloc (.cells reqZ.toArray 44)
  have bA := Blk.newA w reqZ.toArray 44
  have zst := req_st [] [] (v := .slice none 0 0) false rfl
  have H := Lib.hid h
  generalize hwA : w.alloc (.cells #[.string ⟨#[]⟩, .string ⟨#[]⟩, .slice none 0 0, .bool false] 44) = wA
  have hwA' : w.alloc (.cells reqZ.toArray 44) = wA := hwA
  have hszA : w.heap.size < wA.heap.size := by rw [← hwA']; simp
  rw [hwA'] at kA bA
  have hA := h.keep0 kA
  obtain ⟨c0, c1, c2, c3, c4⟩ := hA.at_
  have HA := Lib.hid hA
  have KA := Lib.hid kA
  have BA := Lib.hid (show Blk wA w.heap.size 44 reqZ from bA)
  have MA := Lib.hid (hm.keep kA (by simp))
  have ZST := Lib.hid zst
  have hBA : B ≤ wA.heap.size := by omega
  have hS : nextG G = if G.busy || G.closing then ⟨G, req0, 0⟩ else ⟨{ G with I := (nextI G.I).p, busy := (nextI G.I).s != 0 }, (nextI G.I).q, (nextI G.I).s⟩ := rfl
  have HOK := Lib.hid hok
  clear h kA bA hA hwA' zst hm hok
  by_cases hb : (G.busy || G.closing) = true
  · rw [if_pos hb] at hS
    have HT := Lib.hid (BA.out.there' 0 4 (by simp [reqZ, reqC]))
    have HLd := Lib.hid (reqZ_back HT.out)
    have kS : Keep [w.heap.size] wA (wA.setCells w.heap.size 0 reqZ) := Keep.setCells' (S := [w.heap.size]) _ (by simp) _ _ _ (Keep.refl _ _)
    have hgl := H.out.glt
    have HF : Hid (NgOut B w g p X R (nextG G) (.returned (.tuple #[.agg reqZ.toArray, .int .i64 0])) (wA.setCells w.heap.size 0 reqZ)) := by
      rw [hS]
      refine Lib.hid ⟨none, 0, 0, X, R, rfl, HA.out.keep kS (by simp; omega) (fun x hx => by have := (H.out.it.lo x hx).2; simp; omega) (fun x hx => by have := (H.out.it.ro x hx).2.1; simp; omega), ?_, fun x hx => .inl hx, fun x hx => .inl hx⟩
      exact (KA.out.trans' kS (fun x hx hlt => by simp at hx; omega)).mono (by simp)
    clear hS kS
    cases hbb : G.busy with
    | true =>
      rw [hbb] at c2
      clear hb hbb
      go_enter Tryd.func18, Tryd.ntmps18
      go_wp2_with (first
        | (with_reducible (show wpList _ _ _ ((⟨none, .store _ (.tmp 2) (.tmp 20), _, _, _, none⟩ : Oper) :: _) _ _)
           refine wpList_store_mid rfl 44 (.tmp 2) (.tmp 20) rfl w.heap.size 0 reqZ.toArray (by rfl) (by first | rfl | kernel_rfl) HT.out ZST.out.1 ZST.out.2 ?_
           try simp only [Act.put])
        | fail)
      refine bodyPost_ret (v := .tuple #[.agg reqZ.toArray, .int .i64 0]) (by have hl := HLd.out; simp [Act.put, results, Tryd.results18, asAddr, Result.andThen, hl]) rfl HF.out
    | false =>
      have hcc : G.closing = true := by simpa [hbb] using hb
      rw [hbb] at c2
      rw [hcc] at c3
      clear hb hbb hcc
      go_enter Tryd.func18, Tryd.ntmps18
      go_wp2_with (first
        | (with_reducible (show wpList _ _ _ ((⟨none, .store _ (.tmp 2) (.tmp 20), _, _, _, none⟩ : Oper) :: _) _ _)
           refine wpList_store_mid rfl 44 (.tmp 2) (.tmp 20) rfl w.heap.size 0 reqZ.toArray (by rfl) (by first | rfl | kernel_rfl) HT.out ZST.out.1 ZST.out.2 ?_
           try simp only [Act.put])
        | fail)
      refine bodyPost_ret (v := .tuple #[.agg reqZ.toArray, .int .i64 0]) (by have hl := HLd.out; simp [Act.put, results, Tryd.results18, asAddr, Result.andThen, hl]) rfl HF.out
  · have hbb : G.busy = false := by cases hx : G.busy <;> simp [hx] at hb ⊢
    have hcc : G.closing = false := by cases hx : G.closing <;> simp [hx, hbb] at hb ⊢
    rw [if_neg hb] at hS
    rw [hbb] at c2
    rw [hcc] at c3
    have HN := Lib.hid (inlet_Next HA.out.it MA.out hBA hbig HOK.out)
    unfold NextOut at HN
    have HSS := Lib.hid hS
    clear hb hbb hcc hS
    generalize nextI G.I = r at *
    obtain ⟨rp, rq, rs⟩ := r
    dsimp only at HN HSS
    go_enter Tryd.func18, Tryd.ntmps18
    go_wp2_with fail
    refine HN.out.mono ?_
    rintro e w1 ⟨v, X1, R1, rfl, hi, k1', n1, r1, ho, _⟩
    obtain ⟨sa, sc, rfl, _⟩ := ho.shape
    clear hwA
    have hgA : g ∉ X := H.out.gx.1
    have b1 := k1'.blk HA.out.bk hgA
    have z1 := k1'.blk BA.out (fun hh => by have := (H.out.it.lo _ hh).2; omega)
    have hgl := H.out.glt
    have hgX1 : g ∉ X1 ∧ g ∉ R1 := ⟨fun hh => by
      rcases n1 g hh with h1 | h1
      · exact hgA h1
      · omega, fun hh => by
      rcases r1 g hh with h1 | h1
      · exact H.out.gx.2 h1
      · omega⟩
    have kB := (Keep.refl [] w1).alloc (.cells (reqC rq.m rq.t (.slice sa rq.F.length sc) rq.cl).toArray 44)
    have nB := Blk.newA w1 (reqC rq.m rq.t (.slice sa rq.F.length sc) rq.cl).toArray 44
    have hk1 := k1'.size
    generalize hwB : w1.alloc (.cells (reqC rq.m rq.t (.slice sa rq.F.length sc) rq.cl).toArray 44) = wB at kB nB
    have b2 := kB.blk b1 (by simp)
    have z2 := kB.blk z1 (by simp)
    have i2 := hi.keep0 kB
    have hne1 : w1.heap.size ≠ g := by omega
    have hne2 : w.heap.size ≠ g := by omega
    have d2 : wB.cell? ⟨g, 2, none⟩ = some (.bool G.busy) := b2.get (k := 2) rfl
    have e2 := b2.frozen 2
    have kP := k1 wB g 2 (.bool (rs != 0))
    have b3 := b2.set 2 (.bool (rs != 0))
    have z3 := kP.blk z2 (by simpa using hne2)
    have n3 := kP.blk (show Blk wB w1.heap.size 44 (reqC rq.m rq.t (.slice sa rq.F.length sc) rq.cl) from nB) (by simpa using hne1)
    have i3 := i2.keep kP (fun x hx hh => by have h9 : x = g := (by simpa using hh); exact hgX1.1 (h9 ▸ hx)) (fun x hx hh => by have h9 : x = g := (by simpa using hh); exact hgX1.2 (h9 ▸ hx))
    have HT := Lib.hid (z3.there' 0 4 (by simp [reqZ, reqC]))
    have HLd := Lib.hid (req_back (m := rq.m) (t := rq.t) (v := .slice sa rq.F.length sc) (cl := rq.cl) HT.out)
    have hnl : w.heap.size < (wB.setCell ⟨g, 2, none⟩ (.bool (rs != 0))).heap.size := z3.lt
    have kS : Keep [w.heap.size] (wB.setCell ⟨g, 2, none⟩ (.bool (rs != 0))) ((wB.setCell ⟨g, 2, none⟩ (.bool (rs != 0))).setCells w.heap.size 0 (reqC rq.m rq.t (.slice sa rq.F.length sc) rq.cl)) := Keep.setCells' (S := [w.heap.size]) _ (by simp) _ _ _ (Keep.refl _ _)
    have hx1 : ∀ x ∈ X1, x ∈ X ∨ w.heap.size < x := fun x hx => (n1 x hx).imp id (fun hh => by omega)
    have hr1 : ∀ x ∈ R1, x ∈ R ∨ w.heap.size < x := fun x hx => (r1 x hx).imp id (fun hh => by omega)
    have HF : Hid (NgOut B w g p X R (nextG G) (.returned (.tuple #[.agg (reqC rq.m rq.t (.slice sa rq.F.length sc) rq.cl).toArray, .int .i64 rs])) ((wB.setCell ⟨g, 2, none⟩ (.bool (rs != 0))).setCells w.heap.size 0 (reqC rq.m rq.t (.slice sa rq.F.length sc) rq.cl))) := by
      rw [HSS.out]
      refine Lib.hid ⟨sa, rq.F.length, sc, X1, R1, rfl, ⟨kS.blk b3 (by simpa using Ne.symm hne2), i3.keep kS (fun x hx hh => ?_) (fun x hx hh => ?_), hgX1, H.out.lo⟩, ?_, fun x hx => (hx1 x hx).imp id (fun hh => by omega), fun x hx => (hr1 x hx).imp id (fun hh => by omega)⟩
      · have h9 : x = w.heap.size := (by simpa using hh)
        rcases hx1 x hx with h1 | h1
        · have := (H.out.it.lo x h1).2; omega
        · omega
      · have h9 : x = w.heap.size := (by simpa using hh)
        rcases hr1 x hx with h1 | h1
        · have := (H.out.it.ro x h1).2.1; omega
        · omega
      · refine (((((KA.out.mono (S' := g :: X) (by simp)).trans' k1' (fun x hx _ => List.mem_cons_of_mem _ hx)).trans (kB.mono (by simp))).trans' kP (fun x hx _ => by simp at hx; simp [hx])).trans' kS (fun x hx hlt => by simp at hx; omega))
    have HS1 := Lib.hid (reqC_one rq.m rq.t (v := .slice sa rq.F.length sc) rq.cl rfl)
    have ST := Lib.hid (req_st rq.m rq.t (v := .slice sa rq.F.length sc) rq.cl rfl)
    have RP := Lib.hid n3.range'
    clear b1 z1 hgX1 kB nB b2 z2 i2 kP b3 z3 n3 i3 kS hx1 hr1 k1' n1 r1 ho hi HN hgA
    go_wp2_with (first
      | (with_reducible (show wpList _ _ _ ((⟨none, .store _ (.tmp 4) (.tmp 27), _, _, _, none⟩ : Oper) :: _) _ _)
         refine wpList_store_fresh rfl 44 (.tmp 4) (.tmp 27) rfl _ (reqC rq.m rq.t (.slice sa rq.F.length sc) rq.cl) (by rfl) (by rfl) req_size (by rfl) HS1.out ?_
         rw [hwB]
         try simp only [Act.put, List.setIfInBounds_toArray, List.set_cons_succ, List.set_cons_zero])
      | (with_reducible (show wpList _ _ _ ((⟨_, .load _ (.tmp 4), _, _, _, none⟩ : Oper) :: _) _ _)
         refine wpList_load_mid rfl 44 (.tmp 4) rfl w1.heap.size 0 (by rfl) (reqC rq.m rq.t (.slice sa rq.F.length sc) rq.cl) _ RP.out Tryd.underlying44 rfl req_size ?_
         try simp only [Act.put, List.setIfInBounds_toArray, List.set_cons_succ, List.set_cons_zero])
      | (with_reducible (show wpList _ _ _ ((⟨none, .store _ (.tmp 2) (.tmp 34), _, _, _, none⟩ : Oper) :: _) _ _)
         refine wpList_store_mid rfl 44 (.tmp 2) (.tmp 34) rfl w.heap.size 0 (reqC rq.m rq.t (.slice sa rq.F.length sc) rq.cl).toArray (by rfl) (by first | rfl | kernel_rfl) HT.out ST.out.1 ST.out.2 ?_
         try simp only [Act.put])
      | fail)
    refine bodyPost_ret (v := .tuple #[.agg (reqC rq.m rq.t (.slice sa rq.F.length sc) rq.cl).toArray, .int .i64 rs]) (by have hl := HLd.out; simp [Act.put, results, Tryd.results18, asAddr, Result.andThen, hl]) rfl HF.out
def getB : List UInt8 := [71, 69, 84]
def hK : List Fld := [⟨nHost, [104]⟩]
def askL (t : List UInt8) : List UInt8 := headT (askT getB t) hK
theorem askL_parts (t : List UInt8) : [71, 69, 84, 32] ++ t ++ [32, 72, 84, 84, 80, 47, 49, 46, 49, 13, 10, 72, 111, 115, 116, 58, 32, 104, 13, 10, 13, 10] = askL t := by
  unfold askL headT askT hK bodyT printF
  simp [getB, protB, nHost]
set_option maxRecDepth 100000 in
theorem law26_ask (t : List UInt8) (w : World) (ht : t.length ≤ 1000) : Calls Tryd.prog 17 #[.string (S t)] w fun e w' => e = .returned (.string (S (askL t))) ∧ w = w' := by
  have c1 : (⟨#[71, 69, 84, 32]⟩ : ByteArray) ++ S t = S ([71, 69, 84, 32] ++ t) := S_append [71, 69, 84, 32] t
  have c2 : S ([71, 69, 84, 32] ++ t) ++ (⟨#[32, 72, 84, 84, 80, 47, 49, 46, 49, 13, 10, 72, 111, 115, 116, 58, 32, 104, 13, 10, 13, 10]⟩ : ByteArray) = S (askL t) := by
    rw [← askL_parts]; exact S_append _ [32, 72, 84, 84, 80, 47, 49, 46, 49, 13, 10, 72, 111, 115, 116, 58, 32, 104, 13, 10, 13, 10]
  have s0 := S_size t
  have l1 : ([71, 69, 84, 32] ++ t).length = t.length + 4 := by simp
  generalize [71, 69, 84, 32] ++ t = x1 at *
  have s1 := S_size x1
  go_enter Tryd.func17, Tryd.ntmps17
  go_wp2_with fail
  go_ret
  exact ⟨rfl, rfl⟩
set_option maxRecDepth 100000 in
theorem nilG_Say (s : List UInt8) (w : World) : Calls Tryd.prog 16 #[.pointer none, .string (S s)] w fun e w' => e = .returned (.int .i64 2) ∧ w = w' := by
  go_enter Tryd.func16, Tryd.ntmps16
  go_wp2_with fail
  go_ret
  exact ⟨rfl, rfl⟩
set_option maxRecDepth 100000 in
theorem nilG_Put (s : List UInt8) (w : World) : Calls Tryd.prog 20 #[.pointer none, .string (S s)] w fun e w' => e = .returned (.int .i64 2) ∧ w = w' := by
  go_enter Tryd.func20, Tryd.ntmps20
  go_wp2_with fail
  go_ret
  exact ⟨rfl, rfl⟩
set_option maxRecDepth 100000 in
theorem nilG_Done (b : Bool) (w : World) : Calls Tryd.prog 24 #[.pointer none, .bool b] w fun e w' => e = .returned (.tuple #[]) ∧ w = w' := by
  go_enter Tryd.func24, Tryd.ntmps24
  go_wp2_with fail
  first | go_end0 | refine bodyPost_ret (results_none rfl _ _ _) rfl ?_
  exact ⟨rfl, rfl⟩
set_option maxRecDepth 100000 in
theorem nilG_Abort (w : World) : Calls Tryd.prog 23 #[.pointer none] w fun e w' => e = .returned (.tuple #[]) ∧ w = w' := by
  go_enter Tryd.func23, Tryd.ntmps23
  go_wp2_with fail
  first | go_end0 | refine bodyPost_ret (results_none rfl _ _ _) rfl ?_
  exact ⟨rfl, rfl⟩
set_option maxRecDepth 100000 in
theorem nilG_Drain (n : Int) (w : World) : Calls Tryd.prog 21 #[.pointer none, .int .i64 n] w fun e w' => e = .returned (.string (S [])) ∧ w = w' := by
  go_enter Tryd.func21, Tryd.ntmps21
  go_wp2_with fail
  go_ret
  exact ⟨rfl, rfl⟩
set_option maxRecDepth 100000 in
theorem nilG_Open (w : World) : Calls Tryd.prog 26 #[.pointer none] w fun e w' => e = .returned (.bool false) ∧ w = w' := by
  go_enter Tryd.func26, Tryd.ntmps26
  go_wp2_with fail
  go_ret
  exact ⟨rfl, rfl⟩
set_option maxRecDepth 100000 in
theorem nilG_Closing (w : World) : Calls Tryd.prog 25 #[.pointer none] w fun e w' => e = .returned (.bool true) ∧ w = w' := by
  go_enter Tryd.func25, Tryd.ntmps25
  go_wp2_with fail
  go_ret
  exact ⟨rfl, rfl⟩
set_option maxRecDepth 100000 in
theorem nilG_Free (w : World) : Calls Tryd.prog 19 #[.pointer none] w fun e w' => e = .returned (.int .i64 0) ∧ w = w' := by
  go_enter Tryd.func19, Tryd.ntmps19
  go_wp2_with fail
  go_ret
  exact ⟨rfl, rfl⟩
set_option maxRecDepth 100000 in
theorem nilG_Answers (w : World) : Calls Tryd.prog 27 #[.pointer none] w fun e w' => e = .returned (.int .i64 0) ∧ w = w' := by
  go_enter Tryd.func27, Tryd.ntmps27
  go_wp2_with fail
  go_ret
  exact ⟨rfl, rfl⟩
set_option maxRecDepth 100000 in
set_option maxHeartbeats 2000000 in
theorem nilG_Next (w : World) : Calls Tryd.prog 18 #[.pointer none] w fun e w' => e = .returned (.tuple #[.agg reqZ.toArray, .int .i64 0]) ∧ Keep [] w w' := by
  have kA := (Keep.refl [] w).alloc (.cells reqZ.toArray 44)
  have bA := Blk.newA w reqZ.toArray 44
  have zst := req_st [] [] (v := .slice none 0 0) false rfl
  generalize hwA : w.alloc (.cells #[.string ⟨#[]⟩, .string ⟨#[]⟩, .slice none 0 0, .bool false] 44) = wA
  have hwA' : w.alloc (.cells reqZ.toArray 44) = wA := hwA
  rw [hwA'] at kA bA
  have HT := Lib.hid ((show Blk wA w.heap.size 44 reqZ from bA).there' 0 4 (by simp [reqZ, reqC]))
  have HLd := Lib.hid (reqZ_back HT.out)
  have KA := Lib.hid kA
  have ZST := Lib.hid zst
  clear kA bA hwA' zst
  go_enter Tryd.func18, Tryd.ntmps18
  go_wp2_with (first
    | (with_reducible (show wpList _ _ _ ((⟨none, .store _ (.tmp 2) (.tmp 20), _, _, _, none⟩ : Oper) :: _) _ _)
       refine wpList_store_mid rfl 44 (.tmp 2) (.tmp 20) rfl w.heap.size 0 reqZ.toArray (by rfl) (by first | rfl | kernel_rfl) HT.out ZST.out.1 ZST.out.2 ?_
       try simp only [Act.put])
    | fail)
  refine bodyPost_ret (v := .tuple #[.agg reqZ.toArray, .int .i64 0]) (by have hl := HLd.out; simp [Act.put, results, Tryd.results18, asAddr, Result.andThen, hl]) rfl ⟨rfl, ?_⟩
  exact Keep.setCells' _ (fun hh => absurd hh (by omega)) _ _ _ KA.out
end Go.Proofs.YtdmffbefppjllaaDoor
