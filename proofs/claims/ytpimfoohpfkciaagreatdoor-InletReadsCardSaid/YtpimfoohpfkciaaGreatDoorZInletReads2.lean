/- Parts of the proof of InletReads, in order. No conditions but those that each theorem states. -/
import Derived.Test.YtpimfoohpfkciaaGreatDoorZInletReads1
/- Layer 12: what the statement InletCuts goes by: lists of requests put together, requests compared. No conditions but on lengths. -/
namespace Go.Proofs.YtpimfoohpfkciaaGreatDoor
open Go.RowKit Go.Shelf

theorem wpQuiet_loadW {P : Program} {ops : Array Oper} {C : World → Prop} {rest : List Oper} {o : Oper} {a : Act} {Q : Act → Prop} (hw : Region.wanted o (yielded ops a.tmps) = true) (ty : TypeId) (x : Operand) (ho : o.op = .load ty x)
    (b off : Nat) (hx : a.eval x = .pointer (some ⟨b, off, none⟩)) (cs : List Value) (d : TypeDesc) (hS : ∀ w, C w → w.rangeAt b off cs)
    (hu : P.underlying ty = some d) (hd : d.isRow = true) (hi : (P.info? ty).map (·.size) = some cs.length)
    (h : wpQuiet P ops C Q rest (a.put o.dst (.agg cs.toArray))) : wpQuiet P ops C Q (o :: rest) a := by
  unfold wpQuiet
  rw [if_pos hw]
  refine ⟨_, fun w hw => ?_, h⟩
  unfold Oper.quietAt execOp
  simp only [ho, hx, Instr.loadAt, Instr.sureAddr, Sem.run_bind, Sem.run_pure, Result.andThen_ok, run_loadVar_mid w b off ty cs d (hS w hw) hu hd hi]
  exact ⟨rfl, rfl⟩
/-- a row of the call's own, as it lies -/
theorem own_at {α : Type} {enc : α → List Value} {n B : Nat} {E : TypeId} {w : World} {v : Value} {L : List α} (h : Own enc n B E w v L) (hv : v ≠ .slice none 0 0) :
    ∃ g cap, v = .slice (some ⟨g, 0, none⟩) L.length cap ∧ ∀ j u, (rows enc L)[j]? = some u → w.cell? ⟨g, j, none⟩ = some u := by
  obtain ⟨_, h2⟩ := h
  rcases h2 with ⟨h2, _⟩ | ⟨g, cap, cur, h2, _, h4, _, _, _, h8⟩
  · exact absurd h2 hv
  · refine ⟨g, cap, h2, fun j u hj => ?_⟩
    have hb : Blk w g E cur.toList := by
      show w.heap[g]? = some (.cells cur.toList.toArray E (0, 0))
      rw [Array.toArray_toList]; exact h4
    rw [hb.cell]
    rw [← h8] at hj
    rw [List.getElem?_take] at hj
    split at hj
    · exact hj
    · cases hj
theorem own_range {w : World} {g : Nat} {EL : List RqE} (h : ∀ j u, (rows RqE.cells EL)[j]? = some u → w.cell? ⟨g, j, none⟩ = some u) {i : Nat} {x : RqE} (hx : EL[i]? = some x) : w.rangeAt g (i * 4) x.cells := fun j v hv => by
  refine h _ _ ?_
  have hj : j < 4 := by have := (List.getElem?_eq_some_iff.1 hv).1; rwa [RqE.len] at this
  rw [rows_get' RqE.len EL i j x hx hj]
  exact hv
theorem Rs.append {B : Nat} {w w' : World} {vy vm v' : Value} {Zy Zm : List Nat} {Ey Em : List RqE} {Ly Lm : List Req} (hy : Rs B w vy Zy Ey Ly) (hm : Rs B w vm Zm Em Lm) (ho : Own RqE.cells 4 B 30 w' v' (Ey ++ Em)) (hgr : w.grownBy w' vy.ownBlock)
    (hnn : v' ≠ .slice none 0 0) (hat : v'.ownBlock = vy.ownBlock ∨ v'.ownBlock = some w.heap.size) (hs : ∀ g, vy.ownBlock = some g → g ∉ Zm) : Rs B w' v' (Zy ++ Zm) (Ey ++ Em) (Ly ++ Lm) := by
  have k := Keep.ofGrown hgr
  have hk := k.size
  refine ⟨ho, by simp [hy.len, hm.len], ?_, ?_, ?_, ?_, hnn⟩
  · intro i x q hx hq
    rcases Nat.lt_or_ge i Ey.length with hi | hi
    · rw [List.getElem?_append_left hi] at hx
      rw [List.getElem?_append_left (by rw [← hy.len]; exact hi)] at hq
      have he := hy.el i x q hx hq
      refine ⟨he.1, he.2.1, he.2.2.1, he.2.2.2.keep k (fun g hg hh => ?_)⟩
      exact hy.sep g (by simpa using hh) (hy.rd x (List.mem_of_getElem? hx) g hg)
    · rw [List.getElem?_append_right hi] at hx
      rw [List.getElem?_append_right (by rw [← hy.len]; exact hi), ← hy.len] at hq
      have he := hm.el _ x q hx hq
      refine ⟨he.1, he.2.1, he.2.2.1, he.2.2.2.keep k (fun g hg hh => ?_)⟩
      exact hs g (by simpa using hh) (hm.rd x (List.mem_of_getElem? hx) g hg)
  · intro x hx g hg
    rcases List.mem_append.1 hx with hx | hx
    · exact List.mem_append_left _ (hy.rd x hx g hg)
    · exact List.mem_append_right _ (hm.rd x hx g hg)
  · intro g hg hh
    rcases hat with e | e
    · rw [e] at hg
      rcases List.mem_append.1 hh with hh | hh
      · exact hy.sep g hg hh
      · exact hs g hg hh
    · rw [e] at hg
      have : w.heap.size = g := by simpa using hg
      rcases List.mem_append.1 hh with hh | hh
      · have := hy.lo g hh; omega
      · have := hm.lo g hh; omega
  · intro z hz
    rcases List.mem_append.1 hz with hz | hz
    · have := hy.lo z hz; omega
    · have := hm.lo z hz; omega
set_option maxRecDepth 100000 in
set_option maxHeartbeats 2000000 in
theorem ref12_Same {B : Nat} {w : World} {x y : RqE} {q : Req} (hx : El1 B w x q) (hy : El1 B w y q) :
    Calls Tryz.prog 10 #[.agg x.cells.toArray, .agg y.cells.toArray] w fun e w' => e = .returned (.bool true) ∧ Keep [] w w' := by
  have kA := ((Keep.refl [] w).alloc (.cells x.cells.toArray 30)).alloc (.cells y.cells.toArray 30)
  have b1 := (Blk.newA w x.cells.toArray 30).alloc (.cells y.cells.toArray 30)
  have b2 := Blk.newA (w.alloc (.cells x.cells.toArray 30)) y.cells.toArray 30
  have hsz : (w.alloc (.cells x.cells.toArray 30)).heap.size = w.heap.size + 1 := by simp
  rw [hsz] at b2
  clear hsz
  obtain ⟨mx, tx, ax, lx, cx, clx⟩ := x
  obtain ⟨my, ty, ay, ly, cy, cly⟩ := y
  obtain ⟨h1, h2, h3, h4⟩ := hx
  obtain ⟨g1, g2, g3, g4⟩ := hy
  dsimp only at h1 h2 h3 g1 g2 g3
  subst h1 h2 h3 g1 g2 g3
  have o1 := (h4.keep0 kA).sl Fld.cells_length
  have o2 := (g4.keep0 kA).sl Fld.cells_length
  clear h4 g4
  generalize hwA : (w.alloc (.cells #[.string (S q.m), .string (S q.t), .slice ax lx cx, .bool q.cl] 30)).alloc (.cells #[.string (S q.m), .string (S q.t), .slice ay ly cy, .bool q.cl] 30) = wA
  have hwA' : (w.alloc (.cells (RqE.cells ⟨q.m, q.t, ax, lx, cx, q.cl⟩).toArray 30)).alloc (.cells (RqE.cells ⟨q.m, q.t, ay, ly, cy, q.cl⟩).toArray 30) = wA := hwA
  rw [hwA'] at kA b1 b2 o1 o2
  have b1 : Blk wA w.heap.size 30 (RqE.cells ⟨q.m, q.t, ax, lx, cx, q.cl⟩) := b1
  have b2 : Blk wA (w.heap.size + 1) 30 (RqE.cells ⟨q.m, q.t, ay, ly, cy, q.cl⟩) := b2
  have c0 := b1.get (k := 0) (v := .string (S q.m)) rfl
  have c1 := b1.get (k := 1) (v := .string (S q.t)) rfl
  have c2 := b1.get (k := 2) (v := .slice ax lx cx) rfl
  have c3 := b1.get (k := 3) (v := .bool q.cl) rfl
  have d0 := b2.get (k := 0) (v := .string (S q.m)) rfl
  have d1 := b2.get (k := 1) (v := .string (S q.t)) rfl
  have d2 := b2.get (k := 2) (v := .slice ay ly cy) rfl
  have d3 := b2.get (k := 3) (v := .bool q.cl) rfl
  have HS := Lib.hid (ref_Same _ _ _ _ _ o1 o2)
  have dT : decide (q.F = q.F) = true := by simp
  rw [dT] at HS
  have KA := Lib.hid kA
  have t1 := S_toList q.m
  have t2 := S_toList q.t
  clear kA b1 b2 o1 o2 hwA' dT
  dsimp only [RqE.cells, reqC, RqE.v] at HS ⊢
  go_enter Tryz.func10, Tryz.ntmps10
  go_wp2_with fail
  refine HS.out.mono ?_
  rintro e w1 ⟨rfl, k1⟩
  have K1 := Lib.hid (KA.out.trans k1)
  clear k1
  go_wp2_with fail
  go_ret
  exact ⟨rfl, K1.out⟩
/-- where the bytes come one by one -/
structure CutS (B : Nat) (s : List UInt8) (c : Nat) (wZ wr : World) (k : Nat) (vz : Value) (Zz : List Nat) (Ez : List RqE) (Lz : List Req) (st : Int) (J : InS) (Xc Rc : List Nat) : Prop where
  it : It B wr c Xc Rc J
  rs : Rs B wr vz Zz Ez Lz
  kp : Keep [c] wZ wr
  nx : ∀ x ∈ Xc, x = c ∨ wZ.heap.size ≤ x
  nr : ∀ x ∈ Rc, wZ.heap.size ≤ x
  nz : ∀ z ∈ Zz, z ∉ Xc ∧ wZ.heap.size ≤ z
  nv : ∀ g, vz.ownBlock = some g → wZ.heap.size ≤ g ∧ g ∉ Xc ∧ g ∉ Rc
  ok : J.ok
  lf : J.left + 2 * Lz.length ≤ k
  al : (st = 0 ∧ J.st = 0 ∧ Alls (in0.add (s.take k)) Lz 0 J) ∨ (st ≠ 0 ∧ ∃ p', Alls (in0.add s) Lz st p')
theorem in0_addok (l : List UInt8) (h : l.length ≤ 16384) : (in0.add l).ok := ⟨by simpa [in0, InS.add] using h, by simp [in0, InS.add], by simp [in0, InS.add], by simp [in0, InS.add], by simp [in0, InS.add], by simp [in0, InS.add]⟩
theorem CutS.more {B : Nat} {s : List UInt8} {c : Nat} {wZ wr w1 w2 w3 : World} {k : Nat} {vz vm v' : Value} {Zz Zm : List Nat} {Ez Em : List RqE} {Lz Lm : List Req} {J J' : InS} {Xc Rc X2 R2 : List Nat} {j : Int} (h : CutS B s c wZ wr k vz Zz Ez Lz 0 J Xc Rc)
    (hs : s.length ≤ 16000) (hk : k < s.length) (k1 : Keep [c] wr w1) (ha : Alls (J.add ((s.drop k).take 1)) Lm j J') (hi : It B w2 c X2 R2 J') (k2 : Keep Xc w1 w2) (n2 : ∀ x ∈ X2, x ∈ Xc ∨ w1.heap.size ≤ x) (r2 : ∀ x ∈ R2, x ∈ Rc ∨ w1.heap.size ≤ x)
    (hm : Rs B w2 vm Zm Em Lm) (zm : ∀ z ∈ Zm, z ∉ X2 ∧ (z ∈ Rc ∨ w1.heap.size ≤ z)) (hl : J'.left + 2 * Lm.length ≤ (J.add ((s.drop k).take 1)).left) (hok : J'.ok)
    (ho : Own RqE.cells 4 B 30 w3 v' (Ez ++ Em)) (hgr : w2.grownBy w3 vz.ownBlock) (hnn : v' ≠ .slice none 0 0) (hat : v'.ownBlock = vz.ownBlock ∨ v'.ownBlock = some w2.heap.size) :
    CutS B s c wZ w3 (k + 1) v' (Zz ++ Zm) (Ez ++ Em) (Lz ++ Lm) j J' X2 R2 := by
  have h1z := h.kp.size
  have h2z := k1.size
  have h3z := k2.size
  have kg := Keep.ofGrown hgr
  have h4z := kg.size
  obtain ⟨_, hJ0, hal⟩ : (0 : Int) = 0 ∧ J.st = 0 ∧ Alls (in0.add (s.take k)) Lz 0 J := by
    rcases h.al with h | h
    · exact h
    · exact absurd rfl h.1
  have hvlt : ∀ g, vz.ownBlock = some g → g < wr.heap.size := fun g hg => (h.rs.own.lt g hg).2
  have hcX := h.it.mem
  have hvc : ∀ g, vz.ownBlock = some g → g ≠ c := fun g hg hh => (h.nv g hg).2.1 (hh ▸ hcX)
  have hZc : ∀ z ∈ Zz, z ≠ c := fun z hz hh => (h.nz z hz).1 (hh ▸ hcX)
  have hrs2 : Rs B w2 vz Zz Ez Lz := (h.rs.keep k1 (fun g hg => by simpa using hvc g hg) (fun z hz => by simpa using hZc z hz)).keep k2 (fun g hg => (h.nv g hg).2.1) (fun z hz => (h.nz z hz).1)
  have hvX2 : ∀ g, vz.ownBlock = some g → g ∉ X2 ∧ g ∉ R2 := fun g hg => ⟨fun hh => by
    rcases n2 g hh with h8 | h8
    · exact (h.nv g hg).2.1 h8
    · have := hvlt g hg; omega, fun hh => by
    rcases r2 g hh with h8 | h8
    · exact (h.nv g hg).2.2 h8
    · have := hvlt g hg; omega⟩
  have hvm : ∀ g, vz.ownBlock = some g → g ∉ Zm := fun g hg hh => by
    rcases (zm g hh).2 with h8 | h8
    · exact (h.nv g hg).2.2 h8
    · have := hvlt g hg; omega
  have hX2 : ∀ x ∈ X2, x ∉ vz.ownBlock.toList := fun x hx hh => (hvX2 x (by simpa using hh)).1 hx
  have hR2 : ∀ x ∈ R2, x ∉ vz.ownBlock.toList := fun x hx hh => (hvX2 x (by simpa using hh)).2 hx
  have hpre := alls_app hal ((s.drop k).take 1) (in0_addok _ (by rw [List.length_take]; omega)) rfl
  have hcat : (in0.add (s.take k)).add ((s.drop k).take 1) = in0.add (s.take (k + 1)) := by
    refine inS_ext ?_ rfl rfl rfl rfl rfl
    simp only [InS.add, in0, List.nil_append]
    rw [List.take_add]
  have hful := hpre.1 rfl Lm j J' ha
  rw [hcat] at hful
  have hend := alls_app hful (s.drop (k + 1)) (in0_addok _ (by rw [List.length_take]; omega)) rfl
  have hcat2 : (in0.add (s.take (k + 1))).add (s.drop (k + 1)) = in0.add s := by
    refine inS_ext ?_ rfl rfl rfl rfl rfl
    simp only [InS.add, in0, List.nil_append]
    rw [List.take_append_drop]
  rw [hcat2] at hend
  have hleft : (J.add ((s.drop k).take 1)).left ≤ J.left + 1 := by
    unfold InS.left InS.add
    simp only [List.length_append, List.length_take]
    omega
  refine ⟨hi.keep kg hX2 hR2, hrs2.append hm ho hgr hnn hat hvm, ?_, ?_, ?_, ?_, ?_, hok, ?_, ?_⟩
  · refine ((h.kp.trans k1).trans' k2 (fun x hx hlt => ?_)).trans' kg (fun x hx hlt => ?_)
    · rcases h.nx x hx with rfl | h8
      · simp
      · omega
    · have := (h.nv x (by simpa using hx)).1; omega
  · intro x hx
    rcases n2 x hx with h8 | h8
    · exact h.nx x h8
    · exact .inr (by omega)
  · intro x hx
    rcases r2 x hx with h8 | h8
    · exact h.nr x h8
    · omega
  · intro z hz
    rcases List.mem_append.1 hz with hz | hz
    · refine ⟨fun hh => ?_, (h.nz z hz).2⟩
      rcases n2 z hh with h8 | h8
      · exact (h.nz z hz).1 h8
      · have := h.rs.lo z hz; omega
    · refine ⟨(zm z hz).1, ?_⟩
      rcases (zm z hz).2 with h8 | h8
      · exact h.nr z h8
      · omega
  · intro g hg
    rcases hat with e | e
    · rw [e] at hg
      exact ⟨(h.nv g hg).1, hvX2 g hg⟩
    · rw [e] at hg
      have : w2.heap.size = g := by simpa using hg
      subst this
      exact ⟨by omega, fun hh => by have := (hi.lo _ hh).2; omega, fun hh => by have := (hi.ro _ hh).2.1; omega⟩
  · have := h.lf
    rw [List.length_append]
    omega
  · by_cases hj : j = 0
    · left
      subst hj
      exact ⟨rfl, (hend.2.2.1 rfl), hful⟩
    · exact .inr ⟨hj, hend.2.1 hj⟩
end Go.Proofs.YtpimfoohpfkciaaGreatDoor

/- Layer 12: what InletReads goes by: an inlet beside the bytes that no request has taken. No conditions but on lengths. -/
namespace Go.Proofs.YtpimfoohpfkciaaGreatDoor
open Go.RowKit Go.Shelf

theorem wpList_wantedQ {P : Program} {ops : Array Oper} {rest : List Oper} {o : Oper} {a : Act} {w : World} {Q : Exit → Act → World → Prop} (hw : Region.wanted o (yielded ops a.tmps) = true) (h : ∀ K : Act → World → Prop, (∀ a w, wpList P ops Q rest a w → K a w) → o.wp P a w K Q) : wpList P ops Q (o :: rest) a w :=
  wpList_step fun K hK => by rw [if_pos hw]; exact h K hK
theorem wpList_load_midQ {P : Program} {ops : Array Oper} {rest : List Oper} {op : Oper} {a : Act} {w : World} {Q : Exit → Act → World → Prop} (hw : Region.wanted op (yielded ops a.tmps) = true) (ty : TypeId) (x : Operand) (ho : op.op = .load ty x)
    (b o : Nat) (hx : a.eval x = .pointer (some ⟨b, o, none⟩)) (cs : List Value) (d : TypeDesc) (hc : w.rangeAt b o cs) (hu : P.underlying ty = some d) (hd : d.isRow = true) (hi : (P.info? ty).map (·.size) = some cs.length)
    (h : wpList P ops Q rest (a.put op.dst (.agg cs.toArray)) w) : wpList P ops Q (op :: rest) a w :=
  wpList_wantedQ hw fun _ hK => wp_load_mid ty x ho b o hx cs d hc hu hd hi (hK _ _ h)
/-- an inlet and the bytes that have come and that no request has taken -/
structure RdS (B b : Nat) (w0 wr : World) (st : Int) (G : InS) (l : List UInt8) : Prop where
  it : ∃ X R, It B wr b X R G
  kp : Keep [] w0 wr
  ok : G.ok
  lf : G.left = l.length
  iv : st = 0 → Iv G l
  bd : st ≠ 0 → G.st = st
  s2 : st ≠ 200
theorem RdS.keep0 {B b : Nat} {w0 wr w' : World} {st : Int} {G : InS} {l : List UInt8} (h : RdS B b w0 wr st G l) (k : Keep [] wr w') : RdS B b w0 w' st G l := by
  obtain ⟨X, R, hi⟩ := h.it
  exact ⟨⟨X, R, hi.keep0 k⟩, h.kp.trans k, h.ok, h.lf, h.iv, h.bd, h.s2⟩
/-- a block made behind it may change -/
theorem RdS.keep1 {B b : Nat} {w0 wr w1 w' : World} {st : Int} {G : InS} {l : List UInt8} (h : RdS B b w0 wr st G l) (_hB : B = w0.heap.size) (k : Keep [] wr w1) (k2 : Keep [wr.heap.size] w1 w') : RdS B b w0 w' st G l := by
  obtain ⟨X, R, hi⟩ := h.it
  have hs := h.kp.size
  exact ⟨⟨X, R, (hi.keep0 k).keep k2 (fun x hx => by have := (hi.lo x hx).2; simp; omega) (fun x hx => by have := (hi.ro x hx).2.1; simp; omega)⟩, (h.kp.trans k).trans' k2 (fun x hx hlt => by have h1 : x = wr.heap.size := (by simpa using hx); omega), h.ok, h.lf, h.iv, h.bd, h.s2⟩
theorem rds_add0 {b : Nat} {w0 wr : World} {G : InS} {l : List UInt8} (h : RdS w0.heap.size b w0 wr 0 G l) (s : List UInt8) (hl : l.length + s.length ≤ 16384) :
    Calls Tryz.prog 7 #[.pointer (some ⟨b, 0, none⟩), .string (S s)] wr fun e w' => e = .returned (.int .i64 0) ∧ RdS w0.heap.size b w0 w' 0 (G.add s) (l ++ s) := by
  obtain ⟨X, R, hi⟩ := h.it
  obtain ⟨he, hv⟩ := (h.iv rfl).add s hl
  have hlen := h.ok.len
  have hA := inlet_Add s hi (by omega) (by omega)
  rw [he] at hA
  refine hA.mono ?_
  rintro e w' ⟨rfl, hi', k⟩
  exact ⟨rfl, ⟨X, R, hi'⟩, h.kp.above k (fun x hx => by have h1 : x = b := (by simpa using hx); rw [h1]; exact (hi.lo b hi.mem).1), hv.ok, hv.lf, fun _ => hv, fun hh => absurd rfl hh, by decide⟩
theorem rds_addN {b : Nat} {w0 wr : World} {st : Int} {G : InS} {l : List UInt8} (h : RdS w0.heap.size b w0 wr st G l) (hs : st ≠ 0) (s : List UInt8) (hl : s.length ≤ 16384) :
    Calls Tryz.prog 7 #[.pointer (some ⟨b, 0, none⟩), .string (S s)] wr fun e w' => e = .returned (.int .i64 8) ∧ RdS w0.heap.size b w0 w' st G l := by
  obtain ⟨X, R, hi⟩ := h.it
  have hlen := h.ok.len
  have hA := inlet_Add s hi (by omega) (by omega)
  rw [bad_add (by rw [h.bd hs]; exact hs)] at hA
  refine hA.mono ?_
  rintro e w' ⟨rfl, hi', k⟩
  exact ⟨rfl, ⟨X, R, hi'⟩, h.kp.above k (fun x hx => by have h1 : x = b := (by simpa using hx); rw [h1]; exact (hi.lo b hi.mem).1), h.ok, h.lf, h.iv, h.bd, h.s2⟩
theorem rds_left {b : Nat} {w0 wr : World} {st : Int} {G : InS} {l : List UInt8} (h : RdS w0.heap.size b w0 wr st G l) :
    Calls Tryz.prog 11 #[.pointer (some ⟨b, 0, none⟩)] wr fun e w' => e = .returned (.int .i64 (l.length : Nat)) ∧ RdS w0.heap.size b w0 w' st G l := by
  obtain ⟨X, R, hi⟩ := h.it
  have hlen := h.ok.len
  refine (inlet_Left hi (by omega)).mono ?_
  rintro e w' ⟨rfl, k⟩
  exact ⟨by rw [h.lf], h.keep0 k⟩
theorem rds_next0 {b : Nat} {w0 wr : World} {G : InS} {l : List UInt8} (h : RdS w0.heap.size b w0 wr 0 G l) (hm : ML w0) (hl : l.length ≤ 16384) :
    Calls Tryz.prog 8 #[.pointer (some ⟨b, 0, none⟩)] wr fun e w' => ∃ sa sc, e = .returned (.tuple #[.agg (reqC (rdM l).q.m (rdM l).q.t (.slice sa (rdM l).q.F.length sc) (rdM l).q.cl).toArray, .int .i64 (rdM l).s]) ∧ Own Fld.cells 2 w0.heap.size 40 w' (.slice sa (rdM l).q.F.length sc) (rdM l).q.F ∧ RdS w0.heap.size b w0 w' (if (rdM l).s = 200 then 0 else (rdM l).s) (nextI G).p (l.drop (rdM l).n) := by
  obtain ⟨X, R, hi⟩ := h.it
  obtain ⟨e1, e2, e3, e4, e5, e6, e7⟩ := (h.iv rfl).step hl
  refine (inlet_Next hi (hm.keep h.kp (by simp)) h.kp.size hm.lt h.ok).mono ?_
  rintro e w' ⟨v, X', R', rfl, hi', k, _, _, ho, _⟩
  rw [e1, e2]
  rw [e2] at ho
  obtain ⟨sa, sc, rfl, _⟩ := ho.shape
  refine ⟨sa, sc, rfl, ho, ⟨X', R', hi'⟩, h.kp.above k (fun x hx => (hi.lo x hx).1), e3, e4, fun h0 => ?_, fun h0 => ?_, ?_⟩
  · by_cases hs : (rdM l).s = 200
    · exact e5 hs
    · rw [if_neg hs] at h0; exact e6 h0
  · by_cases hs : (rdM l).s = 200
    · rw [if_pos hs] at h0; exact absurd rfl h0
    · rw [if_neg hs]; exact (e7 hs).2.2
  · by_cases hs : (rdM l).s = 200
    · rw [if_pos hs]; decide
    · rw [if_neg hs]; exact hs
theorem rds_nextN {b : Nat} {w0 wr : World} {st : Int} {G : InS} {l : List UInt8} (h : RdS w0.heap.size b w0 wr st G l) (hs : st ≠ 0) (hm : ML w0) :
    Calls Tryz.prog 8 #[.pointer (some ⟨b, 0, none⟩)] wr fun e w' => ∃ sa sc, e = .returned (.tuple #[.agg (reqC [] [] (.slice sa 0 sc) false).toArray, .int .i64 st]) ∧ Own Fld.cells 2 w0.heap.size 40 w' (.slice sa 0 sc) [] ∧ RdS w0.heap.size b w0 w' st G l := by
  obtain ⟨X, R, hi⟩ := h.it
  have hN := inlet_Next hi (hm.keep h.kp (by simp)) h.kp.size hm.lt h.ok
  rw [bad_next (by rw [h.bd hs]; exact hs)] at hN
  refine hN.mono ?_
  rintro e w' ⟨v, X', R', rfl, hi', k, _, _, ho, _⟩
  have ho : Own Fld.cells 2 w0.heap.size 40 w' v [] := ho
  obtain ⟨sa, sc, rfl, _⟩ := ho.shape
  refine ⟨sa, sc, ?_, ho, ⟨X', R', hi'⟩, h.kp.above k (fun x hx => (hi.lo x hx).1), h.ok, h.lf, h.iv, h.bd, h.s2⟩
  rw [h.bd hs]
  rfl
theorem rds_nil {b : Nat} {w0 wr : World} (hi : It w0.heap.size wr b [b] [] in0) (k : Keep [] w0 wr) : RdS w0.heap.size b w0 wr 0 in0 [] :=
  ⟨⟨_, _, hi⟩, k, in0_ok, rfl, fun _ => Iv.nil, fun h => absurd rfl h, by decide⟩
end Go.Proofs.YtpimfoohpfkciaaGreatDoor

/- Layer 12: what the statements are awake to; the statement InletLines. No conditions. -/
namespace Go.Proofs.YtpimfoohpfkciaaGreatDoor
open Go.RowKit Go.Shelf

def aiS1 : List UInt8 := [71, 69, 84, 32, 47, 118, 50, 47, 32, 72, 84, 84, 80, 47, 49, 46, 49, 13, 10, 72, 111, 115, 116, 58, 32, 97, 13, 10, 13, 10, 71, 69, 84]
def aiS2 : List UInt8 := [71, 69, 84, 32, 47, 32, 72, 84, 84, 80, 47, 49, 46, 49, 13, 10, 72, 111, 115, 116, 58, 32, 97, 13, 10, 67, 111, 110, 116, 101, 110, 116, 45, 76, 101, 110, 103, 116, 104, 58, 32, 53, 48, 48, 48, 13, 10, 13, 10]
def aiS3 : List UInt8 := [71, 69, 84, 32, 47, 32, 72, 84, 84, 80, 47, 50, 46, 48]
def aiI1 : InS := { in0 with inp := aiS1 }
def aiI2 : InS := { in0 with inp := [71, 69, 84] }
def aiJ1 : InS := { in0 with inp := aiS2 }
def aiQ : Req := ⟨[71, 69, 84], [47, 118, 50, 47], [⟨[72, 111, 115, 116], [97]⟩], false⟩
theorem ai1 : inAdd in0 aiS1 = (aiI1, 0) := by kernel_rfl
theorem ai2 : nextI aiI1 = ⟨aiI2, aiQ, 200⟩ := by kernel_rfl
theorem ai3 : nextI aiI2 = ⟨aiI2, req0, 0⟩ := by kernel_rfl
theorem ai4 : inAdd in0 aiS2 = (aiJ1, 0) := by kernel_rfl
theorem ai5 : nextI aiJ1 = ⟨{ aiJ1 with st := 413 }, req0, 413⟩ := by kernel_rfl
theorem ai6 : lnM aiS3 = ⟨[], [], 0, 505⟩ := by kernel_rfl
theorem aiI1_ok : aiI1.ok := by have h := inAdd_ok in0_ok aiS1; rw [ai1] at h; exact h
theorem aiI2_ok : aiI2.ok := by have h := next_ok aiI1_ok; rw [ai2] at h; exact h
theorem aiJ1_ok : aiJ1.ok := by have h := inAdd_ok in0_ok aiS2; rw [ai4] at h; exact h
set_option maxRecDepth 100000 in
set_option maxHeartbeats 8000000 in
theorem inlet_awake (w : World) (hm : ML w) : Calls Tryz.prog 5 #[] w fun e w' => e = .returned (.bool true) ∧ Keep [] w w' := by
  have hbig := hm.lt
  have HM := Lib.hid hm
  have HN := Lib.hid (fun w' (k : Keep [] w w') => inlet_New w.heap.size w' k.size)
  have HLn := Lib.hid (fun w' (k : Keep [] w w') => inlet_Line aiS3 w' (hm.keep k (by simp)) (by decide))
  rw [ai6] at HLn
  unfold Ln.out at HLn
  dsimp only at HLn
  have t1 := S_toList [71, 69, 84]
  have t2 := S_toList [47, 118, 50, 47]
  clear hm
  go_enter Tryz.func5, Tryz.ntmps5
  go_wp2_with fail
  refine (HN.out _ (Keep.refl _ _)).mono ?_
  rintro e w1 ⟨p, rfl, hp, hx, k1⟩
  have K1 := Lib.hid k1
  have HA := Lib.hid (inlet_Add aiS1 hx (by decide) (by decide))
  rw [ai1] at HA
  have P1 := Lib.hid hx
  clear hx k1
  go_wp2_with fail
  refine HA.out.mono ?_
  rintro e w2 ⟨rfl, hx, k2⟩
  have K2 := Lib.hid (K1.out.above k2 (by intro x hh; simp at hh; omega))
  have HX := Lib.hid (inlet_Next hx (HM.out.keep K2.out (by simp)) K2.out.size hbig aiI1_ok)
  rw [ai2] at HX
  unfold NextOut at HX
  dsimp only at HX
  have P2 := Lib.hid hx
  clear hx k2 HA P1
  go_wp2_with fail
  refine HX.out.mono ?_
  rintro e w3 ⟨v, X3, R3, rfl, hx, k3, n3, r3, ho, hg⟩
  obtain ⟨sa, sc, rfl, _⟩ := ho.shape
  have K3 := Lib.hid (K2.out.above k3 (fun x hh => (P2.out.lo x hh).1))
  have kA := (Keep.refl [] w3).alloc (.cells (reqC aiQ.m aiQ.t (.slice sa aiQ.F.length sc) aiQ.cl).toArray 30)
  have bA := Blk.newA w3 (reqC aiQ.m aiQ.t (.slice sa aiQ.F.length sc) aiQ.cl).toArray 30
  generalize hwA : w3.alloc (.cells (reqC aiQ.m aiQ.t (.slice sa aiQ.F.length sc) aiQ.cl).toArray 30) = wA at kA bA
  have P3 := Lib.hid (hx.keep0 kA)
  have KA := Lib.hid (K3.out.trans kA)
  have BA := Lib.hid (show Blk wA w3.heap.size 30 (reqC aiQ.m aiQ.t (.slice sa aiQ.F.length sc) aiQ.cl) from bA)
  have hnX := Lib.hid (show w3.heap.size ∉ X3 from fun hh => by have := (hx.lo _ hh).2; omega)
  have HX2 := Lib.hid (inlet_Next P3.out (HM.out.keep KA.out (by simp)) KA.out.size hbig aiI2_ok)
  rw [ai3] at HX2
  unfold NextOut at HX2
  dsimp only at HX2
  have HO1 := Lib.hid (reqC_one aiQ.m aiQ.t (v := .slice sa aiQ.F.length sc) aiQ.cl rfl)
  clear hx k3 n3 r3 ho hg kA bA HX P2 K1 K2
  go_wp2_with (first
    | (with_reducible (show wpList _ _ _ ((⟨none, .store _ (.tmp 2) (.tmp 24), _, _, _, none⟩ : Oper) :: _) _ _)
       refine wpList_store_fresh rfl 30 (.tmp 2) (.tmp 24) rfl _ (reqC aiQ.m aiQ.t (.slice sa aiQ.F.length sc) aiQ.cl) (by rfl) (by rfl) req_size (by rfl) HO1.out ?_
       rw [hwA]
       try simp only [Act.put])
    | fail)
  refine HX2.out.mono ?_
  rintro e w4 ⟨v, X4, R4, rfl, hx, k4, n4, r4, ho, hg⟩
  obtain ⟨sb, sd, rfl, _⟩ := ho.shape
  have K4 := Lib.hid (KA.out.above k4 (fun x hh => (P3.out.lo x hh).1))
  have B4 := Lib.hid (k4.blk BA.out hnX.out)
  have kB := (Keep.refl [] w4).alloc (.cells (reqC req0.m req0.t (.slice sb req0.F.length sd) req0.cl).toArray 30)
  generalize hwB : w4.alloc (.cells (reqC req0.m req0.t (.slice sb req0.F.length sd) req0.cl).toArray 30) = wB at kB
  have P4 := Lib.hid (hx.keep0 kB)
  have KB := Lib.hid (K4.out.trans kB)
  have BB := Lib.hid (kB.blk B4.out (by simp))
  have HO2 := Lib.hid (reqC_one req0.m req0.t (v := .slice sb req0.F.length sd) req0.cl rfl)
  clear hx k4 n4 r4 ho hg kB HX2 hnX BA KA P3 B4 K4 hwA HO1
  go_wp2_with (first
    | (with_reducible (show wpList _ _ _ ((⟨none, .store _ (.tmp 4) (.tmp 29), _, _, _, none⟩ : Oper) :: _) _ _)
       refine wpList_store_fresh rfl 30 (.tmp 4) (.tmp 29) rfl _ (reqC req0.m req0.t (.slice sb req0.F.length sd) req0.cl) (by rfl) (by rfl) req_size (by rfl) HO2.out ?_
       rw [hwB]
       try simp only [Act.put])
    | fail)
  refine (HN.out _ KB.out).mono ?_
  rintro e w5 ⟨q, rfl, hq, hx, k5⟩
  have K5 := Lib.hid (KB.out.trans k5)
  have P5 := Lib.hid (P4.out.keep0 k5)
  have B5 := Lib.hid (k5.blk BB.out (by simp))
  have HA := Lib.hid (inlet_Add aiS2 hx (by decide) (by decide))
  rw [ai4] at HA
  have Q5 := Lib.hid hx
  have hs1 := P4.out.lo
  have hs2 := P4.out.ro
  have hb1 := BB.out.lt
  have SP := Lib.hid (show (∀ x ∈ X4, x ∉ [q]) ∧ (∀ x ∈ R4, x ∉ [q]) ∧ w3.heap.size ∉ [q] from ⟨fun x hh => by have := (hs1 x hh).2; simp; omega, fun x hh => by have := (hs2 x hh).2.1; simp; omega, by simp; omega⟩)
  clear hx k5 hs1 hs2 hb1 hwB HO2 KB P4 BB
  go_wp2_with fail
  refine HA.out.mono ?_
  rintro e w6 ⟨rfl, hx, k6⟩
  have K6 := Lib.hid (K5.out.above k6 (by intro x hh; have := (Q5.out.lo x (by simpa using hh)).1; omega))
  have P6 := Lib.hid (P5.out.keep k6 SP.out.1 SP.out.2.1)
  have B6 := Lib.hid (k6.blk B5.out SP.out.2.2)
  have HX := Lib.hid (inlet_Next hx (HM.out.keep K6.out (by simp)) K6.out.size hbig aiJ1_ok)
  rw [ai5] at HX
  unfold NextOut at HX
  dsimp only at HX
  have Q6 := Lib.hid hx
  clear hx k6 HA Q5 K5 P5 B5
  go_wp2_with fail
  refine HX.out.mono ?_
  rintro e w7 ⟨v, X7, R7, rfl, hx, k7, n7, r7, ho, hg⟩
  obtain ⟨sb, sd, rfl, _⟩ := ho.shape
  have K7 := Lib.hid (K6.out.above k7 (fun x hh => (Q6.out.lo x hh).1))
  have P7 := Lib.hid (P6.out.keep k7 SP.out.1 SP.out.2.1)
  have B7 := Lib.hid (k7.blk B6.out SP.out.2.2)
  have kB := (Keep.refl [] w7).alloc (.cells (reqC req0.m req0.t (.slice sb req0.F.length sd) req0.cl).toArray 30)
  generalize hwB : w7.alloc (.cells (reqC req0.m req0.t (.slice sb req0.F.length sd) req0.cl).toArray 30) = wB at kB
  have P8 := Lib.hid (P7.out.keep0 kB)
  have Q8 := Lib.hid (hx.keep0 kB)
  have K8 := Lib.hid (K7.out.trans kB)
  have B8 := Lib.hid (kB.blk B7.out (by simp))
  have HO2 := Lib.hid (reqC_one req0.m req0.t (v := .slice sb req0.F.length sd) req0.cl rfl)
  clear hx k7 n7 r7 ho hg kB HX Q6 K6 P6 B6 SP K7 P7 B7
  go_wp2_with (first
    | (with_reducible (show wpList _ _ _ ((⟨none, .store _ (.tmp 7) (.tmp 37), _, _, _, none⟩ : Oper) :: _) _ _)
       refine wpList_store_fresh rfl 30 (.tmp 7) (.tmp 37) rfl _ (reqC req0.m req0.t (.slice sb req0.F.length sd) req0.cl) (by rfl) (by rfl) req_size (by rfl) HO2.out ?_
       rw [hwB]
       try simp only [Act.put])
    | fail)
  refine (HLn.out _ K8.out).mono ?_
  rintro e w9 ⟨rfl, k9⟩
  have K9 := Lib.hid (K8.out.trans k9)
  have B9 := k9.blk B8.out (by simp)
  have b0 := B9.get (k := 0) (v := .string (S [71, 69, 84])) rfl
  have b1 := B9.get (k := 1) (v := .string (S [47, 118, 50, 47])) rfl
  have b2 := B9.get (k := 2) (v := .slice sa 1 sc) rfl
  have b3 := B9.get (k := 3) (v := .bool false) rfl
  have HL := Lib.hid (inlet_Left (P8.out.keep0 k9) (by decide))
  have hl3 : aiI2.left = 3 := rfl
  rw [hl3] at HL
  have Q9 := Lib.hid (Q8.out.keep0 k9)
  clear hwB HO2 K8 P8 B8 Q8 k9 B9 HLn hl3
  go_wp2_with fail
  refine HL.out.mono ?_
  rintro e w10 ⟨rfl, k10⟩
  have K10 := Lib.hid (K9.out.trans k10)
  have HA := Lib.hid (inlet_Add [120] (Q9.out.keep0 k10) (by decide) (by decide))
  have h8 : (inAdd { aiJ1 with st := 413 } [120]).2 = 8 := by kernel_rfl
  rw [h8] at HA
  have hX7 := Lib.hid (Q9.out.base)
  clear h8 k10 HL
  go_wp2_with fail
  refine HA.out.mono ?_
  rintro e w11 ⟨rfl, _, k11⟩
  have K11 := Lib.hid (K10.out.above k11 (by intro x hh; have := hX7.out; simp at hh; omega))
  clear k11
  go_wp2_with fail
  go_ret
  exact ⟨rfl, K11.out⟩

end Go.Proofs.YtpimfoohpfkciaaGreatDoor

/- An argument that is a slice of strings, read. No conditions. -/
namespace Go.Proofs.YtpimfoohpfkciaaGreatDoor
open Go.ChangeShapes Go.WideShapes Go.ChangeAt Go.RowKit

theorem read_strC {H : Type} {enc : TypeId × Value → H} {w : World} {base : Nat} {spare : Nat → Bool} {held : Bool} (m : Nat) (cs : List Value) (x : DataW H × List MemPlace)
    (h : DataW.trod enc Tryz.prog w base spare held m 9 cs = some x) : ∃ a : List UInt8, cs = strC a ∧ a.length ≤ maxLen := by
  obtain ⟨a, c0, _, la⟩ := DataW.trod_string Tryz.underlying9 h
  exact ⟨a.data.toList, by rw [strC, S_of]; exact c0, by rw [Array.length_toList]; exact la⟩
end Go.Proofs.YtpimfoohpfkciaaGreatDoor

/- Layer 12: the walk of the statement InletReads. No conditions. -/
namespace Go.Proofs.YtpimfoohpfkciaaGreatDoor
open Go.RowKit Go.Shelf

theorem reqC_own {B : Nat} {w : World} {q : Req} {sa : Option Addr} {sc : Nat} (ho : Own Fld.cells 2 B 40 w (.slice sa q.F.length sc) q.F) : El1 B w ⟨q.m, q.t, sa, q.F.length, sc, q.cl⟩ q := ⟨rfl, rfl, rfl, ho⟩

set_option maxRecDepth 100000 in
set_option maxHeartbeats 8000000 in
theorem inletReads_walk (va : Value) (P : List (List UInt8)) (w : World) (hm : ML w) (ha : Sl strC 1 w va P) (hp : ∀ x ∈ P, x.length ≤ maxLen) :
    Calls Tryz.prog 3 #[va] w fun e w' => e = .returned (.bool true) ∧ Keep [] w w' := by
  obtain ⟨aa, ca, rfl, hal⟩ := ha.shape
  have hal' : P.length ≤ 9223372036854775807 := hal
  have HP := Lib.hid ha
  have HAw := Lib.hid (inlet_awake w hm)
  have HM := Lib.hid hm
  have HN := Lib.hid (fun w' (k : Keep [] w w') => inlet_New w.heap.size w' k.size)
  clear ha hm hal
  go_enter Tryz.func3, Tryz.ntmps3
  go_wp2_with fail
  refine HAw.out.mono ?_
  rintro e w1 ⟨rfl, k1⟩
  have K1 := Lib.hid k1
  clear k1
  go_wp2_with fail
  refine (HN.out _ K1.out).mono ?_
  rintro e w2 ⟨b, rfl, hb, hx, k2⟩
  have RS0 := Lib.hid (rds_nil hx (K1.out.trans k2))
  clear k2 hx hb K1 HN HAw
  go_wp2_with fail
  go_loopg [4, 5, 6] 30 (fun g lv sv iv wr => ∃ (i : Nat) (l : List UInt8) (st : Int) (G : InS), lv = .string (S l) ∧ sv = .int .i64 st ∧ iv = .int .i64 (i : Nat) ∧ i ≤ 30 ∧ g = 30 - i ∧ l.length ≤ 16384 ∧ Hid (RdS w.heap.size b w wr st G l))
  case atStart => exact ⟨0, [], 0, in0, rfl, rfl, rfl, by omega, rfl, by simp, RS0⟩
  case round =>
    obtain ⟨i, l, st, G, rfl, rfl, rfl, hi, hg, hl, HR⟩ := hrel
    have sL := S_size l
    by_cases hlt : i < P.length
    · by_cases hi30 : i < 30
      · obtain ⟨x, hx⟩ : ∃ x, P[i]? = some x := ⟨_, List.getElem?_eq_getElem hlt⟩
        have hxm := hp x (List.mem_of_getElem? hx)
        have hxm' : x.length ≤ 9223372036854775807 := hxm
        have sX := S_size x
        obtain ⟨b1, o1, c1, e1, l1, m1, x1⟩ := HP.out.cell hx
        simp only [Value.slice.injEq] at e1
        obtain ⟨rfl, _, rfl⟩ := e1
        have a0 := x1 0 (by omega)
        simp only [strC, List.getElem?_cons_zero, Nat.add_zero, Nat.mul_one] at a0
        have HC := Lib.hid (fun w' (k : Keep [] w w') => k.load a0)
        have HPG := Lib.hid hp
        clear hxm hx x1 l1 m1 a0 hp
        have wk := IntWalk.i64_in ((i : Int) + 1) (by omega)
        have ar := HC.out _ HR.out.kp
        by_cases hb2 : 8192 < x.length ∨ 8192 < l.length
        · by_cases hl1 : 8192 < x.length
          all_goals
            have q1 : decide ((x.length : Int) > 8192) = decide (8192 < x.length) := by rw [decide_eq_decide]; omega
            first
              | rw [decide_eq_true hl1] at q1
              | (rw [decide_eq_false hl1] at q1
                 have q2 : decide ((l.length : Int) > 8192) = true := by simp; omega)
            clear hb2 hl1
            go_wp2_with fail
            go_ret
            exact ⟨rfl, HR.out.kp⟩
        · have q1 : decide ((x.length : Int) > 8192) = false := by simp; omega
          have q2 : decide ((l.length : Int) > 8192) = false := by simp; omega
          have xl : x.length ≤ 8192 := by omega
          have ll : l.length ≤ 8192 := by omega
          have hst : ∃ (l2 : List UInt8) (G2 : InS), l2.length ≤ 16384 ∧ ((st = 0 ∧ l2 = l ++ x) ∨ (st ≠ 0 ∧ l2 = l)) ∧ Hid (∀ wr', Keep [] w wr' → RdS w.heap.size b w wr' st G l → Calls Tryz.prog 7 #[.pointer (some ⟨b, 0, none⟩), .string (S x)] wr' fun e w' => e = .returned (.int .i64 (if st = 0 then 0 else 8)) ∧ RdS w.heap.size b w w' st G2 l2) := by
            by_cases h0 : st = 0
            · subst h0
              exact ⟨l ++ x, G.add x, by simp; omega, .inl ⟨rfl, rfl⟩, Lib.hid (fun wr' _ h => rds_add0 h x (by omega))⟩
            · exact ⟨l, G, by omega, .inr ⟨h0, rfl⟩, Lib.hid (fun wr' _ h => by rw [if_neg h0]; exact rds_addN h h0 x (by omega))⟩
          obtain ⟨l2, G2, hl2, hwhich, HAd⟩ := hst
          have sL2 := S_size l2
          have hgi := Lib.hid hg
          have HI := Lib.hid (And.intro hi hi30)
          clear hb2 hg
          rcases hwhich with ⟨h0, hA⟩ | ⟨h0, hA⟩
          all_goals
            first
              | (have q3 := (int_eq h0).2
                 have hcat : S l ++ S x = S l2 := by rw [S_append, hA]
                 have hov : ¬ 9223372036854775807 < l.length + x.length := by omega
                 rw [if_pos h0] at HAd)
              | (have q3 := (int_ne h0).2
                 rw [if_neg h0] at HAd)
            have H0 := Lib.hid h0
            have HAe := Lib.hid hA
            clear h0 hA
            go_wp2_with fail
            refine (HAd.out _ HR.out.kp HR.out).mono ?_
            rintro e w3 ⟨rfl, hr3⟩
            have R3 := Lib.hid hr3
            have ar3 := HC.out _ hr3.kp
            clear hr3 HAd HR ar
            go_wp2_with fail
            have HL2 := Lib.hid hl2
            clear hl hl2 xl ll sL sX sL2 q1 q2 q3
            go_loopg [4, 5, 8] 40 (fun g lv sv kv wr => ∃ (k : Nat) (l : List UInt8) (st : Int) (G : InS), lv = .string (S l) ∧ sv = .int .i64 st ∧ kv = .int .i64 (k : Nat) ∧ k ≤ 40 ∧ g = 40 - k ∧ l.length ≤ 16384 ∧ Hid (RdS w.heap.size b w wr st G l))
            case atStart => exact ⟨0, l2, st, G2, by first | rfl | rw [HAe.out], rfl, rfl, by omega, rfl, HL2.out, R3⟩
            case round =>
              obtain ⟨k, l, st, G, rfl, rfl, rfl, hk, hgk, hl, HR⟩ := hrel
              have sL := S_size l
              by_cases hk40 : k < 40
              · have wk2 := IntWalk.i64_in ((k : Int) + 1) (by omega)
                by_cases h0 : st = 0
                · subst h0
                  have HNx := Lib.hid (rds_next0 HR.out HM.out hl)
                  have HRe := Lib.hid (fun w' => ref12_Read l w' (by omega))
                  have hmx := rd_max l
                  generalize rdM l = r at *
                  obtain ⟨⟨qm, qt, qF, qc⟩, rn, rs⟩ := r
                  unfold Rd12 at HRe
                  dsimp only at HNx HRe hmx
                  have hx : (S l).extract rn l.length = S (l.drop rn) := by rw [S_extract, List.take_length]
                  have i0 : (0 : Int) ≤ (rn : Int) := by omega
                  have i1 : (rn : Int) ≤ (l.length : Int) := by omega
                  have sD := S_size (l.drop rn)
                  have hdl : (l.drop rn).length ≤ 16384 := by rw [List.length_drop]; omega
                  generalize l.drop rn = ld at *
                  go_wp2_with fail
                  refine HNx.out.mono ?_
                  rintro e w4 ⟨sa, sc, rfl, ho, hr⟩
                  have R4 := Lib.hid hr
                  have kA := (Keep.refl [] w4).alloc (.cells (reqC qm qt (.slice sa qF.length sc) qc).toArray 30)
                  have bA := Blk.newA w4 (reqC qm qt (.slice sa qF.length sc) qc).toArray 30
                  generalize hwA : w4.alloc (.cells (reqC qm qt (.slice sa qF.length sc) qc).toArray 30) = wA at kA bA
                  have RA := Lib.hid (R4.out.keep0 kA)
                  have BA := Lib.hid (show Blk wA w4.heap.size 30 (reqC qm qt (.slice sa qF.length sc) qc) from bA)
                  have OA := Lib.hid (ho.keep0 kA)
                  have HO1 := Lib.hid (reqC_one qm qt (v := .slice sa qF.length sc) qc rfl)
                  clear ho hr kA bA HNx HR
                  go_wp2_with (first
                    | (with_reducible (show wpList _ _ _ ((⟨none, .store _ (.tmp 9) (.tmp 63), _, _, _, none⟩ : Oper) :: _) _ _)
                       refine wpList_store_fresh rfl 30 (.tmp 9) (.tmp 63) rfl _ (reqC qm qt (.slice sa qF.length sc) qc) (by rfl) (by rfl) req_size (by rfl) HO1.out ?_
                       rw [hwA]
                       try simp only [Act.put])
                    | fail)
                  refine (HRe.out _).mono ?_
                  rintro e w5 ⟨v2, rfl, k5, ho5⟩
                  obtain ⟨sb, sd, rfl, _⟩ := ho5.shape
                  have R5 := Lib.hid (RA.out.keep0 k5)
                  have B5 := Lib.hid (k5.blk BA.out (by simp))
                  have O5 := Lib.hid (OA.out.keep0 k5)
                  have Y5 := Lib.hid (ho5.lower (base' := w.heap.size) RA.out.kp.size)
                  have kB := (Keep.refl [] w5).alloc (.cells (reqC qm qt (.slice sb qF.length sd) qc).toArray 30)
                  have bB := Blk.newA w5 (reqC qm qt (.slice sb qF.length sd) qc).toArray 30
                  generalize hwB : w5.alloc (.cells (reqC qm qt (.slice sb qF.length sd) qc).toArray 30) = wB at kB bB
                  have RB := Lib.hid (R5.out.keep0 kB)
                  have BB := Lib.hid ((kB.blk B5.out (by simp)).range')
                  have bB : Blk wB w5.heap.size 30 (reqC qm qt (.slice sb qF.length sd) qc) := bB
                  have CB := Lib.hid bB.range'
                  have HSm := Lib.hid (show Calls Tryz.prog 10 #[.agg (reqC qm qt (.slice sa qF.length sc) qc).toArray, .agg (reqC qm qt (.slice sb qF.length sd) qc).toArray] wB fun e w' => e = .returned (.bool true) ∧ Keep [] wB w' from ref12_Same (x := ⟨qm, qt, sa, qF.length, sc, qc⟩) (y := ⟨qm, qt, sb, qF.length, sd, qc⟩) (q := ⟨qm, qt, qF, qc⟩) (reqC_own (q := ⟨qm, qt, qF, qc⟩) (O5.out.keep0 kB)) (reqC_own (q := ⟨qm, qt, qF, qc⟩) (Y5.out.keep0 kB)))
                  have HO2 := Lib.hid (reqC_one qm qt (v := .slice sb qF.length sd) qc rfl)
                  clear k5 ho5 kB bB hwA HRe RA BA OA B5 O5 Y5 R5
                  go_wp2_with (first
                    | (with_reducible (show wpList _ _ _ ((⟨none, .store _ (.tmp 11) (.tmp 68), _, _, _, none⟩ : Oper) :: _) _ _)
                       refine wpList_store_fresh rfl 30 (.tmp 11) (.tmp 68) rfl _ (reqC qm qt (.slice sb qF.length sd) qc) (by rfl) (by rfl) req_size (by rfl) HO2.out ?_
                       rw [hwB]
                       try simp only [Act.put])
                    | (with_reducible (show wpList _ _ _ ((⟨_, .load _ (.tmp 9), _, _, _, some _⟩ : Oper) :: _) _ _)
                       refine wpList_load_midQ (by rfl) 30 (.tmp 9) rfl w4.heap.size 0 (by rfl) (reqC qm qt (.slice sa qF.length sc) qc) _ BB.out Tryz.underlying30 rfl req_size ?_
                       try simp only [Act.put, List.setIfInBounds_toArray, List.set_cons_succ, List.set_cons_zero])
                    | (with_reducible (show wpList _ _ _ ((⟨_, .load _ (.tmp 11), _, _, _, some _⟩ : Oper) :: _) _ _)
                       refine wpList_load_midQ (by rfl) 30 (.tmp 11) rfl w5.heap.size 0 (by rfl) (reqC qm qt (.slice sb qF.length sd) qc) _ CB.out Tryz.underlying30 rfl req_size ?_
                       try simp only [Act.put, List.setIfInBounds_toArray, List.set_cons_succ, List.set_cons_zero])
                    | fail)
                  refine HSm.out.mono ?_
                  rintro e w6 ⟨rfl, k6⟩
                  have R6 := Lib.hid (RB.out.keep0 k6)
                  have HLf := Lib.hid (rds_left R6.out)
                  clear k6 hwB HSm RB BB CB
                  go_wp2_with fail
                  refine HLf.out.mono ?_
                  rintro e w7 ⟨rfl, hr7⟩
                  have R7 := Lib.hid hr7
                  clear hr7 HLf R6 R4
                  by_cases hs0 : rs = 0
                  · have q6 := (int_eq hs0).1
                    have RF := Lib.hid (show RdS w.heap.size b w w7 0 _ ld by have h1 := R7.out; rw [if_neg (by omega), hs0] at h1; exact h1)
                    clear hs0 R7
                    go_wp2_with fail
                    go_roundg (30 - (i + 1))
                    case measure => have h1 := hgi.out; have h2 := HI.out; omega
                    case rel => exact ⟨i + 1, ld, 0, _, rfl, rfl, by go_num, by have h2 := HI.out; omega, rfl, by omega, RF⟩
                  · have q6 := (int_ne hs0).1
                    by_cases hs2 : rs = 200
                    · have q7 := (int_eq hs2).2
                      have RF := Lib.hid (show RdS w.heap.size b w w7 0 _ ld by have h1 := R7.out; rw [if_pos hs2] at h1; exact h1)
                      clear hs0 hs2 R7
                      go_wp2_with fail
                      go_roundg (40 - (k + 1))
                      case measure => omega
                      case rel => exact ⟨k + 1, ld, 0, _, rfl, rfl, by go_num, by omega, rfl, hdl, RF⟩
                    · have q7 := (int_ne hs2).2
                      have RF := Lib.hid (show RdS w.heap.size b w w7 rs _ ld by have h1 := R7.out; rw [if_neg hs2] at h1; exact h1)
                      clear hs0 hs2 R7
                      go_wp2_with fail
                      go_roundg (30 - (i + 1))
                      case measure => have h1 := hgi.out; have h2 := HI.out; omega
                      case rel => exact ⟨i + 1, ld, rs, _, rfl, rfl, by go_num, by have h2 := HI.out; omega, rfl, by omega, RF⟩
                · have HNx := Lib.hid (rds_nextN HR.out h0 HM.out)
                  have HRe := Lib.hid (fun w' => ref12_Read l w' (by omega))
                  generalize rdM l = r at *
                  obtain ⟨⟨qm, qt, qF, qc⟩, rn, rs⟩ := r
                  unfold Rd12 at HRe
                  dsimp only at HRe
                  have q8 := (int_ne h0).2
                  have q9 := (int_ne h0).1
                  have q10 := (int_ne HR.out.s2).2
                  have hx : (S l).extract 0 l.length = S l := by rw [S_extract, List.take_length, List.drop_zero]
                  have i1 : (0 : Int) ≤ (l.length : Int) := by omega
                  clear h0
                  go_wp2_with fail
                  refine HNx.out.mono ?_
                  rintro e w4 ⟨sa, sc, rfl, ho, hr⟩
                  have R4 := Lib.hid hr
                  have kA := (Keep.refl [] w4).alloc (.cells (reqC [] [] (.slice sa 0 sc) false).toArray 30)
                  have bA := Blk.newA w4 (reqC [] [] (.slice sa 0 sc) false).toArray 30
                  generalize hwA : w4.alloc (.cells (reqC [] [] (.slice sa 0 sc) false).toArray 30) = wA at kA bA
                  have RA := Lib.hid (R4.out.keep0 kA)
                  have BA := Lib.hid (show Blk wA w4.heap.size 30 (reqC [] [] (.slice sa 0 sc) false) from bA)
                  have OA := Lib.hid (ho.keep0 kA)
                  have HO1 := Lib.hid (reqC_one [] [] (v := .slice sa 0 sc) false rfl)
                  clear ho hr kA bA HNx HR
                  go_wp2_with (first
                    | (with_reducible (show wpList _ _ _ ((⟨none, .store _ (.tmp 9) (.tmp 63), _, _, _, none⟩ : Oper) :: _) _ _)
                       refine wpList_store_fresh rfl 30 (.tmp 9) (.tmp 63) rfl _ (reqC [] [] (.slice sa 0 sc) false) (by rfl) (by rfl) req_size (by rfl) HO1.out ?_
                       rw [hwA]
                       try simp only [Act.put])
                    | fail)
                  refine (HRe.out _).mono ?_
                  rintro e w5 ⟨v2, rfl, k5, ho5⟩
                  obtain ⟨sb, sd, rfl, _⟩ := ho5.shape
                  have R5 := Lib.hid (RA.out.keep0 k5)
                  have B5 := Lib.hid (k5.blk BA.out (by simp))
                  have O5 := Lib.hid (OA.out.keep0 k5)
                  have kB := (Keep.refl [] w5).alloc (.cells (reqC qm qt (.slice sb qF.length sd) qc).toArray 30)
                  have bB := Blk.newA w5 (reqC qm qt (.slice sb qF.length sd) qc).toArray 30
                  generalize hwB : w5.alloc (.cells (reqC qm qt (.slice sb qF.length sd) qc).toArray 30) = wB at kB bB
                  have RB := Lib.hid (R5.out.keep0 kB)
                  have BB := Lib.hid (kB.blk B5.out (by simp))
                  have bB : Blk wB w5.heap.size 30 (reqC qm qt (.slice sb qF.length sd) qc) := bB
                  have HTT := Lib.hid (bB.there' 0 4 (by simp [reqC]))
                  have hne : w4.heap.size ≠ w5.heap.size := by have := B5.out.lt; omega
                  have kS : Keep [w5.heap.size] wB (wB.setCells w5.heap.size 0 reqZ) := Keep.setCells' (S := [w5.heap.size]) _ (by simp) _ _ _ (Keep.refl _ _)
                  have hlo5 : w.heap.size ≤ w5.heap.size := R5.out.kp.size
                  have RC := Lib.hid (R5.out.keep1 rfl kB kS)
                  have BC := Lib.hid ((kS.blk BB.out (by simpa using hne)).range')
                  have CC := Lib.hid ((show Blk (wB.setCells w5.heap.size 0 reqZ) w5.heap.size 30 reqZ from (((bB.set 0 (.string (S []))).set 1 (.string (S []))).set 2 (.slice none 0 0)).set 3 (.bool false)).range')
                  have OC := Lib.hid ((O5.out.keep0 kB).keep kS (fun g hg => by have := (O5.out.lt g hg).2; simp; omega))
                  have HSm := Lib.hid (show Calls Tryz.prog 10 #[.agg (reqC [] [] (.slice sa 0 sc) false).toArray, .agg reqZ.toArray] (wB.setCells w5.heap.size 0 reqZ) fun e w' => e = .returned (.bool true) ∧ Keep [] (wB.setCells w5.heap.size 0 reqZ) w' from ref12_Same (x := ⟨[], [], sa, 0, sc, false⟩) (y := ⟨[], [], none, 0, 0, false⟩) (q := req0) ⟨rfl, rfl, rfl, OC.out⟩ ⟨rfl, rfl, rfl, Own.nil _ _ _ _ _⟩)
                  have HO2 := Lib.hid (reqC_one qm qt (v := .slice sb qF.length sd) qc rfl)
                  have ZST := Lib.hid (req_st [] [] (v := .slice none 0 0) false rfl)
                  clear k5 ho5 kB bB kS hwA HRe RA BA OA B5 O5 OC hne
                  go_wp2_with (first
                    | (with_reducible (show wpList _ _ _ ((⟨none, .store _ (.tmp 11) (.tmp 68), _, _, _, none⟩ : Oper) :: _) _ _)
                       refine wpList_store_fresh rfl 30 (.tmp 11) (.tmp 68) rfl _ (reqC qm qt (.slice sb qF.length sd) qc) (by rfl) (by rfl) req_size (by rfl) HO2.out ?_
                       rw [hwB]
                       try simp only [Act.put])
                    | (with_reducible (show wpList _ _ _ ((⟨none, .store _ (.tmp 11) (.tmp 73), _, _, _, none⟩ : Oper) :: _) _ _)
                       refine wpList_store_mid rfl 30 (.tmp 11) (.tmp 73) rfl w5.heap.size 0 reqZ.toArray (by rfl) (by first | rfl | kernel_rfl) HTT.out ZST.out.1 ZST.out.2 ?_
                       try simp only [Act.put])
                    | (with_reducible (show wpList _ _ _ ((⟨_, .load _ (.tmp 9), _, _, _, some _⟩ : Oper) :: _) _ _)
                       refine wpList_load_midQ (by rfl) 30 (.tmp 9) rfl w4.heap.size 0 (by rfl) (reqC [] [] (.slice sa 0 sc) false) _ BC.out Tryz.underlying30 rfl req_size ?_
                       try simp only [Act.put, List.setIfInBounds_toArray, List.set_cons_succ, List.set_cons_zero])
                    | (with_reducible (show wpList _ _ _ ((⟨_, .load _ (.tmp 11), _, _, _, some _⟩ : Oper) :: _) _ _)
                       refine wpList_load_midQ (by rfl) 30 (.tmp 11) rfl w5.heap.size 0 (by rfl) (reqZ) _ CC.out Tryz.underlying30 rfl req_size ?_
                       try simp only [Act.put, List.setIfInBounds_toArray, List.set_cons_succ, List.set_cons_zero])
                    | fail)
                  refine HSm.out.mono ?_
                  rintro e w6 ⟨rfl, k6⟩
                  have R6 := Lib.hid (RC.out.keep0 k6)
                  have HLf := Lib.hid (rds_left R6.out)
                  clear k6 hwB HSm RB RC BB BC CC HTT R5
                  go_wp2_with fail
                  refine HLf.out.mono ?_
                  rintro e w7 ⟨rfl, hr7⟩
                  have R7 := Lib.hid hr7
                  clear hr7 HLf R6 R4
                  go_wp2_with fail
                  go_roundg (30 - (i + 1))
                  case measure => have h1 := hgi.out; have h2 := HI.out; omega
                  case rel => exact ⟨i + 1, l, st, _, rfl, rfl, by go_num, by have h2 := HI.out; omega, rfl, by omega, R7⟩
              · have q : decide ((k : Int) < 40) = false := by simp; omega
                go_wp2_with fail
                go_roundg (30 - (i + 1))
                case measure => have h1 := hgi.out; have h2 := HI.out; omega
                case rel => exact ⟨i + 1, l, st, _, rfl, rfl, by go_num, by have h2 := HI.out; omega, rfl, by omega, HR⟩
      · have q : decide ((i : Int) < 30) = false := by simp; omega
        go_wp2_with fail
        go_ret
        exact ⟨rfl, HR.out.kp⟩
    · have q : decide ((i : Int) < (P.length : Int)) = false := by simp; omega
      go_wp2_with fail
      go_ret
      exact ⟨rfl, HR.out.kp⟩
end Go.Proofs.YtpimfoohpfkciaaGreatDoor
