/- Parts of the proof of ErrandTries, in order. No conditions but those that each theorem states. -/
import Derived.Test.YtlhnjkekjbbhcaaGreatDoorYErrandTries0
import Derived.Great.Walk
import Derived.RangeFuncNested
import Derived.RangeFuncCalls
import Derived.RangeFuncLeaves
import Derived.Test.YtlhnjkekjbbhcaaGreatDoorYErrandTries8
set_option linter.unusedSimpArgs false
set_option linter.unusedVariables false
namespace Go.Proofs.YtlhnjkekjbbhcaaGreatDoor
open Go.RowKit
def Mem (w0 w : World) (L : List (Nat × TypeId × List Value)) : Prop :=
  Keep [] w0 w ∧ (∀ (i j : Nat) (x y : Nat × TypeId × List Value), L[i]? = some x → L[j]? = some y → x.1 = y.1 → i = j) ∧ ∀ x ∈ L, w0.heap.size ≤ x.1 ∧ Blk w x.1 x.2.1 x.2.2
section
variable {w0 w w' : World} {L : List (Nat × TypeId × List Value)}
theorem Mem.nil (w : World) : Mem w w [] := ⟨Keep.refl _ _, fun i j x y h => by simp at h, fun x h => by simp at h⟩
theorem Mem.of (k : Keep [] w0 w) : Mem w0 w [] := ⟨k, fun i j x y h => by simp at h, fun x h => by simp at h⟩
theorem Mem.kp (h : Mem w0 w L) : Keep [] w0 w := h.1
theorem Mem.blk (h : Mem w0 w L) (i : Nat) {b : Nat} {T : TypeId} {cs : List Value} (hi : L[i]? = some (b, T, cs)) : Blk w b T cs := (h.2.2 _ (List.mem_of_getElem? hi)).2
theorem Mem.lo (h : Mem w0 w L) (i : Nat) {b : Nat} {T : TypeId} {cs : List Value} (hi : L[i]? = some (b, T, cs)) : w0.heap.size ≤ b := (h.2.2 _ (List.mem_of_getElem? hi)).1
theorem Mem.get (h : Mem w0 w L) (i : Nat) {b : Nat} {T : TypeId} {cs : List Value} (hi : L[i]? = some (b, T, cs)) (k : Nat) {v : Value} (hk : cs[k]? = some v) : w.cell? ⟨b, k, none⟩ = some v := (h.blk i hi).get hk
theorem Mem.fz (h : Mem w0 w L) (i : Nat) {b : Nat} {T : TypeId} {cs : List Value} (hi : L[i]? = some (b, T, cs)) (k : Nat) : w.frozen? ⟨b, k, none⟩ = false := (h.blk i hi).frozen k
theorem Mem.keep (h : Mem w0 w L) {S : List Nat} (k : Keep S w w') (hS : ∀ x ∈ S, w0.heap.size ≤ x ∧ ∀ y ∈ L, y.1 ≠ x) : Mem w0 w' L :=
  ⟨h.1.trans' k fun x hx hlt => absurd (hS x hx).1 (by omega), h.2.1, fun x hx => ⟨(h.2.2 x hx).1, k.blk (h.2.2 x hx).2 fun hh => (hS _ hh).2 x hx rfl⟩⟩
theorem Mem.keep0 (h : Mem w0 w L) (k : Keep [] w w') : Mem w0 w' L := h.keep k (by simp)
theorem Mem.cons (h : Mem w0 w L) (k : Keep [] w w') {b : Nat} {T : TypeId} {cs : List Value} (hb : w.heap.size ≤ b) (hB : Blk w' b T cs) : Mem w0 w' ((b, T, cs) :: L) := by
  have h' := h.keep0 k; have hne : ∀ x ∈ L, x.1 < w.heap.size := fun x hx => (h.2.2 x hx).2.lt
  refine ⟨h'.1, fun i j x y hi hj he => ?_, fun x hx => ?_⟩
  · cases i with
    | zero =>
      cases j with
      | zero => rfl
      | succ j =>
        simp at hi hj; subst hi; have := hne _ (List.mem_of_getElem? hj); simp at he; omega
    | succ i =>
      cases j with
      | zero =>
        simp at hi hj; subst hj; have := hne _ (List.mem_of_getElem? hi); simp at he; omega
      | succ j =>
        simp at hi hj; rw [h.2.1 i j x y hi hj he]
  · rcases List.mem_cons.1 hx with rfl | hx
    · exact ⟨Nat.le_trans h.1.size hb, hB⟩
    · exact h'.2.2 x hx
theorem Mem.alloc (h : Mem w0 w L) (Z : List Value) (T : TypeId) : Mem w0 (w.alloc (.cells Z.toArray T)) ((w.heap.size, T, Z) :: L) := h.cons ((Keep.refl _ _).alloc _) (Nat.le_refl _) (Blk.new w Z T)
theorem Mem.allocA (h : Mem w0 w L) (Z : List Value) (A : Array Value) (hA : A = Z.toArray) (T : TypeId) : Mem w0 (w.alloc (.cells A T)) ((w.heap.size, T, Z) :: L) := by subst hA; exact h.alloc Z T
theorem Mem.tail {x : Nat × TypeId × List Value} (h : Mem w0 w (x :: L)) : Mem w0 w L := ⟨h.1, fun i j x y hi hj he => by have := h.2.1 (i + 1) (j + 1) x y (by simpa using hi) (by simpa using hj) he; omega, fun y hy => h.2.2 y (List.mem_cons_of_mem _ hy)⟩
theorem Mem.upd (h : Mem w0 w L) (i : Nat) {b : Nat} {T : TypeId} {cs ds : List Value} (hi : L[i]? = some (b, T, cs)) (k : Keep [b] w w') (hB : Blk w' b T ds) : Mem w0 w' (L.set i (b, T, ds)) := by
  have hlt : i < L.length := (List.getElem?_eq_some_iff.1 hi).1; refine ⟨h.1.trans' k fun x hx hlt => ?_, fun p q x y hp hq he => ?_, fun x hx => ?_⟩
  · have := h.lo i hi; have h1 : x = b := (by simpa using hx)
    omega
  · have back : ∀ (p : Nat) x, (L.set i (b, T, ds))[p]? = some x → ∃ z, L[p]? = some z ∧ z.1 = x.1 := fun p x hp => by
      rw [List.getElem?_set] at hp
      split at hp
      · rename_i hh; subst hh; cases hp; exact ⟨_, hi, rfl⟩
      · exact ⟨x, hp, rfl⟩
    obtain ⟨x', hp', e1⟩ := back p x hp; obtain ⟨y', hq', e2⟩ := back q y hq; exact h.2.1 p q x' y' hp' hq' (by rw [e1, e2]; exact he)
  · obtain ⟨p, hp⟩ := List.mem_iff_getElem?.1 hx; rw [List.getElem?_set] at hp
    split at hp
    · rename_i hh; subst hh; cases hp; exact ⟨h.lo _ hi, hB⟩
    · rename_i hh; refine ⟨(h.2.2 x (List.mem_of_getElem? hp)).1, k.blk (h.2.2 x (List.mem_of_getElem? hp)).2 fun hm => hh ?_⟩; have h1 : x.1 = b := (by simpa using hm)
      exact h.2.1 i p _ x hi hp h1.symm
theorem Mem.setCell (h : Mem w0 w L) (i : Nat) {b : Nat} {T : TypeId} {cs : List Value} (hi : L[i]? = some (b, T, cs)) (o : Nat) (v : Value) : Mem w0 (w.setCell ⟨b, o, none⟩ v) (L.set i (b, T, cs.set o v)) :=
  h.upd i hi ((Keep.refl _ _).setCell _ _ fun _ => by simp) ((h.blk i hi).set o v)
theorem blk_overN {b : Nat} {T : TypeId} : ∀ (vs : List Value) {w : World} {pre xs : List Value}, xs.length = vs.length → Blk w b T (pre ++ xs) → Blk (w.setCells b pre.length vs) b T (pre ++ vs)
  | [], w, pre, xs, hl, h => by
    have : xs = [] := List.length_eq_zero_iff.1 (by simpa using hl); subst this; exact h
  | v :: r, w, pre, x :: xs, hl, h => by
    have h1 := h.set pre.length v; rw [List.set_append_right _ _ (Nat.le_refl _), Nat.sub_self, sqC] at h1; have h2 := blk_overN r (pre := pre ++ [v]) (xs := xs) (by simpa using hl) (by simpa using h1); simpa [World.setCells] using h2
theorem blk_overMid {b : Nat} {T : TypeId} : ∀ (vs : List Value) {w : World} {pre xs suf : List Value}, xs.length = vs.length → Blk w b T (pre ++ xs ++ suf) → Blk (w.setCells b pre.length vs) b T (pre ++ vs ++ suf)
  | [], w, pre, xs, suf, hl, h => by
    have : xs = [] := List.length_eq_zero_iff.1 (by simpa using hl); subst this; exact h
  | v :: r, w, pre, x :: xs, suf, hl, h => by
    have h1 := h.set pre.length v; rw [List.append_assoc, List.set_append_right _ _ (Nat.le_refl _), Nat.sub_self, List.cons_append, sqC] at h1; have h2 := blk_overMid r (pre := pre ++ [v]) (xs := xs) (suf := suf) (by simpa using hl) (by simpa using h1); simpa [World.setCells] using h2
theorem Mem.setAll (h : Mem w0 w L) (i : Nat) {b : Nat} {T : TypeId} {cs : List Value} (hi : L[i]? = some (b, T, cs)) (vs : List Value) (hl : cs.length = vs.length) : Mem w0 (w.setCells b 0 vs) (L.set i (b, T, vs)) :=
  h.upd i hi (Keep.setCells' b (fun _ => by simp) vs 0 w (Keep.refl _ _)) (blk_overN vs (pre := []) hl (h.blk i hi))
theorem Mem.setMid (h : Mem w0 w L) (i : Nat) {b : Nat} {T : TypeId} {cs : List Value} (hi : L[i]? = some (b, T, cs)) (pre xs suf vs : List Value) (hc : cs = pre ++ xs ++ suf) (hl : xs.length = vs.length) (o : Nat) (ho : o = pre.length) : Mem w0 (w.setCells b o vs) (L.set i (b, T, pre ++ vs ++ suf)) := by
  subst hc ho; exact h.upd i hi (Keep.setCells' b (fun _ => by simp) vs _ w (Keep.refl _ _)) (blk_overMid vs hl (h.blk i hi))
end
section
variable {P : Program} {ops : Array Oper} {rest : List Oper} {o : Oper} {a : Act} {w w0 : World} {Q : Exit → Act → World → Prop} {L : List (Nat × TypeId × List Value)}
def ZeroIs (P : Program) (ty : TypeId) (Z : List Value) : Prop := ∀ w : World, (Instr.alloc ty true (.tuple #[])).run P w = .ok (.pointer (some ⟨w.heap.size, 0, none⟩)) (w.alloc (.cells Z.toArray ty))
theorem wpList_allocM (hgd : o.guard = none) (ty : TypeId) (ho : o.op = .alloc ty) (Z : List Value) (HZ : Hid (ZeroIs P ty Z)) (HM : Hid (Mem w0 w L))
    (h : ∀ b w', Hid (Mem w0 w' ((b, ty, Z) :: L)) → Hid (Keep [] w w') → Hid (b = w.heap.size) → wpList P ops Q rest (a.put o.dst (.pointer (some ⟨b, 0, none⟩))) w') : wpList P ops Q (o :: rest) a w :=
  wpList_plain hgd fun _ hK => by
    unfold Oper.wp execOp; simp only [ho]; have hz := HZ.out w; simp only [Sem.run_bind, hz, Result.andThen_ok, Sem.run_pure]; exact hK _ _ (h _ _ (Lib.hid (HM.out.alloc Z ty)) (Lib.hid ((Keep.refl _ _).alloc _)) (Lib.hid rfl))
theorem wpList_boxM (hgd : o.guard = none) (ty : TypeId) (x : Operand) (ho : o.op = .box ty x) (cs : List Value) (hx : (a.eval x).cells = cs.toArray) (HM : Hid (Mem w0 w L))
    (h : ∀ b w', Hid (Mem w0 w' ((b, ty, cs) :: L)) → Hid (Keep [] w w') → Hid (b = w.heap.size) → wpList P ops Q rest (a.put o.dst (.pointer (some ⟨b, 0, none⟩))) w') : wpList P ops Q (o :: rest) a w :=
  Great.wpList_boxTo hgd ty x ho o.dst rfl w.heap.size rfl cs.toArray hx (h _ _ (Lib.hid (HM.out.alloc cs ty)) (Lib.hid ((Keep.refl _ _).alloc _)) (Lib.hid rfl))
theorem wpList_loadM (hw : Region.wanted o (yielded ops a.tmps) = true) (ty : TypeId) (x : Operand) (ho : o.op = .load ty x) (HM : Hid (Mem w0 w L)) (i : Nat) {b : Nat} {T : TypeId} {cs : List Value} (hi : L[i]? = some (b, T, cs)) (hx : a.eval x = .pointer (some ⟨b, 0, none⟩))
    (d : TypeDesc) (hu : P.underlying ty = some d) (hd : d.isRow = true) (hs : (P.info? ty).map (·.size) = some cs.length)
    (h : wpList P ops Q rest (a.put o.dst (.agg cs.toArray)) w) : wpList P ops Q (o :: rest) a w :=
  wpList_step fun K hK => by
    rw [if_pos hw]; exact wp_load_mid ty x ho b 0 hx cs d (HM.out.blk i hi).range' hu hd hs (hK _ _ h)
theorem wpList_loadPart (hw : Region.wanted o (yielded ops a.tmps) = true) (ty : TypeId) (x : Operand) (ho : o.op = .load ty x) (HM : Hid (Mem w0 w L)) (i : Nat) {b : Nat} {T : TypeId} {cs : List Value} (hi : L[i]? = some (b, T, cs)) (off : Nat) (hx : a.eval x = .pointer (some ⟨b, off, none⟩))
    (vs : List Value) (hv : ∀ j v, vs[j]? = some v → cs[off + j]? = some v) (d : TypeDesc) (hu : P.underlying ty = some d) (hd : d.isRow = true) (hs : (P.info? ty).map (·.size) = some vs.length)
    (h : wpList P ops Q rest (a.put o.dst (.agg vs.toArray)) w) : wpList P ops Q (o :: rest) a w :=
  wpList_step fun K hK => by
    rw [if_pos hw]; exact wp_load_mid ty x ho b off hx vs d (fun j v hj => (HM.out.blk i hi).get (hv j v hj)) hu hd hs (hK _ _ h)
theorem wpList_storeM (hgd : o.guard = none) (ty : TypeId) (x y : Operand) (ho : o.op = .store ty x y) (HM : Hid (Mem w0 w L)) (i : Nat) {b : Nat} {T : TypeId} {cs : List Value} (hi : L[i]? = some (b, T, cs)) (hx : a.eval x = .pointer (some ⟨b, 0, none⟩)) (vs : List Value) (hy : a.eval y = .agg vs.toArray)
    (hs : (P.info? ty).map (·.size) = some vs.length) (hl : cs.length = vs.length) (h1 : ∀ v ∈ vs, v.oneCell' = true)
    (h : ∀ w', Hid (Mem w0 w' (L.set i (b, T, vs))) → Hid (Keep [b] w w') → wpList P ops Q rest (a.put o.dst undef) w') : wpList P ops Q (o :: rest) a w :=
  wpList_store_mid hgd ty x y ho b 0 vs.toArray hx hy ((HM.out.blk i hi).there' 0 _ (by simp [hl])) (by simpa using hs) (all_oneCell_toArray h1)
    (h _ (Lib.hid (HM.out.setAll i hi vs hl)) (Lib.hid (Keep.setCells' b (fun _ => by simp) vs 0 w (Keep.refl _ _))))
theorem wpList_storePart (hgd : o.guard = none) (ty : TypeId) (x y : Operand) (ho : o.op = .store ty x y) (HM : Hid (Mem w0 w L)) (i : Nat) {b : Nat} {T : TypeId} {cs : List Value} (hi : L[i]? = some (b, T, cs)) (off : Nat) (hx : a.eval x = .pointer (some ⟨b, off, none⟩)) (vs : List Value) (hy : a.eval y = .agg vs.toArray)
    (hs : (P.info? ty).map (·.size) = some vs.length) (pre xs suf : List Value) (hc : cs = pre ++ xs ++ suf) (hl : xs.length = vs.length) (ho2 : off = pre.length) (h1 : ∀ v ∈ vs, v.oneCell' = true)
    (h : ∀ w', Hid (Mem w0 w' (L.set i (b, T, pre ++ vs ++ suf))) → Hid (Keep [b] w w') → wpList P ops Q rest (a.put o.dst undef) w') : wpList P ops Q (o :: rest) a w :=
  wpList_store_mid hgd ty x y ho b off vs.toArray hx hy ((HM.out.blk i hi).there' off _ (by subst hc ho2; simp [hl])) (by simpa using hs) (all_oneCell_toArray h1)
    (h _ (Lib.hid (HM.out.setMid i hi pre xs suf vs hc hl off ho2)) (Lib.hid (Keep.setCells' b (fun _ => by simp) vs off w (Keep.refl _ _))))
theorem wpList_buildM (hw : Region.wanted o (yielded ops a.tmps) = true) (ty : TypeId) (ps : Array (Nat × Operand)) (ho : o.op = .build ty ps) (us : List (Nat × Value)) (hps : (ps.map fun (i, x) => (i, a.eval x)).toList = us) (cs : List Value) (HB : Hid (P.built ty us = some cs.toArray))
    (h : wpList P ops Q rest (a.put o.dst (.agg cs.toArray)) w) : wpList P ops Q (o :: rest) a w :=
  wpList_step fun K hK => by
    rw [if_pos hw]; subst hps; refine wp_build ty ps ho (by rw [HB.out]; rfl) (hK _ _ ?_); rw [HB.out]; exact h
end
end Go.Proofs.YtlhnjkekjbbhcaaGreatDoor
namespace Go.Proofs.YtlhnjkekjbbhcaaGreatDoor
open Go.RowKit
variable {F : Fence} {n : Nat} {P : Program}
def rfBusy (W : World) (l : Nat) (r : Loop) : World := W.putObj l (.loop { r with state := .busy })
def rfOn (W : World) (l : Nat) (r : Loop) : World := W.putObj l (.loop { r with state := .ready, pending := none })
def rfOff (W : World) (l : Nat) (r : Loop) : World := W.putObj l (.loop { r with state := .done, pending := some .ret })
def rfEnd (W : World) (l : Nat) (r : Loop) : World := W.putObj l (.loop { r with state := .exhausted })
def rfPost (l : Nat) (r : Loop) (W1 : World) (Rn Rx : World → Prop) : Exit → Act → World → Prop
  | .normal, _, W3 => KeepsOthers W1 W3 ∧ Rn (rfOn W3 l r)
  | .ret, _, W3 => KeepsOthers W1 W3 ∧ Rx (rfOff W3 l r)
  | _, _, _ => False
theorem rf_yield {l : Nat} {W : World} {r : Loop} {x : Array Value} {a1 : Act} {Rn Rx : World → Prop} (hfn : F.fn r.fn) (hl : W.heap[l]? = some (.loop r)) (hr : r.state = .ready) (hps : x.size = r.params.size)
    (hassign : ∀ K : Act → World → Prop, K a1 W → r.assign.wpIn (F.inRound l) n P (Exit.then K (fun _ _ _ => False)) { tmps := (r.params.zip x).foldl (fun t (p, v) => t.setIfInBounds p v) r.tmps, defers := [] } W)
    (hbody : r.body.wpIn (F.inRound l) n P (rfPost l r (rfBusy W l r) Rn Rx) a1 (rfBusy W l r)) :
    YieldAt F n P l x W fun e W' => (e = .returned (.bool true) ∧ Rn W') ∨ (e = .returned (.bool false) ∧ Rx W') := by
  refine ⟨_, _, _, _, run_yield hl hps, roundIn_of_wpIn hfn (hassign _ ⟨_, run_beginRound hl hr, ?_⟩)⟩; have h2 : (rfBusy W l r).heap[l]? = some (.loop { r with state := .busy }) := World.putObj_heap_same (Array.getElem?_eq_some_iff.1 hl).1; refine wpIn_mono hbody ?_; rintro e a3 W3 hp
  cases e with
  | normal => exact ⟨_, _, run_endRound none (hp.1.same _ _ h2 rfl), .inl ⟨rfl, hp.2⟩⟩
  | ret => exact ⟨_, _, run_endRound (some .ret) (hp.1.same _ _ h2 rfl), .inr ⟨rfl, hp.2⟩⟩
  | exit id => exact hp.elim
  | goto t => exact hp.elim
  | panic ch => exact hp.elim
  | outgrown => exact hp.elim
def rfStart (w : World) (r : Loop) : World := (w.alloc (.deferred (some []))).alloc (.loop r)
def rfRec (w : World) (a : Act) (ps : Array Tmp) (assign body : Code) (fn : FuncId) : Loop := { state := .ready, pending := none, fn := fn, tmps := a.tmps, params := ps, assign := assign, body := body, defers := w.heap.size }
def rfDone (w : World) (a : Act) (ps : Array Tmp) (assign body : Code) (fn : FuncId) : Loop := { state := .done, pending := some .ret, fn := fn, tmps := a.tmps, params := ps, assign := assign, body := body, defers := w.heap.size }
def rfMark (w : World) (a : Act) : Act := { a with defers := { target := .collected w.heap.size, args := #[] } :: a.defers }
theorem rf_range {g : Operand} {ps : Array Tmp} {assign body : Code} {Q : Exit → Act → World → Prop} {a : Act} {w : World}
    (hro : F.round = none) (h1 : 1 ≤ n) {gf : Nat} {lb : Array Value} (hg : a.eval g = .func (.func gf) #[] lb) (hFg : F.fn gf) (eg : ∀ args w, (callFunc gf args).run P w = .ok (.enter gf args) w)
    (hiter : ∀ fn, F.fn fn → CallsIn F (n - 1) P gf (#[.func (.yield (w.heap.size + 1)) #[] #[]] ++ lb) (rfStart w (rfRec w a ps assign body fn)) fun e W2 => (∃ v, e = .returned v) ∧
      ((W2.heap[w.heap.size + 1]? = some (.loop (rfRec w a ps assign body fn)) ∧ Q .normal (rfMark w a) (rfEnd W2 (w.heap.size + 1) (rfRec w a ps assign body fn))) ∨
       (W2.heap[w.heap.size + 1]? = some (.loop (rfDone w a ps assign body fn)) ∧ Code.ret.wpIn F n P Q (rfMark w a) (rfEnd W2 (w.heap.size + 1) (rfDone w a ps assign body fn))))) :
    (Code.rangeFunc g ps assign body).wpIn F n P Q a w := by
  refine wpIn_rangeFunc ?_; intro fn hfn; rw [hro]
  refine ⟨w.heap.size + 1, [{ target := .collected w.heap.size, args := #[] }], rfStart w (rfRec w a ps assign body fn), { target := .fn (.func gf) lb, args := #[.func (.yield (w.heap.size + 1)) #[] #[]] }, rfStart w (rfRec w a ps assign body fn), gf,
    #[.func (.yield (w.heap.size + 1)) #[] #[]] ++ lb, rfStart w (rfRec w a ps assign body fn), run_enterLoop_outer _ _ _ _ _, ?_, ?_, ?_, fun _ => h1, ?_⟩
  · simp only [resolve, hg]; simp [go_sem]
  · intro f' hf'; simp [Target.leads] at hf'; subst hf'; exact hFg
  · simp [invoke, go_sem, eg]
  · refine (hiter fn hfn).mono ?_; rintro e W2 ⟨⟨v, rfl⟩, (⟨hl, hq⟩ | ⟨hl, hq⟩)⟩
    · exact ⟨none, _, run_endLoop hl (by simp [rfRec]), hq⟩
    · exact ⟨some .ret, _, run_endLoop hl (by simp [rfDone]), hq⟩
end Go.Proofs.YtlhnjkekjbbhcaaGreatDoor
