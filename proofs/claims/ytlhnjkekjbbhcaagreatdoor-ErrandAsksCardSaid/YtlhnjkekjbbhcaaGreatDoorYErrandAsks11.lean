/- Parts of the proof of ErrandAsks, in order. No conditions but those that each theorem states. -/
import Derived.Test.YtlhnjkekjbbhcaaGreatDoorYErrandAsks0
import Derived.Lib.LastIndexByte
import Derived.Great.Walk
import Derived.RangeFuncNested
import Derived.RangeFuncCalls
import Derived.RangeFuncLeaves
import Derived.Test.YtlhnjkekjbbhcaaGreatDoorYErrandAsks10
set_option linter.unusedSimpArgs false
set_option linter.unusedVariables false
namespace Go.Proofs.YtlhnjkekjbbhcaaGreatDoor
open Go.RowKit Go.Shelf
def lastS : List UInt8 → Option Nat
  | [] => none
  | c :: r => match lastS r with
    | some q => some (q + 1)
    | none => if c = 47 then some 0 else none
theorem lastS_none : ∀ {s : List UInt8}, lastS s = none ↔ ∀ j : Nat, s[j]? ≠ some (47 : UInt8)
  | [] => by simp [lastS]
  | c :: r => by
    have ih := lastS_none (s := r); unfold lastS
    cases h : lastS r with
    | some q =>
      rw [h] at ih; simp only [reduceCtorEq, false_iff] at ih ⊢; intro hn; exact ih fun j => hn (j + 1)
    | none =>
      rw [h] at ih; simp only [true_iff] at ih; by_cases hc : c = 47
      · simp only [hc, if_true, reduceCtorEq, false_iff]; intro hn; exact hn 0 rfl
      · simp only [hc, if_false, true_iff]; intro j
        cases j with
        | zero => simpa using hc
        | succ j => exact ih j
theorem lastS_some : ∀ {s : List UInt8} {q : Nat}, lastS s = some q ↔ s[q]? = some (47 : UInt8) ∧ ∀ j : Nat, q < j → s[j]? ≠ some (47 : UInt8)
  | [], q => by simp [lastS]
  | c :: r, q => by
    have ih := fun q => lastS_some (s := r) (q := q)
    unfold lastS
    cases h : lastS r with
    | some p =>
      have hp := (ih p).1 h; simp only [Option.some.injEq]; constructor
      · rintro rfl; refine ⟨hp.1, fun j hj => ?_⟩
        cases j with
        | zero => omega
        | succ j => exact hp.2 j (by omega)
      · rintro ⟨h1, h2⟩
        cases q with
        | zero => exact absurd hp.1 (h2 (p + 1) (by omega))
        | succ q =>
          have := (ih q).2 ⟨h1, fun j hj => h2 (j + 1) (by omega)⟩; rw [h] at this; injection this with this
          omega
    | none =>
      have hn := lastS_none.1 h; by_cases hc : c = 47
      · simp only [hc, if_true, Option.some.injEq]; constructor
        · rintro rfl; refine ⟨rfl, fun j hj => ?_⟩
          cases j with
          | zero => omega
          | succ j => exact hn j
        · rintro ⟨h1, _⟩
          cases q with
          | zero => rfl
          | succ q => exact absurd h1 (hn q)
      · simp only [hc, if_false, reduceCtorEq, false_iff]; rintro ⟨h1, _⟩
        cases q with
        | zero => exact hc (by simpa using h1)
        | succ q => exact hn q h1
def lastI (s : List UInt8) : Int := match lastS s with
  | none => -1
  | some q => (q : Nat)
theorem lastI_of {s : List UInt8} {k : Int} (h : LastIs s k) : k = lastI s := by
  unfold lastI; rcases h with ⟨rfl, h⟩ | ⟨q, rfl, h1, h2⟩
  · rw [lastS_none.2 h]
  · rw [lastS_some.2 ⟨h1, h2⟩]
theorem last_is {s : List UInt8} {k : Int} (h : (k = -1 ∧ ∀ j, j < (S s).size → (((S s).data[j]!).toNat : Int) ≠ 47) ∨ (∃ i : Nat, i < (S s).size ∧ k = i ∧ (((S s).data[i]!).toNat : Int) = 47 ∧ ∀ j, i < j → j < (S s).size → (((S s).data[j]!).toNat : Int) ≠ 47)) : LastIs s k := by
  have hd : ∀ j, j < s.length → ∃ b, s[j]? = some b ∧ (S s).data[j]! = b := fun j hj => by
    refine ⟨s[j], List.getElem?_eq_getElem hj, ?_⟩; show (Array.mk s)[j]! = _; simp [hj]
  have hz := S_size s
  have hne : ∀ j, (j < s.length → (((S s).data[j]!).toNat : Int) ≠ 47) → s[j]? ≠ some (47 : UInt8) := fun j h9 h8 => by
    have hj := (List.getElem?_eq_some_iff.1 h8).1; obtain ⟨b, h1, h2⟩ := hd j hj; have := h9 hj; rw [h2] at this; rw [h1] at h8; injection h8 with h8
    exact this (by rw [h8]; rfl)
  rcases h with ⟨rfl, h⟩ | ⟨i, hi, rfl, h1, h2⟩
  · exact .inl ⟨rfl, fun j => hne j fun hj => h j (by omega)⟩
  · refine .inr ⟨i, rfl, ?_, fun j hj => hne j fun hj2 => h2 j hj (by omega)⟩; obtain ⟨b, h3, h4⟩ := hd i (by omega); rw [h4] at h1; rw [h3]; congr 1; exact UInt8.toNat_inj.1 (by have h9 : (47 : UInt8).toNat = 47 := rfl; omega)
def rootB : List UInt8 := [47, 118, 50, 47]
def maniB : List UInt8 := [109, 97, 110, 105, 102, 101, 115, 116, 115]
def blobB : List UInt8 := [98, 108, 111, 98, 115]
def rt0 : Rt := ⟨0, [], [], zeroD⟩
def rt1 : Rt := ⟨1, [], [], zeroD⟩
def goodRtM (r : Rt) : Bool :=
  if r.kind = 1 then decide (r = rt1)
  else if r.kind = 2 then isRepoM r.repo && (isTagM r.tag && decide (r.dig = zeroD))
  else if r.kind = 3 ∨ r.kind = 4 then isRepoM r.repo && r.tag.isEmpty
  else false
def rtWord (r : Rt) : List UInt8 := if r.kind = 4 then blobB else maniB
def rtRef (r : Rt) : List UInt8 := if r.kind = 2 then r.tag else stampM r.dig.1
def rtText (r : Rt) : List UInt8 := if r.kind = 1 then rootB else rootB ++ r.repo ++ [47] ++ rtWord r ++ [47] ++ rtRef r
theorem no_slash {l : List UInt8} (h : l.all (fun b => b != 47) = true) (j : Nat) : l[j]? ≠ some (47 : UInt8) := fun hj => by
  have := List.all_eq_true.1 h 47 (List.mem_of_getElem? hj); simp at this
theorem dg_noslash {n : Nat} (h : n < 16) : (dgH n != 47) = true := by
  have : ∀ n : Fin 16, (dgH n.1 != 47) = true := by decide +kernel
  exact this ⟨n, h⟩
theorem hex_noslash : ∀ l : List UInt8, (hexS l).all (fun b => b != 47) = true
  | [] => rfl
  | b :: r => by
    have ih := hex_noslash r; have hb := b.toNat_lt; have e : hexS (b :: r) = [dgH (b.toNat / 16), dgH (b.toNat % 16)] ++ hexS r := rfl; rw [e, List.all_append, ih, List.all_cons, List.all_cons, dg_noslash (by omega), dg_noslash (by omega)]; rfl
theorem stamp_noslash (l : List UInt8) : (stampM l).all (fun b => b != 47) = true := by
  unfold stampM; rw [List.all_append, hex_noslash]; rfl
theorem tag_chars {l : List UInt8} (h : isTagM l = true) : l.all tagsB.contains = true := by
  unfold isTagM at h; simp only [Bool.and_eq_true] at h; exact h.2
theorem tag_noslash {l : List UInt8} (h : isTagM l = true) : l.all (fun b => b != 47) = true := by
  rw [List.all_eq_true]; intro b hb; have := List.all_eq_true.1 (tag_chars h) b hb
  have h2 : ∀ b : UInt8, tagsB.contains b = true → (b != 47) = true := fun b => by
    refine all_u8 (p := fun b => tagsB.contains b = true → (b != 47) = true) ?_ b; decide +kernel
  exact h2 b this
theorem tag_nopfx {l : List UInt8} (h : isTagM l = true) : Lib.hasPrefix l pfxD = false := by
  rw [Bool.eq_false_iff]; intro hp; have ht := pfx_take.1 hp
  have h58 : (58 : UInt8) ∈ l := by
    have : (58 : UInt8) ∈ l.take 7 := by rw [ht]; decide
    exact List.mem_of_mem_take this
  have := List.all_eq_true.1 (tag_chars h) 58 h58; revert this; decide +kernel
theorem stamp_pfx (l : List UInt8) : Lib.hasPrefix (stampM l) pfxD = true := pfx_take.2 rfl
theorem behind_stamp (d : Dig) : behindO (stampM d.1) = some d := by
  unfold behindO; rw [if_pos (stamp_pfx _)]; have : (stampM d.1).drop 7 = hexS d.1 := rfl; rw [this, unhex_hex]; exact digO_dig d
theorem root_pfx (l : List UInt8) : Lib.hasPrefix (rootB ++ l) rootB = true := by
  unfold Lib.hasPrefix; rw [List.isPrefixOf_iff_prefix]; exact List.prefix_append _ _
theorem text_behind (r : Rt) (h1 : r.kind ≠ 1) : rtText r = rootB ++ (r.repo ++ 47 :: rtWord r ++ 47 :: rtRef r) := by
  unfold rtText; rw [if_neg h1]; simp
theorem rtText_len (r : Rt) : (rtText r).length ≤ r.repo.length + r.tag.length + 100 := by
  unfold rtText
  split
  · simp [rootB] <;> omega
  · have h1 : (rtWord r).length ≤ 9 := by unfold rtWord; split <;> decide
    have h2 : (rtRef r).length ≤ r.tag.length + 71 := by unfold rtRef; split; (omega); rw [stampM_len]; omega
    have h3 : rootB.length = 4 := rfl; simp only [List.length_append, List.length_cons, List.length_nil, h3]; omega
end Go.Proofs.YtlhnjkekjbbhcaaGreatDoor
namespace Go.Proofs.YtlhnjkekjbbhcaaGreatDoor
open Go.RowKit
def Mem (w0 w : World) (L : List (Nat × TypeId × List Value)) : Prop :=
  Keep [] w0 w ∧ (∀ (i j : Nat) (x y : Nat × TypeId × List Value), L[i]? = some x → L[j]? = some y → x.1 = y.1 → i = j) ∧ ∀ x ∈ L, w0.heap.size ≤ x.1 ∧ Blk w x.1 x.2.1 x.2.2
section
variable {w0 w w' : World} {L : List (Nat × TypeId × List Value)}
theorem Mem.nil (w : World) : Mem w w [] := ⟨Keep.refl _ _, fun i j x y h => by simp at h, fun x h => by simp at h⟩
theorem Mem.of (k : Keep [] w0 w) : Mem w0 w [] := ⟨k, fun i j x y h => by simp at h, fun x h => by simp at h⟩
theorem Mem.kp (h : Mem w0 w L) : Keep [] w0 w := h.1
theorem Mem.blk (h : Mem w0 w L) (i : Nat) {b : Nat} {T : TypeId} {cs : List Value} (hi : L[i]? = some (b, T, cs)) : Blk w b T cs := (h.2.2 _ (List.mem_of_getElem? hi)).2
theorem Mem.lo (h : Mem w0 w L) (i : Nat) {b : Nat} {T : TypeId} {cs : List Value} (hi : L[i]? = some (b, T, cs)) : w0.heap.size ≤ b := (h.2.2 _ (List.mem_of_getElem? hi)).1
theorem Mem.get (h : Mem w0 w L) (i : Nat) {b : Nat} {T : TypeId} {cs : List Value} (hi : L[i]? = some (b, T, cs)) (k : Nat) {v : Value} (hk : cs[k]? = some v) : w.cell? ⟨b, k, none⟩ = some v := (h.blk i hi).get hk
theorem Mem.fz (h : Mem w0 w L) (i : Nat) {b : Nat} {T : TypeId} {cs : List Value} (hi : L[i]? = some (b, T, cs)) (k : Nat) : w.frozen? ⟨b, k, none⟩ = false := (h.blk i hi).frozen k
theorem Mem.keep (h : Mem w0 w L) {S : List Nat} (k : Keep S w w') (hS : ∀ x ∈ S, w0.heap.size ≤ x ∧ ∀ y ∈ L, y.1 ≠ x) : Mem w0 w' L :=
  ⟨h.1.trans' k fun x hx hlt => absurd (hS x hx).1 (by omega), h.2.1, fun x hx => ⟨(h.2.2 x hx).1, k.blk (h.2.2 x hx).2 fun hh => (hS _ hh).2 x hx rfl⟩⟩
theorem Mem.keep0 (h : Mem w0 w L) (k : Keep [] w w') : Mem w0 w' L := h.keep k (by simp)
theorem Mem.cons (h : Mem w0 w L) (k : Keep [] w w') {b : Nat} {T : TypeId} {cs : List Value} (hb : w.heap.size ≤ b) (hB : Blk w' b T cs) : Mem w0 w' ((b, T, cs) :: L) := by
  have h' := h.keep0 k; have hne : ∀ x ∈ L, x.1 < w.heap.size := fun x hx => (h.2.2 x hx).2.lt
  refine ⟨h'.1, fun i j x y hi hj he => ?_, fun x hx => ?_⟩
  · cases i with
    | zero =>
      cases j with
      | zero => rfl
      | succ j =>
        simp at hi hj; subst hi; have := hne _ (List.mem_of_getElem? hj); simp at he; omega
    | succ i =>
      cases j with
      | zero =>
        simp at hi hj; subst hj; have := hne _ (List.mem_of_getElem? hi); simp at he; omega
      | succ j =>
        simp at hi hj; rw [h.2.1 i j x y hi hj he]
  · rcases List.mem_cons.1 hx with rfl | hx
    · exact ⟨Nat.le_trans h.1.size hb, hB⟩
    · exact h'.2.2 x hx
theorem Mem.alloc (h : Mem w0 w L) (Z : List Value) (T : TypeId) : Mem w0 (w.alloc (.cells Z.toArray T)) ((w.heap.size, T, Z) :: L) := h.cons ((Keep.refl _ _).alloc _) (Nat.le_refl _) (Blk.new w Z T)
theorem Mem.allocA (h : Mem w0 w L) (Z : List Value) (A : Array Value) (hA : A = Z.toArray) (T : TypeId) : Mem w0 (w.alloc (.cells A T)) ((w.heap.size, T, Z) :: L) := by subst hA; exact h.alloc Z T
theorem Mem.tail {x : Nat × TypeId × List Value} (h : Mem w0 w (x :: L)) : Mem w0 w L := ⟨h.1, fun i j x y hi hj he => by have := h.2.1 (i + 1) (j + 1) x y (by simpa using hi) (by simpa using hj) he; omega, fun y hy => h.2.2 y (List.mem_cons_of_mem _ hy)⟩
theorem Mem.upd (h : Mem w0 w L) (i : Nat) {b : Nat} {T : TypeId} {cs ds : List Value} (hi : L[i]? = some (b, T, cs)) (k : Keep [b] w w') (hB : Blk w' b T ds) : Mem w0 w' (L.set i (b, T, ds)) := by
  have hlt : i < L.length := (List.getElem?_eq_some_iff.1 hi).1; refine ⟨h.1.trans' k fun x hx hlt => ?_, fun p q x y hp hq he => ?_, fun x hx => ?_⟩
  · have := h.lo i hi; have h1 : x = b := (by simpa using hx)
    omega
  · have back : ∀ (p : Nat) x, (L.set i (b, T, ds))[p]? = some x → ∃ z, L[p]? = some z ∧ z.1 = x.1 := fun p x hp => by
      rw [List.getElem?_set] at hp
      split at hp
      · rename_i hh; subst hh; cases hp; exact ⟨_, hi, rfl⟩
      · exact ⟨x, hp, rfl⟩
    obtain ⟨x', hp', e1⟩ := back p x hp; obtain ⟨y', hq', e2⟩ := back q y hq; exact h.2.1 p q x' y' hp' hq' (by rw [e1, e2]; exact he)
  · obtain ⟨p, hp⟩ := List.mem_iff_getElem?.1 hx; rw [List.getElem?_set] at hp
    split at hp
    · rename_i hh; subst hh; cases hp; exact ⟨h.lo _ hi, hB⟩
    · rename_i hh; refine ⟨(h.2.2 x (List.mem_of_getElem? hp)).1, k.blk (h.2.2 x (List.mem_of_getElem? hp)).2 fun hm => hh ?_⟩; have h1 : x.1 = b := (by simpa using hm)
      exact h.2.1 i p _ x hi hp h1.symm
theorem Mem.setCell (h : Mem w0 w L) (i : Nat) {b : Nat} {T : TypeId} {cs : List Value} (hi : L[i]? = some (b, T, cs)) (o : Nat) (v : Value) : Mem w0 (w.setCell ⟨b, o, none⟩ v) (L.set i (b, T, cs.set o v)) :=
  h.upd i hi ((Keep.refl _ _).setCell _ _ fun _ => by simp) ((h.blk i hi).set o v)
theorem blk_overN {b : Nat} {T : TypeId} : ∀ (vs : List Value) {w : World} {pre xs : List Value}, xs.length = vs.length → Blk w b T (pre ++ xs) → Blk (w.setCells b pre.length vs) b T (pre ++ vs)
  | [], w, pre, xs, hl, h => by
    have : xs = [] := List.length_eq_zero_iff.1 (by simpa using hl); subst this; exact h
  | v :: r, w, pre, x :: xs, hl, h => by
    have h1 := h.set pre.length v; rw [List.set_append_right _ _ (Nat.le_refl _), Nat.sub_self, sqC] at h1; have h2 := blk_overN r (pre := pre ++ [v]) (xs := xs) (by simpa using hl) (by simpa using h1); simpa [World.setCells] using h2
theorem blk_overMid {b : Nat} {T : TypeId} : ∀ (vs : List Value) {w : World} {pre xs suf : List Value}, xs.length = vs.length → Blk w b T (pre ++ xs ++ suf) → Blk (w.setCells b pre.length vs) b T (pre ++ vs ++ suf)
  | [], w, pre, xs, suf, hl, h => by
    have : xs = [] := List.length_eq_zero_iff.1 (by simpa using hl); subst this; exact h
  | v :: r, w, pre, x :: xs, suf, hl, h => by
    have h1 := h.set pre.length v; rw [List.append_assoc, List.set_append_right _ _ (Nat.le_refl _), Nat.sub_self, List.cons_append, sqC] at h1; have h2 := blk_overMid r (pre := pre ++ [v]) (xs := xs) (suf := suf) (by simpa using hl) (by simpa using h1); simpa [World.setCells] using h2
theorem Mem.setAll (h : Mem w0 w L) (i : Nat) {b : Nat} {T : TypeId} {cs : List Value} (hi : L[i]? = some (b, T, cs)) (vs : List Value) (hl : cs.length = vs.length) : Mem w0 (w.setCells b 0 vs) (L.set i (b, T, vs)) :=
  h.upd i hi (Keep.setCells' b (fun _ => by simp) vs 0 w (Keep.refl _ _)) (blk_overN vs (pre := []) hl (h.blk i hi))
theorem Mem.setMid (h : Mem w0 w L) (i : Nat) {b : Nat} {T : TypeId} {cs : List Value} (hi : L[i]? = some (b, T, cs)) (pre xs suf vs : List Value) (hc : cs = pre ++ xs ++ suf) (hl : xs.length = vs.length) (o : Nat) (ho : o = pre.length) : Mem w0 (w.setCells b o vs) (L.set i (b, T, pre ++ vs ++ suf)) := by
  subst hc ho; exact h.upd i hi (Keep.setCells' b (fun _ => by simp) vs _ w (Keep.refl _ _)) (blk_overMid vs hl (h.blk i hi))
end
section
variable {P : Program} {ops : Array Oper} {rest : List Oper} {o : Oper} {a : Act} {w w0 : World} {Q : Exit → Act → World → Prop} {L : List (Nat × TypeId × List Value)}
def ZeroIs (P : Program) (ty : TypeId) (Z : List Value) : Prop := ∀ w : World, (Instr.alloc ty true (.tuple #[])).run P w = .ok (.pointer (some ⟨w.heap.size, 0, none⟩)) (w.alloc (.cells Z.toArray ty))
theorem wpList_allocM (hgd : o.guard = none) (ty : TypeId) (ho : o.op = .alloc ty) (Z : List Value) (HZ : Hid (ZeroIs P ty Z)) (HM : Hid (Mem w0 w L))
    (h : ∀ b w', Hid (Mem w0 w' ((b, ty, Z) :: L)) → Hid (Keep [] w w') → Hid (b = w.heap.size) → wpList P ops Q rest (a.put o.dst (.pointer (some ⟨b, 0, none⟩))) w') : wpList P ops Q (o :: rest) a w :=
  wpList_plain hgd fun _ hK => by
    unfold Oper.wp execOp; simp only [ho]; have hz := HZ.out w; simp only [Sem.run_bind, hz, Result.andThen_ok, Sem.run_pure]; exact hK _ _ (h _ _ (Lib.hid (HM.out.alloc Z ty)) (Lib.hid ((Keep.refl _ _).alloc _)) (Lib.hid rfl))
theorem wpList_boxM (hgd : o.guard = none) (ty : TypeId) (x : Operand) (ho : o.op = .box ty x) (cs : List Value) (hx : (a.eval x).cells = cs.toArray) (HM : Hid (Mem w0 w L))
    (h : ∀ b w', Hid (Mem w0 w' ((b, ty, cs) :: L)) → Hid (Keep [] w w') → Hid (b = w.heap.size) → wpList P ops Q rest (a.put o.dst (.pointer (some ⟨b, 0, none⟩))) w') : wpList P ops Q (o :: rest) a w :=
  Great.wpList_boxTo hgd ty x ho o.dst rfl w.heap.size rfl cs.toArray hx (h _ _ (Lib.hid (HM.out.alloc cs ty)) (Lib.hid ((Keep.refl _ _).alloc _)) (Lib.hid rfl))
theorem wpList_loadM (hw : Region.wanted o (yielded ops a.tmps) = true) (ty : TypeId) (x : Operand) (ho : o.op = .load ty x) (HM : Hid (Mem w0 w L)) (i : Nat) {b : Nat} {T : TypeId} {cs : List Value} (hi : L[i]? = some (b, T, cs)) (hx : a.eval x = .pointer (some ⟨b, 0, none⟩))
    (d : TypeDesc) (hu : P.underlying ty = some d) (hd : d.isRow = true) (hs : (P.info? ty).map (·.size) = some cs.length)
    (h : wpList P ops Q rest (a.put o.dst (.agg cs.toArray)) w) : wpList P ops Q (o :: rest) a w :=
  wpList_step fun K hK => by
    rw [if_pos hw]; exact wp_load_mid ty x ho b 0 hx cs d (HM.out.blk i hi).range' hu hd hs (hK _ _ h)
theorem wpList_loadPart (hw : Region.wanted o (yielded ops a.tmps) = true) (ty : TypeId) (x : Operand) (ho : o.op = .load ty x) (HM : Hid (Mem w0 w L)) (i : Nat) {b : Nat} {T : TypeId} {cs : List Value} (hi : L[i]? = some (b, T, cs)) (off : Nat) (hx : a.eval x = .pointer (some ⟨b, off, none⟩))
    (vs : List Value) (hv : ∀ j v, vs[j]? = some v → cs[off + j]? = some v) (d : TypeDesc) (hu : P.underlying ty = some d) (hd : d.isRow = true) (hs : (P.info? ty).map (·.size) = some vs.length)
    (h : wpList P ops Q rest (a.put o.dst (.agg vs.toArray)) w) : wpList P ops Q (o :: rest) a w :=
  wpList_step fun K hK => by
    rw [if_pos hw]; exact wp_load_mid ty x ho b off hx vs d (fun j v hj => (HM.out.blk i hi).get (hv j v hj)) hu hd hs (hK _ _ h)
theorem wpList_storeM (hgd : o.guard = none) (ty : TypeId) (x y : Operand) (ho : o.op = .store ty x y) (HM : Hid (Mem w0 w L)) (i : Nat) {b : Nat} {T : TypeId} {cs : List Value} (hi : L[i]? = some (b, T, cs)) (hx : a.eval x = .pointer (some ⟨b, 0, none⟩)) (vs : List Value) (hy : a.eval y = .agg vs.toArray)
    (hs : (P.info? ty).map (·.size) = some vs.length) (hl : cs.length = vs.length) (h1 : ∀ v ∈ vs, v.oneCell' = true)
    (h : ∀ w', Hid (Mem w0 w' (L.set i (b, T, vs))) → Hid (Keep [b] w w') → wpList P ops Q rest (a.put o.dst undef) w') : wpList P ops Q (o :: rest) a w :=
  wpList_store_mid hgd ty x y ho b 0 vs.toArray hx hy ((HM.out.blk i hi).there' 0 _ (by simp [hl])) (by simpa using hs) (all_oneCell_toArray h1)
    (h _ (Lib.hid (HM.out.setAll i hi vs hl)) (Lib.hid (Keep.setCells' b (fun _ => by simp) vs 0 w (Keep.refl _ _))))
theorem wpList_storePart (hgd : o.guard = none) (ty : TypeId) (x y : Operand) (ho : o.op = .store ty x y) (HM : Hid (Mem w0 w L)) (i : Nat) {b : Nat} {T : TypeId} {cs : List Value} (hi : L[i]? = some (b, T, cs)) (off : Nat) (hx : a.eval x = .pointer (some ⟨b, off, none⟩)) (vs : List Value) (hy : a.eval y = .agg vs.toArray)
    (hs : (P.info? ty).map (·.size) = some vs.length) (pre xs suf : List Value) (hc : cs = pre ++ xs ++ suf) (hl : xs.length = vs.length) (ho2 : off = pre.length) (h1 : ∀ v ∈ vs, v.oneCell' = true)
    (h : ∀ w', Hid (Mem w0 w' (L.set i (b, T, pre ++ vs ++ suf))) → Hid (Keep [b] w w') → wpList P ops Q rest (a.put o.dst undef) w') : wpList P ops Q (o :: rest) a w :=
  wpList_store_mid hgd ty x y ho b off vs.toArray hx hy ((HM.out.blk i hi).there' off _ (by subst hc ho2; simp [hl])) (by simpa using hs) (all_oneCell_toArray h1)
    (h _ (Lib.hid (HM.out.setMid i hi pre xs suf vs hc hl off ho2)) (Lib.hid (Keep.setCells' b (fun _ => by simp) vs off w (Keep.refl _ _))))
theorem wpList_buildM (hw : Region.wanted o (yielded ops a.tmps) = true) (ty : TypeId) (ps : Array (Nat × Operand)) (ho : o.op = .build ty ps) (us : List (Nat × Value)) (hps : (ps.map fun (i, x) => (i, a.eval x)).toList = us) (cs : List Value) (HB : Hid (P.built ty us = some cs.toArray))
    (h : wpList P ops Q rest (a.put o.dst (.agg cs.toArray)) w) : wpList P ops Q (o :: rest) a w :=
  wpList_step fun K hK => by
    rw [if_pos hw]; subst hps; refine wp_build ty ps ho (by rw [HB.out]; rfl) (hK _ _ ?_); rw [HB.out]; exact h
end
end Go.Proofs.YtlhnjkekjbbhcaaGreatDoor
namespace Go.Proofs.YtlhnjkekjbbhcaaGreatDoor
open Go.RowKit
variable {F : Fence} {n : Nat} {P : Program}
def rfBusy (W : World) (l : Nat) (r : Loop) : World := W.putObj l (.loop { r with state := .busy })
def rfOn (W : World) (l : Nat) (r : Loop) : World := W.putObj l (.loop { r with state := .ready, pending := none })
def rfOff (W : World) (l : Nat) (r : Loop) : World := W.putObj l (.loop { r with state := .done, pending := some .ret })
def rfEnd (W : World) (l : Nat) (r : Loop) : World := W.putObj l (.loop { r with state := .exhausted })
def rfPost (l : Nat) (r : Loop) (W1 : World) (Rn Rx : World → Prop) : Exit → Act → World → Prop
  | .normal, _, W3 => KeepsOthers W1 W3 ∧ Rn (rfOn W3 l r)
  | .ret, _, W3 => KeepsOthers W1 W3 ∧ Rx (rfOff W3 l r)
  | _, _, _ => False
theorem rf_yield {l : Nat} {W : World} {r : Loop} {x : Array Value} {a1 : Act} {Rn Rx : World → Prop} (hfn : F.fn r.fn) (hl : W.heap[l]? = some (.loop r)) (hr : r.state = .ready) (hps : x.size = r.params.size)
    (hassign : ∀ K : Act → World → Prop, K a1 W → r.assign.wpIn (F.inRound l) n P (Exit.then K (fun _ _ _ => False)) { tmps := (r.params.zip x).foldl (fun t (p, v) => t.setIfInBounds p v) r.tmps, defers := [] } W)
    (hbody : r.body.wpIn (F.inRound l) n P (rfPost l r (rfBusy W l r) Rn Rx) a1 (rfBusy W l r)) :
    YieldAt F n P l x W fun e W' => (e = .returned (.bool true) ∧ Rn W') ∨ (e = .returned (.bool false) ∧ Rx W') := by
  refine ⟨_, _, _, _, run_yield hl hps, roundIn_of_wpIn hfn (hassign _ ⟨_, run_beginRound hl hr, ?_⟩)⟩; have h2 : (rfBusy W l r).heap[l]? = some (.loop { r with state := .busy }) := World.putObj_heap_same (Array.getElem?_eq_some_iff.1 hl).1; refine wpIn_mono hbody ?_; rintro e a3 W3 hp
  cases e with
  | normal => exact ⟨_, _, run_endRound none (hp.1.same _ _ h2 rfl), .inl ⟨rfl, hp.2⟩⟩
  | ret => exact ⟨_, _, run_endRound (some .ret) (hp.1.same _ _ h2 rfl), .inr ⟨rfl, hp.2⟩⟩
  | exit id => exact hp.elim
  | goto t => exact hp.elim
  | panic ch => exact hp.elim
  | outgrown => exact hp.elim
def rfStart (w : World) (r : Loop) : World := (w.alloc (.deferred (some []))).alloc (.loop r)
def rfRec (w : World) (a : Act) (ps : Array Tmp) (assign body : Code) (fn : FuncId) : Loop := { state := .ready, pending := none, fn := fn, tmps := a.tmps, params := ps, assign := assign, body := body, defers := w.heap.size }
def rfDone (w : World) (a : Act) (ps : Array Tmp) (assign body : Code) (fn : FuncId) : Loop := { state := .done, pending := some .ret, fn := fn, tmps := a.tmps, params := ps, assign := assign, body := body, defers := w.heap.size }
def rfMark (w : World) (a : Act) : Act := { a with defers := { target := .collected w.heap.size, args := #[] } :: a.defers }
theorem rf_range {g : Operand} {ps : Array Tmp} {assign body : Code} {Q : Exit → Act → World → Prop} {a : Act} {w : World}
    (hro : F.round = none) (h1 : 1 ≤ n) {gf : Nat} {lb : Array Value} (hg : a.eval g = .func (.func gf) #[] lb) (hFg : F.fn gf) (eg : ∀ args w, (callFunc gf args).run P w = .ok (.enter gf args) w)
    (hiter : ∀ fn, F.fn fn → CallsIn F (n - 1) P gf (#[.func (.yield (w.heap.size + 1)) #[] #[]] ++ lb) (rfStart w (rfRec w a ps assign body fn)) fun e W2 => (∃ v, e = .returned v) ∧
      ((W2.heap[w.heap.size + 1]? = some (.loop (rfRec w a ps assign body fn)) ∧ Q .normal (rfMark w a) (rfEnd W2 (w.heap.size + 1) (rfRec w a ps assign body fn))) ∨
       (W2.heap[w.heap.size + 1]? = some (.loop (rfDone w a ps assign body fn)) ∧ Code.ret.wpIn F n P Q (rfMark w a) (rfEnd W2 (w.heap.size + 1) (rfDone w a ps assign body fn))))) :
    (Code.rangeFunc g ps assign body).wpIn F n P Q a w := by
  refine wpIn_rangeFunc ?_; intro fn hfn; rw [hro]
  refine ⟨w.heap.size + 1, [{ target := .collected w.heap.size, args := #[] }], rfStart w (rfRec w a ps assign body fn), { target := .fn (.func gf) lb, args := #[.func (.yield (w.heap.size + 1)) #[] #[]] }, rfStart w (rfRec w a ps assign body fn), gf,
    #[.func (.yield (w.heap.size + 1)) #[] #[]] ++ lb, rfStart w (rfRec w a ps assign body fn), run_enterLoop_outer _ _ _ _ _, ?_, ?_, ?_, fun _ => h1, ?_⟩
  · simp only [resolve, hg]; simp [go_sem]
  · intro f' hf'; simp [Target.leads] at hf'; subst hf'; exact hFg
  · simp [invoke, go_sem, eg]
  · refine (hiter fn hfn).mono ?_; rintro e W2 ⟨⟨v, rfl⟩, (⟨hl, hq⟩ | ⟨hl, hq⟩)⟩
    · exact ⟨none, _, run_endLoop hl (by simp [rfRec]), hq⟩
    · exact ⟨some .ret, _, run_endLoop hl (by simp [rfDone]), hq⟩
end Go.Proofs.YtlhnjkekjbbhcaaGreatDoor
