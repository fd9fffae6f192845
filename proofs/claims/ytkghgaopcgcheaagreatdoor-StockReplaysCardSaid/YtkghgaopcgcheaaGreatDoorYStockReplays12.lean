/- Parts of the proof of StockReplays, in order. No conditions but those that each theorem states. -/
import Derived.Test.YtkghgaopcgcheaaGreatDoorYStockReplays0
import Derived.Test.YtkghgaopcgcheaaGreatDoorYStockReplays7
set_option maxRecDepth 100000
set_option maxHeartbeats 16000000
set_option linter.unusedSimpArgs false
set_option linter.unusedVariables false
namespace Go.Proofs.YtkghgaopcgcheaaGreatDoor
open Go.RowKit Go.Maps
abbrev FL := List (List UInt8 × List UInt8 × Nat)
structure Dsk where
  files : FL
  room : Int
  off : Bool
def usedF (F : FL) : Nat := (F.map fun p => p.2.1.length).sum
def atD (s : List UInt8) (F : FL) : Option (List UInt8 × Nat) := (F.find? fun p => p.1 == s).map (·.2)
def insD (x : List UInt8 × List UInt8 × Nat) : FL → FL
  | [] => [x]
  | y :: r => if bytesBefore x.1 y.1 then x :: y :: r else y :: insD x r
def delD (s : List UInt8) (F : FL) : FL := F.filter fun p => !(p.1 == s)
def setD (s : List UInt8) (v : List UInt8 × Nat) (F : FL) : FL := F.map fun p => if p.1 == s then (p.1, v) else p
structure Ent where
  name : List UInt8
  blk : Nat
  val : Value
  bytes : List UInt8
  safe : Nat
def Ent.nb (e : Ent) : List UInt8 × Nat := (e.name, e.blk)
def Ent.fil (e : Ent) : List UInt8 × List UInt8 × Nat := (e.name, e.bytes, e.safe)
def Ent.foot (e : Ent) : List Nat := e.blk :: e.val.ownBlock.toList
def insE (x : Ent) : List Ent → List Ent
  | [] => [x]
  | y :: r => if bytesBefore x.name y.name then x :: y :: r else y :: insE x r
def delE (s : List UInt8) (E : List Ent) : List Ent := E.filter fun e => !(e.name == s)
def setE (x : Ent) (E : List Ent) : List Ent := E.map fun e => if e.name == x.name then x else e
def atE (s : List UInt8) (E : List Ent) : Option Ent := E.find? fun e => e.name == s
theorem insE_nb (x : Ent) (E : List Ent) : (insE x E).map Ent.nb = insN x.nb (E.map Ent.nb) := by
  induction E with
  | nil => rfl
  | cons y r ih =>
    show (if bytesBefore x.name y.name then _ else _ : List Ent).map Ent.nb = if bytesBefore x.name y.name then _ else _
    split
    · rfl
    · rw [List.map_cons, ih]
theorem insE_fil (x : Ent) (E : List Ent) : (insE x E).map Ent.fil = insD x.fil (E.map Ent.fil) := by
  induction E with
  | nil => rfl
  | cons y r ih =>
    show (if bytesBefore x.name y.name then _ else _ : List Ent).map Ent.fil = if bytesBefore x.name y.name then _ else _
    split
    · rfl
    · rw [List.map_cons, ih]
theorem delE_nb (s : List UInt8) (E : List Ent) : (delE s E).map Ent.nb = delN s (E.map Ent.nb) := by
  unfold delE delN; rw [List.filter_map]; rfl
theorem delE_fil (s : List UInt8) (E : List Ent) : (delE s E).map Ent.fil = delD s (E.map Ent.fil) := by
  unfold delE delD; rw [List.filter_map]; rfl
theorem atE_nb (s : List UInt8) (E : List Ent) : atN s (E.map Ent.nb) = (atE s E).map Ent.blk := by
  unfold atN atE; rw [List.find?_map, Option.map_map]; rfl
theorem atE_fil (s : List UInt8) (E : List Ent) : atD s (E.map Ent.fil) = (atE s E).map fun e => (e.bytes, e.safe) := by
  unfold atD atE; rw [List.find?_map, Option.map_map]; rfl
theorem setE_fil (x : Ent) (E : List Ent) : (setE x E).map Ent.fil = setD x.name (x.bytes, x.safe) (E.map Ent.fil) := by
  unfold setE setD; rw [List.map_map, List.map_map]; refine List.map_congr_left fun e _ => ?_
  show Ent.fil (if e.name == x.name then x else e) = if e.name == x.name then (e.name, x.bytes, x.safe) else (e.name, e.bytes, e.safe)
  split
  · rename_i h; have := eq_of_beq h; show (x.name, x.bytes, x.safe) = _; rw [this]
  · rfl
theorem insE_perm (x : Ent) (E : List Ent) : (insE x E).Perm (x :: E) := by
  induction E with
  | nil => exact List.Perm.refl _
  | cons y r ih =>
    unfold insE
    split
    · exact List.Perm.refl _
    · exact (ih.cons y).trans (List.Perm.swap x y r)
theorem atE_mem {s : List UInt8} {E : List Ent} {e : Ent} (h : atE s E = some e) : e ∈ E ∧ e.name = s := by
  refine ⟨List.mem_of_find?_eq_some h, ?_⟩; have := List.find?_some h; exact eq_of_beq this
theorem atE_none {s : List UInt8} {E : List Ent} (h : atE s E = none) : ∀ e ∈ E, e.name ≠ s := by
  intro e he hs; have := List.find?_eq_none.1 h e he; simp [hs] at this
structure FilW (w : World) (e : Ent) : Prop where
  blk : Blk w e.blk 128 [e.val, .int .i64 (e.safe : Nat)]
  own : Own byteC 1 0 5 w e.val e.bytes
  ne : ∀ g, e.val.ownBlock = some g → g ≠ e.blk
  name : e.name.length ≤ 80
  len : e.bytes.length ≤ 4194304
  safe : e.safe ≤ e.bytes.length
theorem FilW.lt {w : World} {e : Ent} (h : FilW w e) : ∀ x ∈ e.foot, x < w.heap.size := by
  intro x hx; rcases List.mem_cons.1 hx with rfl | hx
  · exact h.blk.lt
  · exact (h.own.lt x (by simpa using hx)).2
theorem FilW.keep {T : List Nat} {w w' : World} {e : Ent} (h : FilW w e) (k : Keep T w w') (hT : ∀ x ∈ e.foot, x ∉ T) : FilW w' e :=
  ⟨k.blk h.blk (hT _ List.mem_cons_self), h.own.keep k (fun g hg => hT _ (List.mem_cons_of_mem _ (by simp [hg]))), h.ne, h.name, h.len, h.safe⟩
def Apt (a b : Ent) : Prop := a.name ≠ b.name ∧ ∀ x ∈ a.foot, x ∉ b.foot
theorem Apt.symm {a b : Ent} (h : Apt a b) : Apt b a := ⟨fun e => h.1 e.symm, fun x hx hy => h.2 x hy hx⟩
structure PkW (w : World) (d bm : Nat) (E : List Ent) (room used ops : Int) (off : Bool) : Prop where
  blk : Blk w d 91 [.map (some bm), .int .i64 room, .int .i64 used, .int .i64 ops, .bool off, .int .i64 0, .int .i64 0, .int .i64 0]
  map : MapN w bm (E.map Ent.nb)
  fil : ∀ e ∈ E, FilW w e
  ne : d ≠ bm
  nf : ∀ e ∈ E, d ∉ e.foot ∧ bm ∉ e.foot
  apt : E.Pairwise Apt
def footD (d bm : Nat) (E : List Ent) : List Nat := d :: bm :: E.flatMap Ent.foot
theorem mem_footD {d bm : Nat} {E : List Ent} {x : Nat} : x ∈ footD d bm E ↔ x = d ∨ x = bm ∨ ∃ e ∈ E, x ∈ e.foot := by simp [footD]
def Pk (S : List Nat) (w : World) (d : Nat) (K : Dsk) : Prop := ∃ bm E ops, PkW w d bm E K.room (usedF K.files : Nat) ops K.off ∧ K.files = E.map Ent.fil ∧ (∀ x ∈ footD d bm E, x ∈ S) ∧ (usedF K.files : Int) ≤ K.room ∧ K.room ≤ 4194304
section
variable {w : World} {d bm : Nat} {E : List Ent} {room used ops : Int} {off : Bool}
theorem PkW.keep {T : List Nat} {w' : World} (h : PkW w d bm E room used ops off) (k : Keep T w w') (hT : ∀ x ∈ footD d bm E, x ∉ T) : PkW w' d bm E room used ops off :=
  ⟨k.blk h.blk (hT _ (mem_footD.2 (.inl rfl))), h.map.keep k (hT _ (mem_footD.2 (.inr (.inl rfl)))), fun e he => (h.fil e he).keep k (fun x hx => hT _ (mem_footD.2 (.inr (.inr ⟨e, he, hx⟩)))), h.ne, h.nf, h.apt⟩
theorem PkW.keep0 {w' : World} (h : PkW w d bm E room used ops off) (k : Keep [] w w') : PkW w' d bm E room used ops off := h.keep k (by simp)
theorem PkW.lt (h : PkW w d bm E room used ops off) : ∀ x ∈ footD d bm E, x < w.heap.size := by
  intro x hx; rcases mem_footD.1 hx with rfl | rfl | ⟨e, he, hx⟩
  · exact h.blk.lt
  · exact h.map.lt
  · exact (h.fil e he).lt x hx
theorem PkW.nums {w' : World} (h : PkW w d bm E room used ops off) (k : Keep [d] w w') {room' used' ops' : Int} {off' : Bool}
    (hb : Blk w' d 91 [.map (some bm), .int .i64 room', .int .i64 used', .int .i64 ops', .bool off', .int .i64 0, .int .i64 0, .int .i64 0]) : PkW w' d bm E room' used' ops' off' :=
  ⟨hb, h.map.keep k (by simpa using Ne.symm h.ne), fun e he => (h.fil e he).keep k (fun x hx => by simp; rintro rfl; exact (h.nf e he).1 hx), h.ne, h.nf, h.apt⟩
theorem PkW.setFile {T : List Nat} {w' : World} {e x : Ent} (h : PkW w d bm E room used ops off) (he : e ∈ E) (hn : x.name = e.name) (hb : x.blk = e.blk) (hx : FilW w' x) (k : Keep T w w') (hT : ∀ t ∈ T, t ∈ e.foot)
    (hf : ∀ t ∈ x.foot, t ∈ e.foot ∨ w.heap.size ≤ t) : PkW w' d bm (setE x E) room used ops off := by
  have hap : ∀ y ∈ E, y.name ≠ e.name → Apt y e := by
    intro y hy hne; exact List.Pairwise.forall_of_forall_of_flip (R := fun a b => a.name ≠ b.name → Apt a b) (l := E) (fun z _ hz => absurd rfl hz) (List.Pairwise.imp (S := fun a b => a.name ≠ b.name → Apt a b) (fun hab _ => hab) h.apt) (List.Pairwise.imp (S := flip fun a b => a.name ≠ b.name → Apt a b) (fun hab _ => Apt.symm hab) h.apt) hy he hne
  have hnb : (setE x E).map Ent.nb = E.map Ent.nb := by
    unfold setE; rw [List.map_map]; refine List.map_congr_left fun y hy => ?_
    show Ent.nb (if y.name == x.name then x else y) = y.nb
    split
    · rename_i hyn; have hyn : y.name = e.name := (eq_of_beq hyn).trans hn; by_cases hye : y = e
      · subst hye; show (x.name, x.blk) = (y.name, y.blk); rw [hn, hb]
      · exfalso; exact List.Pairwise.forall_of_forall_of_flip (R := fun a b => a ≠ b → a.name ≠ b.name) (l := E) (fun z _ hz => absurd rfl hz) (List.Pairwise.imp (S := fun a b => a ≠ b → a.name ≠ b.name) (fun hab _ => hab.1) h.apt) (List.Pairwise.imp (S := flip fun a b => a ≠ b → a.name ≠ b.name) (fun hab _ e => hab.1 e.symm) h.apt) hy he hye hyn
    · rfl
  have hde := h.nf e he
  have hxd : d ∉ x.foot ∧ bm ∉ x.foot := ⟨fun hm => by
    rcases hf _ hm with e1 | e1
    · exact hde.1 e1
    · have := h.blk.lt; omega, fun hm => by
    rcases hf _ hm with e1 | e1
    · exact hde.2 e1
    · have := h.map.lt; omega⟩
  have hmem : ∀ y ∈ setE x E, y = x ∨ (y ∈ E ∧ y.name ≠ e.name) := by
    intro y hy; obtain ⟨z, hz, rfl⟩ := List.mem_map.1 hy; by_cases hzx : (z.name == x.name) = true
    · rw [if_pos hzx]; exact .inl rfl
    · rw [if_neg hzx]; exact .inr ⟨hz, fun he => hzx (by rw [he, ← hn]; simp)⟩
  have hapx : ∀ y ∈ E, y.name ≠ e.name → Apt y x := fun y hy hne => ⟨by rw [hn]; exact hne, fun t ht htx => by
    rcases hf t htx with e1 | e1
    · exact (hap y hy hne).2 t ht e1
    · have := (h.fil y hy).lt t ht; omega⟩
  refine ⟨k.blk h.blk (fun hm => hde.1 (hT _ hm)), by rw [hnb]; exact h.map.keep k (fun hm => hde.2 (hT _ hm)), ?_, h.ne, ?_, ?_⟩
  · intro y hy; rcases hmem y hy with rfl | ⟨hy, hne⟩
    · exact hx
    · exact (h.fil y hy).keep k (fun t ht hm => (hap y hy hne).2 t ht (hT _ hm))
  · intro y hy; rcases hmem y hy with rfl | ⟨hy, hne⟩
    · exact hxd
    · exact h.nf y hy
  · unfold setE; refine List.pairwise_map.2 (h.apt.imp_of_mem fun {a b} ha hb hab => ?_); by_cases h1 : (a.name == x.name) = true <;> by_cases h2 : (b.name == x.name) = true
    · exact absurd ((eq_of_beq h1).trans (eq_of_beq h2).symm) hab.1
    · rw [if_pos h1, if_neg h2]; exact (hapx b hb (fun he => h2 (by rw [he, ← hn]; simp))).symm
    · rw [if_neg h1, if_pos h2]; exact hapx a ha (fun he => h1 (by rw [he, ← hn]; simp))
    · rw [if_neg h1, if_neg h2]; exact hab
theorem setE_foot {x e : Ent} (he : e ∈ E) (hf : ∀ t ∈ x.foot, t ∈ e.foot ∨ w.heap.size ≤ t) : ∀ t ∈ footD d bm (setE x E), t ∈ footD d bm E ∨ w.heap.size ≤ t := by
  intro t ht; rcases mem_footD.1 ht with rfl | rfl | ⟨y, hy, ht⟩
  · exact .inl (mem_footD.2 (.inl rfl))
  · exact .inl (mem_footD.2 (.inr (.inl rfl)))
  · obtain ⟨z, hz, rfl⟩ := List.mem_map.1 hy
    split at ht
    · rcases hf t ht with e1 | e1
      · exact .inl (mem_footD.2 (.inr (.inr ⟨e, he, e1⟩)))
      · exact .inr e1
    · exact .inl (mem_footD.2 (.inr (.inr ⟨z, hz, ht⟩)))
theorem PkW.delFile {w' : World} (h : PkW w d bm E room used ops off) (s : List UInt8) (k : Keep [bm] w w') (hm : MapN w' bm (delN s (E.map Ent.nb))) : PkW w' d bm (delE s E) room used ops off :=
  ⟨k.blk h.blk (by simpa using h.ne), by rw [delE_nb]; exact hm, fun e he => (h.fil e (List.mem_filter.1 he).1).keep k (fun x hx => by simp; rintro rfl; exact (h.nf e (List.mem_filter.1 he).1).2 hx), h.ne, fun e he => h.nf e (List.mem_filter.1 he).1, h.apt.filter _⟩
theorem delE_foot (s : List UInt8) : ∀ t ∈ footD d bm (delE s E), t ∈ footD d bm E := by
  intro t ht; rcases mem_footD.1 ht with rfl | rfl | ⟨y, hy, ht⟩
  · exact mem_footD.2 (.inl rfl)
  · exact mem_footD.2 (.inr (.inl rfl))
  · exact mem_footD.2 (.inr (.inr ⟨y, (List.mem_filter.1 hy).1, ht⟩))
theorem PkW.addFile {w' : World} (h : PkW w d bm E room used ops off) (x : Ent) (hx : FilW w x) (hn : ∀ e ∈ E, e.name ≠ x.name) (hf : ∀ e ∈ E, ∀ t ∈ x.foot, t ∉ e.foot) (hd : d ∉ x.foot ∧ bm ∉ x.foot) (k : Keep [bm] w w')
    (hm : MapN w' bm (putN x.name x.blk (E.map Ent.nb))) : PkW w' d bm (insE x E) room used ops off := by
  have hdel : delN x.name (E.map Ent.nb) = E.map Ent.nb := by
    refine List.filter_eq_self.2 fun p hp => ?_
    obtain ⟨e, he, rfl⟩ := List.mem_map.1 hp; have := hn e he; show (!(e.name == x.name)) = true; simp [this]
  have hmem : ∀ y ∈ insE x E, y = x ∨ y ∈ E := fun y hy => by
    have := (insE_perm x E).mem_iff.1 hy; simpa using this
  have hfx : ∀ y ∈ insE x E, d ∉ y.foot ∧ bm ∉ y.foot := fun y hy => by
    rcases hmem y hy with rfl | hy
    · exact hd
    · exact h.nf y hy
  refine ⟨k.blk h.blk (by simpa using h.ne), ?_, ?_, h.ne, hfx, ?_⟩
  · rw [insE_nb]
    have : putN x.name x.blk (E.map Ent.nb) = insN x.nb (E.map Ent.nb) := by
      unfold putN; rw [hdel]; rfl
    rw [← this]; exact hm
  · intro y hy; have hb := (hfx y hy).2; rcases hmem y hy with rfl | hy
    · exact hx.keep k (fun t ht => by simp; rintro rfl; exact hb ht)
    · exact (h.fil y hy).keep k (fun t ht => by simp; rintro rfl; exact hb ht)
  · refine ((insE_perm x E).pairwise_iff (fun {a b} hab => Apt.symm hab)).2 ?_; refine List.pairwise_cons.2 ⟨fun y hy => ⟨fun e => hn y hy e.symm, hf y hy⟩, h.apt⟩
theorem insE_foot (x : Ent) : ∀ t ∈ footD d bm (insE x E), t ∈ footD d bm E ∨ t ∈ x.foot := by
  intro t ht; rcases mem_footD.1 ht with rfl | rfl | ⟨y, hy, hty⟩
  · exact .inl (mem_footD.2 (.inl rfl))
  · exact .inl (mem_footD.2 (.inr (.inl rfl)))
  · have := (insE_perm x E).mem_iff.1 hy; rcases List.mem_cons.1 this with rfl | hy
    · exact .inr hty
    · exact .inl (mem_footD.2 (.inr (.inr ⟨y, hy, hty⟩)))
end
theorem Pk.keep {S T : List Nat} {w w' : World} {d : Nat} {K : Dsk} (h : Pk S w d K) (k : Keep T w w') (hT : ∀ x ∈ S, x ∉ T) : Pk S w' d K := by
  obtain ⟨bm, E, ops, h1, h2, h3, h4⟩ := h; exact ⟨bm, E, ops, h1.keep k (fun x hx => hT _ (h3 x hx)), h2, h3, h4⟩
theorem Pk.keep0 {S : List Nat} {w w' : World} {d : Nat} {K : Dsk} (h : Pk S w d K) (k : Keep [] w w') : Pk S w' d K := h.keep k (by simp)
theorem Pk.after {S : List Nat} {w w' : World} {d bm : Nat} {E E' : List Ent} {K : Dsk} {ops : Int} {T : List Nat} (h3 : ∀ x ∈ footD d bm E, x ∈ S) (h' : PkW w' d bm E' K.room (usedF K.files : Nat) ops K.off) (hf : K.files = E'.map Ent.fil) (k : Keep T w w') (hT : ∀ t ∈ T, t ∈ footD d bm E)
    (hg : ∀ t ∈ footD d bm E', t ∈ footD d bm E ∨ w.heap.size ≤ t) (h4 : (usedF K.files : Int) ≤ K.room ∧ K.room ≤ 4194304) : ∃ S', Pk S' w' d K ∧ Grow S w S' w' :=
  ⟨footD d bm E', ⟨bm, E', ops, h', hf, fun _ h => h, h4⟩, k.mono (fun t ht _ => h3 _ (hT t ht)), fun t ht => (hg t ht).imp (h3 t) id⟩
theorem usedF_fil (E : List Ent) : usedF (E.map Ent.fil) = (E.map fun e => e.bytes.length).sum := by
  unfold usedF; rw [List.map_map]; rfl
theorem used_ins (x : Ent) (E : List Ent) : usedF ((insE x E).map Ent.fil) = x.bytes.length + usedF (E.map Ent.fil) := by
  rw [usedF_fil, usedF_fil, ((insE_perm x E).map _).sum_nat]; simp
theorem used_del {E : List Ent} (ha : E.Pairwise Apt) {s : List UInt8} {e : Ent} (h : atE s E = some e) : usedF ((delE s E).map Ent.fil) + e.bytes.length = usedF (E.map Ent.fil) := by
  rw [usedF_fil, usedF_fil]
  induction E with
  | nil => cases h
  | cons y r ih =>
    obtain ⟨h1, h2⟩ := List.pairwise_cons.1 ha; by_cases hy : (y.name == s) = true
    · have e1 : e = y := by
        have : atE s (y :: r) = some y := List.find?_cons_of_pos hy; rw [this] at h; exact (Option.some.inj h).symm
      subst e1
      have hr : delE s (e :: r) = r := by
        unfold delE; rw [List.filter_cons_of_neg (by rw [hy]; simp)]; refine List.filter_eq_self.2 fun z hz => ?_
        have := (h1 z hz).1; have hes := eq_of_beq hy; rw [hes] at this; simp [Ne.symm this]
      rw [hr, List.map_cons, List.sum_cons]; omega
    · have h' : atE s r = some e := by
        have : atE s (y :: r) = atE s r := List.find?_cons_of_neg hy; rwa [this] at h
      have hr : delE s (y :: r) = y :: delE s r := List.filter_cons_of_pos (by simpa using hy); rw [hr, List.map_cons, List.sum_cons, List.map_cons, List.sum_cons]; have := ih h2 h'; omega
theorem set_none {E : List Ent} {x : Ent} (h : ∀ e ∈ E, e.name ≠ x.name) : setE x E = E := by
  unfold setE; refine (List.map_congr_left (g := id) fun e he => ?_).trans (List.map_id _); have := h e he; simp [this]
theorem used_set {E : List Ent} (ha : E.Pairwise Apt) {e x : Ent} (he : e ∈ E) (hn : x.name = e.name) : usedF ((setE x E).map Ent.fil) + e.bytes.length = usedF (E.map Ent.fil) + x.bytes.length := by
  rw [usedF_fil, usedF_fil]
  induction E with
  | nil => cases he
  | cons y r ih =>
    obtain ⟨h1, h2⟩ := List.pairwise_cons.1 ha; rcases List.mem_cons.1 he with rfl | he
    · have hr : setE x (e :: r) = x :: setE x r := by
        show (if e.name == x.name then x else e) :: _ = _; rw [if_pos (by rw [hn]; simp)]; rfl
      rw [hr, set_none (fun z hz => by rw [hn]; exact fun e1 => (h1 z hz).1 e1.symm), List.map_cons, List.sum_cons, List.map_cons, List.sum_cons]; omega
    · have hr : setE x (y :: r) = y :: setE x r := by
        show (if y.name == x.name then x else y) :: _ = _; rw [if_neg (by rw [hn]; have := (h1 e he).1; simp [this])]; rfl
      rw [hr, List.map_cons, List.sum_cons, List.map_cons, List.sum_cons]; have := ih h2 he; omega
def okN (s : List UInt8) (K : Dsk) : Prop := K.off = false ∧ 1 ≤ s.length ∧ s.length ≤ 80
instance (s : List UInt8) (K : Dsk) : Decidable (okN s K) := by unfold okN; infer_instance
def createD (s : List UInt8) (K : Dsk) : Option Dsk := if okN s K ∧ atD s K.files = none ∧ K.files.length < 200 then some { K with files := insD (s, [], 0) K.files } else none
def appendD (s t : List UInt8) (K : Dsk) : Option Dsk := match atD s K.files with
  | none => none
  | some (b, n) => if okN s K ∧ (usedF K.files : Int) + t.length ≤ K.room then some { K with files := setD s (b ++ t, n) K.files } else none
def readD (s : List UInt8) (K : Dsk) : Option (List UInt8) := match atD s K.files with
  | none => none
  | some (b, _) => if okN s K then some b else none
def syncD (s : List UInt8) (K : Dsk) : Option Dsk := match atD s K.files with
  | none => none
  | some (b, _) => if okN s K then some { K with files := setD s (b, b.length) K.files } else none
def deleteD (s : List UInt8) (K : Dsk) : Option Dsk := if okN s K ∧ (atD s K.files).isSome = true then some { K with files := delD s K.files } else none
def renameD (s t : List UInt8) (K : Dsk) : Option Dsk := match atD s K.files with
  | none => none
  | some f => if okN s K ∧ okN t K ∧ s ≠ t ∧ K.files.length ≤ 4000 then some { K with files := insD (t, f) (delD s (delD t K.files)) } else none
def sizeD (s : List UInt8) (K : Dsk) : Int := match atD s K.files with
  | none => -1
  | some (b, _) => b.length
end Go.Proofs.YtkghgaopcgcheaaGreatDoor
namespace Go.Proofs.YtkghgaopcgcheaaGreatDoor
open Go.RowKit Go.Maps
theorem plank_isName (s : List UInt8) (w : World) (h : 1 ≤ s.length ∧ s.length ≤ 80) : Calls Tryz.prog 193 #[.string (S s)] w fun e w' => e = .returned (.bool true) ∧ w = w' := by
  have hsz := S_size s; have f1 : decide ((s.length : Int) ≥ 1) = true := decide_eq_true (by omega); have f2 : decide ((s.length : Int) ≤ 80) = true := decide_eq_true (by omega); go_enter Tryz.func193, Tryz.ntmps193; go_wp2_with fail; go_ret; exact ⟨rfl, rfl⟩
theorem plank_begin1 (s : List UInt8) (w : World) (h : 1 ≤ s.length ∧ s.length ≤ 80) : Calls Tryz.prog 192 #[.string (S s)] w fun e w' => e = .returned (.bool false) ∧ w = w' := by
  have H := Lib.hid (plank_isName s w h); go_enter Tryz.func192, Tryz.ntmps192; go_wp2_with fail; refine H.out.mono ?_; rintro e w1 ⟨rfl, rfl⟩; go_wp2_with fail; go_ret; exact ⟨rfl, rfl⟩
theorem names_Index (L : List (List UInt8)) (v : Value) (w : World) (hs : Sl strC 1 w v L) (hl : L.length ≤ 1000) (hn : ∀ s ∈ L, 1 ≤ s.length ∧ s.length ≤ 80) :
    Calls Tryz.prog 223 #[v, .func (.func 192) #[] #[]] w fun e w' => e = .returned (.int .i64 (-1)) ∧ w = w' := by
  have HC := Lib.hid (fun s hs => plank_begin1 s w (hn s hs)); obtain ⟨a, cap, rfl, hml⟩ := hs.shape; have hml' : L.length ≤ 9223372036854775807 := hml; have HS := Lib.hid hs; clear hs hn; go_enter Tryz.func223, Tryz.ntmps223; go_wp2_with fail
  go_loopg [8] L.length (fun g i wr => ∃ k : Nat, i = .int .i64 (k : Nat) ∧ k ≤ L.length ∧ g = L.length - k ∧ wr = w)
  case atStart => exact ⟨0, rfl, Nat.zero_le _, rfl, rfl⟩
  case round =>
    obtain ⟨k, rfl, hk, hg, rfl⟩ := hrel; by_cases hlt : k < L.length
    · obtain ⟨c, hc⟩ : ∃ c, L[k]? = some c := ⟨_, List.getElem?_eq_getElem hlt⟩
      obtain ⟨b, off, cap', hv, h1, h2, h3⟩ := HS.out.cell hc; cases hv
      have c1 : wr.cell? ⟨b, off + k, none⟩ = some (.string (S c)) := by
        have := h3 0 (by omega); rw [Nat.mul_one, Nat.add_zero] at this; exact this
      have wk := IntWalk.i64_in ((k : Int) + 1) (by omega); have f1 : decide ((k : Int) < (L.length : Nat)) = true := decide_eq_true (by omega); have HM := List.mem_of_getElem? hc; clear hc h3; go_wp2_with fail; refine (HC.out c HM).mono ?_; rintro e w1 ⟨rfl, rfl⟩; go_wp2_with fail
      go_roundg (L.length - (k + 1))
      case measure => omega
      case rel => exact ⟨k + 1, rfl, by omega, rfl, rfl⟩
    · obtain rfl : k = L.length := by omega
      go_wp2_with fail; go_ret; exact ⟨rfl, rfl⟩
theorem names_Contains (L : List (List UInt8)) (v : Value) (w : World) (hs : Sl strC 1 w v L) (hl : L.length ≤ 1000) (hn : ∀ s ∈ L, 1 ≤ s.length ∧ s.length ≤ 80) :
    Calls Tryz.prog 191 #[v, .func (.func 192) #[] #[]] w fun e w' => e = .returned (.bool false) ∧ w = w' := by
  have H := Lib.hid (names_Index L v w hs hl hn); go_enter Tryz.func191, Tryz.ntmps191; go_wp2_with fail; refine H.out.mono ?_; rintro e w1 ⟨rfl, rfl⟩; go_wp2_with fail; go_ret; exact ⟨rfl, rfl⟩
section
variable {w : World} {d bm : Nat} {E : List Ent} {room used ops : Int}
theorem plank_begin (h : PkW w d bm E room used ops false) (v : Value) (L : List (List UInt8)) (hs : Sl strC 1 w v L) (hl : L.length ≤ 1000) (hn : ∀ s ∈ L, 1 ≤ s.length ∧ s.length ≤ 80) :
    Calls Tryz.prog 158 #[.pointer (some ⟨d, 0, none⟩), v] w fun e w' => e = .returned (.int .i64 0) ∧ (∃ o, PkW w' d bm E room used o false) ∧ Keep [d] w w' := by
  have H := Lib.hid (names_Contains L v w hs hl hn); have HW := Lib.hid h; have c4 : w.cell? ⟨d, 4, none⟩ = some (.bool false) := h.blk.get rfl; have c3 : w.cell? ⟨d, 3, none⟩ = some (.int .i64 ops) := h.blk.get rfl; have f3 := h.blk.frozen 3; have c5 : (w.setCell ⟨d, 3, none⟩ (.int .i64 (wrap64 (ops + 1)))).cell? ⟨d, 5, none⟩ = some (.int .i64 0) := (h.blk.set 3 _).get rfl; clear h hs hn; go_enter Tryz.func158, Tryz.ntmps158; go_wp2_with fail; refine H.out.mono ?_; rintro e w1 ⟨rfl, rfl⟩; go_wp2_with fail; obtain ⟨wz, hz⟩ : ∃ z, z = w.setCell ⟨d, 3, none⟩ (.int .i64 (wrap64 (ops + 1))) := ⟨_, rfl⟩
  have HZ : Hid (PkW wz d bm E room used (wrap64 (ops + 1)) false ∧ Keep [d] w wz) := by
    have k : Keep [d] w wz := by rw [hz]; exact (Keep.refl _ _).setCell _ _ (by simp)
    exact ⟨HW.out.nums k (by rw [hz]; exact HW.out.blk.set 3 _), k⟩
  rw [← hz] at c5 ⊢; clear hz c3 c4 f3; go_quiet (fail); go_wp2_with fail; go_ret; exact ⟨rfl, ⟨_, HZ.out.1.keep0 ((Keep.refl _ _).drewN _)⟩, HZ.out.2.drewN _⟩
theorem names_one (w : World) (s : List UInt8) : Sl strC 1 (w.alloc (.cells #[.string (S s)] 9)) (.slice (some ⟨w.heap.size, 0, none⟩) 1 1) [s] := by
  have hb := Blk.newA w #[.string (S s)] 9; refine .inr ⟨_, 0, 1, rfl, by simp, by decide, fun i x hx k hk => ?_⟩; obtain rfl : k = 0 := by omega
  rw [Nat.zero_add, Nat.mul_one, Nat.add_zero]
  match i, hx with
  | 0, hx => simp at hx; subst hx; exact hb.get rfl
theorem names_two (w : World) (s t : List UInt8) : Sl strC 1 (w.alloc (.cells #[.string (S s), .string (S t)] 9)) (.slice (some ⟨w.heap.size, 0, none⟩) 2 2) [s, t] := by
  have hb := Blk.newA w #[.string (S s), .string (S t)] 9; refine .inr ⟨_, 0, 2, rfl, by simp, by decide, fun i x hx k hk => ?_⟩; obtain rfl : k = 0 := by omega
  rw [Nat.zero_add, Nat.mul_one, Nat.add_zero]
  match i, hx with
  | 0, hx => simp at hx; subst hx; exact hb.get rfl
  | 1, hx => simp at hx; subst hx; exact hb.get rfl
theorem plank_begin_one (h : PkW w d bm E room used ops false) (s : List UInt8) (hn : 1 ≤ s.length ∧ s.length ≤ 80) :
    Calls Tryz.prog 158 #[.pointer (some ⟨d, 0, none⟩), .slice (some ⟨w.heap.size, 0, none⟩) 1 1] (w.alloc (.cells #[.string (S s)] 9)) fun e w' => e = .returned (.int .i64 0) ∧ (∃ o, PkW w' d bm E room used o false) ∧ Keep [d] w w' := by
  have k := (Keep.refl [] w).alloc (.cells #[.string (S s)] 9); refine (plank_begin (h.keep0 k) _ [s] (names_one w s) (by simp) (by simpa using hn)).mono ?_; rintro e w' ⟨rfl, h1, h2⟩; exact ⟨rfl, h1, (k.mono (by simp)).trans h2⟩
theorem plank_begin_two (h : PkW w d bm E room used ops false) (s t : List UInt8) (hn : 1 ≤ s.length ∧ s.length ≤ 80) (hm : 1 ≤ t.length ∧ t.length ≤ 80) :
    Calls Tryz.prog 158 #[.pointer (some ⟨d, 0, none⟩), .slice (some ⟨w.heap.size, 0, none⟩) 2 2] (w.alloc (.cells #[.string (S s), .string (S t)] 9)) fun e w' => e = .returned (.int .i64 0) ∧ (∃ o, PkW w' d bm E room used o false) ∧ Keep [d] w w' := by
  have k := (Keep.refl [] w).alloc (.cells #[.string (S s), .string (S t)] 9); refine (plank_begin (h.keep0 k) _ [s, t] (names_two w s t) (by simp) (by simp; exact ⟨hn, hm⟩)).mono ?_; rintro e w' ⟨rfl, h1, h2⟩; exact ⟨rfl, h1, (k.mono (by simp)).trans h2⟩
theorem PkW.look {off : Bool} (h : PkW w d bm E room used ops off) (s : List UInt8) (hs : s.length ≤ maxLen) :
    w.cell? ⟨d, 0, none⟩ = some (.map (some bm)) ∧ (Instr.lookup 87 (.map (some bm)) (.string (S s)) false).run Tryz.prog w = .ok (.pointer ((atE s E).map fun e => ⟨e.blk, 0, none⟩)) w := by
  refine ⟨h.blk.get rfl, ?_⟩; rw [h.map.look s hs, atE_nb]; unfold ptrN; rw [Option.map_map]; rfl
theorem plank_find (h : PkW w d bm E room used ops false) (s : List UInt8) (x : Ent) (hx : atE s E = some x) (hn : 1 ≤ s.length ∧ s.length ≤ 80) :
    Calls Tryz.prog 140 #[.pointer (some ⟨d, 0, none⟩), .string (S s)] w fun e w' => e = .returned (.tuple #[.pointer (some ⟨x.blk, 0, none⟩), .int .i64 0]) ∧ (∃ o, PkW w' d bm E room used o false) ∧ Keep [d] w w' := by
  have hsz := S_size s; have HB := Lib.hid (plank_begin_one h s hn)
  have HX := Lib.hid (show ∀ w' o, PkW w' d bm E room used o false → w'.cell? ⟨d, 0, none⟩ = some (.map (some bm)) ∧ (Instr.lookup 87 (.map (some bm)) (.string (S s)) false).run Tryz.prog w' = .ok (.pointer (some ⟨x.blk, 0, none⟩)) w' from fun w' o h' => by
    have := h'.look s (by unfold maxLen; omega); rw [hx] at this; exact this)
  clear h hx; go_enter Tryz.func140, Tryz.ntmps140; go_wp2_with fail; refine HB.out.mono ?_; rintro e w1 ⟨rfl, ⟨o, h1⟩, k1⟩; obtain ⟨c0, hlk⟩ := HX.out w1 o h1; have H1 := Lib.hid (And.intro h1 k1); clear h1 k1; go_wp2_with fail; go_ret2; exact ⟨rfl, ⟨_, H1.out.1⟩, H1.out.2⟩
theorem plank_Size (h : PkW w d bm E room used ops false) (s : List UInt8) (hs : s.length ≤ 1000) :
    Calls Tryz.prog 84 #[.pointer (some ⟨d, 0, none⟩), .string (S s)] w fun e w' => e = .returned (.int .i64 (match atE s E with | none => -1 | some x => (x.bytes.length : Nat))) ∧ Keep [] w w' := by
  have hsz := S_size s; obtain ⟨c0, hlk⟩ := h.look s (by unfold maxLen; omega)
  cases hx : atE s E with
  | none =>
    rw [hx] at hlk; have hlk : (Instr.lookup 87 (.map (some bm)) (.string (S s)) false).run Tryz.prog w = .ok (.pointer none) w := hlk; clear h hx; go_enter Tryz.func84, Tryz.ntmps84; go_wp2_with fail; go_ret; exact ⟨rfl, Keep.refl _ _⟩
  | some x =>
    rw [hx] at hlk; have hlk : (Instr.lookup 87 (.map (some bm)) (.string (S s)) false).run Tryz.prog w = .ok (.pointer (some ⟨x.blk, 0, none⟩)) w := hlk; have hF := h.fil x (atE_mem hx).1; obtain ⟨a, c, hv, _⟩ := hF.own.shape; have c1 : w.cell? ⟨x.blk, 0, none⟩ = some x.val := hF.blk.get rfl; rw [hv] at c1; clear h hx hF hv; go_enter Tryz.func84, Tryz.ntmps84; go_wp2_with fail; go_ret; exact ⟨rfl, Keep.refl _ _⟩
end
end Go.Proofs.YtkghgaopcgcheaaGreatDoor
namespace Go.Proofs.YtkghgaopcgcheaaGreatDoor
open Go.RowKit Go.Maps
theorem atD_none {s : List UInt8} {E : List Ent} (h : atD s (E.map Ent.fil) = none) : atE s E = none := by
  rw [atE_fil] at h
  cases he : atE s E with
  | none => rfl
  | some x => rw [he] at h; cases h
theorem atD_some {s : List UInt8} {E : List Ent} {f : List UInt8 × Nat} (h : atD s (E.map Ent.fil) = some f) : ∃ x, atE s E = some x ∧ x.bytes = f.1 ∧ x.safe = f.2 ∧ x ∈ E ∧ x.name = s := by
  rw [atE_fil] at h
  cases he : atE s E with
  | none => rw [he] at h; cases h
  | some x =>
    rw [he] at h; injection h with h
    subst h; exact ⟨x, rfl, rfl, rfl, (atE_mem he).1, (atE_mem he).2⟩
theorem mem_foot2 {d bm : Nat} {E : List Ent} : ∀ t ∈ [d, bm], t ∈ footD d bm E := by
  intro t ht; simp at ht; rcases ht with rfl | rfl
  · exact mem_footD.2 (.inl rfl)
  · exact mem_footD.2 (.inr (.inl rfl))
theorem plank_Create {S0 : List Nat} (d : Nat) (K K' : Dsk) (s : List UInt8) (w : World) (h : Pk S0 w d K) (hc : createD s K = some K') :
    Calls Tryz.prog 103 #[.pointer (some ⟨d, 0, none⟩), .string (S s)] w fun e w' => e = .returned (.int .i64 0) ∧ ∃ S', Pk S' w' d K' ∧ Grow S0 w S' w' := by
  obtain ⟨bm, E, ops, h1, h2, h3, h4, h5⟩ := h; unfold createD at hc
  split at hc
  case isFalse => cases hc
  case isTrue hok =>
  obtain ⟨⟨hoff, hn1, hn2⟩, hat, hlen⟩ := hok; injection hc with hc
  subst hc; rw [h2] at hat hlen; have hat := atD_none hat; rw [List.length_map] at hlen; rw [hoff] at h1; have hsz := S_size s; have hs : s.length ≤ maxLen := by unfold maxLen; omega
  have HB := Lib.hid (plank_begin_one h1 s ⟨hn1, hn2⟩)
  have HA := Lib.hid (show ∀ w1 o, PkW w1 d bm E K.room (usedF K.files : Nat) o false → Keep [d] w w1 → ∀ w3, MapN w3 bm (putN s w1.heap.size (E.map Ent.nb)) → (w1.alloc (.cells #[.slice none 0 0, .int .i64 0] 128)).mapTurned w3 bm →
      ∃ S', Pk S' w3 d { K with files := insD (s, [], 0) K.files } ∧ Grow S0 w S' w3 from fun w1 o p1 k1 w3 hm ht => by
    let x : Ent := ⟨s, w1.heap.size, .slice none 0 0, [], 0⟩
    have ka : Keep [] w1 (w1.alloc (.cells #[.slice none 0 0, .int .i64 0] 128)) := (Keep.refl _ _).alloc _; have p2 := p1.keep0 ka; have hf : x.foot = [w1.heap.size] := rfl; have hlt := p1.lt
    have p3 := p2.addFile (w' := w3) x ⟨Blk.newA w1 _ _, Own.nil _ _ _ _ _, by simp [x, Value.ownBlock], hn2, Nat.zero_le _, Nat.le_refl _⟩ (atE_none hat)
      (fun e he t ht hte => by rw [hf] at ht; simp at ht; subst ht; have := (p1.fil e he).lt _ hte; omega)
      ⟨by rw [hf]; simp; have := p1.blk.lt; omega, by rw [hf]; simp; have := p1.map.lt; omega⟩ (keep_turned ht) hm
    have e1 : usedF ((insE x E).map Ent.fil) = usedF K.files := by rw [used_ins, h2]; exact Nat.zero_add _
    have e2 : insD (s, [], 0) K.files = (insE x E).map Ent.fil := by rw [h2, insE_fil]; rfl
    refine Pk.after (E := E) (E' := insE x E) (ops := o) (T := [d, bm]) h3 ?_ e2 (((k1.mono (by simp)).trans (ka.mono (by simp))).trans ((keep_turned ht).mono (by simp))) mem_foot2 ?_ ?_
    · rw [e2, e1]; show PkW w3 d bm (insE x E) K.room (usedF K.files : Nat) o K.off; rw [hoff]; exact p3
    · intro t ht; rcases insE_foot x t ht with h | h
      · exact .inl h
      · rw [hf] at h; simp at h; subst h; exact .inr k1.size
    · rw [e2, e1]; exact ⟨h4, h5⟩)
  have HE := Lib.hid (show ∀ w1 o, PkW w1 d bm E K.room (usedF K.files : Nat) o false → w1.cell? ⟨d, 0, none⟩ = some (.map (some bm)) ∧ (Instr.lookup 87 (.map (some bm)) (.string (S s)) false).run Tryz.prog w1 = .ok (.pointer none) w1 ∧
      (∀ ty, (Builtin.len_ #[87] ty #[.map (some bm)]).run Tryz.prog w1 = .ok (.int .i64 (E.length : Nat)) w1) ∧
      ∃ w3, (Instr.mapUpdate 87 (.map (some bm)) (.string (S s)) (.pointer (some ⟨w1.heap.size, 0, none⟩))).run Tryz.prog (w1.alloc (.cells #[.slice none 0 0, .int .i64 0] 128)) = .ok () w3 ∧ MapN w3 bm (putN s w1.heap.size (E.map Ent.nb)) ∧
        (w1.alloc (.cells #[.slice none 0 0, .int .i64 0] 128)).mapTurned w3 bm from fun w1 o p1 => by
    have a1 := p1.look s hs; rw [hat] at a1; refine ⟨a1.1, a1.2, fun ty => ?_, (p1.map.alloc _).put s hs _ (by rw [List.length_map]; unfold maxLen; omega)⟩; have := p1.map.len ty; rwa [List.length_map] at this)
  have f1 : decide ((E.length : Int) ≥ 200) = false := decide_eq_false (by omega); clear h1 h2 h3 h4 h5 hat hlen hoff; go_enter Tryz.func103, Tryz.ntmps103; go_wp2_with fail; refine HB.out.mono ?_; rintro e w1 ⟨rfl, ⟨o, p1⟩, k1⟩; obtain ⟨c0, hlk, hln, w3, hput, hm3, ht3⟩ := HE.out w1 o p1; have HR := Lib.hid (HA.out w1 o p1 k1 w3 hm3 ht3); clear p1 k1 hm3 ht3 HA HE HB; go_wp2_with fail; go_ret; exact ⟨rfl, HR.out⟩
theorem plank_remove {w : World} {d bm : Nat} {E : List Ent} {room ops : Int} {off : Bool} (u : Nat) (h : PkW w d bm E room (u : Nat) ops off) (s : List UInt8) (hs : s.length ≤ 80) (x : Ent) (hx : atE s E = some x) (hu : x.bytes.length ≤ u) (hu2 : u ≤ 4194304) :
    Calls Tryz.prog 141 #[.pointer (some ⟨d, 0, none⟩), .string (S s)] w fun e w' => e = .returned (.tuple #[]) ∧ PkW w' d bm (delE s E) room ((u - x.bytes.length : Nat) : Int) ops off ∧ Keep [d, bm] w w' := by
  have hsz := S_size s; have c0 : w.cell? ⟨d, 0, none⟩ = some (.map (some bm)) := h.blk.get rfl; obtain ⟨_, hlk⟩ := (h.keep0 (Keep.refl _ _).drew).look s (by unfold maxLen; omega); rw [hx] at hlk; have hlk : (Instr.lookup 87 (.map (some bm)) (.string (S s)) false).run Tryz.prog w.drew = .ok (.pointer (some ⟨x.blk, 0, none⟩)) w.drew := hlk; have hF := h.fil x (atE_mem hx).1; obtain ⟨a, c, hv, _⟩ := hF.own.shape; have c1 : w.cell? ⟨x.blk, 0, none⟩ = some x.val := hF.blk.get rfl; have c2 : w.cell? ⟨d, 2, none⟩ = some (.int .i64 (u : Nat)) := h.blk.get rfl; have f2 := h.blk.frozen 2; rw [hv] at c1; have HW := Lib.hid h; obtain ⟨n, hn⟩ : ∃ n, x.bytes.length = n := ⟨_, rfl⟩
  rw [hn] at c1 hu ⊢; have wk := IntWalk.i64_in ((u : Int) - (n : Int)) (by omega); have hun : ((u - n : Nat) : Int) = (u : Int) - (n : Int) := by omega
  rw [hun]; clear h hx hF hv hn hun; go_enter Tryz.func141, Tryz.ntmps141; go_wp2_with fail
  go_region
  obtain ⟨wz, hz⟩ : ∃ z, z = (w.setCell ⟨d, 2, none⟩ (.int .i64 ((u : Int) - (n : Int)))).drew := ⟨_, rfl⟩
  have HZ : Hid (PkW wz d bm E room ((u : Int) - (n : Int)) ops off ∧ Keep [d] w wz) := by
    have k : Keep [d] w wz := by rw [hz]; exact ((Keep.refl _ _).setCell _ _ (by simp)).drew
    exact ⟨HW.out.nums k (by rw [hz]; exact HW.out.blk.set 2 _), k⟩
  rw [← hz]; clear hz c0 c1 c2 f2 hlk; have c0 : wz.cell? ⟨d, 0, none⟩ = some (.map (some bm)) := HZ.out.1.blk.get rfl; obtain ⟨w3, hdel, hm3, ht3⟩ := HZ.out.1.map.drop s (by unfold maxLen; omega) 0; have HR := Lib.hid (show PkW w3 d bm (delE s E) room ((u : Int) - (n : Int)) ops off ∧ Keep [d, bm] w w3 from ⟨HZ.out.1.delFile s (keep_turned ht3) hm3, (HZ.out.2.mono (by simp)).trans ((keep_turned ht3).mono (by simp))⟩); clear hm3 ht3 HZ; go_wp2_with fail; go_end0; exact ⟨rfl, HR.out⟩
theorem used_le {E : List Ent} (ha : E.Pairwise Apt) {s : List UInt8} {x : Ent} (hx : atE s E = some x) : x.bytes.length ≤ usedF (E.map Ent.fil) ∧ usedF (E.map Ent.fil) - x.bytes.length = usedF ((delE s E).map Ent.fil) := by
  have := used_del ha hx; omega
theorem plank_Delete {S0 : List Nat} (d : Nat) (K K' : Dsk) (s : List UInt8) (w : World) (h : Pk S0 w d K) (hc : deleteD s K = some K') :
    Calls Tryz.prog 86 #[.pointer (some ⟨d, 0, none⟩), .string (S s)] w fun e w' => e = .returned (.int .i64 0) ∧ ∃ S', Pk S' w' d K' ∧ Grow S0 w S' w' := by
  obtain ⟨bm, E, ops, h1, h2, h3, h4, h5⟩ := h; unfold deleteD at hc
  split at hc
  case isFalse => cases hc
  case isTrue hok =>
  obtain ⟨⟨hoff, hn1, hn2⟩, hat⟩ := hok; injection hc with hc
  subst hc; obtain ⟨f, hat⟩ := Option.isSome_iff_exists.1 hat; rw [h2] at hat; obtain ⟨x, hx, hxb, hxs, hxE, hxn⟩ := atD_some hat; rw [hoff] at h1; have hu := used_le h1.apt hx; rw [← h2] at hu; have HF := Lib.hid (plank_find h1 s x hx ⟨hn1, hn2⟩)
  have HM := Lib.hid (show ∀ w1 o, PkW w1 d bm E K.room (usedF K.files : Nat) o false → Calls Tryz.prog 141 #[.pointer (some ⟨d, 0, none⟩), .string (S s)] w1 fun e w' => e = .returned (.tuple #[]) ∧ PkW w' d bm (delE s E) K.room ((usedF K.files - x.bytes.length : Nat) : Int) o false ∧ Keep [d, bm] w1 w' from
    fun w1 o p1 => plank_remove _ p1 s hn2 x hx hu.1 (by omega))
  have HA := Lib.hid (show ∀ w1 w2 o, Keep [d] w w1 → PkW w2 d bm (delE s E) K.room ((usedF K.files - x.bytes.length : Nat) : Int) o false → Keep [d, bm] w1 w2 → ∃ S', Pk S' w2 d { K with files := delD s K.files } ∧ Grow S0 w S' w2 from fun w1 w2 o k1 p2 k2 => by
    have e1 : delD s K.files = (delE s E).map Ent.fil := by rw [h2, delE_fil]
    refine Pk.after (E := E) (E' := delE s E) (ops := o) (T := [d, bm]) h3 ?_ e1 ((k1.mono (by simp)).trans k2) mem_foot2 (fun t ht => .inl (delE_foot s t ht)) ?_
    · show PkW w2 d bm (delE s E) K.room (usedF (delD s K.files) : Nat) o K.off; rw [e1, ← hu.2, hoff]; exact p2
    · show ((usedF (delD s K.files) : Nat) : Int) ≤ K.room ∧ _; rw [e1, ← hu.2]; exact ⟨by omega, h5⟩)
  clear h1 h2 h3 h4 h5 hat hx hoff hu; go_enter Tryz.func86, Tryz.ntmps86; go_wp2_with fail; refine HF.out.mono ?_; rintro e w1 ⟨rfl, ⟨o, p1⟩, k1⟩; have HC := Lib.hid (HM.out w1 o p1); have K1 := Lib.hid k1; clear p1 k1 HM HF; go_wp2_with fail; refine HC.out.mono ?_; rintro e w2 ⟨rfl, p2, k2⟩; have HR := Lib.hid (HA.out w1 w2 o K1.out p2 k2); clear p2 k2 HA HC K1; go_wp2_with fail; go_ret; exact ⟨rfl, HR.out⟩
theorem plank_New (room : Nat) (hr : room ≤ 4194304) (w : World) :
    Calls Tryz.prog 10 #[.int .i64 (room : Nat)] w fun e w' => ∃ d, e = .returned (.pointer (some ⟨d, 0, none⟩)) ∧ ∃ S', Pk S' w' d ⟨[], (room : Nat), false⟩ ∧ Keep [] w w' ∧ ∀ k ∈ S', w.heap.size ≤ k := by
  have f1 : max (room : Int) 0 = room := by omega
  have f2 : min (room : Int) 4194304 = room := by omega
  have hmm := @run_makeMap Tryz.prog
  let w1 := w.alloc (.map #[] 0)
  let cs : Array Value := #[.map (some w.heap.size), .int .i64 (room : Nat), .int .i64 0, .int .i64 0, .bool false, .int .i64 0, .int .i64 0, .int .i64 0]
  have HR : Hid (Pk (footD (w.heap.size + 1) w.heap.size []) (w1.alloc (.cells cs 91)) (w.heap.size + 1) ⟨[], (room : Nat), false⟩ ∧ Keep [] w (w1.alloc (.cells cs 91)) ∧ ∀ k ∈ footD (w.heap.size + 1) w.heap.size [], w.heap.size ≤ k) := by
    have e : w1.heap.size = w.heap.size + 1 := by simp [w1]
    have hb := Blk.newA w1 cs 91; rw [e] at hb; refine ⟨⟨w.heap.size, [], 0, ⟨hb, (MapN.made w).alloc _, by simp, by omega, by simp, List.Pairwise.nil⟩, rfl, fun _ h => h, by simp [usedF], by show (room : Int) ≤ 4194304; omega⟩, ((Keep.refl _ _).alloc _).alloc _, ?_⟩; intro k hk; simp [footD] at hk; omega
  go_enter Tryz.func10, Tryz.ntmps10; go_wp2_with fail; go_ret; exact ⟨_, by simp, _, HR.out⟩
theorem plank_Off {S0 : List Nat} (d : Nat) (K : Dsk) (w : World) (h : Pk S0 w d K) :
    Calls Tryz.prog 34 #[.pointer (some ⟨d, 0, none⟩)] w fun e w' => e = .returned (.tuple #[]) ∧ ∃ S', Pk S' w' d { K with off := true } ∧ Grow S0 w S' w' := by
  obtain ⟨bm, E, ops, h1, h2, h3, h4, h5⟩ := h; have c4 := h1.blk.get (k := 4) rfl; have c5 := h1.blk.get (k := 5) rfl; have c6 := h1.blk.get (k := 6) rfl; have c7 := h1.blk.get (k := 7) rfl; have f4 := h1.blk.frozen 4; have f5 := h1.blk.frozen 5; have f6 := h1.blk.frozen 6; have f7 := h1.blk.frozen 7
  have HA := Lib.hid (show ∀ w1, Blk w1 d 91 [.map (some bm), .int .i64 K.room, .int .i64 (usedF K.files : Nat), .int .i64 ops, .bool true, .int .i64 0, .int .i64 0, .int .i64 0] → Keep [d] w w1 → ∃ S', Pk S' w1 d { K with off := true } ∧ Grow S0 w S' w1 from fun w1 hb k =>
    Pk.after (E := E) (E' := E) (ops := ops) (T := [d]) (K := { K with off := true }) h3 (h1.nums k hb) h2 k (fun t ht => by simp at ht; subst ht; exact mem_footD.2 (.inl rfl)) (fun t ht => .inl ht) ⟨h4, h5⟩)
  have HB := Lib.hid h1.blk; clear h1 h2 h3 h4 h5; go_enter Tryz.func34, Tryz.ntmps34; go_wp2_with fail; go_end0; refine ⟨rfl, HA.out _ ?_ ?_⟩
  · exact ((((HB.out.set 4 (.bool true)).set 5 (.int .i64 0)).set 6 (.int .i64 0)).set 7 (.int .i64 0))
  · exact ((((Keep.refl _ _).setCell _ _ (by simp)).setCell _ _ (by simp)).setCell _ _ (by simp)).setCell _ _ (by simp)
theorem rename_rest {S0 : List Nat} {w : World} {d bm : Nat} {E : List Ent} {K : Dsk} {s t : List UInt8} {x : Ent} (hoff : K.off = false) (hE : E.Pairwise Apt) (h2 : K.files = E.map Ent.fil) (h3 : ∀ x ∈ footD d bm E, x ∈ S0) (hx : atE s E = some x) (hst : s ≠ t) (hs : s.length ≤ 80) (ht : t.length ≤ 80) (hlen : E.length ≤ 4000) (hroom : (usedF ((delE t E).map Ent.fil) : Int) ≤ K.room ∧ K.room ≤ 4194304)
    (w2 : World) (o : Int) (p2 : PkW w2 d bm (delE t E) K.room ((usedF ((delE t E).map Ent.fil) : Nat) : Int) o false) (k2 : Keep [d, bm] w w2) :
    w2.cell? ⟨d, 0, none⟩ = some (.map (some bm)) ∧ ∃ w3, (Builtin.delete_ #[87, 9] 0 #[.map (some bm), .string (S s)]).run Tryz.prog w2 = .ok (.tuple #[]) w3 ∧ w3.cell? ⟨d, 0, none⟩ = some (.map (some bm)) ∧
      ∃ w4, (Instr.mapUpdate 87 (.map (some bm)) (.string (S t)) (.pointer (some ⟨x.blk, 0, none⟩))).run Tryz.prog w3 = .ok () w4 ∧
        ∃ S', Pk S' w4 d { K with files := insD (t, (x.bytes, x.safe)) (delD s (delD t K.files)) } ∧ Grow S0 w S' w4 := by
  have hs' : s.length ≤ maxLen := by unfold maxLen; omega
  have ht' : t.length ≤ maxLen := by unfold maxLen; omega
  obtain ⟨w3, hdel, hm3, ht3⟩ := p2.map.drop s hs' 0; have p3 := p2.delFile s (keep_turned ht3) hm3
  obtain ⟨w4, hput, hm4, ht4⟩ := p3.map.put t ht' x.blk (by
    rw [List.length_map]; have h1 : (delE s (delE t E)).length ≤ (delE t E).length := List.length_filter_le _ _; have h2 : (delE t E).length ≤ E.length := List.length_filter_le _ _; unfold maxLen; omega)
  have hxE := atE_mem hx
  have hxt : atE s (delE t E) = some x := by
    unfold atE delE at *; rw [List.find?_filter, ← hx]; refine congrArg (fun p => List.find? p E) (funext fun e => ?_); by_cases he : e.name = s
    · simp [he, hst]
    · simp [he]
  have hx2 : x ∈ delE t E := (atE_mem hxt).1; have hf := p2.fil x hx2
  let y : Ent := { x with name := t }
  have hy3 : FilW w3 y := by
    have := hf.keep (keep_turned ht3) (fun z hz => by simp; rintro rfl; exact (p2.nf x hx2).2 hz); exact ⟨this.blk, this.own, this.ne, ht, this.len, this.safe⟩
  have p4 := p3.addFile (w' := w4) y hy3 (fun e he => by
      have := (List.mem_filter.1 (List.mem_filter.1 he).1).2; intro h; have h : e.name = t := h; rw [h] at this
      simp at this) (fun e he z hz hze => by
      have hes := (List.mem_filter.1 he).2; have hm : e ∈ delE t E := (List.mem_filter.1 he).1; have hne : e ≠ x := fun h => by rw [h, hxE.2] at hes; simp at hes
      have hap : Apt e x := List.Pairwise.forall_of_forall_of_flip (R := fun a b => a ≠ b → Apt a b) (l := delE t E) (fun z _ hz => absurd rfl hz) (List.Pairwise.imp (S := fun a b => a ≠ b → Apt a b) (fun hab _ => hab) p2.apt) (List.Pairwise.imp (S := flip fun a b => a ≠ b → Apt a b) (fun hab _ => Apt.symm hab) p2.apt) hm hx2 hne
      exact hap.2 z hze hz) (p2.nf x hx2) (keep_turned ht4) hm4
  have e1 : insD (t, (x.bytes, x.safe)) (delD s (delD t K.files)) = (insE y (delE s (delE t E))).map Ent.fil := by rw [h2, insE_fil, delE_fil, delE_fil]; rfl
  have e2 : usedF ((insE y (delE s (delE t E))).map Ent.fil) = usedF ((delE t E).map Ent.fil) := by
    have := used_del p2.apt hxt; rw [used_ins]; have : y.bytes.length = x.bytes.length := rfl; omega
  refine ⟨p2.blk.get rfl, w3, hdel, p3.blk.get rfl, w4, hput, ?_⟩; refine Pk.after (E := E) (E' := insE y (delE s (delE t E))) (ops := o) (T := [d, bm]) h3 ?_ e1 ((k2.trans ((keep_turned ht3).mono (by simp))).trans ((keep_turned ht4).mono (by simp))) mem_foot2 ?_ ?_
  · show PkW w4 d bm _ K.room (usedF _ : Nat) o K.off; rw [e1, e2, hoff]; exact p4
  · intro z hz; rcases insE_foot y z hz with h | h
    · exact .inl (delE_foot t z (delE_foot s z h))
    · exact .inl (mem_footD.2 (.inr (.inr ⟨x, hxE.1, h⟩)))
  · rw [e1, e2]; exact hroom
theorem str_beq {s t : List UInt8} : ((S s).toList == (S t).toList) = decide (s = t) := by
  rw [S_toList, S_toList]; by_cases h : s = t <;> simp [h]
theorem del_none {E : List Ent} {t : List UInt8} (h : atE t E = none) : delE t E = E := by
  refine List.filter_eq_self.2 fun e he => ?_
  have := atE_none h e he; simp [this]
theorem plank_Rename {S0 : List Nat} (d : Nat) (K K' : Dsk) (s t : List UInt8) (w : World) (h : Pk S0 w d K) (hc : renameD s t K = some K') :
    Calls Tryz.prog 148 #[.pointer (some ⟨d, 0, none⟩), .string (S s), .string (S t)] w fun e w' => e = .returned (.int .i64 0) ∧ ∃ S', Pk S' w' d K' ∧ Grow S0 w S' w' := by
  obtain ⟨bm, E, ops, h1, h2, h3, h4, h5⟩ := h; unfold renameD at hc
  split at hc
  · cases hc
  rename_i f hat
  split at hc
  case isFalse => cases hc
  case isTrue hok =>
  obtain ⟨⟨hoff, hn1, hn2⟩, ⟨_, hm1, hm2⟩, hst, hl⟩ := hok; injection hc with hc
  subst hc; rw [h2] at hat hl; rw [List.length_map] at hl; obtain ⟨x, hx, hxb, hxs, hxE, hxn⟩ := atD_some hat; have hfx : f = (x.bytes, x.safe) := by rw [hxb, hxs]
  subst hfx; rw [hoff] at h1; have hs' : s.length ≤ maxLen := by unfold maxLen; omega
  have ht' : t.length ≤ maxLen := by unfold maxLen; omega
  have q0 : ((S s).toList == (S t).toList) = false := by rw [str_beq]; exact decide_eq_false hst
  have hsz := S_size s; have htz := S_size t; have HB := Lib.hid (plank_begin_two h1 s t ⟨hn1, hn2⟩ ⟨hm1, hm2⟩)
  have HE := Lib.hid (show ∀ w1 o, PkW w1 d bm E K.room (usedF K.files : Nat) o false → w1.cell? ⟨d, 0, none⟩ = some (.map (some bm)) ∧ (Instr.lookup 87 (.map (some bm)) (.string (S s)) false).run Tryz.prog w1 = .ok (.pointer (some ⟨x.blk, 0, none⟩)) w1 ∧
      (Instr.lookup 87 (.map (some bm)) (.string (S t)) false).run Tryz.prog w1 = .ok (.pointer ((atE t E).map fun e => ⟨e.blk, 0, none⟩)) w1 from fun w1 o p1 => by
    have a1 := p1.look s hs'; have a2 := p1.look t ht'; rw [hx] at a1; exact ⟨a1.1, a1.2, a2.2⟩)
  cases hy : atE t E with
  | none =>
    rw [hy] at HE; have hd := del_none hy; have HA := Lib.hid (rename_rest (w := w) hoff h1.apt h2 h3 hx hst hn2 hm2 hl (by rw [hd, ← h2]; exact ⟨h4, h5⟩)); rw [hd, ← h2] at HA; clear h1 h2 h3 h4 h5 hat hx hoff hd hy hst; go_enter Tryz.func148, Tryz.ntmps148; go_wp2_with fail; refine HB.out.mono ?_; rintro e w1 ⟨rfl, ⟨o, p1⟩, k1⟩; obtain ⟨c0, hlk, hlk2⟩ := HE.out w1 o p1; have hlk2 : (Instr.lookup 87 (.map (some bm)) (.string (S t)) false).run Tryz.prog w1 = .ok (.pointer none) w1 := hlk2; obtain ⟨_, w3, hdel, c3, w4, hput, hr⟩ := HA.out w1 o p1 (k1.mono (by simp)); have HR := Lib.hid hr; clear p1 k1 hr HA HE HB; go_wp2_with fail; go_ret; exact ⟨rfl, HR.out⟩
  | some y =>
    rw [hy] at HE; have hu := used_le h1.apt hy; rw [← h2] at hu
    have HM := Lib.hid (show ∀ w1 o, PkW w1 d bm E K.room (usedF K.files : Nat) o false → Calls Tryz.prog 141 #[.pointer (some ⟨d, 0, none⟩), .string (S t)] w1 fun e w' => e = .returned (.tuple #[]) ∧ PkW w' d bm (delE t E) K.room ((usedF ((delE t E).map Ent.fil) : Nat) : Int) o false ∧ Keep [d, bm] w1 w' from
      fun w1 o p1 => by
        have := plank_remove _ p1 t hm2 y hy hu.1 (by omega); rw [hu.2] at this; exact this)
    have HA := Lib.hid (rename_rest (w := w) hoff h1.apt h2 h3 hx hst hn2 hm2 hl (by rw [← hu.2]; exact ⟨by omega, h5⟩)); clear h1 h2 h3 h4 h5 hat hx hoff hu hy hst; go_enter Tryz.func148, Tryz.ntmps148; go_wp2_with fail; refine HB.out.mono ?_; rintro e w1 ⟨rfl, ⟨o, p1⟩, k1⟩; obtain ⟨c0, hlk, hlk2⟩ := HE.out w1 o p1; have hlk2 : (Instr.lookup 87 (.map (some bm)) (.string (S t)) false).run Tryz.prog w1 = .ok (.pointer (some ⟨y.blk, 0, none⟩)) w1 := hlk2; have HC := Lib.hid (HM.out w1 o p1); have K1 := Lib.hid k1; clear p1 k1 HE HB HM; go_wp2_with fail; refine HC.out.mono ?_; rintro e w2 ⟨rfl, p2, k2⟩; clear c0 hlk hlk2; obtain ⟨c0, w3, hdel, c3, w4, hput, hr⟩ := HA.out w2 o p2 ((K1.out.mono (by simp)).trans k2); have HR := Lib.hid hr; clear p2 k2 hr HA HC K1; go_wp2_with fail; go_ret; exact ⟨rfl, HR.out⟩
end Go.Proofs.YtkghgaopcgcheaaGreatDoor
