/- Parts of the proof of StockReplays, in order. No conditions but those that each theorem states. -/
import Derived.Test.YtkghgaopcgcheaaGreatDoorYStockReplays0
import Derived.Deep.RegionHeld3
import Derived.Deep.Cut
import Derived.Deep.DeepCutAuto
import Derived.Deep.LoopGhost
import Derived.Deep.AppendLies
import Derived.Deep.RegionLaw
import Derived.Lib.ItoaNum
import Derived.Lib.SlTrimSet
import Derived.Lib.SlBytesConst
import Derived.RangeFuncBound
import Derived.Shelf.Abstract
import Derived.Shelf.RegionOpen
import Derived.WalkKit
import Derived.OwnWalkIn
import Derived.TacticsInMore
import Derived.LoopNIn
import Derived.LoopIn
import Derived.Sort.LoopGhostIn
import Derived.Maps.OwnIn
import Derived.Test.YtkghgaopcgcheaaGreatDoorYStockReplays24
set_option maxRecDepth 100000
set_option maxHeartbeats 16000000
set_option linter.unusedSimpArgs false
set_option linter.unusedVariables false
namespace Go.Proofs.YtkghgaopcgcheaaGreatDoor
open Go.RowKit Go.Maps
def St (Y : List Nat) (w : World) (t r : Nat) (B : Int) (T : List Tik) (R : List Jar) : Prop :=
  ∃ A C, Y = A ++ C ∧ Tb A w t 64 T ∧ Rk C w r B R ∧ (∀ x ∈ A, x ∉ C) ∧ ∀ x ∈ Y, x < w.heap.size
section
variable {Y : List Nat} {w : World} {t r : Nat} {B : Int} {T : List Tik} {R : List Jar}
theorem St.keep {X : List Nat} {w' : World} (h : St Y w t r B T R) (k : Keep X w w') (hX : ∀ x ∈ Y, x ∉ X) : St Y w' t r B T R := by
  obtain ⟨A, C, rfl, h1, h2, h3, h4⟩ := h; exact ⟨A, C, rfl, h1.keep k (fun x hx => hX x (List.mem_append_left _ hx)), h2.keep k (fun x hx => hX x (List.mem_append_right _ hx)), h3, fun x hx => Nat.lt_of_lt_of_le (h4 x hx) k.size⟩
theorem St.keep0 {w' : World} (h : St Y w t r B T R) (k : Keep [] w w') : St Y w' t r B T R := h.keep k (by simp)
theorem Tb.cut {S : List Nat} {m : Nat} (h : Tb S w t m T) : Tb (cutS S w) w t m T := by
  obtain ⟨v, h1, h2, h3⟩ := h; exact ⟨v, h1, mem_cutS.2 ⟨h2, h1.blk.lt⟩, fun g hg => mem_cutS.2 ⟨h3 g hg, (h1.own.lt g hg).2⟩⟩
theorem Rk.cut {S : List Nat} (h : Rk S w r B R) : Rk (cutS S w) w r B R := by
  obtain ⟨P, fv, bm, total, pinned, M, I, F, h1, h2, h3, h4, h5⟩ := h; exact ⟨P, fv, bm, total, pinned, M, I, F, h1, h2, mem_cutS.2 ⟨h3, h1.blk.2.lt⟩, mem_cutS.2 ⟨h4, h1.map.lt⟩, fun g hg => mem_cutS.2 ⟨h5 g hg, (h1.own.lt g hg).2⟩⟩
theorem St.onT {A C A' : List Nat} {w' : World} {T' : List Tik} (h2 : Rk C w r B R) (h3 : ∀ x ∈ A, x ∉ C) (h4 : ∀ x ∈ A ++ C, x < w.heap.size) (g1 : Tb A' w' t 64 T') (g2 : Grow A w A' w') : ∃ Y', St Y' w' t r B T' R ∧ Grow (A ++ C) w Y' w' := by
  refine ⟨cutS A' w' ++ C, ⟨cutS A' w', C, rfl, g1.cut, h2.keep g2.1 (fun x hx hA => h3 x hA hx), fun x hx hC => ?_, fun x hx => ?_⟩, g2.1.mono (fun x hx _ => List.mem_append_left _ hx), fun x hx => ?_⟩
  · rcases g2.2 x (mem_cutS.1 hx).1 with e | e
    · exact h3 x e hC
    · have := h4 x (List.mem_append_right _ hC); omega
  · rcases List.mem_append.1 hx with hx | hx
    · exact (mem_cutS.1 hx).2
    · exact Nat.lt_of_lt_of_le (h4 x (List.mem_append_right _ hx)) g2.1.size
  · rcases List.mem_append.1 hx with hx | hx
    · exact (g2.2 x (mem_cutS.1 hx).1).imp (List.mem_append_left _) id
    · exact .inl (List.mem_append_right _ hx)
theorem St.onR {A C C' : List Nat} {w' : World} {R' : List Jar} (h1 : Tb A w t 64 T) (h3 : ∀ x ∈ A, x ∉ C) (h4 : ∀ x ∈ A ++ C, x < w.heap.size) (g1 : Rk C' w' r B R') (g2 : Grow C w C' w') : ∃ Y', St Y' w' t r B T R' ∧ Grow (A ++ C) w Y' w' := by
  refine ⟨A ++ cutS C' w', ⟨A, cutS C' w', rfl, h1.keep g2.1 h3, g1.cut, fun x hx hC => ?_, fun x hx => ?_⟩, g2.1.mono (fun x hx _ => List.mem_append_right _ hx), fun x hx => ?_⟩
  · rcases g2.2 x (mem_cutS.1 hC).1 with e | e
    · exact h3 x hx e
    · have := h4 x (List.mem_append_left _ hx); omega
  · rcases List.mem_append.1 hx with hx | hx
    · exact Nat.lt_of_lt_of_le (h4 x (List.mem_append_left _ hx)) g2.1.size
    · exact (mem_cutS.1 hx).2
  · rcases List.mem_append.1 hx with hx | hx
    · exact .inl (List.mem_append_left _ hx)
    · exact (g2.2 x (mem_cutS.1 hx).1).imp (List.mem_append_right _) id
theorem St.put (h : St Y w t r B T R) (x : Tik) (XC : List Value) (hx : x.cells = XC) (hi : tikIn x) :
    Calls Tryz.prog 128 #[.pointer (some ⟨t, 0, none⟩), .agg XC.toArray] w fun e w' => (∃ r, e = .returned r) ∧ ∃ Y', St Y' w' t r B (if goodT x then putT 64 T x else T) R ∧ Grow Y w Y' w' := by
  obtain ⟨A, C, rfl, h1, h2, h3, h4⟩ := h; refine (ticket_Put t 64 T x XC hx hi w h1).mono ?_; rintro e w' ⟨hr, S', p, g⟩; exact ⟨hr, St.onT h2 h3 h4 p g⟩
theorem St.drop (h : St Y w t r B T R) (a g : List UInt8) :
    Calls Tryz.prog 130 #[.pointer (some ⟨t, 0, none⟩), .string (S a), .string (S g)] w fun e w' => (∃ b, e = .returned (.bool b)) ∧ ∃ Y', St Y' w' t r B (dropT a g T) R ∧ Grow Y w Y' w' := by
  obtain ⟨A, C, rfl, h1, h2, h3, h4⟩ := h; refine (ticket_Drop t 64 T a g w h1).mono ?_; rintro e w' ⟨hr, S', p, g⟩; exact ⟨hr, St.onT h2 h3 h4 p g⟩
theorem St.known (h : St Y w t r B T R) (a g : List UInt8) :
    Calls Tryz.prog 66 #[.pointer (some ⟨t, 0, none⟩), .string (S a), .string (S g)] w fun e w' => e = .returned (tikGetV (getT a g T)) ∧ Keep [] w w' := by
  obtain ⟨A, C, rfl, ⟨v, h1, _⟩, h2, h3, h4⟩ := h; exact ticket_Get t 64 v T a g w h1
theorem St.tiks (h : St Y w t r B T R) :
    Calls Tryz.prog 37 #[.pointer (some ⟨t, 0, none⟩)] w fun e w' => ∃ v', e = .returned v' ∧ Own Tik.cells 38 w.heap.size 51 w' v' T ∧ Keep [] w w' := by
  obtain ⟨A, C, rfl, ⟨v, h1, _⟩, h2, h3, h4⟩ := h; exact ticket_List t 64 v T w h1
theorem St.asc (h : St Y w t r B T R) : AscT T ∧ T.length ≤ 64 := by
  obtain ⟨A, C, rfl, ⟨v, h1, _⟩, h2, h3, h4⟩ := h; exact ⟨h1.asc, h1.len⟩
theorem St.jars (h : St Y w t r B T R) :
    Calls Tryz.prog 38 #[.pointer (some ⟨r, 0, none⟩)] w fun e w' => ∃ v, e = .returned v ∧ Own Jar.cells 35 w.heap.size 63 w' v R ∧ Keep [] w w' := by
  obtain ⟨A, C, rfl, h1, h2, h3, h4⟩ := h; exact rack_List r B R w h2
theorem St.most (h : St Y w t r B T R) : R.length ≤ 64 ∧ (R.map (·.dig)).Nodup ∧ ∀ j ∈ R, okJar j := by
  obtain ⟨A, C, rfl, h1, h2, h3, h4⟩ := h; exact ⟨h2.most, h2.digs, h2.good⟩
theorem St.jput (h : St Y w t r B T R) (j : Jar) :
    Calls Tryz.prog 131 #[.pointer (some ⟨r, 0, none⟩), .agg j.cells.toArray] w fun e w' => e = .returned (.int .i64 (putE R j)) ∧ ∃ Y', St Y' w' t r B T (putL R j) ∧ Grow Y w Y' w' := by
  obtain ⟨A, C, rfl, h1, h2, h3, h4⟩ := h; refine (rack_Put r B R j w h2).mono ?_; rintro e w' ⟨hr, p, k⟩; exact ⟨hr, St.onR h1 h3 h4 p ⟨k, fun _ h => .inl h⟩⟩
theorem St.jdrop (h : St Y w t r B T R) (d : Dig) :
    Calls Tryz.prog 89 #[.pointer (some ⟨r, 0, none⟩), .agg (digC d).toArray] w fun e w' => e = .returned (.int .i64 (dropE R d)) ∧ ∃ Y', St Y' w' t r B T (dropL R d) ∧ Grow Y w Y' w' := by
  obtain ⟨A, C, rfl, h1, h2, h3, h4⟩ := h; refine (rack_Drop r B R d w h2).mono ?_; rintro e w' ⟨hr, S', p, k⟩; exact ⟨hr, St.onR h1 h3 h4 p k⟩
theorem St.touch (h : St Y w t r B T R) (d : Dig) :
    Calls Tryz.prog 132 #[.pointer (some ⟨r, 0, none⟩), .agg (digC d).toArray] w fun e w' => e = .returned (.int .i64 (hereE R d)) ∧ ∃ Y', St Y' w' t r B T (touchL R d) ∧ Grow Y w Y' w' := by
  obtain ⟨A, C, rfl, h1, h2, h3, h4⟩ := h; refine (rack_Touch r B R d w h2).mono ?_; rintro e w' ⟨hr, p, k⟩; exact ⟨hr, St.onR h1 h3 h4 p ⟨k, fun _ h => .inl h⟩⟩
theorem St.pin (h : St Y w t r B T R) (d : Dig) :
    Calls Tryz.prog 57 #[.pointer (some ⟨r, 0, none⟩), .agg (digC d).toArray] w fun e w' => e = .returned (.int .i64 (pinE R d)) ∧ ∃ Y', St Y' w' t r B T (pinL R d) ∧ Grow Y w Y' w' := by
  obtain ⟨A, C, rfl, h1, h2, h3, h4⟩ := h; refine (rack_Pin r B R d w h2).mono ?_; rintro e w' ⟨hr, p, k⟩; exact ⟨hr, St.onR h1 h3 h4 p ⟨k, fun _ h => .inl h⟩⟩
theorem St.get (h : St Y w t r B T R) (d : Dig) :
    Calls Tryz.prog 56 #[.pointer (some ⟨r, 0, none⟩), .agg (digC d).toArray] w fun e w' => e = .returned (.tuple #[.agg (getJ R d).cells.toArray, .bool (hasJ R d)]) ∧ Keep [] w w' := by
  obtain ⟨A, C, rfl, h1, h2, h3, h4⟩ := h; exact rack_Get r B R d w h2
theorem St.victim (h : St Y w t r B T R) :
    Calls Tryz.prog 90 #[.pointer (some ⟨r, 0, none⟩)] w fun e w' => e = .returned (.tuple #[.agg (digC (vicD (vicL B R))).toArray, .bool (vicL B R).isSome]) ∧ Keep [] w w' := by
  obtain ⟨A, C, rfl, h1, h2, h3, h4⟩ := h; exact rack_Victim r B R w h2
end
theorem wpList_b3' {ops : Array Oper} {rest : List Oper} {o : Oper} {a : Act} {w : World} {Q : Exit → Act → World → Prop} (hg : o.guard = none) {T : TypeId} {n0 n1 n2 : Nat} {v0 v1 v2 : Value} {cs : List Value} (HB : Tryz.prog.built T [(n0, v0), (n1, v1), (n2, v2)] = some cs.toArray) (x0 x1 x2 : Operand)
    (ho : o.op = .build T #[(n0, x0), (n1, x1), (n2, x2)]) (h0 : a.eval x0 = v0) (h1 : a.eval x1 = v1) (h2 : a.eval x2 = v2) (h : wpList Tryz.prog ops Q rest (a.put o.dst (.agg cs.toArray)) w) : wpList Tryz.prog ops Q (o :: rest) a w :=
  wpList_buildTo hg _ _ ho o.dst rfl cs.toArray (by
    have e : (#[(n0, x0), (n1, x1), (n2, x2)].map fun (i, x) => (i, a.eval x)).toList = [(n0, v0), (n1, v1), (n2, v2)] := by simp [h0, h1, h2]
    rw [e]
    exact HB) h
theorem wpList_b2' {ops : Array Oper} {rest : List Oper} {o : Oper} {a : Act} {w : World} {Q : Exit → Act → World → Prop} (hg : o.guard = none) {T : TypeId} {n0 n1 : Nat} {v0 v1 : Value} {cs : List Value} (HB : Tryz.prog.built T [(n0, v0), (n1, v1)] = some cs.toArray) (x0 x1 : Operand)
    (ho : o.op = .build T #[(n0, x0), (n1, x1)]) (h0 : a.eval x0 = v0) (h1 : a.eval x1 = v1) (h : wpList Tryz.prog ops Q rest (a.put o.dst (.agg cs.toArray)) w) : wpList Tryz.prog ops Q (o :: rest) a w :=
  wpList_buildTo hg _ _ ho o.dst rfl cs.toArray (by
    have e : (#[(n0, x0), (n1, x1)].map fun (i, x) => (i, a.eval x)).toList = [(n0, v0), (n1, v1)] := by simp [h0, h1]
    rw [e]
    exact HB) h
def applyT (x : Slp) (T : List Tik) : List Tik := if x.kind = 1 ∨ x.kind = 2 then (if goodT (toldT x) then putT 64 T (toldT x) else T) else if x.kind = 3 then dropT x.repo x.tag T else T
def applyR (x : Slp) (R : List Jar) : List Jar := if x.kind = 4 then putL R ⟨x.dig, x.typ, x.size, 0⟩ else if x.kind = 5 then dropL R x.dig else if x.kind = 6 then touchL R x.dig else R
theorem told_in {x : Slp} (h : slipIn x) : tikIn (toldT x) := ⟨h.2.1, h.2.2.1, h.2.2.2.1, h.2.2.2.2.1, h.2.2.2.2.2⟩
theorem state_apply {Y : List Nat} {t r : Nat} {B : Int} {T : List Tik} {R : List Jar} (x : Slp) (XC : List Value) (hx : x.cells = XC) (hi : slipIn x) (w : World) (h : St Y w t r B T R) :
    Calls Tryz.prog 74 #[.agg #[.pointer (some ⟨t, 0, none⟩), .pointer (some ⟨r, 0, none⟩)], .agg XC.toArray] w fun e w' => e = .returned (.tuple #[]) ∧ ∃ Y', St Y' w' t r B (applyT x T) (applyR x R) ∧ Grow Y w Y' w' := by
  obtain ⟨n, hn⟩ : ∃ n, w.heap.size = n := ⟨_, rfl⟩
  have hlt := (show ∀ x ∈ Y, x < w.heap.size from by obtain ⟨A, C, rfl, _, _, _, h4⟩ := h; exact h4)
  have k1 := (Keep.refl [] w).alloc (.cells #[.pointer (some ⟨t, 0, none⟩), .pointer (some ⟨r, 0, none⟩)] 83); have b1 := Blk.newA w #[.pointer (some ⟨t, 0, none⟩), .pointer (some ⟨r, 0, none⟩)] 83; have z1 : (w.alloc (.cells #[.pointer (some ⟨t, 0, none⟩), .pointer (some ⟨r, 0, none⟩)] 83)).heap.size = n + 1 := by rw [alloc_size, hn]
  rw [hn] at b1; have k2 := k1.alloc (.cells XC.toArray 27); have b12 := b1.alloc (.cells XC.toArray 27); have b2 := Blk.new (w.alloc (.cells #[.pointer (some ⟨t, 0, none⟩), .pointer (some ⟨r, 0, none⟩)] 83)) XC 27; rw [z1] at b2; have hr := slp_row x; rw [hx] at hr; have HTO := Lib.hid (fun w => stock_told x XC hx w); have HTI := Lib.hid (told_in hi); have HXL := Lib.hid (show XC.length = 38 by rw [← hx]; exact Slp.cells_length _); have HBJ := Lib.hid (bd_jarP x.dig x.typ x.size); have hdl := digC_length x.dig; obtain ⟨TR, hTR⟩ : ∃ z, applyT x T = z := ⟨_, rfl⟩
  obtain ⟨RR, hRR⟩ : ∃ z, applyR x R = z := ⟨_, rfl⟩
  rw [hTR, hRR]; unfold applyT at hTR; unfold applyR at hRR; go_enter Tryz.func74, Tryz.ntmps74
  go_upto_region 1 with fail
  (try simp only [hn]); generalize (w.alloc (.cells #[.pointer (some ⟨t, 0, none⟩), .pointer (some ⟨r, 0, none⟩)] 83)).alloc (.cells XC.toArray 27) = w2 at k2 b12 b2 ⊢; have HST := Lib.hid (fun w' (k : Keep [] w2 w') => (h.keep0 k2).keep0 k); have KD := Lib.hid ((Keep.refl [] w2).drew)
  have HC := Lib.hid (show ∀ w', Keep Y w2 w' → w'.cell? ⟨n, 0, none⟩ = some (.pointer (some ⟨t, 0, none⟩)) ∧ w'.rangeAt (n + 1) 0 XC from fun w' k =>
    ⟨(k.blk b12 (fun hm => by have := hlt n hm; omega)).get rfl, (k.blk b2 (fun hm => by have := hlt (n + 1) hm; omega)).rng⟩)
  have KW := Lib.hid k2; have c0 := b2.get hr.1; have d0 := b12.get (k := 0) rfl; have d1 := b12.get (k := 1) rfl; have c1 := b2.get hr.2.1; have c2 := b2.get hr.2.2.1; have c35 := b2.get hr.2.2.2.2.1; have c36 := b2.get hr.2.2.2.2.2.1; have HRD := Lib.hid (show w2.rangeAt (n + 1) 3 (digC x.dig) from fun j v hv => b2.get (hr.2.2.2.1 j v hv)); clear k1 b1 z1 k2 b12 b2 h hn hx hi hlt hr; obtain ⟨kd, hkd⟩ : ∃ k, x.kind = k := ⟨_, rfl⟩
  rw [hkd] at c0 hTR hRR; have HDL := Lib.hid hdl; clear hdl; by_cases e1 : kd = 1
  · rw [if_pos (.inl e1)] at hTR; rw [if_neg (by omega), if_neg (by omega), if_neg (by omega)] at hRR; subst hRR; have HTR := Lib.hid hTR; clear hTR hkd; subst e1
    go_upto_region 4 with fail
    refine wp_region_held_drew (S := fun w' => Keep Y w2 w') (by kernel_rfl) ((KD.out.mono (by simp))) (fun hHeld => ?_); refine gW 0 ?_; (try simp only [sq]); refine gV 1 (v := ?_) ?_ ?_; rotate_left
    · (intro w' hSw; have c0 := (HC.out w' hSw).1; go_simp) <;> (with_reducible rfl)
    (try simp only [sq]); refine gZ 2 (n + 1) 0 (XC) (fun w' hSw => (HC.out w' hSw).2) (by rw [HXL.out]; kernel_rfl) ?_; (try simp only [sq]); refine gR 3 rfl (fun K hK => ?_); go_simp; refine (HTO.out _).mono ?_; rintro e wq ⟨rfl, kq⟩; have KQ := Lib.hid (KD.out.trans kq); have hKq := KQ.out.mono (S' := Y) (by simp); clear kq; (try go_simp); refine hK.out _ _ (hKq) (fun hHeld => ?_); clear hK K; (try simp only [sq]); refine gR 4 rfl (fun K hK => ?_); go_simp; refine ((HST.out _ KQ.out).put _ _ rfl HTI.out).mono ?_; rintro e w3 ⟨⟨rr, rfl⟩, Y3, s3, g3⟩; have hK3 := (KQ.out.mono (S' := Y) (by simp)).trans g3.1; have HF := Lib.hid (And.intro s3 (Grow.pre KQ.out g3)); clear s3 g3; (try go_simp); refine hK.out _ _ (hK3) (fun hHeld => ?_); clear hK K; (try simp only [sq]); refine wpAnyH_done (by kernel_rfl) ?_ _; clear hK3; go_wp2_with fail; go_end0; exact ⟨rfl, Y3, by have := HF.out.1; rwa [HTR.out] at this, Grow.pre KW.out HF.out.2⟩
  by_cases e2 : kd = 2
  · rw [if_pos (.inr e2)] at hTR; rw [if_neg (by omega), if_neg (by omega), if_neg (by omega)] at hRR; subst hRR; have HTR := Lib.hid hTR; clear hTR hkd e1; subst e2
    go_upto_region 4 with fail
    refine wp_region_held_drew (S := fun w' => Keep Y w2 w') (by kernel_rfl) ((KD.out.mono (by simp))) (fun hHeld => ?_); refine gW 0 ?_; (try simp only [sq]); refine gV 1 (v := ?_) ?_ ?_; rotate_left
    · (intro w' hSw; have c0 := (HC.out w' hSw).1; go_simp) <;> (with_reducible rfl)
    (try simp only [sq]); refine gZ 2 (n + 1) 0 (XC) (fun w' hSw => (HC.out w' hSw).2) (by rw [HXL.out]; kernel_rfl) ?_; (try simp only [sq]); refine gR 3 rfl (fun K hK => ?_); go_simp; refine (HTO.out _).mono ?_; rintro e wq ⟨rfl, kq⟩; have KQ := Lib.hid (KD.out.trans kq); have hKq := KQ.out.mono (S' := Y) (by simp); clear kq; (try go_simp); refine hK.out _ _ (hKq) (fun hHeld => ?_); clear hK K; (try simp only [sq]); refine gR 4 rfl (fun K hK => ?_); go_simp; refine ((HST.out _ KQ.out).put _ _ rfl HTI.out).mono ?_; rintro e w3 ⟨⟨rr, rfl⟩, Y3, s3, g3⟩; have hK3 := (KQ.out.mono (S' := Y) (by simp)).trans g3.1; have HF := Lib.hid (And.intro s3 (Grow.pre KQ.out g3)); clear s3 g3; (try go_simp); refine hK.out _ _ (hK3) (fun hHeld => ?_); clear hK K; (try simp only [sq]); refine wpAnyH_done (by kernel_rfl) ?_ _; clear hK3; go_wp2_with fail; go_end0; exact ⟨rfl, Y3, by have := HF.out.1; rwa [HTR.out] at this, Grow.pre KW.out HF.out.2⟩
  rw [if_neg (by omega)] at hTR; by_cases e3 : kd = 3
  · rw [if_pos e3] at hTR; rw [if_neg (by omega), if_neg (by omega), if_neg (by omega)] at hRR; subst hRR hTR; clear hkd e1 e2; subst e3; go_wp2_with fail; refine ((HST.out _ (Keep.refl _ _)).drop _ _).mono ?_; rintro e w3 ⟨hr3, Y3, s3, g3⟩; have HF := Lib.hid (And.intro s3 (Grow.pre KW.out g3)); clear s3 g3; try (obtain ⟨rb, rfl⟩ := hr3)
    (try subst hr3); go_wp2_with fail; go_end0; exact ⟨rfl, Y3, HF.out⟩
  rw [if_neg e3] at hTR; subst hTR; by_cases e4 : kd = 4
  · rw [if_pos e4] at hRR; subst hRR; clear hkd e1 e2 e3; subst e4
    go_wp2_with (first | ((with_reducible refine gL 28 27 ?_); refine wpList_load_mid rfl 25 (.tmp 27) rfl (n + 1) 3 (by rfl) (digC x.dig) _ HRD.out Tryz.underlying25 rfl (by rw [HDL.out]; kernel_rfl) ?_; try simp only [sq]) | ((with_reducible refine gB 33 ?_); refine wpList_b3' rfl (cs := (⟨x.dig, x.typ, x.size, 0⟩ : Jar).cells) (by exact HBJ.out) _ _ _ rfl (by rfl) (by rfl) (by rfl) ?_; try simp only [sq]) | fail); refine ((HST.out _ (Keep.refl _ _)).jput ⟨x.dig, x.typ, x.size, 0⟩).mono ?_; rintro e w3 ⟨hr3, Y3, s3, g3⟩; have HF := Lib.hid (And.intro s3 (Grow.pre KW.out g3)); clear s3 g3; try (obtain ⟨rb, rfl⟩ := hr3)
    (try subst hr3); go_wp2_with fail; go_end0; exact ⟨rfl, Y3, HF.out⟩
  rw [if_neg e4] at hRR; by_cases e5 : kd = 5
  · rw [if_pos e5] at hRR; subst hRR; clear hkd e1 e2 e3 e4; subst e5
    go_wp2_with (first | ((with_reducible refine gL 40 39 ?_); refine wpList_load_mid rfl 25 (.tmp 39) rfl (n + 1) 3 (by rfl) (digC x.dig) _ HRD.out Tryz.underlying25 rfl (by rw [HDL.out]; kernel_rfl) ?_; try simp only [sq]) | fail); refine ((HST.out _ (Keep.refl _ _)).jdrop x.dig).mono ?_; rintro e w3 ⟨hr3, Y3, s3, g3⟩; have HF := Lib.hid (And.intro s3 (Grow.pre KW.out g3)); clear s3 g3; try (obtain ⟨rb, rfl⟩ := hr3)
    (try subst hr3); go_wp2_with fail; go_end0; exact ⟨rfl, Y3, HF.out⟩
  rw [if_neg e5] at hRR; by_cases e6 : kd = 6
  · rw [if_pos e6] at hRR; subst hRR; clear hkd e1 e2 e3 e4 e5; subst e6
    go_wp2_with (first | ((with_reducible refine gL 47 46 ?_); refine wpList_load_mid rfl 25 (.tmp 46) rfl (n + 1) 3 (by rfl) (digC x.dig) _ HRD.out Tryz.underlying25 rfl (by rw [HDL.out]; kernel_rfl) ?_; try simp only [sq]) | fail); refine ((HST.out _ (Keep.refl _ _)).touch x.dig).mono ?_; rintro e w3 ⟨hr3, Y3, s3, g3⟩; have HF := Lib.hid (And.intro s3 (Grow.pre KW.out g3)); clear s3 g3; try (obtain ⟨rb, rfl⟩ := hr3)
    (try subst hr3); go_wp2_with fail; go_end0; exact ⟨rfl, Y3, HF.out⟩
  rw [if_neg e6] at hRR; subst hRR; clear hkd; have f1 := (int_ne' e1).1; have f2 := (int_ne' e2).1; have f3 := (int_ne' e3).1; have f4 := (int_ne' e4).1; have f5 := (int_ne' e5).1; have f6 := (int_ne' e6).1; go_wp2_with fail; go_end0; exact ⟨rfl, Y, HST.out _ (Keep.refl _ _), Grow.of KW.out⟩
end Go.Proofs.YtkghgaopcgcheaaGreatDoor
namespace Go.Proofs.YtkghgaopcgcheaaGreatDoor
open Go.RowKit Go.Maps
attribute [local go_sem] Oper.semAt_some
theorem opIn_value {F : Fence} {n : Nat} {P : Program} {o : Oper} {a : Act} {w w' : World} {K : Act → World → Prop} {Q : Exit → Act → World → Prop} {v : Value} (hr : (execOp a.eval o).run P w = .ok (.value v) w') (hp : ∀ c, o.op ≠ .defer c) (hab : o.about P w a.eval = none) (h : K (a.put o.dst v) w') : o.wpIn F n P a w K Q := by
  unfold Oper.wpIn; refine ⟨fun f hf => (by rw [hab] at hf; cases hf), ?_⟩; rw [Oper.semAt_plain F _ _ hp, hr]; exact h
theorem opIn_skip {F : Fence} {n : Nat} {P : Program} {o : Oper} {a : Act} {w w' : World} {K : Act → World → Prop} {Q : Exit → Act → World → Prop} (hr : (execOp a.eval o).run P w = .ok .skip w') (hp : ∀ c, o.op ≠ .defer c) (hab : o.about P w a.eval = none) (h : K (a.put o.dst undef) w') : o.wpIn F n P a w K Q := by
  unfold Oper.wpIn; refine ⟨fun f hf => (by rw [hab] at hf; cases hf), ?_⟩; rw [Oper.semAt_plain F _ _ hp, hr]; exact h
theorem wpListIn_load_mid {F : Fence} {n : Nat} {P : Program} {ops : Array Oper} {rest : List Oper} {op : Oper} {a : Act} {w : World} {Q : Exit → Act → World → Prop} (hgd : op.guard = none) (ty : TypeId) (x : Operand) (ho : op.op = .load ty x)
    (b o : Nat) (hx : a.eval x = .pointer (some ⟨b, o, none⟩)) (cs : List Value) (d : TypeDesc) (hc : w.rangeAt b o cs)
    (hu : P.underlying ty = some d) (hd : d.isRow = true) (hi : (P.info? ty).map (·.size) = some cs.length)
    (h : wpListIn F n P ops Q rest (a.put op.dst (.agg cs.toArray)) w) : wpListIn F n P ops Q (op :: rest) a w :=
  wpListIn_plain hgd fun K hK => opIn_value (v := .agg cs.toArray) (w' := w) (by
    unfold execOp; simp only [ho, hx, Instr.loadAt, Instr.sureAddr, Sem.run_bind, Sem.run_pure, Result.andThen_ok, run_loadVar_mid w b o ty cs d hc hu hd hi]) (by rw [ho]; intro c hc'; cases hc') (by unfold Oper.about; rw [ho]) (hK _ _ h)
theorem back_iter {n l bs : Nat} (R : List Jar) (hR : R.length ≤ 1000) (v : Value) (I : Nat → World → Prop)
    (hI : ∀ k W, I k W → W.cell? ⟨bs, 0, none⟩ = some v ∧ Sl Jar.cells 35 W v R)
    (hY : ∀ k x W, R[R.length - 1 - k]? = some x → k < R.length → I k W → YieldAt Fence.wide n Tryz.prog l #[.int .i64 ((R.length : Int) - 1 - k), .agg x.cells.toArray] W fun e W' => e = .returned (.bool true) ∧ I (k + 1) W')
    (W : World) (h : I 0 W) :
    CallsIn Fence.wide (n + 1) Tryz.prog 149 #[.func (.yield l) #[] #[], .pointer (some ⟨bs, 0, none⟩)] W fun e W2 => (∃ v, e = .returned v) ∧ I R.length W2 := by
  obtain ⟨c0, hsl⟩ := hI 0 W h; obtain ⟨a, cap, hv, hcap⟩ := hsl.shape; subst hv; have wk0 := IntWalk.i64_in ((R.length : Int) - 1) (by omega); refine callsIn_of_wp Tryz.func149 rfl trivial ?_ rfl; simp only [Tryz.ntmps149, List.size_toArray, List.length_cons, List.length_nil, Nat.reduceAdd, Nat.reduceSub, Array.replicate_succ, Array.replicate_zero, List.push_toArray, List.append_toArray, List.nil_append, List.cons_append]; have H := Lib.hid h; have HI := Lib.hid hI; clear h hI hsl; gi_wp2
  gi_loopg [3] R.length (fun g s3 wr => ∃ k : Nat, s3 = .int .i64 ((R.length : Int) - 1 - k) ∧ k ≤ R.length ∧ g = R.length - k ∧ Hid (I k wr))
  case atStart => exact ⟨0, by simp, by omega, by omega, H⟩
  case round =>
    obtain ⟨k, rfl, hk, hgk, HK⟩ := hrel; by_cases hlt : k < R.length
    · obtain ⟨x, hx⟩ : ∃ x, R[R.length - 1 - k]? = some x := ⟨_, List.getElem?_eq_getElem (by omega)⟩
      obtain ⟨c1, hs1⟩ := HI.out k wr HK.out; obtain ⟨ba, oa, ca', hva, hrg⟩ := hs1.rng Jar.cells_length hx; cases hva; obtain ⟨fn, tmps, assign, body, hy, hR⟩ := hY k x wr hx hlt HK.out; have HRR := Lib.hid hR; obtain ⟨XC, hXC⟩ : ∃ z, x.cells = z := ⟨_, rfl⟩
      rw [hXC] at hrg hy; have HXL := Lib.hid (show XC.length = 35 by rw [← hXC]; exact Jar.cells_length _); have HRG := Lib.hid hrg; obtain ⟨i, hi⟩ : ∃ i, R.length - 1 - k = i := ⟨_, rfl⟩
      have hii : (R.length : Int) - 1 - k = (i : Nat) := by omega
      rw [hi] at HRG; rw [hii] at hy ⊢; have f1 : decide ((0 : Int) ≤ (i : Nat)) = true := decide_eq_true (by omega); have f2 : (0 : Int) ≤ (i : Nat) := by omega
      have f3 : ((i : Nat) : Int) < (R.length : Nat) := by omega
      have wk := IntWalk.i64_in (((i : Nat) : Int) - 1) (by omega); clear hrg hR hs1 hY hXC hi
      gi_wp2_with (first
        | (with_reducible (show wpListIn _ _ _ _ _ ((⟨some 16, .load _ (.tmp 15), _, _, _, none⟩ : Oper) :: _) _ _)
           refine wpListIn_load_mid rfl 63 (.tmp 15) rfl ba (oa + i * 35) (by rfl) XC _ HRG.out Tryz.underlying63 rfl (by rw [HXL.out]; kernel_rfl) ?_; try simp only [sq])
        | fail)
      refine HRR.out.mono ?_; rintro e W3 ⟨rfl, h3⟩; have H3 := Lib.hid h3; clear h3 HRR hy c1; gi_wp2
      gi_roundg (R.length - (k + 1))
      case measure => omega
      case rel => exact ⟨k + 1, by congr 1; omega, by omega, rfl, H3⟩
    · have hke : k = R.length := by omega
      have f1 : decide ((0 : Int) ≤ (R.length : Int) - 1 - k) = false := decide_eq_false (by omega); have HF := Lib.hid (show I R.length wr from by have := HK.out; rwa [hke] at this); clear hY; gi_wp2; go_end0; exact ⟨⟨_, rfl⟩, HF.out⟩
theorem Backward_made (a : Option Addr) (l c : Nat) (w : World) : Calls Tryz.prog 94 #[.slice a l c] w fun e w' =>
    e = .returned (.func (.func 149) #[] #[.pointer (some ⟨w.heap.size, 0, none⟩)]) ∧ w' = w.alloc (.cells #[.slice a l c] 29) := by
  go_enter Tryz.func94, Tryz.ntmps94; go_wp2_with fail; go_ret; exact ⟨rfl, rfl⟩
theorem back_range {g : Operand} {ps : Array Tmp} {assign body : Code} {Q : Exit → Act → World → Prop} {a : Act} {w : World} {bs : Nat} (R : List Jar) (hR : R.length ≤ 1000) (v : Value)
    (hg : a.eval g = .func (.func 149) #[] #[.pointer (some ⟨bs, 0, none⟩)])
    (I : FuncId → Nat → World → Prop)
    (hstart : ∀ fn, I fn 0 (rfStart w (rfRec w a ps assign body fn)))
    (hI : ∀ fn k W, I fn k W → W.cell? ⟨bs, 0, none⟩ = some v ∧ Sl Jar.cells 35 W v R)
    (hY : ∀ fn k x W, R[R.length - 1 - k]? = some x → k < R.length → I fn k W → YieldAt Fence.wide 1 Tryz.prog (w.heap.size + 1) #[.int .i64 ((R.length : Int) - 1 - k), .agg x.cells.toArray] W fun e W' => e = .returned (.bool true) ∧ I fn (k + 1) W')
    (hend : ∀ fn W, I fn R.length W → W.heap[w.heap.size + 1]? = some (.loop (rfRec w a ps assign body fn)) ∧ Q .normal (rfMark w a) (rfEnd W (w.heap.size + 1) (rfRec w a ps assign body fn))) :
    (Code.rangeFunc g ps assign body).wpIn Fence.wide 3 Tryz.prog Q a w := by
  refine rf_range rfl (by omega) hg trivial (enters_of Tryz.func149 (by kernel_rfl) rfl) ?_; intro fn _; refine (back_iter (n := 1) R hR v (I fn) (hI fn) (fun k x W hx hk h => hY fn k x W hx hk h) _ (hstart fn)).mono ?_; rintro e W2 ⟨hv, h⟩; exact ⟨hv, .inl (hend fn W2 h)⟩
theorem wpListIn_store_new {F : Fence} {n : Nat} {P : Program} {ops : Array Oper} {rest : List Oper} {op : Oper} {a : Act} {w : World} {Q : Exit → Act → World → Prop} (hgd : op.guard = none) (ty : TypeId) (x y : Operand) (ho : op.op = .store ty x y)
    (Z : Array Value) (cells : List Value) (hx : a.eval x = .pointer (some ⟨w.heap.size, 0, none⟩)) (hy : a.eval y = .agg cells.toArray) (hi : (P.info? ty).map (·.size) = some cells.length) (hz : Z.size = cells.length)
    (h1 : ∀ v ∈ cells, v.oneCell' = true) (h : wpListIn F n P ops Q rest (a.put op.dst undef) (w.alloc (.cells cells.toArray ty))) : wpListIn F n P ops Q (op :: rest) a (w.alloc (.cells Z ty)) :=
  wpListIn_plain hgd fun _ hK => opIn_skip (w' := w.alloc (.cells cells.toArray ty)) (by
    unfold execOp; simp only [ho, hx, hy, Instr.storeAt, Instr.sureAddr, Sem.run_bind, Sem.run_pure, Result.andThen_ok, run_storeVar_new (P := P) w ty Z cells.toArray (by simpa using hi) (by simpa using hz) (all_oneCell_toArray h1)]) (by rw [ho]; intro c hc'; cases hc') (by unfold Oper.about; rw [ho]) (hK _ _ h)
theorem wpListIn_b4 {F : Fence} {n : Nat} {ops : Array Oper} {rest : List Oper} {o : Oper} {a : Act} {w : World} {Q : Exit → Act → World → Prop} (hg : o.guard = none) {T : TypeId} {n0 n1 n2 n3 : Nat} {v0 v1 v2 v3 : Value} {cs : List Value} (HB : Tryz.prog.built T [(n0, v0), (n1, v1), (n2, v2), (n3, v3)] = some cs.toArray) (x0 x1 x2 x3 : Operand)
    (ho : o.op = .build T #[(n0, x0), (n1, x1), (n2, x2), (n3, x3)]) (h0 : a.eval x0 = v0) (h1 : a.eval x1 = v1) (h2 : a.eval x2 = v2) (h3 : a.eval x3 = v3) (h : wpListIn F n Tryz.prog ops Q rest (a.put o.dst (.agg cs.toArray)) w) : wpListIn F n Tryz.prog ops Q (o :: rest) a w :=
  wpListIn_plain hg fun _ hK => opIn_value (v := .agg cs.toArray) (w' := w) (by
    have e : (#[(n0, x0), (n1, x1), (n2, x2), (n3, x3)].map fun (i, x) => (i, a.eval x)).toList = [(n0, v0), (n1, v1), (n2, v2), (n3, v3)] := by simp [h0, h1, h2, h3]
    unfold execOp; simp only [ho, Sem.run_bind, run_build w T _ cs.toArray (by rw [e]; exact HB), Result.andThen_ok, Sem.run_pure]) (by rw [ho]; intro c hc'; cases hc') (by unfold Oper.about; rw [ho]) (hK _ _ h)
theorem wpListIn_buildOne {F : Fence} {nn : Nat} {ops : Array Oper} {rest : List Oper} {o : Oper} {a : Act} {w : World} {Q : Exit → Act → World → Prop} (hg : o.guard = none) (t E : TypeId) (x : Operand) (ho : o.op = .buildSlice t 1 #[(0, x)])
    {is : TypeInfo} {Z : Array Value} {n bytes : Nat} (Hs : Hid (Tryz.prog.info? E = some is ∧ is.zero = some (.agg Z) ∧ is.size = n ∧ is.bytes = bytes)) (hn : 0 < n) (hn2 : n ≤ 1000) (hu : Tryz.prog.underlying t = some (.slice E)) (C : List Value) (hl : C.length = n) (hx : a.eval x = .agg C.toArray)
    (h : wpListIn F nn Tryz.prog ops Q rest (a.put o.dst (.slice (some ⟨w.heap.size, 0, none⟩) 1 1)) (w.alloc (.cells C.toArray E))) : wpListIn F nn Tryz.prog ops Q (o :: rest) a w :=
  wpListIn_plain hg fun _ hK => opIn_value (v := .slice (some ⟨w.heap.size, 0, none⟩) 1 1) (w' := w.alloc (.cells C.toArray E)) (by
    unfold execOp; simp only [ho, Sem.run_bind, run_buildSlice w t E 1 _ C.toArray is _ hu Hs.out.1 Hs.out.2.1 (by rw [Hs.out.2.2.1]; omega) (by rw [Hs.out.2.2.1]; omega) (fill_one n hn Z C hl x a hx is.size Hs.out.2.2.1), Result.andThen_ok, Sem.run_pure]) (by rw [ho]; intro c hc'; cases hc') (by unfold Oper.about; rw [ho]) (hK _ _ h)
theorem wpListIn_append3 {F : Fence} {nn : Nat} {P : Program} {ops : Array Oper} {rest : List Oper} {o : Oper} {a : Act} {Q : Exit → Act → World → Prop} (hgd : o.guard = none) (s x : Operand) (t : TypeId)
    (ho : o.op = .call { callee := .builtin .append, args := #[s, x], argTypes := #[t, t] })
    {α : Type} {enc : α → List Value} {n base : Nat} {E : TypeId} {L : List α} {v : Value}
    (i : TypeInfo) (z : Value) (bytes : Nat) (ht : P.underlying t = some (.slice E)) (HI : Hid (P.info? E = some i ∧ i.zero = some z ∧ i.size = n ∧ i.bytes = bytes)) (hzs : z.cells.size = n) (hn0 : 0 < n)
    (hn : ∀ x, (enc x).length = n) (h1 : ∀ x, ∀ u ∈ enc x, u.oneCell' = true)
    (w : World) (hb0 : base ≤ w.heap.size) (hs : a.eval s = v) (hown : Own enc n base E w v L) (y : α) (cs : List Value) (hcs : cs = enc y) (c : Nat) (hx : a.eval x = .slice (some ⟨w.heap.size, 0, none⟩) 1 c)
    (h63 : L.length + 1 ≤ maxLen) (hbytes : (L.length + 1) * bytes ≤ 140737488355328)
    (h : ∀ v' w', Own enc n base E w' v' (L ++ [y]) → w.grownBy w' v.ownBlock → (v'.ownBlock = v.ownBlock ∨ v'.ownBlock = some (w.heap.size + 1)) → wpListIn F nn P ops Q rest (a.put o.dst v') w') : wpListIn F nn P ops Q (o :: rest) a (w.alloc (.cells cs.toArray E)) := by
  subst hcs; have hA := Blk.new w (enc y) E; have e0 : ∀ j, (⟨w.heap.size, 0, none⟩ : Addr).add j = ⟨w.heap.size, j, none⟩ := fun j => by unfold Addr.add; split <;> simp_all
  refine wpListIn_append_own_at _ hgd s x t ho base E i z n bytes ht HI.out.1 HI.out.2.1 HI.out.2.2.1 HI.out.2.2.2 hzs hn0 v L.length (rows enc L) hs (hown.alloc _) ⟨w.heap.size, 0, none⟩ 1 c (enc y) hx (by rw [hn]; omega) (fun j u hj => by rw [e0, hA.cell j]; exact hj) (h1 y) h63 hbytes (by simp; omega) ?_; intro v' w' h2 h3 _ h5; refine h v' w' ?_ ?_ (h5.imp id (fun h => by simpa using h))
  · have : rows enc (L ++ [y]) = rows enc L ++ enc y := by simp [rows]
    unfold Own; rw [this, List.length_append]; exact h2
  · have h0 := World.grownBy_alloc w (.cells (enc y).toArray E) v.ownBlock; exact ⟨h3.os.trans h0.os, h3.tape.trans h0.tape, h3.output.trans h0.output, Nat.le_trans h0.size h3.size, fun k hk hne => (h3.block k (Nat.lt_of_lt_of_le hk h0.size) hne).trans (h0.block k hk hne)⟩
theorem keepPutB {S : List Nat} {w W : World} (h : Keep S w W) {l : Nat} (hl : w.heap.size ≤ l) (o : Obj) : Keep S w (W.putObj l o) :=
  ⟨h.os, h.tape, h.output, by simpa [World.putObj] using h.size, fun k hk hn => (World.putObj_heap_other (by omega)).trans (h.block k hk hn)⟩
structure BkS (w4 : World) (m : Nat) (rec : Loop) (L : List Slp) (u : Value) (W : World) : Prop where
  kp : Keep [m] w4 W
  mv : Blk W m 22 [u]
  dd : W.heap[w4.heap.size]? = some (.deferred (some []))
  ll : W.heap[w4.heap.size + 1]? = some (.loop rec)
  own : Own Slp.cells 38 (w4.heap.size + 2) 27 W u L
  lt : m < w4.heap.size
section
variable {w4 W W' : World} {m : Nat} {rec rec' : Loop} {L : List Slp} {u : Value}
theorem BkS.keep0 (h : BkS w4 m rec L u W) (k : Keep [] W W') : BkS w4 m rec L u W' :=
  ⟨h.kp.trans (k.mono (by simp)), k.blk h.mv (by simp), (k.block _ (Array.getElem?_eq_some_iff.1 h.dd).1 (by simp)).trans h.dd, (k.block _ (Array.getElem?_eq_some_iff.1 h.ll).1 (by simp)).trans h.ll, h.own.keep0 k, h.lt⟩
theorem BkS.put (h : BkS w4 m rec L u W) : BkS w4 m rec' L u (W.putObj (w4.heap.size + 1) (.loop rec')) := by
  have k : ∀ j, j ≠ w4.heap.size + 1 → (W.putObj (w4.heap.size + 1) (.loop rec')).heap[j]? = W.heap[j]? := fun j hj => World.putObj_heap_other (by omega)
  refine ⟨keepPutB h.kp (by omega) _, (k m (by have := h.lt; omega)).trans h.mv, (k _ (by omega)).trans h.dd, World.putObj_heap_same (Array.getElem?_eq_some_iff.1 h.ll).1, ?_, h.lt⟩; refine h.own.keep (S := [w4.heap.size + 1]) ⟨rfl, rfl, rfl, by simp [World.putObj], fun j _ hn => k j (by simpa using hn)⟩ (fun g hg => by have := (h.own.lt g hg).1; simp; omega)
theorem BkS.more (h : BkS w4 m rec L u W) {L' : List Slp} {u' : Value} (ho : Own Slp.cells 38 (w4.heap.size + 2) 27 W' u' L') (hg : W.grownBy W' u.ownBlock) : BkS w4 m rec L' u' (W'.setCell ⟨m, 0, none⟩ u') := by
  have hu : ∀ g, u.ownBlock = some g → w4.heap.size + 2 ≤ g := fun g hg => (h.own.lt g hg).1
  have hlt := h.lt; have k1 : Keep u.ownBlock.toList W W' := Keep.grown' hg (fun k hk _ => by rw [hk]; simp); have hb : Blk W' m 22 [u] := k1.blk h.mv (by simp; intro e; have := hu m e; omega)
  have e : ∀ j, j < W.heap.size → j < w4.heap.size + 2 → j ≠ m → (W'.setCell ⟨m, 0, none⟩ u').heap[j]? = W.heap[j]? := fun j hj hj2 hjm => by
    have k2 : Keep [m] W' (W'.setCell ⟨m, 0, none⟩ u') := (Keep.refl _ _).setCell _ _ (by simp); rw [k2.block j (Nat.lt_of_lt_of_le hj k1.size) (by simpa using hjm), k1.block j hj (by simp; intro e; have := hu j e; omega)]
  have kS : Keep [m] W' (W'.setCell ⟨m, 0, none⟩ u') := (Keep.refl _ _).setCell _ _ (by simp); refine ⟨(h.kp.trans' k1 (fun x hx hl => by simp at hx; have := hu x hx; omega)).trans kS, hb.set 0 u', ?_, ?_, ho.keep kS (fun g hg => by have := (ho.lt g hg).1; simp; omega), h.lt⟩
  · exact (e _ (Array.getElem?_eq_some_iff.1 h.dd).1 (by omega) (by omega)).trans h.dd
  · exact (e _ (Array.getElem?_eq_some_iff.1 h.ll).1 (by omega) (by omega)).trans h.ll
theorem BkS.start {w4 : World} {m : Nat} {rec : Loop} (hb : Blk w4 m 22 [.slice none 0 0]) : BkS w4 m rec [] (.slice none 0 0) (rfStart w4 rec) := by
  have k : Keep [] w4 (rfStart w4 rec) := ((Keep.refl [] w4).alloc _).alloc _; refine ⟨k.mono (by simp), k.blk hb (by simp), ?_, ?_, Own.nil _ _ _ _ _, hb.lt⟩
  · have k2 : Keep [] (w4.alloc (.deferred (some []))) (rfStart w4 rec) := (Keep.refl [] _).alloc _; have h1 := World.alloc_heap_new w4 (.deferred (some [])); exact (k2.block _ (Array.getElem?_eq_some_iff.1 h1).1 (by simp)).trans h1
  · have h1 := World.alloc_heap_new (w4.alloc (.deferred (some []))) (.loop rec); simpa [rfStart] using h1
end
def jarS (j : Jar) : Slp := ⟨4, [], [], j.dig, j.typ, j.size, 0⟩
theorem back_next {R : List Jar} {k : Nat} {x : Jar} (hx : R[R.length - 1 - k]? = some x) (hk : k < R.length) : (R.reverse.take (k + 1)).map jarS = (R.reverse.take k).map jarS ++ [jarS x] := by
  have e : R.reverse[k]? = some x := by rw [List.getElem?_reverse hk]; exact hx
  rw [List.take_add_one, e, List.map_append]; rfl
theorem slips_range {g : Operand} {ps : Array Tmp} {assign body : Code} {Q : Exit → Act → World → Prop} {a : Act} {w4 : World} {bs m : Nat} (R : List Jar) (hR : R.length ≤ 64) (v : Value)
    (hg : a.eval g = .func (.func 149) #[] #[.pointer (some ⟨bs, 0, none⟩)])
    (hm : Blk w4 m 22 [.slice none 0 0]) (hI : ∀ W, Keep [m] w4 W → W.cell? ⟨bs, 0, none⟩ = some v ∧ Sl Jar.cells 35 W v R)
    (hround : ∀ fn k x u W, k ≤ 64 → BkS w4 m (rfRec w4 a ps assign body fn) ((R.reverse.take k).map jarS) u W → YieldAt Fence.wide 1 Tryz.prog (w4.heap.size + 1) #[.int .i64 ((R.length : Int) - 1 - k), .agg x.cells.toArray] W fun e W' => e = .returned (.bool true) ∧ ∃ u', BkS w4 m (rfRec w4 a ps assign body fn) ((R.reverse.take k).map jarS ++ [jarS x]) u' W')
    (hend : ∀ fn u W, BkS w4 m (rfRec w4 a ps assign body fn) (R.reverse.map jarS) u W → Q .normal (rfMark w4 a) (rfEnd W (w4.heap.size + 1) (rfRec w4 a ps assign body fn))) :
    (Code.rangeFunc g ps assign body).wpIn Fence.wide 3 Tryz.prog Q a w4 := by
  refine back_range (bs := bs) R (by omega) v hg (fun fn k W => ∃ u, BkS w4 m (rfRec w4 a ps assign body fn) ((R.reverse.take k).map jarS) u W) (fun fn => ⟨_, BkS.start hm⟩) (fun fn k W ⟨u, h⟩ => hI W h.kp) (fun fn k x W hx hk ⟨u, h⟩ => ?_) (fun fn W ⟨u, h⟩ => ⟨h.ll, hend fn u W ?_⟩)
  · rw [back_next hx hk]; exact hround fn k x u W (by omega) h
  · have e : R.reverse.take R.length = R.reverse := List.take_of_length_le (by simp); rwa [e] at h
end Go.Proofs.YtkghgaopcgcheaaGreatDoor
