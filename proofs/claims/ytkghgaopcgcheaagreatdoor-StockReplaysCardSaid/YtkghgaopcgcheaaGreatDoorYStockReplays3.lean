/- Parts of the proof of StockReplays, in order. No conditions but those that each theorem states. -/
import Derived.Test.YtkghgaopcgcheaaGreatDoorYStockReplays0
import Derived.Test.YtkghgaopcgcheaaGreatDoorYStockReplays2
set_option maxRecDepth 100000
set_option maxHeartbeats 16000000
set_option linter.unusedSimpArgs false
set_option linter.unusedVariables false
namespace Go.Proofs.YtkghgaopcgcheaaGreatDoor
open Go.RowKit Go.Maps
theorem MapIs.keep {S : List Nat} {w w' : World} {bm n : Nat} {M : Dig → Nat} (h : MapIs w bm M n) (k : Keep S w w') (hn : bm ∉ S) : MapIs w' bm M n := by
  obtain ⟨D, ⟨es, clock, hb, r⟩, h2, h3⟩ := h; exact ⟨D, ⟨es, clock, k.heap hb hn, r⟩, h2, h3⟩
theorem MapIs.lt {w : World} {bm n : Nat} {M : Dig → Nat} (h : MapIs w bm M n) : bm < w.heap.size := by
  obtain ⟨D, ⟨es, clock, hb, r⟩, h2, h3⟩ := h; exact lt_of_block hb
theorem RkBlk.keep {S : List Nat} {w w' : World} {b : Nat} {P : List Place} {fv : Value} {bm : Nat} {budget total pinned : Int} (h : RkBlk w b P fv bm budget total pinned) (k : Keep S w w') (hn : b ∉ S) : RkBlk w' b P fv bm budget total pinned := ⟨h.1, k.blk h.2 hn⟩
theorem RkBlk.setTail {w : World} {b : Nat} {P : List Place} {fv : Value} {bm : Nat} {budget total pinned : Int} (h : RkBlk w b P fv bm budget total pinned) (k : Nat) (v : Value) (fv' : Value) (bm' : Nat) (budget' total' pinned' : Int)
    (e : ([fv, .map (some bm), .int .i64 budget, .int .i64 total, .int .i64 pinned] : List Value).set k v = [fv', .map (some bm'), .int .i64 budget', .int .i64 total', .int .i64 pinned']) : RkBlk (w.setCell ⟨b, 2405 + k, none⟩ v) b P fv' bm' budget' total' pinned' := by
  have hl : (rows Place.cells P).length = 2405 := by rw [rows_length Place.cells_length, h.1]
  refine ⟨h.1, ?_⟩; have := h.2.set (2405 + k) v; rwa [List.set_append_right _ _ (by omega), hl, Nat.add_sub_cancel_left, e] at this
structure RkW (w : World) (b : Nat) (P : List Place) (fv : Value) (bm : Nat) (budget total pinned : Int) (M : Dig → Nat) (I F : List Nat) : Prop where
  blk : RkBlk w b P fv bm budget total pinned
  map : MapIs w bm M I.length
  own : Own intC 1 0 3 w fv F
  ring : Ring P I F M
  ne : bm ≠ b
  nf : ∀ g, fv.ownBlock = some g → g ≠ b ∧ g ≠ bm
  tot : total = sumL (I.map (jarF P))
  use : pinned = usedL (I.map (jarF P))
  good : ∀ j ∈ I.map (jarF P), okJar j
def Rk (S : List Nat) (w : World) (b : Nat) (budget : Int) (L : List Jar) : Prop :=
  ∃ P fv bm total pinned M I F, RkW w b P fv bm budget total pinned M I F ∧ L = I.map (jarF P) ∧ b ∈ S ∧ bm ∈ S ∧ ∀ g, fv.ownBlock = some g → g ∈ S
def Grow (S : List Nat) (w : World) (S' : List Nat) (w' : World) : Prop := Keep S w w' ∧ ∀ k ∈ S', k ∈ S ∨ w.heap.size ≤ k
theorem Grow.refl (S : List Nat) (w : World) : Grow S w S w := ⟨Keep.refl _ _, fun _ h => .inl h⟩
theorem Grow.of {S : List Nat} {w w' : World} (k : Keep [] w w') : Grow S w S w' := ⟨k.mono (by simp), fun _ h => .inl h⟩
theorem Grow.trans {S S' S'' : List Nat} {w w' w'' : World} (h : Grow S w S' w') (k : Grow S' w' S'' w'') : Grow S w S'' w'' :=
  ⟨h.1.trans' k.1 (fun x hx hlt => by rcases h.2 x hx with e | e; exact e; omega), fun x hx => by
    rcases k.2 x hx with e | e
    · exact h.2 x e
    · exact .inr (Nat.le_trans h.1.size e)⟩
theorem Rk.keep {S T : List Nat} {w w' : World} {b : Nat} {budget : Int} {L : List Jar} (h : Rk S w b budget L) (k : Keep T w w') (hT : ∀ x ∈ S, x ∉ T) : Rk S w' b budget L := by
  obtain ⟨P, fv, bm, total, pinned, M, I, F, h1, h2, h3, h4, h5⟩ := h; exact ⟨P, fv, bm, total, pinned, M, I, F, ⟨h1.blk.keep k (hT _ h3), h1.map.keep k (hT _ h4), h1.own.keep k (fun g hg => hT _ (h5 g hg)), h1.ring, h1.ne, h1.nf, h1.tot, h1.use, h1.good⟩, h2, h3, h4, h5⟩
theorem Rk.keep0 {S : List Nat} {w w' : World} {b : Nat} {budget : Int} {L : List Jar} (h : Rk S w b budget L) (k : Keep [] w w') : Rk S w' b budget L := h.keep k (by simp)
theorem Rk.digs {S : List Nat} {w : World} {b : Nat} {budget : Int} {L : List Jar} (h : Rk S w b budget L) : (L.map (·.dig)).Nodup := by
  obtain ⟨P, fv, bm, total, pinned, M, I, F, h1, rfl, _⟩ := h; exact h1.ring.digs
theorem Rk.good {S : List Nat} {w : World} {b : Nat} {budget : Int} {L : List Jar} (h : Rk S w b budget L) : ∀ j ∈ L, okJar j := by
  obtain ⟨P, fv, bm, total, pinned, M, I, F, h1, rfl, _⟩ := h; exact h1.good
theorem Rk.most {S : List Nat} {w : World} {b : Nat} {budget : Int} {L : List Jar} (h : Rk S w b budget L) : L.length ≤ 64 := by
  obtain ⟨P, fv, bm, total, pinned, M, I, F, h1, rfl, _⟩ := h; have := h1.ring.count; simp; omega
section
variable {w : World} {b : Nat} {P : List Place} {fv : Value} {bm : Nat} {budget total pinned : Int} {M : Dig → Nat} {I F : List Nat}
theorem RkW.keep0 {w' : World} (h : RkW w b P fv bm budget total pinned M I F) (k : Keep [] w w') : RkW w' b P fv bm budget total pinned M I F :=
  ⟨h.blk.keep k (by simp), h.map.keep k (by simp), h.own.keep k (by simp), h.ring, h.ne, h.nf, h.tot, h.use, h.good⟩
theorem RkW.find {w' : World} (h : RkW w b P fv bm budget total pinned M I F) (k : Keep [] w w') (d : Dig) :
    Calls Tryz.prog 114 #[.pointer (some ⟨b, 0, none⟩), .agg (digC d).toArray] w' fun e w'' => e = .returned (.tuple #[.int .i64 (M d : Nat), .int .i64 (if M d = 0 then 7 else 0)]) ∧ Keep [] w' w'' :=
  rack_find b P fv bm budget total pinned M I.length d w' (h.blk.keep k (by simp)) (h.map.keep k (by simp))
end
theorem rack_Total {S : List Nat} (b : Nat) (budget : Int) (L : List Jar) (w : World) (h : Rk S w b budget L) :
    Calls Tryz.prog 67 #[.pointer (some ⟨b, 0, none⟩)] w fun e w' => e = .returned (.int .i64 (sumL L)) ∧ Keep [] w w' := by
  obtain ⟨P, fv, bm, total, pinned, M, I, F, h1, rfl, _⟩ := h; rw [← h1.tot]; have c : w.cell? ⟨b, 2408, none⟩ = some (.int .i64 total) := h1.blk.tail 3; clear h1; go_enter Tryz.func67, Tryz.ntmps67; go_wp2_with fail; go_ret; exact ⟨rfl, Keep.refl _ _⟩
theorem MapIs.len {w : World} {bm n : Nat} {M : Dig → Nat} (h : MapIs w bm M n) (ty : TypeId) : (Builtin.len_ #[137] ty #[.map (some bm)]).run Tryz.prog w = .ok (.int .i64 (n : Nat)) w := by
  obtain ⟨D, hown, hs, _⟩ := h; rw [hown.len Tryz.underlying137 ty, hs]
theorem rack_Len {S : List Nat} (b : Nat) (budget : Int) (L : List Jar) (w : World) (h : Rk S w b budget L) :
    Calls Tryz.prog 111 #[.pointer (some ⟨b, 0, none⟩)] w fun e w' => e = .returned (.int .i64 (L.length : Nat)) ∧ Keep [] w w' := by
  obtain ⟨P, fv, bm, total, pinned, M, I, F, h1, rfl, _⟩ := h; rw [List.length_map]; have c : w.cell? ⟨b, 2406, none⟩ = some (.map (some bm)) := h1.blk.tail 1; obtain ⟨D, hown, hs, _⟩ := h1.map; clear h1; go_enter Tryz.func111, Tryz.ntmps111; go_wp2_with (at_len; refine wpList_len_own _ rfl _ 137 rfl 25 3 Tryz.underlying137 _ bm _ D rfl hown ?_); go_ret; exact ⟨rfl, Keep.refl _ _⟩
def touchL (L : List Jar) (d : Dig) : List Jar := match findL L d with
  | none => L
  | some x => x :: restL L d
def hereE (L : List Jar) (d : Dig) : Int := match findL L d with
  | none => 7
  | some _ => 0
theorem sum_rest : ∀ (L : List Jar) (d : Dig) (x : Jar), (L.map (·.dig)).Nodup → findL L d = some x → ∀ f : Jar → Int, (L.map f).sum = f x + ((restL L d).map f).sum
  | [], d, x, _, h, f => by simp [findL] at h
  | y :: r, d, x, hn, h, f => by
    rw [List.map_cons, List.nodup_cons] at hn; by_cases e : y.dig = d
    · have hx : y = x := by simpa [findL, e] using h
      have hr : restL (y :: r) d = r := by
        unfold restL; rw [List.filter_cons_of_neg (by simp [e]), List.filter_eq_self]; intro z hz; simp only [Bool.not_eq_true', decide_eq_false_iff_not]; intro e2; exact hn.1 (List.mem_map.2 ⟨z, hz, by rw [e2, e]⟩)
      rw [hr, ← hx]; simp
    · have h' : findL r d = some x := by
        unfold findL at h ⊢; rw [List.find?_cons_of_neg (by simp [e])] at h; exact h
      have hr : restL (y :: r) d = y :: restL r d := by
        unfold restL; rw [List.filter_cons_of_pos (by simp [e])]
      rw [hr]; have ih := sum_rest r d x hn.2 h' f; simp only [List.map_cons, List.sum_cons]; omega
theorem find_mem {L : List Jar} {d : Dig} {x : Jar} (h : findL L d = some x) : x ∈ L ∧ x.dig = d := ⟨List.mem_of_find?_eq_some h, by have := List.find?_some h; simpa using this⟩
theorem rest_mem {L : List Jar} {d : Dig} {x : Jar} (h : x ∈ restL L d) : x ∈ L := (List.mem_filter.1 h).1
theorem rack_Touch {S : List Nat} (b : Nat) (budget : Int) (L : List Jar) (d : Dig) (w : World) (h : Rk S w b budget L) :
    Calls Tryz.prog 132 #[.pointer (some ⟨b, 0, none⟩), .agg (digC d).toArray] w fun e w' => e = .returned (.int .i64 (hereE L d)) ∧ Rk S w' b budget (touchL L d) ∧ Keep S w w' := by
  have h' := h; obtain ⟨P, fv, bm, total, pinned, M, I, F, h1, hL, m1, m2, m3⟩ := h; have hkA := (Keep.refl [] w).alloc (.cells (digC d).toArray 25); have hbA := Blk.newA w (digC d).toArray 25; have hF := h1.find hkA d
  have hrg : (w.alloc (.cells (digC d).toArray 25)).rangeAt w.heap.size 0 (digC d) := fun j v hv => by
    rw [Nat.zero_add]; exact hbA.get (by simpa using hv)
  have hdl : (Tryz.prog.info? 25).map (·.size) = some (digC d).length := by rw [digC_length]; exact dig_size
  have hA := h1.keep0 hkA; generalize hwA : w.alloc (.cells (digC d).toArray 25) = wA at hkA hrg hF hA; generalize digC d = dc at hrg hwA hdl hF; have HRG := Lib.hid hrg; have HDL := Lib.hid hdl; by_cases h0 : M d = 0
  · have hf := h1.ring.find_no h0; rw [← hL] at hf; have e1 : hereE L d = 7 := by unfold hereE; rw [hf]
    have e2 : touchL L d = L := by unfold touchL; rw [hf]
    rw [e1, e2]; rw [h0, if_pos rfl] at hF; have HF := Lib.hid hF; have HR := Lib.hid (And.intro h' hkA); clear h1 hL hrg hdl h0 hf e1 e2 hbA hA h' hF m1 m2 m3 hkA; go_enter Tryz.func132, Tryz.ntmps132
    go_wp2_with (first | (refine wpList_load_mid rfl 25 (.tmp 3) rfl w.heap.size 0 (by rfl) dc _ HRG.out Tryz.underlying25 rfl HDL.out ?_) | fail)
    (try simp only [sq]); (try go_wp2_with fail); refine HF.out.mono ?_; rintro e w1 ⟨rfl, hk1⟩; go_wp2_with fail; go_ret; exact ⟨rfl, HR.out.1.keep0 (HR.out.2.trans hk1), (HR.out.2.trans hk1).mono (by simp)⟩
  · have hf := h1.ring.find_yes h0; have hm := h1.ring.m1 d h0; have ht := h1.ring.touch h0; have htw := h1.ring.two hm.1; have hb65 := h1.ring.at0 h0; have hgood := h1.good; have hdg := h1.ring.digs; have e1 : hereE L d = 0 := by unfold hereE; rw [hL, hf]
    have e2 : touchL L d = jarF P (M d) :: restL (I.map (jarF P)) d := by unfold touchL; rw [hL, hf]
    have htot := sum_rest _ d _ hdg hf; rw [e1, e2, ← ht.2.1]; rw [if_neg h0] at hF; have HT := Lib.hid (And.intro ht (And.intro htot (And.intro hgood hf))); have hprm : M d :: I.filter (fun k => !decide (k = M d)) |>.Perm I := (h1.ring.unlink h0).2.2.2; have HPR := Lib.hid hprm; generalize M d = i at hF ht htw hb65 hm HT HPR ⊢; have HF := Lib.hid hF; have HR := Lib.hid (And.intro hA hkA); have HM := Lib.hid (And.intro m1 (And.intro m2 (And.intro m3 h1.ne))); have H65 := Lib.hid (And.intro hb65 (And.intro htw ht.2.2)); clear h1 hL hrg hdl h0 hf e1 e2 hbA hA h' hF m1 m2 m3 hkA hm ht htw hb65 hgood hdg htot hprm; go_enter Tryz.func132, Tryz.ntmps132
    go_wp2_with (first | (refine wpList_load_mid rfl 25 (.tmp 3) rfl w.heap.size 0 (by rfl) dc _ HRG.out Tryz.underlying25 rfl HDL.out ?_) | fail)
    (try simp only [sq]); (try go_wp2_with fail); refine HF.out.mono ?_; rintro e w1 ⟨rfl, hk1⟩; go_wp2_with fail; have hR1 := HR.out.1.keep0 hk1; refine (rack_unlink b P fv bm budget total pinned i w1 hR1.blk H65.out.1 H65.out.2.1.1 H65.out.2.1.2.1).mono ?_; rintro e w2 ⟨rfl, hb2, hk2⟩; go_wp2_with fail; refine (rack_link b _ fv bm budget total pinned i w2 hb2 H65.out.1 H65.out.2.2).mono ?_; rintro e w3 ⟨rfl, hb3, hk3⟩; go_wp2_with fail; go_ret; have hk13 := hk2.trans hk3; have hmn : bm ∉ [b] := by simp; exact HM.out.2.2.2
    have hkS : Keep S w w3 := ((HR.out.2.trans hk1).mono (by simp)).trans' hk13 (by have := HM.out.1; intro x hx _; simp at hx; rw [hx]; exact this); obtain ⟨ht, htot, hgood, hf⟩ := HT.out; refine ⟨rfl, ⟨_, fv, bm, total, pinned, M, _, F, ⟨hb3, ?_, hR1.own.keep hk13 (fun g hg => by simp; exact (hR1.nf g hg).1), ht.1, hR1.ne, hR1.nf, ?_, ?_, ?_⟩, rfl, HM.out.1, HM.out.2.1, HM.out.2.2.1⟩, hkS⟩
    · have := hR1.map.keep hk13 hmn; rwa [← HPR.out.length_eq] at this
    · rw [ht.2.1, hR1.tot]; unfold sumL; rw [htot (·.size)]; simp
    · rw [ht.2.1, hR1.use]; unfold usedL; rw [htot]; simp
    · rw [ht.2.1]; intro j hj; rcases List.mem_cons.1 hj with rfl | hj
      · exact hgood _ (find_mem hf).1
      · exact hgood _ (rest_mem hj)
end Go.Proofs.YtkghgaopcgcheaaGreatDoor
namespace Go.Proofs.YtkghgaopcgcheaaGreatDoor
open Go.RowKit Go.Maps
theorem sum_bound (f : Jar → Int) (m : Int) : ∀ (L : List Jar), (∀ j ∈ L, 0 ≤ f j ∧ f j ≤ m) → 0 ≤ (L.map f).sum ∧ (L.map f).sum ≤ m * L.length
  | [], _ => by simp
  | x :: r, h => by
    have h1 := h x (by simp); have h2 := sum_bound f m r (fun j hj => h j (by simp [hj])); simp only [List.map_cons, List.sum_cons, List.length_cons, Int.natCast_add]; rw [Int.mul_add]; simp only [Int.natCast_one, Int.mul_one]; omega
theorem used_bound {L : List Jar} (h : ∀ j ∈ L, okJar j) (hl : L.length ≤ 64) : 0 ≤ usedL L ∧ usedL L ≤ 67108864 := by
  have := sum_bound (fun x => if x.pins > 0 then x.size else 0) 1048576 L (fun j hj => by
    obtain ⟨_, h1, h2, _⟩ := h j hj
    split <;> omega)
  unfold usedL; omega
theorem size_bound {L : List Jar} (h : ∀ j ∈ L, okJar j) (hl : L.length ≤ 64) : 0 ≤ sumL L ∧ sumL L ≤ 67108864 := by
  have := sum_bound (·.size) 1048576 L (fun j hj => by
    obtain ⟨_, h1, h2, _⟩ := h j hj; exact ⟨h1, h2⟩)
  unfold sumL; omega
theorem rest_pins : ∀ (L : List Jar) (d : Dig) (n : Int), restL (pinsL L d n) d = restL L d
  | [], d, n => rfl
  | x :: r, d, n => by
    have ih := rest_pins r d n; unfold restL pinsL at *; by_cases e : x.dig = d
    · simp [e, ih]
    · simp [e, ih]
theorem digs_pins (L : List Jar) (d : Dig) (n : Int) : (pinsL L d n).map (·.dig) = L.map (·.dig) := by
  unfold pinsL; rw [List.map_map]; apply List.map_congr_left; intro x _; simp only [Function.comp_apply]
  split <;> rfl
theorem find_pins : ∀ (L : List Jar) (d : Dig) (n : Int) (x : Jar), findL L d = some x → findL (pinsL L d n) d = some { x with pins := n }
  | [], d, n, x, h => by simp [findL] at h
  | y :: r, d, n, x, h => by
    by_cases e : y.dig = d
    · have hx : y = x := by simpa [findL, e] using h
      subst hx; simp [findL, pinsL, e]
    · have h' : findL r d = some x := by simpa [findL, e] using h
      have ih := find_pins r d n x h'; unfold findL pinsL at *; simp [e]; simpa using ih
theorem sum_pins (L : List Jar) (d : Dig) (n : Int) (x : Jar) (hd : (L.map (·.dig)).Nodup) (h : findL L d = some x) (f : Jar → Int) : ((pinsL L d n).map f).sum = f { x with pins := n } + ((restL L d).map f).sum := by
  have := sum_rest (pinsL L d n) d _ (by rw [digs_pins]; exact hd) (find_pins L d n x h) f; rw [rest_pins] at this; exact this
theorem good_pins {L : List Jar} {d : Dig} {n : Int} (h : ∀ j ∈ L, okJar j) (hn : 0 ≤ n ∧ n ≤ 1073741824) : ∀ j ∈ pinsL L d n, okJar j := by
  intro j hj; unfold pinsL at hj; obtain ⟨x, hx, rfl⟩ := List.mem_map.1 hj; have := h x hx
  split
  · exact ⟨this.1, this.2.1, this.2.2.1, hn⟩
  · exact this
def pinE (L : List Jar) (d : Dig) : Int := match findL L d with
  | none => 7
  | some x => if 1073741824 ≤ x.pins then 6 else 0
def pinL (L : List Jar) (d : Dig) : List Jar := match findL L d with
  | none => L
  | some x => if 1073741824 ≤ x.pins then L else pinsL L d (x.pins + 1)
theorem RkW.pins {w w1 : World} {b : Nat} {P : List Place} {fv : Value} {bm : Nat} {budget total pinned pinned' : Int} {M : Dig → Nat} {I F : List Nat} {d : Dig} {n : Int} (h : RkW w b P fv bm budget total pinned M I F) (h0 : M d ≠ 0) (hn : 0 ≤ n ∧ n ≤ 1073741824)
    (hb : RkBlk w1 b (P.set (M d) { P.getD (M d) default with jar := { jarF P (M d) with pins := n } }) fv bm budget total pinned') (k : Keep [b] w w1)
    (hu : pinned' = pinned - (if (jarF P (M d)).pins > 0 then (jarF P (M d)).size else 0) + (if n > 0 then (jarF P (M d)).size else 0)) :
    RkW w1 b (P.set (M d) { P.getD (M d) default with jar := { jarF P (M d) with pins := n } }) fv bm budget total pinned' M I F ∧ I.map (jarF (P.set (M d) { P.getD (M d) default with jar := { jarF P (M d) with pins := n } })) = pinsL (I.map (jarF P)) d n := by
  obtain ⟨hr, hl⟩ := h.ring.pins h0 n; have hf := h.ring.find_yes h0; have hd := h.ring.digs; refine ⟨⟨hb, h.map.keep k (by simp; exact h.ne), h.own.keep k (fun g hg => by simp; exact (h.nf g hg).1), hr, h.ne, h.nf, ?_, ?_, ?_⟩, hl⟩
  · rw [hl, h.tot]; unfold sumL; rw [sum_pins _ d n _ hd hf, sum_rest _ d _ hd hf]
  · rw [hl, hu, h.use]; unfold usedL; rw [sum_pins _ d n _ hd hf, sum_rest _ d _ hd hf]; simp only; omega
  · rw [hl]; exact good_pins h.good hn
theorem RkW.pin_done {S : List Nat} {w w1 w3 : World} {b : Nat} {P : List Place} {fv : Value} {bm : Nat} {budget total pinned pinned' : Int} {M : Dig → Nat} {I F : List Nat} {d : Dig} {p : Place} {i : Nat} (n : Int) (h : RkW w1 b P fv bm budget total pinned M I F)
    (hS : b ∈ S ∧ bm ∈ S ∧ ∀ g, fv.ownBlock = some g → g ∈ S) (hi : M d = i) (h0 : M d ≠ 0) (hp : P[i]? = some p) (hn : 0 ≤ n ∧ n ≤ 1073741824) (hb : RkBlk w3 b (P.set i { p with jar := { p.jar with pins := n } }) fv bm budget total pinned') (k : Keep [b] w1 w3)
    (hu : pinned' = pinned - (if p.jar.pins > 0 then p.jar.size else 0) + (if n > 0 then p.jar.size else 0)) (k0 : Keep [] w w1) : Rk S w3 b budget (pinsL (I.map (jarF P)) d n) ∧ Keep S w w3 := by
  subst hi; have hpj : jarF P (M d) = p.jar := by unfold jarF; rw [getD_get hp]
  have := h.pins (d := d) (n := n) (w1 := w3) (pinned' := pinned') h0 hn (by rw [getD_get hp, hpj]; exact hb) k (by rw [hpj]; exact hu); refine ⟨⟨_, fv, bm, total, pinned', M, I, F, this.1, this.2.symm, hS.1, hS.2.1, hS.2.2⟩, (k0.mono (by simp)).trans' k ?_⟩; intro x hx _; simp at hx; rw [hx]; exact hS.1
theorem rack_Pin {S : List Nat} (b : Nat) (budget : Int) (L : List Jar) (d : Dig) (w : World) (h : Rk S w b budget L) :
    Calls Tryz.prog 57 #[.pointer (some ⟨b, 0, none⟩), .agg (digC d).toArray] w fun e w' => e = .returned (.int .i64 (pinE L d)) ∧ Rk S w' b budget (pinL L d) ∧ Keep S w w' := by
  have h' := h; obtain ⟨P, fv, bm, total, pinned, M, I, F, h1, hL, m1, m2, m3⟩ := h; have hkA := (Keep.refl [] w).alloc (.cells (digC d).toArray 25); have hbA := Blk.newA w (digC d).toArray 25; have hF := h1.find hkA d
  have hrg : (w.alloc (.cells (digC d).toArray 25)).rangeAt w.heap.size 0 (digC d) := fun j v hv => by
    rw [Nat.zero_add]; exact hbA.get (by simpa using hv)
  have hdl : (Tryz.prog.info? 25).map (·.size) = some (digC d).length := by rw [digC_length]; exact dig_size
  have hA := h1.keep0 hkA; generalize hwA : w.alloc (.cells (digC d).toArray 25) = wA at hkA hrg hF hA; generalize digC d = dc at hrg hwA hdl hF; have HRG := Lib.hid hrg; have HDL := Lib.hid hdl; by_cases h0 : M d = 0
  · have hf := h1.ring.find_no h0; rw [← hL] at hf; have e1 : pinE L d = 7 := by unfold pinE; rw [hf]
    have e2 : pinL L d = L := by unfold pinL; rw [hf]
    rw [e1, e2]; rw [h0, if_pos rfl] at hF; have HF := Lib.hid hF; have HR := Lib.hid (And.intro h' hkA); clear h1 hL hrg hdl h0 hf e1 e2 hbA hA h' hF m1 m2 m3 hkA; go_enter Tryz.func57, Tryz.ntmps57
    go_wp2_with (first | (refine wpList_load_mid rfl 25 (.tmp 3) rfl w.heap.size 0 (by rfl) dc _ HRG.out Tryz.underlying25 rfl HDL.out ?_) | fail)
    (try simp only [sq]); (try go_wp2_with fail); refine HF.out.mono ?_; rintro e w1 ⟨rfl, hk1⟩; go_wp2_with fail; go_ret; exact ⟨rfl, HR.out.1.keep0 (HR.out.2.trans hk1), (HR.out.2.trans hk1).mono (by simp)⟩
  · have hf := h1.ring.find_yes h0; have hb65 := h1.ring.at0 h0; obtain ⟨p, hp⟩ : ∃ p, P[M d]? = some p := ⟨_, List.getElem?_eq_getElem (by have := h1.ring.len; omega)⟩
    have hpj : jarF P (M d) = p.jar := by unfold jarF; rw [getD_get hp]
    have hok := h1.good _ (find_mem hf).1; rw [hpj] at hok hf; have hub := used_bound h1.good (by have := h1.ring.count; simp; omega); rw [← h1.use] at hub
    have hus : 0 < p.jar.pins → p.jar.size ≤ pinned := fun hpp => by
      have := sum_rest _ d _ h1.ring.digs hf (fun x => if x.pins > 0 then x.size else 0)
      have hb := sum_bound (fun x => if x.pins > 0 then x.size else 0) 1048576 (restL (I.map (jarF P)) d) (fun j hj => by
        obtain ⟨_, h1, h2, _⟩ := h1.good j (rest_mem hj)
        split <;> omega)
      rw [h1.use]; unfold usedL; rw [this, if_pos hpp]; omega
    have e1 : pinE L d = if 1073741824 ≤ p.jar.pins then 6 else 0 := by unfold pinE; rw [hL, hf]
    have e2 : pinL L d = if 1073741824 ≤ p.jar.pins then L else pinsL (I.map (jarF P)) d (p.jar.pins + 1) := by unfold pinL; rw [hL, hf]
    rw [if_neg h0] at hF; obtain ⟨i, hMd⟩ : ∃ i, M d = i := ⟨_, rfl⟩
    have HMD := Lib.hid (And.intro hMd h0); rw [hMd] at hF hb65 hp hpj; have HF := Lib.hid hF; have HR := Lib.hid (And.intro hA hkA); have HM := Lib.hid (And.intro m1 (And.intro m2 m3)); have HH := Lib.hid h'; have HP := Lib.hid (And.intro hp hok); have hi0 : (0 : Int) ≤ (i : Int) := by omega
    have hi1 : (i : Int) < 65 := by omega
    have HE := Lib.hid (And.intro e1 e2); clear h1 hL hrg hdl h0 hf e1 e2 hbA hA h' hF m1 m2 m3 hkA hb65 hp hpj hok hMd; obtain ⟨pn, hpn⟩ : ∃ pn, pn = p.jar.pins := ⟨_, rfl⟩
    obtain ⟨ps, hps⟩ : ∃ ps, ps = p.jar.size := ⟨_, rfl⟩
    rw [← hpn, ← hps] at hus; rw [← hpn] at HE; have HPP := Lib.hid (And.intro hpn hps); obtain ⟨_, hs1, hs2, hp1, hp2⟩ := HP.out.2; rw [← hpn] at hp1 hp2; rw [← hps] at hs1 hs2; clear hpn hps; go_enter Tryz.func57, Tryz.ntmps57
    go_wp2_with (first | (refine wpList_load_mid rfl 25 (.tmp 3) rfl w.heap.size 0 (by rfl) dc _ HRG.out Tryz.underlying25 rfl HDL.out ?_) | fail)
    (try simp only [sq]); (try go_wp2_with fail); refine HF.out.mono ?_; rintro e w1 ⟨rfl, hk1⟩; have hR1 := HR.out.1.keep0 hk1; have hk01 := HR.out.2.trans hk1; have c33 := hR1.blk.cell HP.out.1 33 (by omega); have c34 := hR1.blk.cell HP.out.1 34 (by omega); rw [Place.at33, ← HPP.out.2] at c33; rw [Place.at34, ← HPP.out.1] at c34; have c9 : w1.cell? ⟨b, 2409, none⟩ = some (.int .i64 pinned) := hR1.blk.tail 4; have hfr := hR1.blk.2.frozen; have HB1 := Lib.hid hR1; have HK1 := Lib.hid hk01; clear hR1 hk01 hk1 HR; by_cases hmx : 1073741824 ≤ pn
    · go_wp2_with fail; go_ret; exact ⟨ret_int (HE.out.1.trans (if_pos hmx)).symm, by rw [HE.out.2, if_pos hmx]; exact HH.out.keep0 HK1.out, HK1.out.mono (by simp)⟩
    · have HE1 := Lib.hid (HE.out.1.trans (if_neg hmx)); have HE2 := Lib.hid (HE.out.2.trans (if_neg hmx)); have w1p := IntWalk.i64_in (pn + 1) (by omega); have w2p := IntWalk.i64_in (pinned + ps) (by omega); have hmx' : decide (pn ≥ 1073741824) = false := by simp; omega
      by_cases hz : pn = 0
      · have hq : (pn == 0) = true := by simp [hz]
        have HZ := Lib.hid hz; have HX := Lib.hid hmx; clear hz hmx; go_wp2_with fail
        go_region
        all_goals go_wp2_with fail
        go_ret; refine ⟨ret_int HE1.out.symm, ?_⟩; rw [HE2.out]; have hz := HZ.out
        first | have hx := HX.out | skip
        have hb0 := HB1.out.blk; have hb1 := hb0.setTail 4 (.int .i64 (pinned + ps)) fv bm budget total (pinned + ps) rfl; have hb2 := hb1.setP (q := { p with jar := { p.jar with pins := pn + 1 } }) HP.out.1 34 (by omega) (.int .i64 (pn + 1)) (Place.set34 p (pn + 1)); refine HB1.out.pin_done (pn + 1) HM.out HMD.out.1 HMD.out.2 HP.out.1 (by omega) hb2 (((Keep.refl [b] w1).setCell _ _ (by simp)).setCell _ _ (by simp)).drew ?_ HK1.out; rw [← HPP.out.1, ← HPP.out.2]
        split <;> split <;> omega
      · have hq : (pn == 0) = false := by simp [hz]
        have HZ := Lib.hid hz; have HX := Lib.hid hmx; clear hz hmx; go_wp2_with fail; go_ret; refine ⟨ret_int HE1.out.symm, ?_⟩; rw [HE2.out]; have hz := HZ.out
        first | have hx := HX.out | skip
        have hb0 := HB1.out.blk; have hb1 := hb0.setP (q := { p with jar := { p.jar with pins := pn + 1 } }) HP.out.1 34 (by omega) (.int .i64 (pn + 1)) (Place.set34 p (pn + 1)); refine HB1.out.pin_done (pn + 1) HM.out HMD.out.1 HMD.out.2 HP.out.1 (by omega) hb1 ((Keep.refl [b] w1).setCell _ _ (by simp)) ?_ HK1.out; rw [← HPP.out.1, ← HPP.out.2]
        split <;> split <;> omega
def jar0 : Jar := ⟨⟨List.replicate 32 0, by simp⟩, [], 0, 0⟩
theorem eqJ8 (t : TypeId) : Obj.cells #[Value.int IntKind.u8 0, Value.int IntKind.u8 0, Value.int IntKind.u8 0, Value.int IntKind.u8 0, Value.int IntKind.u8 0, Value.int IntKind.u8 0, Value.int IntKind.u8 0, Value.int IntKind.u8 0, Value.int IntKind.u8 0, Value.int IntKind.u8 0, Value.int IntKind.u8 0, Value.int IntKind.u8 0, Value.int IntKind.u8 0, Value.int IntKind.u8 0, Value.int IntKind.u8 0, Value.int IntKind.u8 0, Value.int IntKind.u8 0, Value.int IntKind.u8 0, Value.int IntKind.u8 0, Value.int IntKind.u8 0, Value.int IntKind.u8 0, Value.int IntKind.u8 0, Value.int IntKind.u8 0, Value.int IntKind.u8 0, Value.int IntKind.u8 0, Value.int IntKind.u8 0, Value.int IntKind.u8 0, Value.int IntKind.u8 0, Value.int IntKind.u8 0, Value.int IntKind.u8 0, Value.int IntKind.u8 0, Value.int IntKind.u8 0, Value.string { data := #[] }, Value.int IntKind.i64 0, Value.int IntKind.i64 0] t = Obj.cells jar0.cells.toArray t := rfl
def dig0 : Dig := ⟨List.replicate 32 0, by simp⟩
theorem jar0_cells : jar0.cells.toArray = #[.int .u8 0, .int .u8 0, .int .u8 0, .int .u8 0, .int .u8 0, .int .u8 0, .int .u8 0, .int .u8 0, .int .u8 0, .int .u8 0, .int .u8 0, .int .u8 0, .int .u8 0, .int .u8 0, .int .u8 0, .int .u8 0, .int .u8 0, .int .u8 0, .int .u8 0, .int .u8 0, .int .u8 0, .int .u8 0, .int .u8 0, .int .u8 0, .int .u8 0, .int .u8 0, .int .u8 0, .int .u8 0, .int .u8 0, .int .u8 0, .int .u8 0, .int .u8 0, .string ⟨#[]⟩, .int .i64 0, .int .i64 0] := by kernel_rfl
theorem dig0_cells : (digC dig0).toArray = #[.int .u8 0, .int .u8 0, .int .u8 0, .int .u8 0, .int .u8 0, .int .u8 0, .int .u8 0, .int .u8 0, .int .u8 0, .int .u8 0, .int .u8 0, .int .u8 0, .int .u8 0, .int .u8 0, .int .u8 0, .int .u8 0, .int .u8 0, .int .u8 0, .int .u8 0, .int .u8 0, .int .u8 0, .int .u8 0, .int .u8 0, .int .u8 0, .int .u8 0, .int .u8 0, .int .u8 0, .int .u8 0, .int .u8 0, .int .u8 0, .int .u8 0, .int .u8 0] := by kernel_rfl
theorem Blk.there {w : World} {b : Nat} {T : TypeId} {xs : List Value} (h : Blk w b T xs) (o n : Nat) (hl : o + n ≤ xs.length) : w.there b o n := fun j hj =>
  ⟨by rw [h.cell, List.getElem?_eq_getElem (by omega)]; rfl, h.frozen _⟩
theorem Blk.rangeAt {w : World} {b : Nat} {T : TypeId} {xs : List Value} (h : Blk w b T xs) : w.rangeAt b 0 xs := fun j v hv => by rw [Nat.zero_add]; exact h.get hv
theorem Keep.setCells {S : List Nat} {a : World} (b : Nat) (hb : b < a.heap.size → b ∈ S) : ∀ (vs : List Value) (o : Nat) (w : World), Keep S a w → Keep S a (w.setCells b o vs)
  | [], _, _, h => h
  | v :: r, o, w, h => by
    rw [World.setCells]; exact Keep.setCells b hb r (o + 1) _ (h.setCell _ _ hb)
def getJ (L : List Jar) (d : Dig) : Jar := (findL L d).getD jar0
def hasJ (L : List Jar) (d : Dig) : Bool := (findL L d).isSome
theorem rack_Get {S : List Nat} (b : Nat) (budget : Int) (L : List Jar) (d : Dig) (w : World) (h : Rk S w b budget L) :
    Calls Tryz.prog 56 #[.pointer (some ⟨b, 0, none⟩), .agg (digC d).toArray] w fun e w' => e = .returned (.tuple #[.agg (getJ L d).cells.toArray, .bool (hasJ L d)]) ∧ Keep [] w w' := by
  obtain ⟨P, fv, bm, total, pinned, M, I, F, h1, hL, m1, m2, m3⟩ := h; have hkA := ((Keep.refl [] w).alloc (.cells (digC d).toArray 25)).alloc (.cells jar0.cells.toArray 63); have hbA := (Blk.newA w (digC d).toArray 25).alloc (.cells jar0.cells.toArray 63); have hbR := Blk.newA (w.alloc (.cells (digC d).toArray 25)) jar0.cells.toArray 63; have hsz : (w.alloc (.cells (digC d).toArray 25)).heap.size = w.heap.size + 1 := by simp
  rw [hsz] at hbR; have hF := h1.find hkA d; have hA := h1.keep0 hkA; rw [jar0_cells] at hkA hbA hbR hF hA; have hrg := hbA.rangeAt; have hdl : (Tryz.prog.info? 25).map (·.size) = some (digC d).length := by rw [digC_length]; exact dig_size
  generalize hwA : (w.alloc (.cells (digC d).toArray 25)).alloc (.cells #[.int .u8 0, .int .u8 0, .int .u8 0, .int .u8 0, .int .u8 0, .int .u8 0, .int .u8 0, .int .u8 0, .int .u8 0, .int .u8 0, .int .u8 0, .int .u8 0, .int .u8 0, .int .u8 0, .int .u8 0, .int .u8 0, .int .u8 0, .int .u8 0, .int .u8 0, .int .u8 0, .int .u8 0, .int .u8 0, .int .u8 0, .int .u8 0, .int .u8 0, .int .u8 0, .int .u8 0, .int .u8 0, .int .u8 0, .int .u8 0, .int .u8 0, .int .u8 0, .string ⟨#[]⟩, .int .i64 0, .int .i64 0] 63) = wA at hkA hrg hF hA hbR; generalize digC d = dc at hrg hwA hdl hF; have HRG := Lib.hid hrg; have HDL := Lib.hid hdl; rw [← jar0_cells] at hbR; have HBR := Lib.hid hbR; have HKA := Lib.hid hkA; have HS := Lib.hid (And.intro (show (Tryz.prog.info? 63).map (·.size) = some jar0.cells.toArray.size by rw [List.size_toArray, Jar.cells_length]; exact jar_size) (all_oneCell_toArray jar0.one)); by_cases h0 : M d = 0
  · have hf := h1.ring.find_no h0; rw [← hL] at hf; have e1 : getJ L d = jar0 := by unfold getJ; rw [hf]; rfl
    have e2 : hasJ L d = false := by unfold hasJ; rw [hf]; rfl
    rw [e1, e2]; rw [h0, if_pos rfl] at hF; have HF := Lib.hid hF; clear h1 hL hrg hdl h0 hf e1 e2 hbA hA hF m1 m2 m3 hkA hbR; go_enter Tryz.func56, Tryz.ntmps56
    go_wp2_with (first | (refine wpList_load_mid rfl 25 (.tmp 3) rfl w.heap.size 0 (by rfl) dc _ HRG.out Tryz.underlying25 rfl HDL.out ?_) | fail)
    (try simp only [sq]); (try go_wp2_with fail); refine HF.out.mono ?_; rintro e w1 ⟨rfl, hk1⟩; have hb1 := Lib.hid (hk1.blk HBR.out (by simp))
    go_wp2_with (first | (refine wpList_store_mid rfl 63 (.tmp 4) (.tmp 16) rfl (w.heap.size + 1) 0 jar0.cells.toArray (by rfl) (by first | rfl | kernel_rfl) (hb1.out.there 0 _ (by simp)) HS.out.1 HS.out.2 ?_) | fail); have hr := World.rangeAt_setCells_same w1 (w.heap.size + 1) 0 jar0.cells (hb1.out.there 0 _ (by simp [Jar.cells_length])); have hload := run_loadVar_mid (P := Tryz.prog) (w1.setCells (w.heap.size + 1) 0 jar0.cells) (w.heap.size + 1) 0 63 jar0.cells _ hr Tryz.underlying63 rfl (by rw [Jar.cells_length]; exact jar_size); refine bodyPost_ret (v := .tuple #[.agg jar0.cells.toArray, .bool false]) (by simp [results, Tryz.results56, asAddr, Result.andThen, hload]) rfl ⟨rfl, ?_⟩; exact Keep.setCells _ (by omega) _ _ _ (HKA.out.trans hk1)
  · have hf := h1.ring.find_yes h0; have hb65 := h1.ring.at0 h0; obtain ⟨p, hp⟩ : ∃ p, P[M d]? = some p := ⟨_, List.getElem?_eq_getElem (by have := h1.ring.len; omega)⟩
    have hpj : jarF P (M d) = p.jar := by unfold jarF; rw [getD_get hp]
    rw [hpj] at hf; have e1 : getJ L d = p.jar := by unfold getJ; rw [hL, hf]; rfl
    have e2 : hasJ L d = true := by unfold hasJ; rw [hL, hf]; rfl
    rw [e1, e2]; rw [if_neg h0] at hF; generalize M d = i at hF hb65 hp hpj; have HF := Lib.hid hF; have HR := Lib.hid hA; have HP := Lib.hid hp; have hi0 : (0 : Int) ≤ (i : Int) := by omega
    have hi1 : (i : Int) < 65 := by omega
    have HL := Lib.hid (show (Tryz.prog.info? 63).map (·.size) = some p.jar.cells.length by rw [Jar.cells_length]; exact jar_size); have HL2 := Lib.hid (show (Tryz.prog.info? 63).map (·.size) = some p.jar.cells.toArray.size by rw [List.size_toArray, Jar.cells_length]; exact jar_size); have H1 := Lib.hid (all_oneCell_toArray p.jar.one); clear h1 hL hrg hdl h0 hf e1 e2 hbA hA hF m1 m2 m3 hkA hbR hb65 hp hpj; go_enter Tryz.func56, Tryz.ntmps56
    go_wp2_with (first | (refine wpList_load_mid rfl 25 (.tmp 3) rfl w.heap.size 0 (by rfl) dc _ HRG.out Tryz.underlying25 rfl HDL.out ?_) | fail)
    (try simp only [sq]); (try go_wp2_with fail); refine HF.out.mono ?_; rintro e w1 ⟨rfl, hk1⟩; have hb1 := Lib.hid (hk1.blk HBR.out (by simp)); have hR1 := (HR.out.keep0 hk1).blk.range HP.out
    have hR2 : Hid (w1.rangeAt b (i * 37) p.jar.cells) := fun j v hv => by
      refine hR1 j v ?_; unfold Place.cells; rw [List.getElem?_append_left (List.getElem?_eq_some_iff.1 hv).1]; exact hv
    clear hR1; go_wp2_with (first | (refine wpList_load_mid rfl 63 (.tmp 22) rfl b (i * 37) (by rfl) p.jar.cells _ hR2.out Tryz.underlying63 rfl HL.out ?_) | (refine wpList_store_mid rfl 63 (.tmp 4) (.tmp 23) rfl (w.heap.size + 1) 0 p.jar.cells.toArray (by rfl) (by rfl) (hb1.out.there 0 _ (by simp [Jar.cells_length])) HL2.out H1.out ?_) | fail)
    (try simp only [sq]); (try go_wp2_with fail); have hwt : w1.there (w.heap.size + 1) 0 p.jar.cells.length := hb1.out.there 0 _ (by simp [Jar.cells_length]); have hr := World.rangeAt_setCells_same w1 (w.heap.size + 1) 0 p.jar.cells hwt; have hload := run_loadVar_mid (P := Tryz.prog) (w1.setCells (w.heap.size + 1) 0 p.jar.cells) (w.heap.size + 1) 0 63 p.jar.cells _ hr Tryz.underlying63 rfl (by rw [Jar.cells_length]; exact jar_size); refine bodyPost_ret (v := .tuple #[.agg p.jar.cells.toArray, .bool true]) (by simp [results, Tryz.results56, asAddr, Result.andThen, hload]) rfl ⟨rfl, ?_⟩; exact Keep.setCells _ (by omega) _ _ _ (HKA.out.trans hk1)
end Go.Proofs.YtkghgaopcgcheaaGreatDoor
