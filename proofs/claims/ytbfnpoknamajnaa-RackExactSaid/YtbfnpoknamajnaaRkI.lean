/- Layer 21: the rack as a list of jars; Len, Total, Pinned, Touch. No conditions. -/
import Derived.Test.YtbfnpoknamajnaaRkL
namespace Go.Proofs.Ytbfnpoknamajnaa
open Go.RowKit Go.Maps

theorem MapIs.keep {S : List Nat} {w w' : World} {bm n : Nat} {M : Dig → Nat} (h : MapIs w bm M n) (k : Keep S w w') (hn : bm ∉ S) : MapIs w' bm M n := by
  obtain ⟨D, ⟨es, clock, hb, r⟩, h2, h3⟩ := h
  exact ⟨D, ⟨es, clock, k.heap hb hn, r⟩, h2, h3⟩
theorem MapIs.lt {w : World} {bm n : Nat} {M : Dig → Nat} (h : MapIs w bm M n) : bm < w.heap.size := by
  obtain ⟨D, ⟨es, clock, hb, r⟩, h2, h3⟩ := h
  exact lt_of_block hb
theorem RkBlk.keep {S : List Nat} {w w' : World} {b : Nat} {P : List Place} {fv : Value} {bm : Nat} {budget total pinned : Int} (h : RkBlk w b P fv bm budget total pinned) (k : Keep S w w') (hn : b ∉ S) : RkBlk w' b P fv bm budget total pinned := ⟨h.1, k.blk h.2 hn⟩
theorem RkBlk.drew' {w : World} {b : Nat} {P : List Place} {fv : Value} {bm : Nat} {budget total pinned : Int} (h : RkBlk w b P fv bm budget total pinned) : RkBlk w.drew b P fv bm budget total pinned := h
theorem RkBlk.setTail {w : World} {b : Nat} {P : List Place} {fv : Value} {bm : Nat} {budget total pinned : Int} (h : RkBlk w b P fv bm budget total pinned) (k : Nat) (v : Value) (fv' : Value) (bm' : Nat) (budget' total' pinned' : Int)
    (e : ([fv, .map (some bm), .int .i64 budget, .int .i64 total, .int .i64 pinned] : List Value).set k v = [fv', .map (some bm'), .int .i64 budget', .int .i64 total', .int .i64 pinned']) : RkBlk (w.setCell ⟨b, 2405 + k, none⟩ v) b P fv' bm' budget' total' pinned' := by
  have hl : (rows Place.cells P).length = 2405 := by rw [rows_length Place.cells_length, h.1]
  refine ⟨h.1, ?_⟩
  have := h.2.set (2405 + k) v
  rwa [List.set_append_right _ _ (by omega), hl, Nat.add_sub_cancel_left, e] at this

structure RkW (w : World) (b : Nat) (P : List Place) (fv : Value) (bm : Nat) (budget total pinned : Int) (M : Dig → Nat) (I F : List Nat) : Prop where
  blk : RkBlk w b P fv bm budget total pinned
  map : MapIs w bm M I.length
  own : Own intC 1 0 3 w fv F
  ring : Ring P I F M
  ne : bm ≠ b
  nf : ∀ g, fv.ownBlock = some g → g ≠ b ∧ g ≠ bm
  tot : total = sumL (I.map (jarF P))
  use : pinned = usedL (I.map (jarF P))
  good : ∀ j ∈ I.map (jarF P), okJar j
def Rk (S : List Nat) (w : World) (b : Nat) (budget : Int) (L : List Jar) : Prop :=
  ∃ P fv bm total pinned M I F, RkW w b P fv bm budget total pinned M I F ∧ L = I.map (jarF P) ∧ b ∈ S ∧ bm ∈ S ∧ ∀ g, fv.ownBlock = some g → g ∈ S
/-- only what belongs to the rack has turned -/
def Grow (S : List Nat) (w : World) (S' : List Nat) (w' : World) : Prop := Keep S w w' ∧ ∀ k ∈ S', k ∈ S ∨ w.heap.size ≤ k
theorem Grow.refl (S : List Nat) (w : World) : Grow S w S w := ⟨Keep.refl _ _, fun _ h => .inl h⟩
theorem Grow.of {S : List Nat} {w w' : World} (k : Keep [] w w') : Grow S w S w' := ⟨k.mono (by simp), fun _ h => .inl h⟩
theorem Grow.trans {S S' S'' : List Nat} {w w' w'' : World} (h : Grow S w S' w') (k : Grow S' w' S'' w'') : Grow S w S'' w'' :=
  ⟨h.1.trans' k.1 (fun x hx hlt => by rcases h.2 x hx with e | e; exact e; omega), fun x hx => by
    rcases k.2 x hx with e | e
    · exact h.2 x e
    · exact .inr (Nat.le_trans h.1.size e)⟩
theorem Rk.keep {S T : List Nat} {w w' : World} {b : Nat} {budget : Int} {L : List Jar} (h : Rk S w b budget L) (k : Keep T w w') (hT : ∀ x ∈ S, x ∉ T) : Rk S w' b budget L := by
  obtain ⟨P, fv, bm, total, pinned, M, I, F, h1, h2, h3, h4, h5⟩ := h
  exact ⟨P, fv, bm, total, pinned, M, I, F, ⟨h1.blk.keep k (hT _ h3), h1.map.keep k (hT _ h4), h1.own.keep k (fun g hg => hT _ (h5 g hg)), h1.ring, h1.ne, h1.nf, h1.tot, h1.use, h1.good⟩, h2, h3, h4, h5⟩
theorem Rk.keep0 {S : List Nat} {w w' : World} {b : Nat} {budget : Int} {L : List Jar} (h : Rk S w b budget L) (k : Keep [] w w') : Rk S w' b budget L := h.keep k (by simp)
theorem Rk.digs {S : List Nat} {w : World} {b : Nat} {budget : Int} {L : List Jar} (h : Rk S w b budget L) : (L.map (·.dig)).Nodup := by
  obtain ⟨P, fv, bm, total, pinned, M, I, F, h1, rfl, _⟩ := h
  exact h1.ring.digs
theorem Rk.good {S : List Nat} {w : World} {b : Nat} {budget : Int} {L : List Jar} (h : Rk S w b budget L) : ∀ j ∈ L, okJar j := by
  obtain ⟨P, fv, bm, total, pinned, M, I, F, h1, rfl, _⟩ := h
  exact h1.good
theorem Rk.most {S : List Nat} {w : World} {b : Nat} {budget : Int} {L : List Jar} (h : Rk S w b budget L) : L.length ≤ 64 := by
  obtain ⟨P, fv, bm, total, pinned, M, I, F, h1, rfl, _⟩ := h
  have := h1.ring.count
  simp; omega
section
variable {w : World} {b : Nat} {P : List Place} {fv : Value} {bm : Nat} {budget total pinned : Int} {M : Dig → Nat} {I F : List Nat}
theorem RkW.keep0 {w' : World} (h : RkW w b P fv bm budget total pinned M I F) (k : Keep [] w w') : RkW w' b P fv bm budget total pinned M I F :=
  ⟨h.blk.keep k (by simp), h.map.keep k (by simp), h.own.keep k (by simp), h.ring, h.ne, h.nf, h.tot, h.use, h.good⟩
theorem RkW.find {w' : World} (h : RkW w b P fv bm budget total pinned M I F) (k : Keep [] w w') (d : Dig) :
    Calls Try.prog 53 #[.pointer (some ⟨b, 0, none⟩), .agg (digC d).toArray] w' fun e w'' => e = .returned (.tuple #[.int .i64 (M d : Nat), .int .i64 (if M d = 0 then 7 else 0)]) ∧ Keep [] w' w'' :=
  rack_find b P fv bm budget total pinned M I.length d w' (h.blk.keep k (by simp)) (h.map.keep k (by simp))
end
theorem rack_find_nil (d : Array Value) (w : World) : Calls Try.prog 53 #[.pointer none, .agg d] w fun e w' => e = .returned (.tuple #[.int .i64 0, .int .i64 2]) ∧ Keep [] w w' := by
  go_enter Try.func53, Try.ntmps53
  go_wp2_with fail
  go_ret2
  exact ⟨rfl, by first | exact Keep.refl _ _ | exact (Keep.refl _ _).alloc _⟩

set_option maxHeartbeats 1000000 in
theorem rack_Total {S : List Nat} (b : Nat) (budget : Int) (L : List Jar) (w : World) (h : Rk S w b budget L) :
    Calls Try.prog 22 #[.pointer (some ⟨b, 0, none⟩)] w fun e w' => e = .returned (.int .i64 (sumL L)) ∧ Keep [] w w' := by
  obtain ⟨P, fv, bm, total, pinned, M, I, F, h1, rfl, _⟩ := h
  rw [← h1.tot]
  have c : w.cell? ⟨b, 2408, none⟩ = some (.int .i64 total) := h1.blk.tail 3
  clear h1
  go_enter Try.func22, Try.ntmps22
  go_wp2_with fail
  go_ret
  exact ⟨rfl, Keep.refl _ _⟩
set_option maxHeartbeats 1000000 in
theorem rack_Pinned {S : List Nat} (b : Nat) (budget : Int) (L : List Jar) (w : World) (h : Rk S w b budget L) :
    Calls Try.prog 45 #[.pointer (some ⟨b, 0, none⟩)] w fun e w' => e = .returned (.int .i64 (usedL L)) ∧ Keep [] w w' := by
  obtain ⟨P, fv, bm, total, pinned, M, I, F, h1, rfl, _⟩ := h
  rw [← h1.use]
  have c : w.cell? ⟨b, 2409, none⟩ = some (.int .i64 pinned) := h1.blk.tail 4
  clear h1
  go_enter Try.func45, Try.ntmps45
  go_wp2_with fail
  go_ret
  exact ⟨rfl, Keep.refl _ _⟩
theorem MapIs.len {w : World} {bm n : Nat} {M : Dig → Nat} (h : MapIs w bm M n) (ty : TypeId) : (Builtin.len_ #[95] ty #[.map (some bm)]).run Try.prog w = .ok (.int .i64 (n : Nat)) w := by
  obtain ⟨D, hown, hs, _⟩ := h
  rw [hown.len Try.underlying95 ty, hs]
set_option maxHeartbeats 1000000 in
theorem rack_Len {S : List Nat} (b : Nat) (budget : Int) (L : List Jar) (w : World) (h : Rk S w b budget L) :
    Calls Try.prog 21 #[.pointer (some ⟨b, 0, none⟩)] w fun e w' => e = .returned (.int .i64 (L.length : Nat)) ∧ Keep [] w w' := by
  obtain ⟨P, fv, bm, total, pinned, M, I, F, h1, rfl, _⟩ := h
  rw [List.length_map]
  have c : w.cell? ⟨b, 2406, none⟩ = some (.map (some bm)) := h1.blk.tail 1
  obtain ⟨D, hown, hs, _⟩ := h1.map
  clear h1
  go_enter Try.func21, Try.ntmps21
  go_wp2_with (at_len; refine wpList_len_own _ rfl _ 95 rfl 44 3 Try.underlying95 _ bm _ D rfl hown ?_)
  go_ret
  exact ⟨rfl, Keep.refl _ _⟩
/-- nil -/
theorem rack_nils (w : World) : (Calls Try.prog 21 #[.pointer none] w fun e w' => e = .returned (.int .i64 0) ∧ Keep [] w w') ∧ (Calls Try.prog 22 #[.pointer none] w fun e w' => e = .returned (.int .i64 0) ∧ Keep [] w w') ∧
    (Calls Try.prog 45 #[.pointer none] w fun e w' => e = .returned (.int .i64 0) ∧ Keep [] w w') ∧ (Calls Try.prog 47 #[.pointer none] w fun e w' => e = .returned (.slice none 0 0) ∧ Keep [] w w') := by
  refine ⟨?_, ?_, ?_, ?_⟩
  · go_enter Try.func21, Try.ntmps21
    go_wp2_with fail
    go_ret
    exact ⟨rfl, Keep.refl _ _⟩
  · go_enter Try.func22, Try.ntmps22
    go_wp2_with fail
    go_ret
    exact ⟨rfl, Keep.refl _ _⟩
  · go_enter Try.func45, Try.ntmps45
    go_wp2_with fail
    go_ret
    exact ⟨rfl, Keep.refl _ _⟩
  · go_enter Try.func47, Try.ntmps47
    go_wp2_with fail
    go_ret
    exact ⟨rfl, Keep.refl _ _⟩

def touchL (L : List Jar) (d : Dig) : List Jar := match findL L d with
  | none => L
  | some x => x :: restL L d
def hereE (L : List Jar) (d : Dig) : Int := match findL L d with
  | none => 7
  | some _ => 0
theorem sum_rest : ∀ (L : List Jar) (d : Dig) (x : Jar), (L.map (·.dig)).Nodup → findL L d = some x → ∀ f : Jar → Int, (L.map f).sum = f x + ((restL L d).map f).sum
  | [], d, x, _, h, f => by simp [findL] at h
  | y :: r, d, x, hn, h, f => by
    rw [List.map_cons, List.nodup_cons] at hn
    by_cases e : y.dig = d
    · have hx : y = x := by simpa [findL, e] using h
      have hr : restL (y :: r) d = r := by
        unfold restL
        rw [List.filter_cons_of_neg (by simp [e]), List.filter_eq_self]
        intro z hz
        simp only [Bool.not_eq_true', decide_eq_false_iff_not]
        intro e2
        exact hn.1 (List.mem_map.2 ⟨z, hz, by rw [e2, e]⟩)
      rw [hr, ← hx]
      simp
    · have h' : findL r d = some x := by
        unfold findL at h ⊢
        rw [List.find?_cons_of_neg (by simp [e])] at h
        exact h
      have hr : restL (y :: r) d = y :: restL r d := by
        unfold restL
        rw [List.filter_cons_of_pos (by simp [e])]
      rw [hr]
      have ih := sum_rest r d x hn.2 h' f
      simp only [List.map_cons, List.sum_cons]
      omega
theorem find_mem {L : List Jar} {d : Dig} {x : Jar} (h : findL L d = some x) : x ∈ L ∧ x.dig = d := ⟨List.mem_of_find?_eq_some h, by have := List.find?_some h; simpa using this⟩
theorem rest_mem {L : List Jar} {d : Dig} {x : Jar} (h : x ∈ restL L d) : x ∈ L := (List.mem_filter.1 h).1

set_option maxRecDepth 100000 in
set_option maxHeartbeats 1000000 in
theorem rack_Touch {S : List Nat} (b : Nat) (budget : Int) (L : List Jar) (d : Dig) (w : World) (h : Rk S w b budget L) :
    Calls Try.prog 18 #[.pointer (some ⟨b, 0, none⟩), .agg (digC d).toArray] w fun e w' => e = .returned (.int .i64 (hereE L d)) ∧ Rk S w' b budget (touchL L d) ∧ Keep S w w' := by
  have h' := h
  obtain ⟨P, fv, bm, total, pinned, M, I, F, h1, hL, m1, m2, m3⟩ := h
  have hkA := (Keep.refl [] w).alloc (.cells (digC d).toArray 44)
  have hbA := Blk.newA w (digC d).toArray 44
  have hF := h1.find hkA d
  have hrg : (w.alloc (.cells (digC d).toArray 44)).rangeAt w.heap.size 0 (digC d) := fun j v hv => by
    rw [Nat.zero_add]; exact hbA.get (by simpa using hv)
  have hdl : (Try.prog.info? 44).map (·.size) = some (digC d).length := by rw [digC_length]; exact dig_size
  have hA := h1.keep0 hkA
  generalize hwA : w.alloc (.cells (digC d).toArray 44) = wA at hkA hrg hF hA
  generalize digC d = dc at hrg hwA hdl hF
  have HRG := Lib.hid hrg
  have HDL := Lib.hid hdl
  by_cases h0 : M d = 0
  · have hf := h1.ring.find_no h0
    rw [← hL] at hf
    have e1 : hereE L d = 7 := by unfold hereE; rw [hf]
    have e2 : touchL L d = L := by unfold touchL; rw [hf]
    rw [e1, e2]
    rw [h0, if_pos rfl] at hF
    have HF := Lib.hid hF
    have HR := Lib.hid (And.intro h' hkA)
    clear h1 hL hrg hdl h0 hf e1 e2 hbA hA h' hF m1 m2 m3 hkA
    go_enter Try.func18, Try.ntmps18
    go_wp2_with (first
      | (refine wpList_load_mid rfl 44 (.tmp 3) rfl w.heap.size 0 (by rfl) dc _ HRG.out Try.underlying44 rfl HDL.out ?_)
      | fail)
    try simp only [Act.put, List.setIfInBounds_toArray, List.set_cons_succ, List.set_cons_zero]
    try go_wp2_with fail
    refine HF.out.mono ?_
    rintro e w1 ⟨rfl, hk1⟩
    go_wp2_with fail
    go_ret
    exact ⟨rfl, HR.out.1.keep0 (HR.out.2.trans hk1), (HR.out.2.trans hk1).mono (by simp)⟩
  · have hf := h1.ring.find_yes h0
    have hm := h1.ring.m1 d h0
    have ht := h1.ring.touch h0
    have htw := h1.ring.two hm.1
    have hb65 := h1.ring.at0 h0
    have hgood := h1.good
    have hdg := h1.ring.digs
    have e1 : hereE L d = 0 := by unfold hereE; rw [hL, hf]
    have e2 : touchL L d = jarF P (M d) :: restL (I.map (jarF P)) d := by unfold touchL; rw [hL, hf]
    have htot := sum_rest _ d _ hdg hf
    rw [e1, e2, ← ht.2.1]
    rw [if_neg h0] at hF
    have HT := Lib.hid (And.intro ht (And.intro htot (And.intro hgood hf)))
    have hprm : M d :: I.filter (fun k => !decide (k = M d)) |>.Perm I := (h1.ring.unlink h0).2.2.2
    have HPR := Lib.hid hprm
    generalize M d = i at hF ht htw hb65 hm HT HPR ⊢
    have HF := Lib.hid hF
    have HR := Lib.hid (And.intro hA hkA)
    have HM := Lib.hid (And.intro m1 (And.intro m2 (And.intro m3 h1.ne)))
    have H65 := Lib.hid (And.intro hb65 (And.intro htw ht.2.2))
    clear h1 hL hrg hdl h0 hf e1 e2 hbA hA h' hF m1 m2 m3 hkA hm ht htw hb65 hgood hdg htot hprm
    go_enter Try.func18, Try.ntmps18
    go_wp2_with (first
      | (refine wpList_load_mid rfl 44 (.tmp 3) rfl w.heap.size 0 (by rfl) dc _ HRG.out Try.underlying44 rfl HDL.out ?_)
      | fail)
    try simp only [Act.put, List.setIfInBounds_toArray, List.set_cons_succ, List.set_cons_zero]
    try go_wp2_with fail
    refine HF.out.mono ?_
    rintro e w1 ⟨rfl, hk1⟩
    go_wp2_with fail
    have hR1 := HR.out.1.keep0 hk1
    refine (rack_unlink b P fv bm budget total pinned i w1 hR1.blk H65.out.1 H65.out.2.1.1 H65.out.2.1.2.1).mono ?_
    rintro e w2 ⟨rfl, hb2, hk2⟩
    go_wp2_with fail
    refine (rack_link b _ fv bm budget total pinned i w2 hb2 H65.out.1 H65.out.2.2).mono ?_
    rintro e w3 ⟨rfl, hb3, hk3⟩
    go_wp2_with fail
    go_ret
    have hk13 := hk2.trans hk3
    have hmn : bm ∉ [b] := by simp; exact HM.out.2.2.2
    have hkS : Keep S w w3 := ((HR.out.2.trans hk1).mono (by simp)).trans' hk13 (by have := HM.out.1; intro x hx _; simp at hx; rw [hx]; exact this)
    obtain ⟨ht, htot, hgood, hf⟩ := HT.out
    refine ⟨rfl, ⟨_, fv, bm, total, pinned, M, _, F, ⟨hb3, ?_, hR1.own.keep hk13 (fun g hg => by simp; exact (hR1.nf g hg).1), ht.1, hR1.ne, hR1.nf, ?_, ?_, ?_⟩, rfl, HM.out.1, HM.out.2.1, HM.out.2.2.1⟩, hkS⟩
    · have := hR1.map.keep hk13 hmn
      rwa [← HPR.out.length_eq] at this
    · rw [ht.2.1, hR1.tot]
      unfold sumL
      rw [htot (·.size)]
      simp
    · rw [ht.2.1, hR1.use]
      unfold usedL
      rw [htot]
      simp
    · rw [ht.2.1]
      intro j hj
      rcases List.mem_cons.1 hj with rfl | hj
      · exact hgood _ (find_mem hf).1
      · exact hgood _ (rest_mem hj)
end Go.Proofs.Ytbfnpoknamajnaa
