/- Layer 21: the rack as the statements see it; digests and jars as they are written. No conditions. -/
import Derived.Test.YtbfnpoknamajnaaRkU
namespace Go.Proofs.Ytbfnpoknamajnaa
open Go.RowKit Go.Maps

theorem Rk.trim {S : List Nat} {w : World} {b : Nat} {budget : Int} {L : List Jar} (h : Rk S w b budget L) : ∃ S', Rk S' w b budget L ∧ (∀ k ∈ S', k ∈ S) ∧ ∀ k ∈ S', k < w.heap.size := by
  obtain ⟨P, fv, bm, total, pinned, M, I, F, h1, h2, h3, h4, h5⟩ := h
  refine ⟨b :: bm :: fv.ownBlock.toList, ⟨P, fv, bm, total, pinned, M, I, F, h1, h2, by simp, by simp, fun g hg => by simp [hg]⟩, ?_, ?_⟩
  · intro k hk
    simp at hk
    rcases hk with rfl | rfl | hk
    · exact h3
    · exact h4
    · exact h5 k hk
  · intro k hk
    simp at hk
    rcases hk with rfl | rfl | hk
    · exact h1.blk.2.lt
    · exact h1.map.lt
    · exact (h1.own.lt k hk).2
/-- the blocks X are as they were -/
def Stay (X : List Nat) (w w' : World) : Prop := w.heap.size ≤ w'.heap.size ∧ ∀ x ∈ X, x < w.heap.size → w'.heap[x]? = w.heap[x]?
theorem Stay.refl (X : List Nat) (w : World) : Stay X w w := ⟨Nat.le_refl _, fun _ _ _ => rfl⟩
theorem Stay.trans {X : List Nat} {a b c : World} (h : Stay X a b) (k : Stay X b c) : Stay X a c := ⟨Nat.le_trans h.1 k.1, fun x hx hl => (k.2 x hx (Nat.lt_of_lt_of_le hl h.1)).trans (h.2 x hx hl)⟩
theorem Stay.of {X : List Nat} {w w' : World} (k : Keep [] w w') : Stay X w w' := ⟨k.size, fun x _ hl => k.block x hl (by simp)⟩
theorem Stay.blk {X : List Nat} {w w' : World} (h : Stay X w w') {x : Nat} {T : TypeId} {xs : List Value} (hb : Blk w x T xs) (hx : x ∈ X) : Blk w' x T xs := by
  unfold Blk
  rw [h.2 x hx hb.lt]
  exact hb
theorem Stay.mono {X Y : List Nat} {w w' : World} (h : Stay X w w') (hs : ∀ y ∈ Y, y ∈ X) : Stay Y w w' := ⟨h.1, fun x hx hl => h.2 x (hs x hx) hl⟩
theorem lt_cons {n m : Nat} {X : List Nat} (h : ∀ x ∈ X, x < m) (hn : n < m) : ∀ x ∈ n :: X, x < m := fun x hx => by
  rcases List.mem_cons.1 hx with rfl | hx
  · exact hn
  · exact h x hx
structure Rkx (w0 : World) (X : List Nat) (w : World) (b : Nat) (budget : Int) (L : List Jar) : Prop where
  below : Below w0.heap.size w0 w
  lt : ∀ x ∈ X, x < w.heap.size
  rk : ∃ S, Rk S w b budget L ∧ ∀ k ∈ S, w0.heap.size ≤ k ∧ k < w.heap.size ∧ k ∉ X
section
variable {w0 : World} {X : List Nat} {w : World} {b : Nat} {budget : Int} {L : List Jar}
theorem Rkx.keep0 {w' : World} (h : Rkx w0 X w b budget L) (k : Keep [] w w') : Rkx w0 X w' b budget L := by
  obtain ⟨S, h1, h2⟩ := h.rk
  exact ⟨below_keep h.below k h.below.size (by simp), fun x hx => Nat.lt_of_lt_of_le (h.lt x hx) k.size, S, h1.keep0 k, fun x hx => ⟨(h2 x hx).1, Nat.lt_of_lt_of_le (h2 x hx).2.1 k.size, (h2 x hx).2.2⟩⟩
/-- a local variable more -/
theorem Rkx.local (h : Rkx w0 X w b budget L) (o : Obj) : Rkx w0 (w.heap.size :: X) (w.alloc o) b budget L := by
  obtain ⟨S, h1, h2⟩ := h.rk
  have k := (Keep.refl [] w).alloc o
  refine ⟨below_keep h.below k h.below.size (by simp), lt_cons (fun x hx => Nat.lt_of_lt_of_le (h.lt x hx) k.size) (by simp), S, h1.keep0 k, fun x hx => ⟨(h2 x hx).1, Nat.lt_of_lt_of_le (h2 x hx).2.1 k.size, ?_⟩⟩
  simp only [List.mem_cons, not_or]
  exact ⟨by have := (h2 x hx).2.1; omega, (h2 x hx).2.2⟩
theorem Rkx.setCell (h : Rkx w0 X w b budget L) (a : Addr) (v : Value) (ha : a.block ∈ X) (h0 : w0.heap.size ≤ a.block) : Rkx w0 X (w.setCell a v) b budget L := by
  obtain ⟨S, h1, h2⟩ := h.rk
  have k : Keep [a.block] w (w.setCell a v) := (Keep.refl _ _).setCell _ _ (by simp)
  exact ⟨below_keep h.below k h.below.size (by simpa using h0), fun x hx => Nat.lt_of_lt_of_le (h.lt x hx) k.size, S, h1.keep k (fun x hx => by simp; intro e; exact (h2 x hx).2.2 (e ▸ ha)), fun x hx => ⟨(h2 x hx).1, Nat.lt_of_lt_of_le (h2 x hx).2.1 k.size, (h2 x hx).2.2⟩⟩
/-- any call's memory that the rack does not own -/
theorem Rkx.other {w' : World} {T : List Nat} (h : Rkx w0 X w b budget L) (k : Keep T w w') (hT : ∀ x ∈ T, x ∈ X ∧ w0.heap.size ≤ x) : Rkx w0 X w' b budget L := by
  obtain ⟨S, h1, h2⟩ := h.rk
  exact ⟨below_keep h.below k h.below.size (fun x hx => (hT x hx).2), fun x hx => Nat.lt_of_lt_of_le (h.lt x hx) k.size, S, h1.keep k (fun x hx hm => (h2 x hx).2.2 (hT x hm).1), fun x hx => ⟨(h2 x hx).1, Nat.lt_of_lt_of_le (h2 x hx).2.1 k.size, (h2 x hx).2.2⟩⟩
theorem Rkx.good (h : Rkx w0 X w b budget L) : ∀ j ∈ L, okJar j := let ⟨_, h1, _⟩ := h.rk; h1.good
theorem Rkx.digs (h : Rkx w0 X w b budget L) : (L.map (·.dig)).Nodup := let ⟨_, h1, _⟩ := h.rk; h1.digs
theorem Rkx.most (h : Rkx w0 X w b budget L) : L.length ≤ 64 := let ⟨_, h1, _⟩ := h.rk; h1.most
theorem Rkx.mono {Y : List Nat} (h : Rkx w0 X w b budget L) (hs : ∀ y ∈ Y, y ∈ X) : Rkx w0 Y w b budget L := by
  obtain ⟨S, h1, h2⟩ := h.rk
  exact ⟨h.below, fun x hx => h.lt x (hs x hx), S, h1, fun x hx => ⟨(h2 x hx).1, (h2 x hx).2.1, fun hm => (h2 x hx).2.2 (hs x hm)⟩⟩
/-- blocks that are older than the call need no word -/
theorem Rkx.old (h : Rkx w0 X w b budget L) {n : Nat} (hn : n < w0.heap.size) : Rkx w0 (n :: X) w b budget L := by
  obtain ⟨S, h1, h2⟩ := h.rk
  refine ⟨h.below, lt_cons h.lt (Nat.lt_of_lt_of_le hn h.below.size), S, h1, fun x hx => ⟨(h2 x hx).1, (h2 x hx).2.1, ?_⟩⟩
  simp only [List.mem_cons, not_or]
  exact ⟨by have := (h2 x hx).1; omega, (h2 x hx).2.2⟩

theorem rkx_New (w0 : World) (X : List Nat) (budget : Int) (w : World) (hb : Below w0.heap.size w0 w) (hX : ∀ x ∈ X, x < w.heap.size) (h0 : 0 ≤ budget) (h1 : budget ≤ 1099511627776) :
    Calls Try.prog 16 #[.int .i64 budget] w fun e w' => ∃ b, e = .returned (.tuple #[.pointer (some ⟨b, 0, none⟩), .int .i64 0]) ∧ Rkx w0 X w' b budget [] ∧ Keep [] w w' := by
  refine (rack_New budget w h0 h1).mono ?_
  rintro e w' ⟨b, S, rfl, h2, h3, h4⟩
  obtain ⟨S', t1, t2, t3⟩ := h2.trim
  refine ⟨b, rfl, ⟨below_keep hb h4 hb.size (by simp), fun x hx => Nat.lt_of_lt_of_le (hX x hx) h4.size, S', t1, fun k hk => ⟨Nat.le_trans hb.size (h3 k (t2 k hk)), t3 k hk, fun hm => ?_⟩⟩, h4⟩
  have := hX k hm
  have := h3 k (t2 k hk)
  omega
theorem rkx_after {S S' : List Nat} {w' : World} {L' : List Jar} (h : Rkx w0 X w b budget L) (h2 : ∀ k ∈ S, w0.heap.size ≤ k ∧ k < w.heap.size ∧ k ∉ X) (h' : Rk S' w' b budget L') (g : Grow S w S' w') : Rkx w0 X w' b budget L' ∧ Stay X w w' := by
  obtain ⟨S'', t1, t2, t3⟩ := h'.trim
  refine ⟨⟨below_keep h.below g.1 h.below.size (fun k hk => (h2 k hk).1), fun x hx => Nat.lt_of_lt_of_le (h.lt x hx) g.1.size, S'', t1, fun k hk => ?_⟩, g.1.size, fun x hx hl => g.1.block x hl (fun hm => (h2 x hm).2.2 hx)⟩
  rcases g.2 k (t2 k hk) with e | e
  · exact ⟨(h2 k e).1, t3 k hk, (h2 k e).2.2⟩
  · exact ⟨Nat.le_trans h.below.size e, t3 k hk, fun hm => by have := h.lt k hm; omega⟩
theorem Grow.same {S : List Nat} {w w' : World} (k : Keep S w w') : Grow S w S w' := ⟨k, fun _ h => .inl h⟩
theorem rkx_Put (h : Rkx w0 X w b budget L) (j : Jar) : Calls Try.prog 17 #[.pointer (some ⟨b, 0, none⟩), .agg j.cells.toArray] w fun e w' => e = .returned (.int .i64 (putE L j)) ∧ Rkx w0 X w' b budget (putL L j) ∧ Stay X w w' := by
  obtain ⟨S, h1, h2⟩ := h.rk
  refine (rack_Put b budget L j w h1).mono ?_
  rintro e w' ⟨rfl, h3, h4⟩
  exact ⟨rfl, rkx_after h h2 h3 (.same h4)⟩
theorem rkx_Touch (h : Rkx w0 X w b budget L) (d : Dig) : Calls Try.prog 18 #[.pointer (some ⟨b, 0, none⟩), .agg (digC d).toArray] w fun e w' => e = .returned (.int .i64 (hereE L d)) ∧ Rkx w0 X w' b budget (touchL L d) ∧ Stay X w w' := by
  obtain ⟨S, h1, h2⟩ := h.rk
  refine (rack_Touch b budget L d w h1).mono ?_
  rintro e w' ⟨rfl, h3, h4⟩
  exact ⟨rfl, rkx_after h h2 h3 (.same h4)⟩
theorem rkx_Pin (h : Rkx w0 X w b budget L) (d : Dig) : Calls Try.prog 37 #[.pointer (some ⟨b, 0, none⟩), .agg (digC d).toArray] w fun e w' => e = .returned (.int .i64 (pinE L d)) ∧ Rkx w0 X w' b budget (pinL L d) ∧ Stay X w w' := by
  obtain ⟨S, h1, h2⟩ := h.rk
  refine (rack_Pin b budget L d w h1).mono ?_
  rintro e w' ⟨rfl, h3, h4⟩
  exact ⟨rfl, rkx_after h h2 h3 (.same h4)⟩
theorem rkx_Unpin (h : Rkx w0 X w b budget L) (d : Dig) : Calls Try.prog 39 #[.pointer (some ⟨b, 0, none⟩), .agg (digC d).toArray] w fun e w' => e = .returned (.int .i64 (unpinE L d)) ∧ Rkx w0 X w' b budget (unpinL L d) ∧ Stay X w w' := by
  obtain ⟨S, h1, h2⟩ := h.rk
  refine (rack_Unpin b budget L d w h1).mono ?_
  rintro e w' ⟨rfl, h3, h4⟩
  exact ⟨rfl, rkx_after h h2 h3 (.same h4)⟩
theorem rkx_Drop (h : Rkx w0 X w b budget L) (d : Dig) : Calls Try.prog 20 #[.pointer (some ⟨b, 0, none⟩), .agg (digC d).toArray] w fun e w' => e = .returned (.int .i64 (dropE L d)) ∧ Rkx w0 X w' b budget (dropL L d) ∧ Stay X w w' := by
  obtain ⟨S, h1, h2⟩ := h.rk
  refine (rack_Drop b budget L d w h1).mono ?_
  rintro e w' ⟨rfl, S', h3, h4⟩
  exact ⟨rfl, rkx_after h h2 h3 h4⟩
theorem rkx_Get (h : Rkx w0 X w b budget L) (d : Dig) : Calls Try.prog 41 #[.pointer (some ⟨b, 0, none⟩), .agg (digC d).toArray] w fun e w' => e = .returned (.tuple #[.agg (getJ L d).cells.toArray, .bool (hasJ L d)]) ∧ Rkx w0 X w' b budget L ∧ Stay X w w' := by
  obtain ⟨S, h1, h2⟩ := h.rk
  refine (rack_Get b budget L d w h1).mono ?_
  rintro e w' ⟨rfl, h3⟩
  exact ⟨rfl, h.keep0 h3, .of h3⟩
theorem rkx_Victim (h : Rkx w0 X w b budget L) : Calls Try.prog 19 #[.pointer (some ⟨b, 0, none⟩)] w fun e w' => e = .returned (.tuple #[.agg (digC (vicD (vicL budget L))).toArray, .bool (vicL budget L).isSome]) ∧ Rkx w0 X w' b budget L ∧ Stay X w w' := by
  obtain ⟨S, h1, h2⟩ := h.rk
  refine (rack_Victim b budget L w h1).mono ?_
  rintro e w' ⟨rfl, h3⟩
  exact ⟨rfl, h.keep0 h3, .of h3⟩
theorem rkx_Victim_some (h : Rkx w0 X w b budget L) {j : Jar} (hv : vicL budget L = some j) {d : Dig} (hd : j.dig = d) : Calls Try.prog 19 #[.pointer (some ⟨b, 0, none⟩)] w fun e w' => e = .returned (.tuple #[.agg (digC d).toArray, .bool true]) ∧ Rkx w0 X w' b budget L ∧ Stay X w w' := by
  have := rkx_Victim h
  rw [hv] at this
  subst hd
  exact this
theorem rkx_Victim_none (h : Rkx w0 X w b budget L) (hv : vicL budget L = none) : Calls Try.prog 19 #[.pointer (some ⟨b, 0, none⟩)] w fun e w' => e = .returned (.tuple #[.agg (digC dig0).toArray, .bool false]) ∧ Rkx w0 X w' b budget L ∧ Stay X w w' := by
  have := rkx_Victim h
  rw [hv] at this
  exact this
theorem rkx_List (h : Rkx w0 X w b budget L) : Calls Try.prog 47 #[.pointer (some ⟨b, 0, none⟩)] w fun e w' => ∃ v, e = .returned v ∧ Own Jar.cells 35 w.heap.size 46 w' v L ∧ Rkx w0 X w' b budget L ∧ Stay X w w' := by
  obtain ⟨S, h1, h2⟩ := h.rk
  refine (rack_List b budget L w h1).mono ?_
  rintro e w' ⟨v, rfl, h4, h3⟩
  exact ⟨v, rfl, h4, h.keep0 h3, .of h3⟩
theorem rkx_Len (h : Rkx w0 X w b budget L) : Calls Try.prog 21 #[.pointer (some ⟨b, 0, none⟩)] w fun e w' => e = .returned (.int .i64 (L.length : Nat)) ∧ Rkx w0 X w' b budget L ∧ Stay X w w' := by
  obtain ⟨S, h1, h2⟩ := h.rk
  refine (rack_Len b budget L w h1).mono ?_
  rintro e w' ⟨rfl, h3⟩
  exact ⟨rfl, h.keep0 h3, .of h3⟩
theorem rkx_Total (h : Rkx w0 X w b budget L) : Calls Try.prog 22 #[.pointer (some ⟨b, 0, none⟩)] w fun e w' => e = .returned (.int .i64 (sumL L)) ∧ Rkx w0 X w' b budget L ∧ Stay X w w' := by
  obtain ⟨S, h1, h2⟩ := h.rk
  refine (rack_Total b budget L w h1).mono ?_
  rintro e w' ⟨rfl, h3⟩
  exact ⟨rfl, h.keep0 h3, .of h3⟩
theorem rkx_Pinned (h : Rkx w0 X w b budget L) : Calls Try.prog 45 #[.pointer (some ⟨b, 0, none⟩)] w fun e w' => e = .returned (.int .i64 (usedL L)) ∧ Rkx w0 X w' b budget L ∧ Stay X w w' := by
  obtain ⟨S, h1, h2⟩ := h.rk
  refine (rack_Pinned b budget L w h1).mono ?_
  rintro e w' ⟨rfl, h3⟩
  exact ⟨rfl, h.keep0 h3, .of h3⟩
end
set_option maxRecDepth 100000 in
theorem rack_Pin_nil (d : Dig) (w : World) : Calls Try.prog 37 #[.pointer none, .agg (digC d).toArray] w fun e w' => e = .returned (.int .i64 2) ∧ Keep [] w w' := by
  have hrg := (Blk.newA w (digC d).toArray 44).rangeAt
  have hdl : (Try.prog.info? 44).map (·.size) = some (digC d).length := by rw [digC_length]; exact dig_size
  have hk := (Keep.refl [] w).alloc (.cells (digC d).toArray 44)
  rw [List.toList_toArray] at hrg
  have HF := Lib.hid (fun w' => rack_find_nil (digC d).toArray w')
  generalize digC d = dc at *
  have HRG := Lib.hid hrg
  have HDL := Lib.hid hdl
  clear hrg hdl
  go_enter Try.func37, Try.ntmps37
  go_wp2_with (first
    | (refine wpList_load_mid rfl 44 (.tmp 3) rfl w.heap.size 0 (by rfl) dc _ HRG.out Try.underlying44 rfl HDL.out ?_)
    | fail)
  try simp only [Act.put, List.setIfInBounds_toArray, List.set_cons_succ, List.set_cons_zero]
  try go_wp2_with fail
  refine (HF.out _).mono ?_
  rintro e w1 ⟨rfl, hk1⟩
  go_wp2_with fail
  go_ret
  exact ⟨rfl, hk.trans hk1⟩
set_option maxRecDepth 100000 in
set_option maxHeartbeats 1000000 in
theorem rack_Get_nil (d : Dig) (w : World) : Calls Try.prog 41 #[.pointer none, .agg (digC d).toArray] w fun e w' => e = .returned (.tuple #[.agg jar0.cells.toArray, .bool false]) ∧ Keep [] w w' := by
  have hkA := ((Keep.refl [] w).alloc (.cells (digC d).toArray 44)).alloc (.cells jar0.cells.toArray 46)
  have hbA := (Blk.newA w (digC d).toArray 44).alloc (.cells jar0.cells.toArray 46)
  have hbR := Blk.newA (w.alloc (.cells (digC d).toArray 44)) jar0.cells.toArray 46
  have hsz : (w.alloc (.cells (digC d).toArray 44)).heap.size = w.heap.size + 1 := by simp
  rw [hsz] at hbR
  rw [jar0_cells] at hkA hbA hbR
  have hrg := hbA.rangeAt
  have hdl : (Try.prog.info? 44).map (·.size) = some (digC d).length := by rw [digC_length]; exact dig_size
  generalize hwA : (w.alloc (.cells (digC d).toArray 44)).alloc (.cells #[.int .u8 0, .int .u8 0, .int .u8 0, .int .u8 0, .int .u8 0, .int .u8 0, .int .u8 0, .int .u8 0, .int .u8 0, .int .u8 0, .int .u8 0, .int .u8 0, .int .u8 0, .int .u8 0, .int .u8 0, .int .u8 0, .int .u8 0, .int .u8 0, .int .u8 0, .int .u8 0, .int .u8 0, .int .u8 0, .int .u8 0, .int .u8 0, .int .u8 0, .int .u8 0, .int .u8 0, .int .u8 0, .int .u8 0, .int .u8 0, .int .u8 0, .int .u8 0, .string ⟨#[]⟩, .int .i64 0, .int .i64 0] 46) = wA at hkA hrg hbR
  rw [List.toList_toArray] at hrg
  have HF := Lib.hid (fun w' => rack_find_nil (digC d).toArray w')
  generalize digC d = dc at *
  have HRG := Lib.hid hrg
  have HDL := Lib.hid hdl
  rw [← jar0_cells] at hbR
  have HBR := Lib.hid hbR
  have HKA := Lib.hid hkA
  have HS := Lib.hid (And.intro (show (Try.prog.info? 46).map (·.size) = some jar0.cells.toArray.size by rw [List.size_toArray, Jar.cells_length]; exact jar_size) (all_oneCell_toArray jar0.one))
  clear hkA hrg hbR hdl hbA
  go_enter Try.func41, Try.ntmps41
  go_wp2_with (first
    | (refine wpList_load_mid rfl 44 (.tmp 3) rfl w.heap.size 0 (by rfl) dc _ HRG.out Try.underlying44 rfl HDL.out ?_)
    | fail)
  try simp only [Act.put, List.setIfInBounds_toArray, List.set_cons_succ, List.set_cons_zero]
  try go_wp2_with fail
  refine (HF.out _).mono ?_
  rintro e w1 ⟨rfl, hk1⟩
  have hb1 := Lib.hid (hk1.blk HBR.out (by simp))
  go_wp2_with (first
    | (refine wpList_store_mid rfl 46 (.tmp 4) (.tmp 16) rfl (w.heap.size + 1) 0 jar0.cells.toArray (by rfl) (by first | rfl | kernel_rfl) (hb1.out.there 0 _ (by simp)) HS.out.1 HS.out.2 ?_)
    | fail)
  have hr := World.rangeAt_setCells_same w1 (w.heap.size + 1) 0 jar0.cells (hb1.out.there 0 _ (by simp [Jar.cells_length]))
  have hload := run_loadVar_mid (P := Try.prog) (w1.setCells (w.heap.size + 1) 0 jar0.cells) (w.heap.size + 1) 0 46 jar0.cells _ hr Try.underlying46 rfl (by rw [Jar.cells_length]; exact jar_size)
  refine bodyPost_ret (v := .tuple #[.agg jar0.cells.toArray, .bool false]) (by simp [results, Try.results41, asAddr, Result.andThen, hload]) rfl ⟨rfl, ?_⟩
  exact Keep.setCells _ (by omega) _ _ _ (HKA.out.trans hk1)
set_option maxRecDepth 100000 in
set_option maxHeartbeats 1000000 in
theorem rack_Victim_nil (w : World) : Calls Try.prog 19 #[.pointer none] w fun e w' => e = .returned (.tuple #[.agg (digC dig0).toArray, .bool false]) ∧ Keep [] w w' := by
  have hkA := (Keep.refl [] w).alloc (.cells (digC dig0).toArray 44)
  have hbA := Blk.newA w (digC dig0).toArray 44
  rw [dig0_cells] at hkA hbA
  generalize hwA : w.alloc (.cells #[.int .u8 0, .int .u8 0, .int .u8 0, .int .u8 0, .int .u8 0, .int .u8 0, .int .u8 0, .int .u8 0, .int .u8 0, .int .u8 0, .int .u8 0, .int .u8 0, .int .u8 0, .int .u8 0, .int .u8 0, .int .u8 0, .int .u8 0, .int .u8 0, .int .u8 0, .int .u8 0, .int .u8 0, .int .u8 0, .int .u8 0, .int .u8 0, .int .u8 0, .int .u8 0, .int .u8 0, .int .u8 0, .int .u8 0, .int .u8 0, .int .u8 0, .int .u8 0] 44) = wA at hkA hbA
  have hbA : Blk wA w.heap.size 44 (digC dig0) := by rw [← dig0_cells] at hbA; exact hbA
  have HBA := Lib.hid hbA
  have HKA := Lib.hid hkA
  have HS0 := Lib.hid (And.intro (show (Try.prog.info? 44).map (·.size) = some (digC dig0).toArray.size by rw [List.size_toArray, digC_length]; exact dig_size) (all_oneCell_toArray (digC_one dig0)))
  clear hkA hbA
  go_enter Try.func19, Try.ntmps19
  go_wp2_with fail
  refine wp_region_quiet_lit (by kernel_rfl) (by kernel_rfl) ?_
  repeat (go_big_quiet_step (fail))
  refine wpQuiet_nil ?_
  intro _ hw'
  obtain ⟨nq, hw''⟩ := hw'
  subst hw''
  have hkq := HKA.out.drewN nq
  have hbq := HBA.out.drewN nq
  generalize wA.drewN nq = wq at hkq hbq
  go_wp2_with (first
    | (refine wpList_store_mid rfl 44 (.tmp 2) (.tmp 26) rfl w.heap.size 0 (digC dig0).toArray (by rfl) (by first | rfl | kernel_rfl) (hbq.there 0 _ (by simp)) HS0.out.1 HS0.out.2 ?_)
    | fail)
  have hwt : wq.there w.heap.size 0 (digC dig0).length := hbq.there 0 _ (by simp [digC_length])
  have hr := World.rangeAt_setCells_same wq w.heap.size 0 (digC dig0) hwt
  have hload := run_loadVar_mid (P := Try.prog) (wq.setCells w.heap.size 0 (digC dig0)) w.heap.size 0 44 (digC dig0) _ hr Try.underlying44 rfl (by rw [digC_length]; exact dig_size)
  refine bodyPost_ret (v := .tuple #[.agg (digC dig0).toArray, .bool false]) (by simp [results, Try.results19, asAddr, Result.andThen, hload]) rfl ⟨rfl, ?_⟩
  exact Keep.setCells _ (by omega) _ _ _ hkq
set_option maxRecDepth 100000 in
theorem eqDig (a b : Dig) (w : World) : (Op.equalIn 10000 44 (.agg (digC a).toArray) (.agg (digC b).toArray)).run Try.prog w = .ok (decide (a = b)) w := by
  obtain ⟨r, hr, hi⟩ := run_equal_deep w (m := 2) (by omega) (k := 44) (of_decide_eq_true (by kernel_rfl)) (by kernel_rfl) (dig_key a) (dig_key b)
  have hr' : (Op.equalIn 10000 44 (.agg (digC a).toArray) (.agg (digC b).toArray)).run Try.prog w = .ok r w := hr
  refine hr'.trans ?_
  congr 1
  rw [Bool.eq_iff_iff, hi, decide_eq_true_eq]
  constructor
  · intro h
    exact Subtype.ext (by injection h)
  · rintro rfl; rfl
/-- what a literal is -/
theorem wpList_b1 {ops : Array Oper} {rest : List Oper} {o : Oper} {a : Act} {w : World} {Q : Exit → Act → World → Prop} (hg : o.guard = none) {T : TypeId} {n : Nat} {u : Value} {cs : List Value} (HB : Hid (Try.prog.built T [(n, u)] = some cs.toArray)) (x : Operand)
    (ho : o.op = .build T #[(n, x)]) (hx : a.eval x = u) (h : wpList Try.prog ops Q rest (a.put o.dst (.agg cs.toArray)) w) : wpList Try.prog ops Q (o :: rest) a w :=
  wpList_buildTo hg _ _ ho o.dst rfl cs.toArray (by
    have e : (#[(n, x)].map fun (i, x) => (i, a.eval x)).toList = [(n, u)] := by simp [hx]
    rw [e]
    exact HB.out) h
theorem wpList_b2 {ops : Array Oper} {rest : List Oper} {o : Oper} {a : Act} {w : World} {Q : Exit → Act → World → Prop} (hg : o.guard = none) {T : TypeId} {n m : Nat} {u v : Value} {cs : List Value} (HB : Hid (Try.prog.built T [(n, u), (m, v)] = some cs.toArray)) (x y : Operand)
    (ho : o.op = .build T #[(n, x), (m, y)]) (hx : a.eval x = u) (hy : a.eval y = v) (h : wpList Try.prog ops Q rest (a.put o.dst (.agg cs.toArray)) w) : wpList Try.prog ops Q (o :: rest) a w :=
  wpList_buildTo hg _ _ ho o.dst rfl cs.toArray (by
    have e : (#[(n, x), (m, y)].map fun (i, x) => (i, a.eval x)).toList = [(n, u), (m, v)] := by simp [hx, hy]
    rw [e]
    exact HB.out) h
/-- the same, behind '&&' -/
theorem wpList_wanted {P : Program} {ops : Array Oper} {rest : List Oper} {o : Oper} {a : Act} {w : World} {Q : Exit → Act → World → Prop} (hw : Region.wanted o (yielded ops a.tmps) = true) (h : ∀ K : Act → World → Prop, (∀ a w, wpList P ops Q rest a w → K a w) → o.wp P a w K Q) : wpList P ops Q (o :: rest) a w :=
  wpList_step fun K hK => by rw [if_pos hw]; exact h K hK
theorem wpList_load_midG {P : Program} {ops : Array Oper} {rest : List Oper} {op : Oper} {a : Act} {w : World} {Q : Exit → Act → World → Prop} (hw : Region.wanted op (yielded ops a.tmps) = true) (ty : TypeId) (x : Operand) (ho : op.op = .load ty x)
    (b o : Nat) (hx : a.eval x = .pointer (some ⟨b, o, none⟩)) (cs : List Value) (d : TypeDesc) (hc : w.rangeAt b o cs) (hu : P.underlying ty = some d) (hd : d.isRow = true) (hi : (P.info? ty).map (·.size) = some cs.length)
    (h : wpList P ops Q rest (a.put op.dst (.agg cs.toArray)) w) : wpList P ops Q (op :: rest) a w :=
  wpList_wanted hw fun _ hK => wp_load_mid ty x ho b o hx cs d hc hu hd hi (hK _ _ h)
theorem wpList_b1G {ops : Array Oper} {rest : List Oper} {o : Oper} {a : Act} {w : World} {Q : Exit → Act → World → Prop} (hw : Region.wanted o (yielded ops a.tmps) = true) {T : TypeId} {n : Nat} {u : Value} {cs : List Value} (HB : Hid (Try.prog.built T [(n, u)] = some cs.toArray)) (x : Operand)
    (ho : o.op = .build T #[(n, x)]) (hx : a.eval x = u) (h : wpList Try.prog ops Q rest (a.put o.dst (.agg cs.toArray)) w) : wpList Try.prog ops Q (o :: rest) a w :=
  wpList_wanted hw fun K hK => by
    have e : (#[(n, x)].map fun (i, x) => (i, a.eval x)).toList = [(n, u)] := by simp [hx]
    refine wp_build T _ ho (by rw [e, HB.out]; rfl) (hK _ _ ?_)
    rw [e, HB.out]
    exact h
def digB (b : UInt8) : Dig := ⟨b :: List.replicate 31 0, by simp⟩
theorem digB_built (b : UInt8) : Try.prog.built 44 [(0, .int .u8 (b.toNat : Nat))] = some (digC (digB b)).toArray := by kernel_rfl
theorem jarB_built (b : UInt8) (s : Int) : Try.prog.built 46 [(0, .agg (digC (digB b)).toArray), (2, .int .i64 s)] = some (Jar.cells ⟨digB b, [], s, 0⟩).toArray := by kernel_rfl
theorem jarB0_built (b : UInt8) : Try.prog.built 46 [(0, .agg (digC (digB b)).toArray)] = some (Jar.cells ⟨digB b, [], 0, 0⟩).toArray := by kernel_rfl
end Go.Proofs.Ytbfnpoknamajnaa
