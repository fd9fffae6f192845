/- Layer 21: the rack in memory; find. No conditions. -/
import Derived.Test.YtbfnpoknamajnaaRkM
namespace Go.Proofs.Ytbfnpoknamajnaa
open Go.RowKit Go.Maps

structure Jar where
  dig : Dig
  typ : List UInt8
  size : Int
  pins : Int
  deriving Inhabited, DecidableEq
def Jar.cells (j : Jar) : List Value := digC j.dig ++ [.string (S j.typ), .int .i64 j.size, .int .i64 j.pins]
theorem Jar.cells_length (j : Jar) : j.cells.length = 35 := by simp [Jar.cells, digC_length]
structure Place where
  jar : Jar
  next : Nat
  prev : Nat
  deriving Inhabited
def Place.cells (p : Place) : List Value := p.jar.cells ++ [.int .i64 p.next, .int .i64 p.prev]
theorem Place.cells_length (p : Place) : p.cells.length = 37 := by simp [Place.cells, Jar.cells_length]
theorem Jar.one (j : Jar) : ∀ u ∈ j.cells, u.oneCell' = true := by
  intro u hu
  simp only [Jar.cells, digC, List.mem_append, List.mem_map, List.mem_cons, List.mem_nil_iff, or_false] at hu
  rcases hu with ⟨b, _, rfl⟩ | rfl | rfl | rfl <;> rfl
theorem Place.one (p : Place) : ∀ u ∈ p.cells, u.oneCell' = true := by
  intro u hu
  simp only [Place.cells, List.mem_append, List.mem_cons, List.mem_nil_iff, or_false] at hu
  rcases hu with hu | rfl | rfl
  · exact p.jar.one u hu
  · rfl
  · rfl
theorem digC_one (d : Dig) : ∀ u ∈ digC d, u.oneCell' = true := by
  intro u hu
  obtain ⟨b, _, rfl⟩ := List.mem_map.1 hu
  rfl
def intC (n : Nat) : List Value := [.int .i64 n]
theorem intC_length (n : Nat) : (intC n).length = 1 := rfl
theorem intC_one (n : Nat) : ∀ u ∈ intC n, u.oneCell' = true := by simp [intC, Value.oneCell']

theorem dig_law : Keyed Try.prog 44 := Keyed.of_law (deep_law_laid (show laidOutB Try.prog = true by kernel_rfl) (m := 2) (by omega) (of_decide_eq_true (by kernel_rfl)) (by kernel_rfl) (by kernel_rfl))
theorem zeroInt (w : World) : (zeroValue 3).run Try.prog w = .ok (.int .i64 0) w := by kernel_rfl

/-- the map: of each digest its place; 0: none -/
def MapIs (w : World) (bm : Nat) (M : Dig → Nat) (n : Nat) : Prop :=
  ∃ D : DataW Unit, w.ownsMap Try.prog 44 (plainElem Try.prog 3) bm n D ∧ Maps.size D = n ∧ ∀ d : Dig, D.atKey (.string d.1) (.lit (.int .i64 0)) = .lit (.int .i64 (M d : Nat)) ∧ has D (.string d.1) = decide (M d ≠ 0)
theorem MapIs.look {w : World} {bm n : Nat} {M : Dig → Nat} (h : MapIs w bm M n) (d : Dig) :
    (Instr.lookup 95 (.map (some bm)) (.agg (digC d).toArray) false).run Try.prog w = .ok (.int .i64 (M d : Nat)) w := by
  obtain ⟨D, hown, _, hat⟩ := h
  obtain ⟨c, hrun, hc, _⟩ := hown.lookup_int dig_law Try.underlying95 Try.underlying3 (zeroInt w) (dig_key d)
  rw [(hat d).1] at hc
  simp at hc
  rw [hrun, hc]

theorem MapIs.alloc {w : World} {bm n : Nat} {M : Dig → Nat} (h : MapIs w bm M n) (o : Obj) : MapIs (w.alloc o) bm M n := by
  obtain ⟨D, h1, h2, h3⟩ := h
  exact ⟨D, h1.alloc o, h2, h3⟩
theorem MapIs.drewN {w : World} {bm n : Nat} {M : Dig → Nat} (h : MapIs w bm M n) (k : Nat) : MapIs (w.drewN k) bm M n := h
theorem Keep.load {w w' : World} (k : Keep [] w w') {a : Addr} {v : Value} (h : w.cell? a = some v) : w'.cell? a = some v := by
  have hlt := World.block_lt_of_cell? w _ h
  exact (k.cell hlt (by simp)).trans h
/-- the rack's block -/
def RkBlk (w : World) (b : Nat) (P : List Place) (fv : Value) (bm : Nat) (budget total pinned : Int) : Prop :=
  P.length = 65 ∧ Blk w b 100 (rows Place.cells P ++ [fv, .map (some bm), .int .i64 budget, .int .i64 total, .int .i64 pinned])
theorem RkBlk.tail {w : World} {b : Nat} {P : List Place} {fv : Value} {bm : Nat} {budget total pinned : Int} (h : RkBlk w b P fv bm budget total pinned) (k : Nat) :
    w.cell? ⟨b, 2405 + k, none⟩ = [fv, .map (some bm), .int .i64 budget, .int .i64 total, .int .i64 pinned][k]? := by
  have hl : (rows Place.cells P).length = 2405 := by rw [rows_length Place.cells_length, h.1]
  rw [h.2.cell, List.getElem?_append_right (by omega), hl, Nat.add_sub_cancel_left]

set_option maxRecDepth 100000 in
set_option maxHeartbeats 1000000 in
theorem rack_find (b : Nat) (P : List Place) (fv : Value) (bm : Nat) (budget total pinned : Int) (M : Dig → Nat) (n : Nat) (d : Dig) (w : World) (h : RkBlk w b P fv bm budget total pinned) (hm : MapIs w bm M n) :
    Calls Try.prog 53 #[.pointer (some ⟨b, 0, none⟩), .agg (digC d).toArray] w fun e w' => e = .returned (.tuple #[.int .i64 (M d : Nat), .int .i64 (if M d = 0 then 7 else 0)]) ∧ Keep [] w w' := by
  have c1 : w.cell? ⟨b, 2406, none⟩ = some (.map (some bm)) := h.tail 1
  have hk := (Keep.refl [] w).alloc (.cells (digC d).toArray 44)
  have hb := Blk.newA w (digC d).toArray 44
  have hm' := hm.alloc (.cells (digC d).toArray 44)
  have c2 := hk.load c1
  generalize hwA : w.alloc (.cells (digC d).toArray 44) = wA at hk hb hm' c2
  have hrg : ∀ w', (∃ x, w' = wA.drewN x) → w'.rangeAt w.heap.size 0 (digC d) := fun w' ⟨x, hx⟩ => by
    subst hx
    exact fun j v hv => by rw [Nat.zero_add]; exact (hb.drewN x).get (by simpa using hv)
  have hdl := digC_length d
  have hlk : ∀ x, (Instr.lookup 95 (.map (some bm)) (.agg (digC d).toArray) false).run Try.prog (wA.drewN x) = .ok (.int .i64 (M d : Nat)) (wA.drewN x) := fun x => (hm'.drewN x).look d
  generalize digC d = dc at hrg hlk hb hwA hdl
  have HRG := Lib.hid hrg
  have HDL := Lib.hid hdl
  have HK := Lib.hid hk
  clear hb hm' hk c1 hm hrg hdl
  generalize M d = i at hlk
  by_cases h0 : i = 0
  · have h1 : (if i = 0 then (7 : Int) else 0) = 7 := if_pos h0
    rw [h1]
    have hq : (((i : Nat) : Int) == 0) = true := by simp [h0]
    have H0 := Lib.hid h0
    clear h0 h1
    go_enter Try.func53, Try.ntmps53
    go_wp2_with fail
    refine wp_region_quiet_lit (by kernel_rfl) (by kernel_rfl) ?_
    repeat (go_big_quiet_step (fail))
    refine wpQuiet_load rfl 44 (.tmp 3) rfl w.heap.size 0 (by rfl) dc _ HRG.out Try.underlying44 rfl (by rw [HDL.out]; kernel_rfl) ?_
    simp only [Act.put, List.setIfInBounds_toArray, List.set_cons_succ, List.set_cons_zero]
    repeat (go_big_quiet_step (fail))
    refine wpQuiet_nil ?_
    intro _ hw'
    obtain ⟨nq, hw''⟩ := hw'
    subst hw''
    go_wp2_with fail
    go_ret2
    exact ⟨by rw [H0.out]; rfl, HK.out.drewN _⟩
  · have h1 : (if i = 0 then (7 : Int) else 0) = 0 := if_neg h0
    rw [h1]
    have hq : (((i : Nat) : Int) == 0) = false := by simp [h0]
    clear h0 h1
    go_enter Try.func53, Try.ntmps53
    go_wp2_with fail
    refine wp_region_quiet_lit (by kernel_rfl) (by kernel_rfl) ?_
    repeat (go_big_quiet_step (fail))
    refine wpQuiet_load rfl 44 (.tmp 3) rfl w.heap.size 0 (by rfl) dc _ HRG.out Try.underlying44 rfl (by rw [HDL.out]; kernel_rfl) ?_
    simp only [Act.put, List.setIfInBounds_toArray, List.set_cons_succ, List.set_cons_zero]
    repeat (go_big_quiet_step (fail))
    refine wpQuiet_nil ?_
    intro _ hw'
    obtain ⟨nq, hw''⟩ := hw'
    subst hw''
    go_wp2_with fail
    go_ret2
    exact ⟨rfl, HK.out.drewN _⟩

theorem RkBlk.cell {w : World} {b : Nat} {P : List Place} {fv : Value} {bm : Nat} {budget total pinned : Int} (h : RkBlk w b P fv bm budget total pinned) {k : Nat} {p : Place} (hk : P[k]? = some p) (j : Nat) (hj : j < 37) :
    w.cell? ⟨b, k * 37 + j, none⟩ = p.cells[j]? := by
  have hlt := (List.getElem?_eq_some_iff.1 hk).1
  have hl : (rows Place.cells P).length = 2405 := by rw [rows_length Place.cells_length, h.1]
  have h65 := h.1
  rw [h.2.cell, List.getElem?_append_left (by omega), rows_get' Place.cells_length P k j p hk hj]
theorem RkBlk.setP {w : World} {b : Nat} {P : List Place} {fv : Value} {bm : Nat} {budget total pinned : Int} (h : RkBlk w b P fv bm budget total pinned) {k : Nat} {p q : Place} (hk : P[k]? = some p) (j : Nat) (hj : j < 37) (v : Value) (e : q.cells = p.cells.set j v) :
    RkBlk (w.setCell ⟨b, k * 37 + j, none⟩ v) b (P.set k q) fv bm budget total pinned := by
  have hlt := (List.getElem?_eq_some_iff.1 hk).1
  have h65 := h.1
  have hl : (rows Place.cells P).length = 2405 := by rw [rows_length Place.cells_length, h.1]
  refine ⟨by simpa using h.1, ?_⟩
  have := h.2.set (k * 37 + j) v
  rwa [List.set_append_left _ _ (by omega), rows_set' Place.cells_length P k j p q v hk hj e] at this
theorem Place.at32 (p : Place) : p.cells[32]? = some (.string (S p.jar.typ)) := by
  simp [Place.cells, Jar.cells, digC_length, List.getElem?_append]
theorem Place.at33 (p : Place) : p.cells[33]? = some (.int .i64 p.jar.size) := by
  simp [Place.cells, Jar.cells, digC_length, List.getElem?_append]
theorem Place.at34 (p : Place) : p.cells[34]? = some (.int .i64 p.jar.pins) := by
  simp [Place.cells, Jar.cells, digC_length, List.getElem?_append]
theorem Place.at35 (p : Place) : p.cells[35]? = some (.int .i64 p.next) := by
  simp [Place.cells, Jar.cells_length, List.getElem?_append]
theorem Place.at36 (p : Place) : p.cells[36]? = some (.int .i64 p.prev) := by
  simp [Place.cells, Jar.cells_length, List.getElem?_append]
theorem Place.set35 (p : Place) (n : Nat) : ({ p with next := n } : Place).cells = p.cells.set 35 (.int .i64 n) := by
  simp [Place.cells, Jar.cells_length, List.set_append]
theorem Place.set36 (p : Place) (n : Nat) : ({ p with prev := n } : Place).cells = p.cells.set 36 (.int .i64 n) := by
  simp [Place.cells, Jar.cells_length, List.set_append]
theorem Place.set34 (p : Place) (n : Int) : ({ p with jar := { p.jar with pins := n } } : Place).cells = p.cells.set 34 (.int .i64 n) := by
  simp [Place.cells, Jar.cells, digC_length, Jar.cells_length, List.set_append]

/-- a place more in the ring -/
def linkP (P : List Place) (i : Nat) : List Place :=
  let last := (P.getD 0 default).prev
  let P1 := P.set i { P.getD i default with prev := last, next := 0 }
  let P2 := P1.set last { P1.getD last default with next := i }
  P2.set 0 { P2.getD 0 default with prev := i }
theorem linkP_length (P : List Place) (i : Nat) : (linkP P i).length = P.length := by simp [linkP]
theorem getD_get {α : Type} {l : List α} {k : Nat} {x d : α} (h : l[k]? = some x) : l.getD k d = x := by simp [List.getD, h]

set_option maxRecDepth 100000 in
set_option maxHeartbeats 1000000 in
theorem rack_link (b : Nat) (P : List Place) (fv : Value) (bm : Nat) (budget total pinned : Int) (i : Nat) (w : World) (h : RkBlk w b P fv bm budget total pinned) (hi : i < 65) (hl : (P.getD 0 default).prev < 65) :
    Calls Try.prog 52 #[.pointer (some ⟨b, 0, none⟩), .int .i64 (i : Nat)] w fun e w' => e = .returned (.tuple #[]) ∧ RkBlk w' b (linkP P i) fv bm budget total pinned ∧ Keep [b] w w' := by
  have h65 := h.1
  obtain ⟨p0, hp0⟩ : ∃ p, P[0]? = some p := ⟨_, List.getElem?_eq_getElem (by omega)⟩
  obtain ⟨pi, hpi⟩ : ∃ p, P[i]? = some p := ⟨_, List.getElem?_eq_getElem (by omega)⟩
  rw [getD_get hp0] at hl
  have c0 := h.cell hp0 36 (by omega)
  rw [Place.at36, Nat.zero_mul, Nat.zero_add] at c0
  have hfr := h.2.frozen
  generalize hlast : p0.prev = last at c0 hl
  obtain ⟨pl, hpl⟩ : ∃ p, P[last]? = some p := ⟨_, List.getElem?_eq_getElem (by omega)⟩
  have ci5 := h.cell hpi 35 (by omega)
  have ci6 := h.cell hpi 36 (by omega)
  have cl5 := h.cell hpl 35 (by omega)
  rw [Place.at35] at ci5 cl5
  rw [Place.at36] at ci6
  have HH := Lib.hid h
  have HP := Lib.hid (And.intro hp0 (And.intro hpi (And.intro hpl hlast)))
  clear h hp0 hpi hlast hpl
  have hi0 : (0 : Int) ≤ (i : Int) := by omega
  have hi1 : (i : Int) < 65 := by omega
  have hl0 : (0 : Int) ≤ (last : Int) := by omega
  have hl1 : (last : Int) < 65 := by omega
  go_enter Try.func52, Try.ntmps52
  go_wp2_with fail
  obtain ⟨P1, hP1⟩ : ∃ P1, P1 = P.set i { pi with prev := last, next := 0 } := ⟨_, rfl⟩
  have HP1 := Lib.hid hP1
  go_cut [] (fun wx => Hid (RkBlk wx b P1 fv bm budget total pinned ∧ Keep [b] w wx))
  case first =>
    clear hP1
    go_region
    go_wp2_with fail
    go_meet
    obtain ⟨hp0, hpi, hpl, hlast⟩ := HP.out
    have h1 := HH.out.setP (q := { pi with prev := last }) hpi 36 (by omega) (.int .i64 last) (Place.set36 pi last)
    have h2 := h1.setP (k := i) (p := { pi with prev := last }) (q := { pi with prev := last, next := 0 }) (List.getElem?_set_self (by omega)) 35 (by omega) (.int .i64 (0 : Nat)) (Place.set35 { pi with prev := last } 0)
    rw [List.set_set] at h2
    refine Lib.hid ⟨?_, (((Keep.refl _ _).setCell _ _ (by simp)).setCell _ _ (by simp)).drew⟩
    rw [HP1.out]
    exact h2
  case rest =>
    obtain ⟨hb1, hk1⟩ := hcut.out
    clear c0 ci5 ci6 cl5 hfr hcut
    obtain ⟨ql, hql⟩ : ∃ p, P1[last]? = some p := ⟨_, List.getElem?_eq_getElem (by have := hb1.1; omega)⟩
    obtain ⟨P2, hP2⟩ : ∃ P2, P2 = P1.set last { ql with next := i } := ⟨_, rfl⟩
    obtain ⟨q0, hq0⟩ : ∃ p, P2[0]? = some p := ⟨_, List.getElem?_eq_getElem (by have := hb1.1; rw [hP2]; simp; omega)⟩
    have d5 := hb1.cell hql 35 (by omega)
    obtain ⟨q00, hq00⟩ : ∃ p, P1[0]? = some p := ⟨_, List.getElem?_eq_getElem (by have := hb1.1; omega)⟩
    have d6 := hb1.cell hq00 36 (by omega)
    rw [Place.at35] at d5
    rw [Place.at36, Nat.zero_mul, Nat.zero_add] at d6
    have hfr := hb1.2.frozen
    have HB := Lib.hid (And.intro hb1 (And.intro hk1 (And.intro hql (And.intro hP2 hq0))))
    have hfin : linkP P i = P2.set 0 { q0 with prev := i } := by
      obtain ⟨hp0, hpi, hpl, hlast⟩ := HP.out
      unfold linkP
      simp only [getD_get hp0, getD_get hpi, hlast, ← hP1, getD_get hql, ← hP2, getD_get hq0]
    have HFIN := Lib.hid hfin
    clear hb1 hk1 hql hP2 hq0 hP1 hfin hq00
    go_wp2_with fail
    go_region
    go_end0
    obtain ⟨hb1, hk1, hql, hP2, hq0⟩ := HB.out
    have h1 := hb1.setP (q := { ql with next := i }) hql 35 (by omega) (.int .i64 i) (Place.set35 ql i)
    rw [← hP2] at h1
    have h2 := h1.setP (q := { q0 with prev := i }) hq0 36 (by omega) (.int .i64 i) (Place.set36 q0 i)
    rw [Nat.zero_mul, Nat.zero_add] at h2
    refine ⟨rfl, ?_, ((hk1.setCell _ _ (by simp)).setCell _ _ (by simp)).drew⟩
    rw [HFIN.out]
    exact h2
end Go.Proofs.Ytbfnpoknamajnaa
