/- Parts of the proof of StockReplays, in order. No conditions but those that each theorem states. -/
import Derived.Test.YtkghgaopcgcheaaGreatDoorYStockReplays0
import Derived.Deep.DeepHandedRow
import Derived.Deep.RegionHeld3
import Derived.Deep.Cut
import Derived.Deep.DeepCutAuto
import Derived.Deep.LoopGhost
import Derived.Deep.AppendLies
import Derived.Deep.RegionLaw
import Derived.Maps.OwnOps
import Derived.Maps.OwnSet
import Derived.DeepKeys4
import Derived.Deep.MidRow
import Derived.Deep.WholeRow
import Derived.Deep.CutRange
import Derived.Test.YtkghgaopcgcheaaGreatDoorYStockReplays1
set_option maxRecDepth 100000
set_option maxHeartbeats 16000000
set_option linter.unusedSimpArgs false
set_option linter.unusedVariables false
namespace Go.Proofs.YtkghgaopcgcheaaGreatDoor
open Go.RowKit Go.ChangeShapes Go.WideShapes
theorem str_cells : Tryz.prog.cellsOf 9 = 1 := by kernel_rfl
theorem Calls.below {P : Program} {f : FuncId} {args : Array Value} {w : World} {v : Value} (h : Calls P f args w fun e w' => e = .returned v ∧ Keep [] w w') : Calls P f args w fun e w' => e = .returned v ∧ Below w.heap.size w w' :=
  h.mono fun _ _ h => ⟨h.1, h.2.below (by simp)⟩
def flatD : Nat → DataW Unit → List Value
  | 0, _ => []
  | n + 1, .agg l => l.flatMap (flatD n)
  | _ + 1, .lit (.int k z) => [.int k z]
  | _ + 1, .lit (.bool b) => [.bool b]
  | _ + 1, .lit (.string s) => [.string ⟨s.toArray⟩]
  | _ + 1, _ => []
noncomputable def laidHeap (l : List (String × DataW Unit)) (h : Array Obj) : Array Obj :=
  l.foldl (fun h x => match Tryz.prog.globalNamed x.1 with
    | some g => h.modify g fun
      | .cells _ t fr => .cells (flatD 6 x.2).toArray t fr
      | o => o
    | none => h) h
noncomputable def laidWorld (os : Os) (l : List (String × DataW Unit)) : World :=
  { World.holding Tryz.prog os ⟨#[], #[], []⟩ with heap := laidHeap l (World.holding Tryz.prog os ⟨#[], #[], []⟩).heap }
end Go.Proofs.YtkghgaopcgcheaaGreatDoor
namespace Go.Proofs.YtkghgaopcgcheaaGreatDoor
open Go.RowKit Go.Maps
abbrev Dig := { l : List UInt8 // l.length = 32 }
instance : Inhabited Dig := ⟨⟨List.replicate 32 0, by simp⟩⟩
def digC (d : Dig) : List Value := d.1.map fun b => .int .u8 (b.toNat : Nat)
theorem digC_length (d : Dig) : (digC d).length = 32 := by simp [digC, d.2]
theorem map_inj {α β : Type} {f : α → β} (hf : ∀ x y, f x = f y → x = y) : ∀ (a b : List α), a.map f = b.map f → a = b
  | [], [], _ => rfl
  | [], y :: s, h => by simp at h
  | x :: r, [], h => by simp at h
  | x :: r, y :: s, h => by
    simp only [List.map_cons, List.cons.injEq] at h; rw [hf x y h.1, map_inj hf r s h.2]
theorem flatten_one {α β : Type} (f : α → β) : ∀ l : List α, (l.map fun x => [f x]).flatten = l.map f
  | [] => rfl
  | x :: r => by simp [flatten_one f r]
theorem range_map {α : Type} (l : List UInt8) (f : UInt8 → α) : (List.range l.length).map (fun i => f (l.getD i 0)) = l.map f := by
  apply List.ext_getElem?; intro j; by_cases h : j < l.length
  · simp [h, List.getD]
  · simp [h]
theorem mapM_some {α β : Type} (f : α → Option β) (h : α → β) : ∀ (l : List α), (∀ x ∈ l, f x = some (h x)) → l.mapM f = some (l.map h)
  | [], _ => rfl
  | x :: r, hx => by
    rw [List.mapM_cons, hx x (by simp), mapM_some f h r (fun y hy => hx y (by simp [hy]))]; rfl
theorem keyLits_bytes {P : Program} {t e : TypeId} {n : Nat} (ht : P.underlying t = some (.array n e)) (he : P.underlying e = some (.int .u8)) (hce : P.cellsOf e = 1) (hct : P.cellsOf t = n) (D : Nat) (l : List UInt8) (hl : l.length = n) :
    P.keyLits (D + 2) t (l.map fun b => .int .u8 (b.toNat : Nat)) = some (l.map fun b => .int .u8 (b.toNat : Nat)) := by
  have h1 : ∀ i ∈ List.range n, P.keyLits (D + 1) e (((l.map fun b => Value.int .u8 (b.toNat : Nat)).drop (i * P.cellsOf e)).take (P.cellsOf e)) = some [Lit.int .u8 ((l.getD i 0).toNat : Nat)] := fun i hi => by
    have hlt : i < l.length := by rw [hl]; exact List.mem_range.1 hi
    rw [hce, Nat.mul_one]
    have e1 : ((l.map fun b => Value.int .u8 (b.toNat : Nat)).drop i).take 1 = [Value.int .u8 ((l.getD i 0).toNat : Nat)] := by
      rw [← List.map_drop, ← List.map_take, List.drop_eq_getElem_cons hlt]; have e2 : l.getD i 0 = l[i] := by simp [List.getD, hlt]
      rw [e2]; rfl
    rw [e1]; unfold Program.keyLits; rw [he]; generalize l.getD i 0 = c; have := u8_nat c; have hw : (Lit.int .u8 (c.toNat : Nat)).wf = true := by simp [Lit.wf, IntKind.min, IntKind.max, IntKind.signed, IntKind.bits]; omega
    simp [hw]
  unfold Program.keyLits; rw [ht]; simp only; rw [if_pos (by rw [hct]; simp [hl]), mapM_some _ _ _ h1]; simp only [Option.map_some]; rw [flatten_one (fun i => Lit.int .u8 ((l.getD i 0).toNat : Nat)), ← hl]; exact congrArg some (range_map l (fun b => Lit.int .u8 (b.toNat : Nat)))
theorem keyBytes_bytes (l : List UInt8) : keyBytes (l.map fun b => Lit.int .u8 (b.toNat : Nat)) = l := by
  induction l with
  | nil => rfl
  | cons b r ih =>
    unfold keyBytes at *; simp only [List.map_cons, List.flatMap_cons, ih]; have := u8_nat b
    have e : Lit.keyBytes (.int .u8 (b.toNat : Nat)) = [b] := by
      have e1 : (((b.toNat : Nat) : Int) % 2 ^ IntKind.u8.bits).toNat = b.toNat := by
        simp only [IntKind.bits]; omega
      simp only [Lit.keyBytes, e1]; show [UInt8.ofNat (b.toNat % 256)].reverse = [b]; rw [Nat.mod_eq_of_lt this]; simp
    rw [e]; rfl
theorem dig_key (d : Dig) : keyOf Tryz.prog 25 (.agg (digC d).toArray) = some (.string d.1) := by
  have hk : Tryz.prog.keyType 25 = true := by kernel_rfl
  have hc : Tryz.prog.cellsOf 25 = 32 := by kernel_rfl
  have h1 : Tryz.prog.cellsOf 5 = 1 := by kernel_rfl
  have hf : Value.formed Tryz.prog 25 (.agg (digC d).toArray) = true := by
    unfold Value.formed; rw [Tryz.underlying25]; simp [hc, digC_length]
  unfold keyOf; rw [Tryz.underlying25]; simp only [hk, hf, Bool.and_self, if_true]; have hs : Tryz.prog.types.size + 1 = (Tryz.prog.types.size - 1) + 2 := by kernel_rfl
  rw [hs]; have := keyLits_bytes Tryz.underlying25 Tryz.underlying5 h1 hc (Tryz.prog.types.size - 1) d.1 d.2; have e : (Value.agg (digC d).toArray).cells.toList = d.1.map fun b => Value.int .u8 (b.toNat : Nat) := by simp [Value.cells, digC]
  rw [e, this]; simp [keyBytes_bytes]
theorem wpQuiet_load {P : Program} {ops : Array Oper} {C : World → Prop} {rest : List Oper} {o : Oper} {a : Act} {Q : Act → Prop} (hg : o.guard = none) (ty : TypeId) (x : Operand) (ho : o.op = .load ty x)
    (b off : Nat) (hx : a.eval x = .pointer (some ⟨b, off, none⟩)) (cs : List Value) (d : TypeDesc) (hS : ∀ w, C w → w.rangeAt b off cs)
    (hu : P.underlying ty = some d) (hd : d.isRow = true) (hi : (P.info? ty).map (·.size) = some cs.length)
    (h : wpQuiet P ops C Q rest (a.put o.dst (.agg cs.toArray))) : wpQuiet P ops C Q (o :: rest) a := by
  unfold wpQuiet; rw [if_pos (by simp [Region.wanted, hg])]; refine ⟨_, fun w hw => ?_, h⟩; unfold Oper.quietAt execOp; simp only [ho, hx, Instr.loadAt, Instr.sureAddr, Sem.run_bind, Sem.run_pure, Result.andThen_ok, run_loadVar_mid w b off ty cs d (hS w hw) hu hd hi]; exact ⟨rfl, rfl⟩
theorem wpList_store_new {P : Program} {ops : Array Oper} {rest : List Oper} {op : Oper} {a : Act} {w : World} {Q : Exit → Act → World → Prop} (hgd : op.guard = none) (ty : TypeId) (x y : Operand) (ho : op.op = .store ty x y)
    (Z : Array Value) (cells : List Value) (hx : a.eval x = .pointer (some ⟨w.heap.size, 0, none⟩)) (hy : a.eval y = .agg cells.toArray) (hi : (P.info? ty).map (·.size) = some cells.length) (hz : Z.size = cells.length)
    (h1 : ∀ v ∈ cells, v.oneCell' = true) (h : wpList P ops Q rest (a.put op.dst undef) (w.alloc (.cells cells.toArray ty))) : wpList P ops Q (op :: rest) a (w.alloc (.cells Z ty)) :=
  wpList_plain hgd fun _ hK => by
    unfold Oper.wp execOp; simp only [ho, hx, hy, Instr.storeAt, Instr.sureAddr, Sem.run_bind, Sem.run_pure, Result.andThen_ok, run_storeVar_new (P := P) w ty Z cells.toArray (by simpa using hi) (by simpa using hz) (all_oneCell_toArray h1)]; exact hK _ _ h
structure Jar where
  dig : Dig
  typ : List UInt8
  size : Int
  pins : Int
  deriving Inhabited, DecidableEq
def Jar.cells (j : Jar) : List Value := digC j.dig ++ [.string (S j.typ), .int .i64 j.size, .int .i64 j.pins]
theorem Jar.cells_length (j : Jar) : j.cells.length = 35 := by simp [Jar.cells, digC_length]
structure Place where
  jar : Jar
  next : Nat
  prev : Nat
  deriving Inhabited
def Place.cells (p : Place) : List Value := p.jar.cells ++ [.int .i64 p.next, .int .i64 p.prev]
theorem Place.cells_length (p : Place) : p.cells.length = 37 := by simp [Place.cells, Jar.cells_length]
theorem Jar.one (j : Jar) : ∀ u ∈ j.cells, u.oneCell' = true := by
  intro u hu; simp only [Jar.cells, digC, List.mem_append, List.mem_map, List.mem_cons, List.mem_nil_iff, or_false] at hu; rcases hu with ⟨b, _, rfl⟩ | rfl | rfl | rfl <;> rfl
theorem Place.one (p : Place) : ∀ u ∈ p.cells, u.oneCell' = true := by
  intro u hu; simp only [Place.cells, List.mem_append, List.mem_cons, List.mem_nil_iff, or_false] at hu; rcases hu with hu | rfl | rfl
  · exact p.jar.one u hu
  · rfl
  · rfl
theorem digC_one (d : Dig) : ∀ u ∈ digC d, u.oneCell' = true := by
  intro u hu; obtain ⟨b, _, rfl⟩ := List.mem_map.1 hu; rfl
def intC (n : Nat) : List Value := [.int .i64 n]
theorem intC_length (n : Nat) : (intC n).length = 1 := rfl
theorem intC_one (n : Nat) : ∀ u ∈ intC n, u.oneCell' = true := by simp [intC, Value.oneCell']
theorem dig_law : Keyed Tryz.prog 25 := Keyed.of_law (deep_law_laid (show laidOutB Tryz.prog = true by kernel_rfl) (m := 2) (by omega) (of_decide_eq_true (by kernel_rfl)) (by kernel_rfl) (by kernel_rfl))
theorem zeroInt (w : World) : (zeroValue 3).run Tryz.prog w = .ok (.int .i64 0) w := by kernel_rfl
def MapIs (w : World) (bm : Nat) (M : Dig → Nat) (n : Nat) : Prop :=
  ∃ D : DataW Unit, w.ownsMap Tryz.prog 25 (plainElem Tryz.prog 3) bm n D ∧ Maps.size D = n ∧ ∀ d : Dig, D.atKey (.string d.1) (.lit (.int .i64 0)) = .lit (.int .i64 (M d : Nat)) ∧ has D (.string d.1) = decide (M d ≠ 0)
theorem MapIs.look {w : World} {bm n : Nat} {M : Dig → Nat} (h : MapIs w bm M n) (d : Dig) :
    (Instr.lookup 137 (.map (some bm)) (.agg (digC d).toArray) false).run Tryz.prog w = .ok (.int .i64 (M d : Nat)) w := by
  obtain ⟨D, hown, _, hat⟩ := h; obtain ⟨c, hrun, hc, _⟩ := hown.lookup_int dig_law Tryz.underlying137 Tryz.underlying3 (zeroInt w) (dig_key d); rw [(hat d).1] at hc; simp at hc; rw [hrun, hc]
theorem MapIs.alloc {w : World} {bm n : Nat} {M : Dig → Nat} (h : MapIs w bm M n) (o : Obj) : MapIs (w.alloc o) bm M n := by
  obtain ⟨D, h1, h2, h3⟩ := h; exact ⟨D, h1.alloc o, h2, h3⟩
theorem MapIs.drewN {w : World} {bm n : Nat} {M : Dig → Nat} (h : MapIs w bm M n) (k : Nat) : MapIs (w.drewN k) bm M n := h
theorem Keep.load {w w' : World} (k : Keep [] w w') {a : Addr} {v : Value} (h : w.cell? a = some v) : w'.cell? a = some v := by
  have hlt := World.block_lt_of_cell? w _ h; exact (k.cell hlt (by simp)).trans h
def RkBlk (w : World) (b : Nat) (P : List Place) (fv : Value) (bm : Nat) (budget total pinned : Int) : Prop :=
  P.length = 65 ∧ Blk w b 139 (rows Place.cells P ++ [fv, .map (some bm), .int .i64 budget, .int .i64 total, .int .i64 pinned])
theorem RkBlk.tail {w : World} {b : Nat} {P : List Place} {fv : Value} {bm : Nat} {budget total pinned : Int} (h : RkBlk w b P fv bm budget total pinned) (k : Nat) :
    w.cell? ⟨b, 2405 + k, none⟩ = [fv, .map (some bm), .int .i64 budget, .int .i64 total, .int .i64 pinned][k]? := by
  have hl : (rows Place.cells P).length = 2405 := by rw [rows_length Place.cells_length, h.1]
  rw [h.2.cell, List.getElem?_append_right (by omega), hl, Nat.add_sub_cancel_left]
theorem rack_find (b : Nat) (P : List Place) (fv : Value) (bm : Nat) (budget total pinned : Int) (M : Dig → Nat) (n : Nat) (d : Dig) (w : World) (h : RkBlk w b P fv bm budget total pinned) (hm : MapIs w bm M n) :
    Calls Tryz.prog 114 #[.pointer (some ⟨b, 0, none⟩), .agg (digC d).toArray] w fun e w' => e = .returned (.tuple #[.int .i64 (M d : Nat), .int .i64 (if M d = 0 then 7 else 0)]) ∧ Keep [] w w' := by
  have c1 : w.cell? ⟨b, 2406, none⟩ = some (.map (some bm)) := h.tail 1; have hk := (Keep.refl [] w).alloc (.cells (digC d).toArray 25); have hb := Blk.newA w (digC d).toArray 25; have hm' := hm.alloc (.cells (digC d).toArray 25); have c2 := hk.load c1; generalize hwA : w.alloc (.cells (digC d).toArray 25) = wA at hk hb hm' c2
  have hrg : ∀ w', (∃ x, w' = wA.drewN x) → w'.rangeAt w.heap.size 0 (digC d) := fun w' ⟨x, hx⟩ => by
    subst hx; exact fun j v hv => by rw [Nat.zero_add]; exact (hb.drewN x).get (by simpa using hv)
  have hdl := digC_length d; have hlk : ∀ x, (Instr.lookup 137 (.map (some bm)) (.agg (digC d).toArray) false).run Tryz.prog (wA.drewN x) = .ok (.int .i64 (M d : Nat)) (wA.drewN x) := fun x => (hm'.drewN x).look d
  generalize digC d = dc at hrg hlk hb hwA hdl; have HRG := Lib.hid hrg; have HDL := Lib.hid hdl; have HK := Lib.hid hk; clear hb hm' hk c1 hm hrg hdl; generalize M d = i at hlk; by_cases h0 : i = 0
  · have h1 : (if i = 0 then (7 : Int) else 0) = 7 := if_pos h0; rw [h1]; have hq : (((i : Nat) : Int) == 0) = true := by simp [h0]
    have H0 := Lib.hid h0; clear h0 h1; go_enter Tryz.func114, Tryz.ntmps114; go_wp2_with fail; refine wp_region_quiet_lit (by kernel_rfl) (by kernel_rfl) ?_
    repeat (go_big_quiet_step (fail))
    refine wpQuiet_load rfl 25 (.tmp 3) rfl w.heap.size 0 (by rfl) dc _ HRG.out Tryz.underlying25 rfl (by rw [HDL.out]; kernel_rfl) ?_; simp only [sq]
    repeat (go_big_quiet_step (fail))
    refine wpQuiet_nil ?_; intro _ hw'; obtain ⟨nq, hw''⟩ := hw'; subst hw''; go_wp2_with fail; go_ret2; exact ⟨by rw [H0.out]; rfl, HK.out.drewN _⟩
  · have h1 : (if i = 0 then (7 : Int) else 0) = 0 := if_neg h0; rw [h1]; have hq : (((i : Nat) : Int) == 0) = false := by simp [h0]
    clear h0 h1; go_enter Tryz.func114, Tryz.ntmps114; go_wp2_with fail; refine wp_region_quiet_lit (by kernel_rfl) (by kernel_rfl) ?_
    repeat (go_big_quiet_step (fail))
    refine wpQuiet_load rfl 25 (.tmp 3) rfl w.heap.size 0 (by rfl) dc _ HRG.out Tryz.underlying25 rfl (by rw [HDL.out]; kernel_rfl) ?_; simp only [sq]
    repeat (go_big_quiet_step (fail))
    refine wpQuiet_nil ?_; intro _ hw'; obtain ⟨nq, hw''⟩ := hw'; subst hw''; go_wp2_with fail; go_ret2; exact ⟨rfl, HK.out.drewN _⟩
theorem RkBlk.cell {w : World} {b : Nat} {P : List Place} {fv : Value} {bm : Nat} {budget total pinned : Int} (h : RkBlk w b P fv bm budget total pinned) {k : Nat} {p : Place} (hk : P[k]? = some p) (j : Nat) (hj : j < 37) :
    w.cell? ⟨b, k * 37 + j, none⟩ = p.cells[j]? := by
  have hlt := (List.getElem?_eq_some_iff.1 hk).1; have hl : (rows Place.cells P).length = 2405 := by rw [rows_length Place.cells_length, h.1]
  have h65 := h.1; rw [h.2.cell, List.getElem?_append_left (by omega), rows_get' Place.cells_length P k j p hk hj]
theorem RkBlk.setP {w : World} {b : Nat} {P : List Place} {fv : Value} {bm : Nat} {budget total pinned : Int} (h : RkBlk w b P fv bm budget total pinned) {k : Nat} {p q : Place} (hk : P[k]? = some p) (j : Nat) (hj : j < 37) (v : Value) (e : q.cells = p.cells.set j v) :
    RkBlk (w.setCell ⟨b, k * 37 + j, none⟩ v) b (P.set k q) fv bm budget total pinned := by
  have hlt := (List.getElem?_eq_some_iff.1 hk).1; have h65 := h.1; have hl : (rows Place.cells P).length = 2405 := by rw [rows_length Place.cells_length, h.1]
  refine ⟨by simpa using h.1, ?_⟩; have := h.2.set (k * 37 + j) v; rwa [List.set_append_left _ _ (by omega), rows_set' Place.cells_length P k j p q v hk hj e] at this
theorem Place.at33 (p : Place) : p.cells[33]? = some (.int .i64 p.jar.size) := by
  simp [Place.cells, Jar.cells, digC_length, List.getElem?_append]
theorem Place.at34 (p : Place) : p.cells[34]? = some (.int .i64 p.jar.pins) := by
  simp [Place.cells, Jar.cells, digC_length, List.getElem?_append]
theorem Place.at35 (p : Place) : p.cells[35]? = some (.int .i64 p.next) := by
  simp [Place.cells, Jar.cells_length, List.getElem?_append]
theorem Place.at36 (p : Place) : p.cells[36]? = some (.int .i64 p.prev) := by
  simp [Place.cells, Jar.cells_length, List.getElem?_append]
theorem Place.set35 (p : Place) (n : Nat) : ({ p with next := n } : Place).cells = p.cells.set 35 (.int .i64 n) := by
  simp [Place.cells, Jar.cells_length, List.set_append]
theorem Place.set36 (p : Place) (n : Nat) : ({ p with prev := n } : Place).cells = p.cells.set 36 (.int .i64 n) := by
  simp [Place.cells, Jar.cells_length, List.set_append]
theorem Place.set34 (p : Place) (n : Int) : ({ p with jar := { p.jar with pins := n } } : Place).cells = p.cells.set 34 (.int .i64 n) := by
  simp [Place.cells, Jar.cells, digC_length, Jar.cells_length, List.set_append]
def linkP (P : List Place) (i : Nat) : List Place :=
  let last := (P.getD 0 default).prev
  let P1 := P.set i { P.getD i default with prev := last, next := 0 }
  let P2 := P1.set last { P1.getD last default with next := i }
  P2.set 0 { P2.getD 0 default with prev := i }
theorem linkP_length (P : List Place) (i : Nat) : (linkP P i).length = P.length := by simp [linkP]
theorem getD_get {α : Type} {l : List α} {k : Nat} {x d : α} (h : l[k]? = some x) : l.getD k d = x := by simp [List.getD, h]
theorem rack_link (b : Nat) (P : List Place) (fv : Value) (bm : Nat) (budget total pinned : Int) (i : Nat) (w : World) (h : RkBlk w b P fv bm budget total pinned) (hi : i < 65) (hl : (P.getD 0 default).prev < 65) :
    Calls Tryz.prog 176 #[.pointer (some ⟨b, 0, none⟩), .int .i64 (i : Nat)] w fun e w' => e = .returned (.tuple #[]) ∧ RkBlk w' b (linkP P i) fv bm budget total pinned ∧ Keep [b] w w' := by
  have h65 := h.1; obtain ⟨p0, hp0⟩ : ∃ p, P[0]? = some p := ⟨_, List.getElem?_eq_getElem (by omega)⟩
  obtain ⟨pi, hpi⟩ : ∃ p, P[i]? = some p := ⟨_, List.getElem?_eq_getElem (by omega)⟩
  rw [getD_get hp0] at hl; have c0 := h.cell hp0 36 (by omega); rw [Place.at36, Nat.zero_mul, Nat.zero_add] at c0; have hfr := h.2.frozen; generalize hlast : p0.prev = last at c0 hl; obtain ⟨pl, hpl⟩ : ∃ p, P[last]? = some p := ⟨_, List.getElem?_eq_getElem (by omega)⟩
  have ci5 := h.cell hpi 35 (by omega); have ci6 := h.cell hpi 36 (by omega); have cl5 := h.cell hpl 35 (by omega); rw [Place.at35] at ci5 cl5; rw [Place.at36] at ci6; have HH := Lib.hid h; have HP := Lib.hid (And.intro hp0 (And.intro hpi (And.intro hpl hlast))); clear h hp0 hpi hlast hpl; have hi0 : (0 : Int) ≤ (i : Int) := by omega
  have hi1 : (i : Int) < 65 := by omega
  have hl0 : (0 : Int) ≤ (last : Int) := by omega
  have hl1 : (last : Int) < 65 := by omega
  go_enter Tryz.func176, Tryz.ntmps176; go_wp2_with fail; obtain ⟨P1, hP1⟩ : ∃ P1, P1 = P.set i { pi with prev := last, next := 0 } := ⟨_, rfl⟩
  have HP1 := Lib.hid hP1
  go_cut [] (fun wx => Hid (RkBlk wx b P1 fv bm budget total pinned ∧ Keep [b] w wx))
  case first =>
    clear hP1
    go_region
    go_wp2_with fail; go_meet; obtain ⟨hp0, hpi, hpl, hlast⟩ := HP.out; have h1 := HH.out.setP (q := { pi with prev := last }) hpi 36 (by omega) (.int .i64 last) (Place.set36 pi last); have h2 := h1.setP (k := i) (p := { pi with prev := last }) (q := { pi with prev := last, next := 0 }) (List.getElem?_set_self (by omega)) 35 (by omega) (.int .i64 (0 : Nat)) (Place.set35 { pi with prev := last } 0); rw [List.set_set] at h2; refine Lib.hid ⟨?_, (((Keep.refl _ _).setCell _ _ (by simp)).setCell _ _ (by simp)).drew⟩; rw [HP1.out]; exact h2
  case rest =>
    obtain ⟨hb1, hk1⟩ := hcut.out; clear c0 ci5 ci6 cl5 hfr hcut; obtain ⟨ql, hql⟩ : ∃ p, P1[last]? = some p := ⟨_, List.getElem?_eq_getElem (by have := hb1.1; omega)⟩
    obtain ⟨P2, hP2⟩ : ∃ P2, P2 = P1.set last { ql with next := i } := ⟨_, rfl⟩
    obtain ⟨q0, hq0⟩ : ∃ p, P2[0]? = some p := ⟨_, List.getElem?_eq_getElem (by have := hb1.1; rw [hP2]; simp; omega)⟩
    have d5 := hb1.cell hql 35 (by omega); obtain ⟨q00, hq00⟩ : ∃ p, P1[0]? = some p := ⟨_, List.getElem?_eq_getElem (by have := hb1.1; omega)⟩
    have d6 := hb1.cell hq00 36 (by omega); rw [Place.at35] at d5; rw [Place.at36, Nat.zero_mul, Nat.zero_add] at d6; have hfr := hb1.2.frozen; have HB := Lib.hid (And.intro hb1 (And.intro hk1 (And.intro hql (And.intro hP2 hq0))))
    have hfin : linkP P i = P2.set 0 { q0 with prev := i } := by
      obtain ⟨hp0, hpi, hpl, hlast⟩ := HP.out; unfold linkP; simp only [getD_get hp0, getD_get hpi, hlast, ← hP1, getD_get hql, ← hP2, getD_get hq0]
    have HFIN := Lib.hid hfin; clear hb1 hk1 hql hP2 hq0 hP1 hfin hq00; go_wp2_with fail
    go_region
    go_end0; obtain ⟨hb1, hk1, hql, hP2, hq0⟩ := HB.out; have h1 := hb1.setP (q := { ql with next := i }) hql 35 (by omega) (.int .i64 i) (Place.set35 ql i); rw [← hP2] at h1; have h2 := h1.setP (q := { q0 with prev := i }) hq0 36 (by omega) (.int .i64 i) (Place.set36 q0 i); rw [Nat.zero_mul, Nat.zero_add] at h2; refine ⟨rfl, ?_, ((hk1.setCell _ _ (by simp)).setCell _ _ (by simp)).drew⟩; rw [HFIN.out]; exact h2
def unlinkP (P : List Place) (i : Nat) : List Place :=
  let x := P.getD i default
  let P1 := P.set x.prev { P.getD x.prev default with next := x.next }
  P1.set x.next { P1.getD x.next default with prev := x.prev }
theorem unlinkP_length (P : List Place) (i : Nat) : (unlinkP P i).length = P.length := by simp [unlinkP]
theorem place_size : (Tryz.prog.info? 135).map (·.size) = some 37 := by kernel_rfl
theorem jar_size : (Tryz.prog.info? 63).map (·.size) = some 35 := by kernel_rfl
theorem dig_size : (Tryz.prog.info? 25).map (·.size) = some 32 := by kernel_rfl
theorem RkBlk.range {w : World} {b : Nat} {P : List Place} {fv : Value} {bm : Nat} {budget total pinned : Int} (h : RkBlk w b P fv bm budget total pinned) {k : Nat} {p : Place} (hk : P[k]? = some p) : w.rangeAt b (k * 37) p.cells := fun j v hv => by
  have hj : j < 37 := by have := (List.getElem?_eq_some_iff.1 hv).1; rwa [Place.cells_length] at this
  rw [h.cell hk j hj]; exact hv
theorem rack_unlink (b : Nat) (P : List Place) (fv : Value) (bm : Nat) (budget total pinned : Int) (i : Nat) (w : World) (h : RkBlk w b P fv bm budget total pinned) (hi : i < 65) (hn : (P.getD i default).next < 65) (hp : (P.getD i default).prev < 65) :
    Calls Tryz.prog 143 #[.pointer (some ⟨b, 0, none⟩), .int .i64 (i : Nat)] w fun e w' => e = .returned (.tuple #[]) ∧ RkBlk w' b (unlinkP P i) fv bm budget total pinned ∧ Keep [b] w w' := by
  have h65 := h.1; obtain ⟨pi, hpi⟩ : ∃ p, P[i]? = some p := ⟨_, List.getElem?_eq_getElem (by omega)⟩
  rw [getD_get hpi] at hn hp; have hr := h.range hpi; have hi0 : (0 : Int) ≤ (i : Int) := by omega
  have hi1 : (i : Int) < 65 := by omega
  have hpl := Place.cells_length pi; have hsz : (Tryz.prog.info? 135).map (·.size) = some pi.cells.length := by rw [hpl]; exact place_size
  have HR := Lib.hid hr; have HSZ := Lib.hid hsz; clear hr hsz hpl; have H1 := Lib.hid pi.one; have HL := Lib.hid (Place.cells_length pi); go_enter Tryz.func143, Tryz.ntmps143
  go_wp2_with (first | (refine wpList_load_mid rfl 135 (.tmp 9) rfl b (i * 37) (by rfl) pi.cells _ HR.out Tryz.underlying135 rfl HSZ.out ?_) | (refine wpList_store_new rfl 135 (.tmp 4) (.tmp 10) rfl _ pi.cells (by rfl) (by rfl) HSZ.out (by rw [HL.out]; rfl) H1.out ?_) | fail); simp only [sq]; have hA : RkBlk (w.alloc (.cells pi.cells.toArray 135)) b P fv bm budget total pinned := ⟨h.1, h.2.alloc _⟩
  have hN := Blk.newA w pi.cells.toArray 135; have hkA := (Keep.refl [b] w).alloc (.cells pi.cells.toArray 135); have hne : w.heap.size ≠ b := by have := h.2.lt; omega
  generalize w.alloc (.cells pi.cells.toArray 135) = wA at hA hN hkA; have n5 := hN.get (k := 35) (by rw [List.toList_toArray]; exact Place.at35 pi); have n6 := hN.get (k := 36) (by rw [List.toList_toArray]; exact Place.at36 pi); generalize hnx : pi.next = nx at hn n5; generalize hpv : pi.prev = pv at hp n6; obtain ⟨pp, hpp⟩ : ∃ p, P[pv]? = some p := ⟨_, List.getElem?_eq_getElem (by omega)⟩
  obtain ⟨P1, hP1⟩ : ∃ P1, P1 = P.set pv { pp with next := nx } := ⟨_, rfl⟩
  obtain ⟨pn, hpn⟩ : ∃ p, P1[nx]? = some p := ⟨_, List.getElem?_eq_getElem (by rw [hP1]; simp; omega)⟩
  obtain ⟨pn0, hpn0⟩ : ∃ p, P[nx]? = some p := ⟨_, List.getElem?_eq_getElem (by omega)⟩
  have c5 := hA.cell hpp 35 (by omega); have c6 := hA.cell hpn0 36 (by omega); rw [Place.at35] at c5; rw [Place.at36] at c6; have hfr := hA.2.frozen
  have hfin : unlinkP P i = P1.set nx { pn with prev := pv } := by
    unfold unlinkP; simp only [getD_get hpi, hnx, hpv, getD_get hpp, ← hP1, getD_get hpn]
  have h1 := hA.setP (q := { pp with next := nx }) hpp 35 (by omega) (.int .i64 nx) (Place.set35 pp nx); rw [← hP1] at h1; have h2 := h1.setP (q := { pn with prev := pv }) hpn 36 (by omega) (.int .i64 pv) (Place.set36 pn pv); rw [← hfin] at h2; have HF := Lib.hid (And.intro h2 hkA); have hn0 : (0 : Int) ≤ (nx : Int) := by omega
  have hn1 : (nx : Int) < 65 := by omega
  have hp0 : (0 : Int) ≤ (pv : Int) := by omega
  have hp1 : (pv : Int) < 65 := by omega
  clear h hA hN hkA hnx hpv hpp hP1 hpn hpn0 hfin h1 h2 hpi
  go_region
  go_end0; refine ⟨rfl, HF.out.1, ((HF.out.2.setCell _ _ (by simp)).setCell _ _ (by simp)).drew⟩
def prvF (P : List Place) (k : Nat) : Nat := (P.getD k default).prev
def nxtF (P : List Place) (k : Nat) : Nat := (P.getD k default).next
def jarF (P : List Place) (k : Nat) : Jar := (P.getD k default).jar
theorem getD_set {P : List Place} {k : Nat} (q : Place) (hk : k < P.length) (j : Nat) : (P.set k q).getD j default = if j = k then q else P.getD j default := by
  simp only [List.getD, List.getElem?_set]; by_cases h : k = j
  · subst h; simp [hk]
  · simp [h, Ne.symm h]
theorem next_prv {P : List Place} {k : Nat} (n : Nat) (hk : k < P.length) (j : Nat) : prvF (P.set k { P.getD k default with next := n }) j = prvF P j := by
  unfold prvF; rw [getD_set _ hk]
  split
  · rename_i h; subst h; rfl
  · rfl
theorem next_nxt {P : List Place} {k : Nat} (n : Nat) (hk : k < P.length) (j : Nat) : nxtF (P.set k { P.getD k default with next := n }) j = if j = k then n else nxtF P j := by
  unfold nxtF; rw [getD_set _ hk]
  split <;> rfl
theorem next_jar {P : List Place} {k : Nat} (n : Nat) (hk : k < P.length) (j : Nat) : jarF (P.set k { P.getD k default with next := n }) j = jarF P j := by
  unfold jarF; rw [getD_set _ hk]
  split
  · rename_i h; subst h; rfl
  · rfl
theorem prev_prv {P : List Place} {k : Nat} (n : Nat) (hk : k < P.length) (j : Nat) : prvF (P.set k { P.getD k default with prev := n }) j = if j = k then n else prvF P j := by
  unfold prvF; rw [getD_set _ hk]
  split <;> rfl
theorem prev_nxt {P : List Place} {k : Nat} (n : Nat) (hk : k < P.length) (j : Nat) : nxtF (P.set k { P.getD k default with prev := n }) j = nxtF P j := by
  unfold nxtF; rw [getD_set _ hk]
  split
  · rename_i h; subst h; rfl
  · rfl
theorem prev_jar {P : List Place} {k : Nat} (n : Nat) (hk : k < P.length) (j : Nat) : jarF (P.set k { P.getD k default with prev := n }) j = jarF P j := by
  unfold jarF; rw [getD_set _ hk]
  split
  · rename_i h; subst h; rfl
  · rfl
theorem both_prv {P : List Place} {k : Nat} (n m : Nat) (hk : k < P.length) (j : Nat) : prvF (P.set k { P.getD k default with prev := n, next := m }) j = if j = k then n else prvF P j := by
  unfold prvF; rw [getD_set _ hk]
  split <;> rfl
theorem both_nxt {P : List Place} {k : Nat} (n m : Nat) (hk : k < P.length) (j : Nat) : nxtF (P.set k { P.getD k default with prev := n, next := m }) j = if j = k then m else nxtF P j := by
  unfold nxtF; rw [getD_set _ hk]
  split <;> rfl
theorem both_jar {P : List Place} {k : Nat} (n m : Nat) (hk : k < P.length) (j : Nat) : jarF (P.set k { P.getD k default with prev := n, next := m }) j = jarF P j := by
  unfold jarF; rw [getD_set _ hk]
  split
  · rename_i h; subst h; rfl
  · rfl
section
variable {P : List Place} {i : Nat}
theorem link_prv (hi : i < P.length) (h0 : 0 < P.length) (hl : prvF P 0 < P.length) (j : Nat) : prvF (linkP P i) j = if j = 0 then i else if j = i then prvF P 0 else prvF P j := by
  unfold linkP; simp only; rw [prev_prv _ (by rw [List.length_set, List.length_set]; exact h0), next_prv _ (by rw [List.length_set]; exact hl), both_prv _ _ hi]; rfl
theorem link_nxt (hi : i < P.length) (h0 : 0 < P.length) (hl : prvF P 0 < P.length) (j : Nat) : nxtF (linkP P i) j = if j = prvF P 0 then i else if j = i then 0 else nxtF P j := by
  unfold linkP; simp only; rw [prev_nxt _ (by rw [List.length_set, List.length_set]; exact h0), next_nxt _ (by rw [List.length_set]; exact hl), both_nxt _ _ hi]; rfl
theorem link_jar (hi : i < P.length) (h0 : 0 < P.length) (hl : prvF P 0 < P.length) (j : Nat) : jarF (linkP P i) j = jarF P j := by
  unfold linkP; simp only; rw [prev_jar _ (by rw [List.length_set, List.length_set]; exact h0), next_jar _ (by rw [List.length_set]; exact hl), both_jar _ _ hi]
theorem unlink_prv (hn : nxtF P i < P.length) (hp : prvF P i < P.length) (j : Nat) : prvF (unlinkP P i) j = if j = nxtF P i then prvF P i else prvF P j := by
  unfold unlinkP; simp only; rw [prev_prv _ (by rw [List.length_set]; exact hn), next_prv _ (show (P.getD i default).prev < P.length from hp)]; rfl
theorem unlink_nxt (hn : nxtF P i < P.length) (hp : prvF P i < P.length) (j : Nat) : nxtF (unlinkP P i) j = if j = prvF P i then nxtF P i else nxtF P j := by
  unfold unlinkP; simp only; rw [prev_nxt _ (by rw [List.length_set]; exact hn), next_nxt _ (show (P.getD i default).prev < P.length from hp)]; rfl
theorem unlink_jar (hn : nxtF P i < P.length) (hp : prvF P i < P.length) (j : Nat) : jarF (unlinkP P i) j = jarF P j := by
  unfold unlinkP; simp only; rw [prev_jar _ (by rw [List.length_set]; exact hn), next_jar _ (show (P.getD i default).prev < P.length from hp)]
end
def Seg (prv nxt : Nat → Nat) : Nat → List Nat → Nat → Prop
  | x, [], y => prv x = y ∧ nxt y = x
  | x, i :: r, y => prv x = i ∧ nxt i = x ∧ Seg prv nxt i r y
theorem Seg.append {prv nxt : Nat → Nat} {i y : Nat} {B : List Nat} : ∀ {x : Nat} {A : List Nat}, Seg prv nxt x (A ++ i :: B) y ↔ Seg prv nxt x A i ∧ Seg prv nxt i B y
  | x, [] => by simp [Seg, and_assoc]
  | x, a :: A => by simp [Seg, Seg.append (A := A), and_assoc]
theorem Seg.congr {prv nxt prv' nxt' : Nat → Nat} : ∀ {I : List Nat} {x y : Nat}, Seg prv nxt x I y → (∀ k ∈ x :: I, prv' k = prv k) → (∀ k ∈ y :: I, nxt' k = nxt k) → Seg prv' nxt' x I y
  | [], x, y, h, hp, hn => ⟨(hp x (by simp)).trans h.1, (hn y (by simp)).trans h.2⟩
  | i :: r, x, y, h, hp, hn => ⟨(hp x (by simp)).trans h.1, (hn i (by simp)).trans h.2.1, Seg.congr h.2.2 (fun k hk => hp k (by simp at hk ⊢; exact .inr hk)) (fun k hk => hn k (by simp at hk ⊢; rcases hk with h | h <;> simp [h]))⟩
theorem Seg.link {prv nxt prv' nxt' : Nat → Nat} {I : List Nat} {i : Nat} (h : Seg prv nxt 0 I 0) (h0 : i ≠ 0) (hi : i ∉ I) (hI : ∀ k ∈ I, k ≠ 0) (hd : I.Nodup)
    (hp : ∀ j, prv' j = if j = 0 then i else if j = i then prv 0 else prv j) (hn : ∀ j, nxt' j = if j = prv 0 then i else if j = i then 0 else nxt j) (hli : prv 0 ≠ i) : Seg prv' nxt' 0 (i :: I) 0 := by
  refine ⟨by simp [hp], by simp [hn, Ne.symm hli], ?_⟩
  cases I with
  | nil => exact ⟨by rw [hp]; simp [h0, h.1], by rw [hn]; simp [h.1]⟩
  | cons c r =>
    obtain ⟨h1, h2, h3⟩ := h; have hc0 := hI c (by simp); refine ⟨by rw [hp]; simp [h0, h1], by rw [hn]; simp [h1], Seg.congr h3 ?_ ?_⟩
    · intro k hk; have hk0 := hI k hk; have hki : k ≠ i := fun e => hi (e ▸ hk)
      rw [hp, if_neg hk0, if_neg hki]
    · intro k hk
      have hkc : k ≠ c := by
        rcases List.mem_cons.1 hk with rfl | hk
        · exact Ne.symm hc0
        · exact fun e => (List.nodup_cons.1 hd).1 (e ▸ hk)
      have hki : k ≠ i := by
        rcases List.mem_cons.1 hk with rfl | hk
        · exact Ne.symm h0
        · exact fun e => hi (by simp [← e, hk])
      rw [hn, h1, if_neg hkc, if_neg hki]
theorem Seg.last {prv nxt : Nat → Nat} {i : Nat} : ∀ {A : List Nat} {x : Nat}, Seg prv nxt x A i → nxt i ∈ x :: A
  | [], x, h => by simp [h.2]
  | a :: A, x, h => by have := Seg.last h.2.2; simp at this ⊢; exact .inr this
theorem Seg.first {prv nxt : Nat → Nat} {i y : Nat} : ∀ {B : List Nat}, Seg prv nxt i B y → prv i ∈ y :: B
  | [], h => by simp [h.1]
  | b :: B, h => by simp [h.1]
theorem Seg.unlink {prv nxt prv' nxt' : Nat → Nat} {i : Nat} {B : List Nat} (hp : ∀ j, prv' j = if j = nxt i then prv i else prv j) (hn : ∀ j, nxt' j = if j = prv i then nxt i else nxt j) (hB : Seg prv nxt i B 0) :
    ∀ {A : List Nat} {x : Nat}, Seg prv nxt x A i → (A ++ i :: B).Nodup → (∀ k ∈ A ++ i :: B, k ≠ 0) → x ∉ A ++ i :: B → Seg prv' nxt' x (A ++ B) 0
  | [], x, h, hd, h0, hx => by
    obtain ⟨h1, h2⟩ := h
    cases B with
    | nil => exact ⟨by rw [hp, h2]; simp [hB.1], by rw [hn, hB.1]; simp [h2]⟩
    | cons c r =>
      obtain ⟨b1, b2, b3⟩ := hB; simp at hd h0 hx; refine ⟨by rw [hp, h2]; simp [b1], by rw [hn, b1]; simp [h2], Seg.congr b3 ?_ ?_⟩
      · intro k hk; rw [hp, h2, if_neg]; intro e; subst e
        simp at hk; rcases hk with rfl | hk
        · exact hx.2.1 rfl
        · exact hx.2.2 hk
      · intro k hk; rw [hn, b1, if_neg]; intro e; subst e
        simp at hk; rcases hk with rfl | hk
        · exact h0.2.1 rfl
        · exact hd.2.1 hk
  | p :: A, x, h, hd, h0, hx => by
    obtain ⟨h1, h2, h3⟩ := h; have hd' := (List.nodup_cons.1 (show (p :: (A ++ i :: B)).Nodup from hd))
    have ih := Seg.unlink hp hn hB h3 hd'.2 (fun k hk => h0 k (by simp at hk ⊢; exact .inr hk)) hd'.1; refine ⟨?_, ?_, ih⟩
    · rw [hp, if_neg, h1]; intro e; have := Seg.last h3; rw [← e] at this; exact hx (by simp at this ⊢; rcases this with h | h <;> simp [h])
    · rw [hn, if_neg, h2]; intro e; have := Seg.first hB; rw [← e] at this; rcases List.mem_cons.1 this with h | h
      · exact h0 p (by simp) h
      · exact hd'.1 (by simp [h])
end Go.Proofs.YtkghgaopcgcheaaGreatDoor
namespace Go.Proofs.YtkghgaopcgcheaaGreatDoor
open Go.RowKit Go.Maps
def okJar (j : Jar) : Prop := j.typ.length ≤ 100 ∧ 0 ≤ j.size ∧ j.size ≤ 1048576 ∧ 0 ≤ j.pins ∧ j.pins ≤ 1073741824
structure Ring (P : List Place) (I F : List Nat) (M : Dig → Nat) : Prop where
  len : P.length = 65
  seg : Seg (prvF P) (nxtF P) 0 I 0
  perm : (I ++ F).Perm (List.range' 1 64)
  m1 : ∀ d, M d ≠ 0 → M d ∈ I ∧ (jarF P (M d)).dig = d
  m2 : ∀ i ∈ I, M (jarF P i).dig = i
section
variable {P : List Place} {I F : List Nat} {M : Dig → Nat}
theorem Ring.nodup (h : Ring P I F M) : (I ++ F).Nodup := h.perm.symm.nodup (List.nodup_range')
theorem Ring.bound (h : Ring P I F M) {k : Nat} (hk : k ∈ I ++ F) : 1 ≤ k ∧ k < 65 := by
  have := h.perm.mem_iff.1 hk; simp [List.mem_range'] at this; omega
theorem Ring.count (h : Ring P I F M) : I.length + F.length = 64 := by
  have := h.perm.length_eq; simpa using this
theorem Ring.ib (h : Ring P I F M) {k : Nat} (hk : k ∈ I) : 1 ≤ k ∧ k < 65 := h.bound (List.mem_append_left _ hk)
theorem Ring.at0 (h : Ring P I F M) {d : Dig} (hd : M d ≠ 0) : M d < 65 := (h.ib (h.m1 d hd).1).2
theorem mem_split {α : Type} {a : α} {l : List α} (h : a ∈ l) : ∃ s t, l = s ++ a :: t := List.append_of_mem h
theorem Ring.prv0 (h : Ring P I F M) : prvF P 0 < 65 := by
  have := Seg.first h.seg; rcases List.mem_cons.1 this with e | e
  · omega
  · exact (h.ib e).2
theorem Ring.two (h : Ring P I F M) {i : Nat} (hi : i ∈ I) : nxtF P i < 65 ∧ prvF P i < 65 ∧ prvF P i ≠ i := by
  obtain ⟨A, B, rfl⟩ := mem_split hi; have hs := Seg.append.1 h.seg; have h1 := Seg.last hs.1; have h2 := Seg.first hs.2; have hn := (List.nodup_append.1 h.nodup).1; refine ⟨?_, ?_, ?_⟩
  · rcases List.mem_cons.1 h1 with e | e
    · omega
    · exact (h.ib (by simp [e])).2
  · rcases List.mem_cons.1 h2 with e | e
    · omega
    · exact (h.ib (by simp [e])).2
  · rcases List.mem_cons.1 h2 with e | e
    · have := (h.ib hi).1; omega
    · intro e'; rw [e'] at e; have := (List.nodup_append.1 hn).2.1; exact (List.nodup_cons.1 this).1 e
theorem filter_mid {A B : List Nat} {i : Nat} (h : (A ++ i :: B).Nodup) : (A ++ i :: B).filter (fun k => !decide (k = i)) = A ++ B := by
  have hA : ∀ k ∈ A, k ≠ i := fun k hk e => by
    subst e; exact (List.nodup_append.1 h).2.2 k hk k (by simp) rfl
  have hB : ∀ k ∈ B, k ≠ i := fun k hk e => by
    subst e; exact (List.nodup_cons.1 (List.nodup_append.1 h).2.1).1 hk
  rw [List.filter_append, List.filter_cons_of_neg (by simp), List.filter_eq_self.2 (fun k hk => by simp [hA k hk]), List.filter_eq_self.2 (fun k hk => by simp [hB k hk])]
def findL (L : List Jar) (d : Dig) : Option Jar := L.find? fun x => decide (x.dig = d)
def restL (L : List Jar) (d : Dig) : List Jar := L.filter fun x => !decide (x.dig = d)
def pinsL (L : List Jar) (d : Dig) (n : Int) : List Jar := L.map fun x => if x.dig = d then { x with pins := n } else x
theorem Ring.find_no (h : Ring P I F M) {d : Dig} (hd : M d = 0) : findL (I.map (jarF P)) d = none := by
  unfold findL; rw [List.find?_eq_none]; intro x hx; obtain ⟨i, hi, rfl⟩ := List.mem_map.1 hx; simp only [decide_eq_true_eq]; intro e; have := h.m2 i hi; rw [e, hd] at this; have := (h.ib hi).1; omega
theorem Ring.find_yes (h : Ring P I F M) {d : Dig} (hd : M d ≠ 0) : findL (I.map (jarF P)) d = some (jarF P (M d)) := by
  unfold findL; obtain ⟨hm, hdg⟩ := h.m1 d hd
  cases hf : (I.map (jarF P)).find? (fun x => decide (x.dig = d)) with
  | none =>
    rw [List.find?_eq_none] at hf; exact absurd (by simpa using hdg) (hf _ (List.mem_map.2 ⟨_, hm, rfl⟩))
  | some x =>
    have h1 := List.find?_some hf; obtain ⟨i, hi, rfl⟩ := List.mem_map.1 (List.mem_of_find?_eq_some hf); simp only [decide_eq_true_eq] at h1; have := h.m2 i hi; rw [h1] at this; rw [this]
theorem Ring.rest (h : Ring P I F M) {d : Dig} (hd : M d ≠ 0) : (I.filter (fun k => !decide (k = M d))).map (jarF P) = restL (I.map (jarF P)) d := by
  unfold restL; rw [List.filter_map]; congr 1; apply List.filter_congr; intro k hk; have h1 := h.m2 k hk; simp only [Function.comp_apply]; congr 1; rw [decide_eq_decide]; constructor
  · rintro rfl; exact (h.m1 d hd).2
  · intro e; rw [← e, h1]
theorem Ring.digs (h : Ring P I F M) : ((I.map (jarF P)).map (·.dig)).Nodup := by
  rw [List.map_map]; have hI := (List.nodup_append.1 h.nodup).1
  have : ∀ J : List Nat, J.Nodup → (∀ k ∈ J, k ∈ I) → (J.map ((·.dig) ∘ jarF P)).Nodup := by
    intro J
    induction J with
    | nil => intros; simp
    | cons a J ih =>
      intro hJ hs; rw [List.map_cons, List.nodup_cons]; refine ⟨?_, ih (List.nodup_cons.1 hJ).2 (fun k hk => hs k (by simp [hk]))⟩; intro hm; obtain ⟨k, hk, e⟩ := List.mem_map.1 hm; have h1 := h.m2 k (hs k (by simp [hk])); have h2 := h.m2 a (hs a (by simp)); simp only [Function.comp_apply] at e; rw [e, h2] at h1; exact (List.nodup_cons.1 hJ).1 (h1 ▸ hk)
  exact this I hI (fun _ h => h)
theorem map_congr' {α β : Type} {f g : α → β} {l : List α} (h : ∀ x ∈ l, f x = g x) : l.map f = l.map g := List.map_congr_left h
theorem jar_set {k : Nat} (j : Jar) (hk : k < P.length) (x : Nat) : jarF (P.set k { P.getD k default with jar := j }) x = if x = k then j else jarF P x := by
  unfold jarF; rw [getD_set _ hk]
  split <;> rfl
theorem jset_prv {k : Nat} (j : Jar) (hk : k < P.length) (x : Nat) : prvF (P.set k { P.getD k default with jar := j }) x = prvF P x := by
  unfold prvF; rw [getD_set _ hk]
  split
  · rename_i h; subst h; rfl
  · rfl
theorem jset_nxt {k : Nat} (j : Jar) (hk : k < P.length) (x : Nat) : nxtF (P.set k { P.getD k default with jar := j }) x = nxtF P x := by
  unfold nxtF; rw [getD_set _ hk]
  split
  · rename_i h; subst h; rfl
  · rfl
theorem Ring.put {i : Nat} (h : Ring P I (F ++ [i]) M) (j : Jar) (hd : M j.dig = 0) :
    Ring (linkP (P.set i { P.getD i default with jar := j }) i) (i :: I) F (fun d => if d = j.dig then i else M d) ∧ (i :: I).map (jarF (linkP (P.set i { P.getD i default with jar := j }) i)) = j :: I.map (jarF P) := by
  have hb := h.bound (k := i) (by simp); have hi : i < P.length := by have := h.len; omega
  obtain ⟨P1, hP1⟩ : ∃ P1, P1 = P.set i { P.getD i default with jar := j } := ⟨_, rfl⟩
  have hl1 : P1.length = 65 := by rw [hP1]; simpa using h.len
  have p1 : ∀ x, prvF P1 x = prvF P x := fun x => by rw [hP1]; exact jset_prv j hi x
  have n1 : ∀ x, nxtF P1 x = nxtF P x := fun x => by rw [hP1]; exact jset_nxt j hi x
  have j1 : ∀ x, jarF P1 x = if x = i then j else jarF P x := fun x => by rw [hP1]; exact jar_set j hi x
  rw [← hP1]; have hprv := h.prv0; have hnI : i ∉ I := fun hm => (List.nodup_append.1 h.nodup).2.2 i hm i (by simp) rfl
  have hI0 : ∀ k ∈ I, k ≠ 0 := fun k hk => by have := (h.ib hk).1; omega
  have a1 : i < P1.length := by omega
  have a2 : 0 < P1.length := by omega
  have a3 : prvF P1 0 < P1.length := by rw [p1]; omega
  have hli : prvF P1 0 ≠ i := by
    rw [p1]; have := Seg.first h.seg; rcases List.mem_cons.1 this with e | e
    · omega
    · exact fun e' => hnI (e' ▸ e)
  have hseg : Seg (prvF P1) (nxtF P1) 0 I 0 := h.seg.congr (fun k _ => p1 k) (fun k _ => n1 k); have jj : ∀ x, jarF (linkP P1 i) x = if x = i then j else jarF P x := fun x => by rw [link_jar a1 a2 a3, j1]
  have jI : ∀ k ∈ I, jarF (linkP P1 i) k = jarF P k := fun k hk => by
    rw [jj, if_neg]; exact fun e => hnI (e ▸ hk)
  have hdI : ∀ k ∈ I, (jarF P k).dig ≠ j.dig := fun k hk e => by
    have := h.m2 k hk; rw [e, hd] at this; exact hI0 k hk this.symm
  refine ⟨⟨by rw [linkP_length]; exact hl1, hseg.link (by omega) hnI hI0 (List.nodup_append.1 h.nodup).1 (link_prv a1 a2 a3) (link_nxt a1 a2 a3) hli, ?_, ?_, ?_⟩, ?_⟩
  · refine List.Perm.trans ?_ h.perm; rw [← List.append_assoc]; exact (List.perm_append_comm (l₁ := [i]) (l₂ := I ++ F))
  · intro d hd'; by_cases e : d = j.dig
    · rw [if_pos e, jj, if_pos rfl]; exact ⟨by simp, e.symm⟩
    · rw [if_neg e] at hd' ⊢; have := h.m1 d hd'; rw [jI _ this.1]; exact ⟨by simp [this.1], this.2⟩
  · intro k hk; rcases List.mem_cons.1 hk with rfl | hk
    · rw [jj, if_pos rfl, if_pos rfl]
    · rw [jI k hk, if_neg (hdI k hk)]; exact h.m2 k hk
  · rw [List.map_cons, jj, if_pos rfl, map_congr' jI]
theorem Ring.unlink (h : Ring P I F M) {d : Dig} (hd : M d ≠ 0) :
    Seg (prvF (unlinkP P (M d))) (nxtF (unlinkP P (M d))) 0 (I.filter (fun k => !decide (k = M d))) 0 ∧ (∀ x, jarF (unlinkP P (M d)) x = jarF P x) ∧ (unlinkP P (M d)).length = 65 ∧ (M d :: I.filter (fun k => !decide (k = M d))).Perm I := by
  obtain ⟨hm, hdg⟩ := h.m1 d hd; generalize M d = i at *; have ht := h.two hm; obtain ⟨A, B, rfl⟩ := mem_split hm; have hn := (List.nodup_append.1 h.nodup).1; have hl := h.len; have hs := Seg.append.1 h.seg; have n1 : nxtF P i < P.length := by omega
  have n2 : prvF P i < P.length := by omega
  rw [filter_mid hn]; refine ⟨Seg.unlink (unlink_prv n1 n2) (unlink_nxt n1 n2) hs.2 hs.1 hn (fun k hk => by have := (h.ib hk).1; omega) (fun hk => by have := (h.ib hk).1; omega), unlink_jar n1 n2, by rw [unlinkP_length]; exact hl, ?_⟩; exact List.perm_middle.symm
theorem Ring.drop (h : Ring P I F M) {d : Dig} (hd : M d ≠ 0) :
    Ring (unlinkP P (M d)) (I.filter (fun k => !decide (k = M d))) (F ++ [M d]) (fun e => if e = d then 0 else M e) ∧ (I.filter (fun k => !decide (k = M d))).map (jarF (unlinkP P (M d))) = restL (I.map (jarF P)) d := by
  obtain ⟨h1, h2, h3, h4⟩ := h.unlink hd; refine ⟨⟨h3, h1, ?_, ?_, ?_⟩, ?_⟩
  · refine List.Perm.trans ?_ h.perm; refine List.Perm.trans ?_ (List.Perm.append_right F h4); rw [← List.append_assoc]; exact (List.perm_append_comm (l₁ := [M d]) (l₂ := _ ++ F)).symm
  · intro e he; by_cases e1 : e = d
    · rw [if_pos e1] at he; exact absurd rfl he
    · rw [if_neg e1] at he ⊢; have := h.m1 e he; rw [h2]; refine ⟨List.mem_filter.2 ⟨this.1, ?_⟩, this.2⟩; simp only [Bool.not_eq_true', decide_eq_false_iff_not]; intro e2; have h5 := h.m1 d hd; rw [← e2, this.2] at h5; exact e1 h5.2
  · intro k hk; obtain ⟨hk1, hk2⟩ := List.mem_filter.1 hk; rw [h2]; have := h.m2 k hk1; simp only [Bool.not_eq_true', decide_eq_false_iff_not] at hk2; rw [if_neg]
    · exact this
    · intro e; rw [e] at this; exact hk2 this.symm
  · rw [map_congr' (fun k _ => h2 k)]; exact h.rest hd
theorem Ring.touch (h : Ring P I F M) {d : Dig} (hd : M d ≠ 0) :
    Ring (linkP (unlinkP P (M d)) (M d)) (M d :: I.filter (fun k => !decide (k = M d))) F M ∧ (M d :: I.filter (fun k => !decide (k = M d))).map (jarF (linkP (unlinkP P (M d)) (M d))) = jarF P (M d) :: restL (I.map (jarF P)) d ∧ (prvF (unlinkP P (M d)) 0 < 65) := by
  obtain ⟨h1, h2, h3, h4⟩ := h.unlink hd; have hr := h.rest hd; have hm := h.m1 d hd; have hbi := h.ib hm.1; have hin : M d ∉ I.filter (fun k => !decide (k = M d)) := by simp
  have hI0 : ∀ k ∈ I.filter (fun k => !decide (k = M d)), k ≠ 0 := fun k hk => by have := (h.ib (List.mem_filter.1 hk).1).1; omega
  have hpp : prvF (unlinkP P (M d)) 0 = 0 ∨ prvF (unlinkP P (M d)) 0 ∈ I.filter (fun k => !decide (k = M d)) := List.mem_cons.1 (Seg.first h1)
  have hp : prvF (unlinkP P (M d)) 0 < 65 := by
    rcases hpp with e | e
    · omega
    · exact (h.ib (List.mem_filter.1 e).1).2
  have hli : prvF (unlinkP P (M d)) 0 ≠ M d := by
    rcases hpp with e | e
    · omega
    · intro e'; rw [e'] at e; exact hin e
  have a1 : M d < (unlinkP P (M d)).length := by omega
  have a2 : 0 < (unlinkP P (M d)).length := by omega
  have a3 : prvF (unlinkP P (M d)) 0 < (unlinkP P (M d)).length := by omega
  have jj : ∀ x, jarF (linkP (unlinkP P (M d)) (M d)) x = jarF P x := fun x => by rw [link_jar a1 a2 a3, h2]
  refine ⟨⟨by rw [linkP_length]; exact h3, h1.link (by omega) hin hI0 ((List.nodup_append.1 h.nodup).1.filter _) (link_prv a1 a2 a3) (link_nxt a1 a2 a3) hli, ?_, ?_, ?_⟩, ?_, hp⟩
  · exact List.Perm.trans (List.Perm.append_right F h4) h.perm
  · intro e he; have := h.m1 e he; rw [jj]; exact ⟨h4.mem_iff.2 this.1, this.2⟩
  · intro k hk; rw [jj]; exact h.m2 k (h4.mem_iff.1 hk)
  · rw [List.map_cons, jj, map_congr' (fun k _ => jj k), hr]
theorem Ring.pins (h : Ring P I F M) {d : Dig} (hd : M d ≠ 0) (n : Int) :
    Ring (P.set (M d) { P.getD (M d) default with jar := { jarF P (M d) with pins := n } }) I F M ∧ I.map (jarF (P.set (M d) { P.getD (M d) default with jar := { jarF P (M d) with pins := n } })) = pinsL (I.map (jarF P)) d n := by
  have hm := h.m1 d hd; have hb := h.ib hm.1; have hl := h.len; have hi : M d < P.length := by omega
  have jj := fun x => jar_set (P := P) { jarF P (M d) with pins := n } hi x
  have dd : ∀ x, (jarF (P.set (M d) { P.getD (M d) default with jar := { jarF P (M d) with pins := n } }) x).dig = (jarF P x).dig := fun x => by
    rw [jj]
    split
    · rename_i e; rw [e]
    · rfl
  refine ⟨⟨by simpa using hl, h.seg.congr (fun k _ => jset_prv _ hi k) (fun k _ => jset_nxt _ hi k), h.perm, ?_, ?_⟩, ?_⟩
  · intro e he; rw [dd]; exact h.m1 e he
  · intro k hk; rw [dd]; exact h.m2 k hk
  · unfold pinsL; rw [List.map_map]; apply map_congr'; intro k hk; rw [jj]; simp only [Function.comp_apply]; by_cases e : k = M d
    · rw [if_pos e, e, if_pos hm.2]
    · rw [if_neg e, if_neg]; intro e2; have := h.m2 k hk; rw [e2] at this; exact e this.symm
def sumL (L : List Jar) : Int := (L.map (·.size)).sum
def usedL (L : List Jar) : Int := (L.map fun x => if x.pins > 0 then x.size else 0).sum
end
end Go.Proofs.YtkghgaopcgcheaaGreatDoor
