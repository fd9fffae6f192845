/- Layer 21: digests as keys, jars, places: how they lie in memory. No conditions. -/
import Derived.Test.YtbfnpoknamajnaaOwn
import Derived.Maps.OwnOps
import Derived.Maps.OwnSet
import Derived.DeepKeys4
import Derived.Deep.MidRow
import Derived.Deep.WholeRow
import Derived.Deep.RegionHeld3
import Derived.Deep.Cut
import Derived.Deep.CutRange
import Derived.Deep.DeepCutAuto
import Derived.Deep.LoopGhost
namespace Go.Proofs.Ytbfnpoknamajnaa
open Go.RowKit Go.Maps

/-- 32 bytes -/
abbrev Dig := { l : List UInt8 // l.length = 32 }
instance : Inhabited Dig := ⟨⟨List.replicate 32 0, by simp⟩⟩
def digC (d : Dig) : List Value := d.1.map fun b => .int .u8 (b.toNat : Nat)
theorem digC_length (d : Dig) : (digC d).length = 32 := by simp [digC, d.2]
theorem map_inj {α β : Type} {f : α → β} (hf : ∀ x y, f x = f y → x = y) : ∀ (a b : List α), a.map f = b.map f → a = b
  | [], [], _ => rfl
  | [], y :: s, h => by simp at h
  | x :: r, [], h => by simp at h
  | x :: r, y :: s, h => by
    simp only [List.map_cons, List.cons.injEq] at h
    rw [hf x y h.1, map_inj hf r s h.2]
theorem flatten_one {α β : Type} (f : α → β) : ∀ l : List α, (l.map fun x => [f x]).flatten = l.map f
  | [] => rfl
  | x :: r => by simp [flatten_one f r]
theorem range_map {α : Type} (l : List UInt8) (f : UInt8 → α) : (List.range l.length).map (fun i => f (l.getD i 0)) = l.map f := by
  apply List.ext_getElem?
  intro j
  by_cases h : j < l.length
  · simp [List.getElem?_range, h, List.getD]
  · simp [h, List.getElem?_eq_none (Nat.not_lt.1 h)]
theorem digC_inj {a b : Dig} (h : digC a = digC b) : a = b := by
  apply Subtype.ext
  unfold digC at h
  exact map_inj (fun x y hxy => by simp at hxy; exact UInt8.toNat_inj.1 (by omega)) _ _ h

theorem mapM_some {α β : Type} (f : α → Option β) (h : α → β) : ∀ (l : List α), (∀ x ∈ l, f x = some (h x)) → l.mapM f = some (l.map h)
  | [], _ => rfl
  | x :: r, hx => by
    rw [List.mapM_cons, hx x (by simp), mapM_some f h r (fun y hy => hx y (by simp [hy]))]
    rfl
theorem keyLits_bytes {P : Program} {t e : TypeId} {n : Nat} (ht : P.underlying t = some (.array n e)) (he : P.underlying e = some (.int .u8)) (hce : P.cellsOf e = 1) (hct : P.cellsOf t = n) (D : Nat) (l : List UInt8) (hl : l.length = n) :
    P.keyLits (D + 2) t (l.map fun b => .int .u8 (b.toNat : Nat)) = some (l.map fun b => .int .u8 (b.toNat : Nat)) := by
  have h1 : ∀ i ∈ List.range n, P.keyLits (D + 1) e (((l.map fun b => Value.int .u8 (b.toNat : Nat)).drop (i * P.cellsOf e)).take (P.cellsOf e)) = some [Lit.int .u8 ((l.getD i 0).toNat : Nat)] := fun i hi => by
    have hlt : i < l.length := by rw [hl]; exact List.mem_range.1 hi
    rw [hce, Nat.mul_one]
    have e1 : ((l.map fun b => Value.int .u8 (b.toNat : Nat)).drop i).take 1 = [Value.int .u8 ((l.getD i 0).toNat : Nat)] := by
      rw [← List.map_drop, ← List.map_take, List.drop_eq_getElem_cons hlt]
      have e2 : l.getD i 0 = l[i] := by simp [List.getD, hlt]
      rw [e2]
      rfl
    rw [e1]
    unfold Program.keyLits
    rw [he]
    generalize l.getD i 0 = c
    have := u8_nat c
    have hw : (Lit.int .u8 (c.toNat : Nat)).wf = true := by simp [Lit.wf, IntKind.min, IntKind.max, IntKind.signed, IntKind.bits]; omega
    simp [hw]
  unfold Program.keyLits
  rw [ht]
  simp only
  rw [if_pos (by rw [hct]; simp [hl]), mapM_some _ _ _ h1]
  simp only [Option.map_some]
  rw [flatten_one (fun i => Lit.int .u8 ((l.getD i 0).toNat : Nat)), ← hl]
  exact congrArg some (range_map l (fun b => Lit.int .u8 (b.toNat : Nat)))
theorem keyBytes_bytes (l : List UInt8) : keyBytes (l.map fun b => Lit.int .u8 (b.toNat : Nat)) = l := by
  induction l with
  | nil => rfl
  | cons b r ih =>
    unfold keyBytes at *
    simp only [List.map_cons, List.flatMap_cons, ih]
    have := u8_nat b
    have e : Lit.keyBytes (.int .u8 (b.toNat : Nat)) = [b] := by
      have e1 : (((b.toNat : Nat) : Int) % 2 ^ IntKind.u8.bits).toNat = b.toNat := by
        simp only [IntKind.bits]
        omega
      simp only [Lit.keyBytes, e1]
      show [UInt8.ofNat (b.toNat % 256)].reverse = [b]
      rw [Nat.mod_eq_of_lt this]
      simp
    rw [e]
    rfl
theorem dig_key (d : Dig) : keyOf Try.prog 44 (.agg (digC d).toArray) = some (.string d.1) := by
  have hk : Try.prog.keyType 44 = true := by kernel_rfl
  have hc : Try.prog.cellsOf 44 = 32 := by kernel_rfl
  have h1 : Try.prog.cellsOf 5 = 1 := by kernel_rfl
  have hf : Value.formed Try.prog 44 (.agg (digC d).toArray) = true := by
    unfold Value.formed
    rw [Try.underlying44]
    simp [hc, digC_length]
  unfold keyOf
  rw [Try.underlying44]
  simp only [hk, hf, Bool.and_self, if_true]
  have hs : Try.prog.types.size + 1 = (Try.prog.types.size - 1) + 2 := by kernel_rfl
  rw [hs]
  have := keyLits_bytes Try.underlying44 Try.underlying5 h1 hc (Try.prog.types.size - 1) d.1 d.2
  have e : (Value.agg (digC d).toArray).cells.toList = d.1.map fun b => Value.int .u8 (b.toNat : Nat) := by simp [Value.cells, digC]
  rw [e, this]
  simp [keyBytes_bytes]
/-- a long array is read, in a region that draws its order and only reads -/
theorem wpQuiet_load {P : Program} {ops : Array Oper} {C : World → Prop} {rest : List Oper} {o : Oper} {a : Act} {Q : Act → Prop} (hg : o.guard = none) (ty : TypeId) (x : Operand) (ho : o.op = .load ty x)
    (b off : Nat) (hx : a.eval x = .pointer (some ⟨b, off, none⟩)) (cs : List Value) (d : TypeDesc) (hS : ∀ w, C w → w.rangeAt b off cs)
    (hu : P.underlying ty = some d) (hd : d.isRow = true) (hi : (P.info? ty).map (·.size) = some cs.length)
    (h : wpQuiet P ops C Q rest (a.put o.dst (.agg cs.toArray))) : wpQuiet P ops C Q (o :: rest) a := by
  unfold wpQuiet
  rw [if_pos (by simp [Region.wanted, hg])]
  refine ⟨_, fun w hw => ?_, h⟩
  unfold Oper.quietAt execOp
  simp only [ho, hx, Instr.loadAt, Instr.sureAddr, Sem.run_bind, Sem.run_pure, Result.andThen_ok, run_loadVar_mid w b off ty cs d (hS w hw) hu hd hi]
  exact ⟨rfl, rfl⟩
/-- a struct or an array is stored into the block that was made last -/
theorem wpList_store_new {P : Program} {ops : Array Oper} {rest : List Oper} {op : Oper} {a : Act} {w : World} {Q : Exit → Act → World → Prop} (hgd : op.guard = none) (ty : TypeId) (x y : Operand) (ho : op.op = .store ty x y)
    (Z : Array Value) (cells : List Value) (hx : a.eval x = .pointer (some ⟨w.heap.size, 0, none⟩)) (hy : a.eval y = .agg cells.toArray) (hi : (P.info? ty).map (·.size) = some cells.length) (hz : Z.size = cells.length)
    (h1 : ∀ v ∈ cells, v.oneCell' = true) (h : wpList P ops Q rest (a.put op.dst undef) (w.alloc (.cells cells.toArray ty))) : wpList P ops Q (op :: rest) a (w.alloc (.cells Z ty)) :=
  wpList_plain hgd fun _ hK => by
    unfold Oper.wp execOp
    simp only [ho, hx, hy, Instr.storeAt, Instr.sureAddr, Sem.run_bind, Sem.run_pure, Result.andThen_ok, run_storeVar_new (P := P) w ty Z cells.toArray (by simpa using hi) (by simpa using hz) (all_oneCell_toArray h1)]
    exact hK _ _ h
end Go.Proofs.Ytbfnpoknamajnaa
