/- Parts of the proof of StockReplays, in order. No conditions but those that each theorem states. -/
import Derived.Test.YtkghgaopcgcheaaGreatDoorYStockReplays0
import Derived.Laws.AppendOwnNone
import Derived.OpenShut
import Derived.Test.YtkghgaopcgcheaaGreatDoorYStockReplays5
set_option maxRecDepth 100000
set_option maxHeartbeats 16000000
set_option linter.unusedSimpArgs false
set_option linter.unusedVariables false
namespace Go.Proofs.YtkghgaopcgcheaaGreatDoor
open Go.RowKit Go.Maps
def Src {α : Type} (enc : α → List Value) (n : Nat) (w : World) (v : Value) (M : List α) : Prop :=
  (v = .slice none 0 0 ∧ M = []) ∨ ∃ b off cap, v = .slice (some ⟨b, off, none⟩) M.length cap ∧ ∀ j u, (rows enc M)[j]? = some u → w.cell? ⟨b, off + j, none⟩ = some u
theorem wpList_appendM {P : Program} {ops : Array Oper} {rest : List Oper} {o : Oper} {a : Act} {Q : Exit → Act → World → Prop} (hgd : o.guard = none) (s x : Operand) (t : TypeId)
    (ho : o.op = .call { callee := .builtin .append, args := #[s, x], argTypes := #[t, t] })
    {α : Type} {enc : α → List Value} {n : Nat} {E : TypeId} {L M : List α} {v vx : Value}
    (i : TypeInfo) (z : Value) (bytes : Nat) (ht : P.underlying t = some (.slice E)) (HI : Hid (P.info? E = some i ∧ i.zero = some z ∧ i.size = n ∧ i.bytes = bytes)) (hzs : z.cells.size = n) (hn0 : 0 < n)
    (hn : ∀ x, (enc x).length = n) (h1 : ∀ x, ∀ u ∈ enc x, u.oneCell' = true)
    (w : World) (hs : a.eval s = v) (hown : Own enc n 0 E w v L) (hx : a.eval x = vx) (hsrc : Src enc n w vx M)
    (h63 : L.length + M.length ≤ maxLen) (hbytes : (L.length + M.length) * bytes ≤ 140737488355328)
    (h : ∀ v' w', Own enc n 0 E w' v' (L ++ M) → w.grownBy w' v.ownBlock → (v'.ownBlock = v.ownBlock ∨ v'.ownBlock = some w.heap.size) → wpList P ops Q rest (a.put o.dst v') w') : wpList P ops Q (o :: rest) a w := by
  rcases hsrc with ⟨rfl, rfl⟩ | ⟨b, off, cap, rfl, hr⟩
  · refine wpList_append_own_none hgd s x t ho 0 E i n ht HI.out.1 v _ _ hs hown hx ?_; refine h v w (by rw [List.append_nil]; exact hown) ⟨rfl, rfl, rfl, Nat.le_refl _, fun _ _ _ => rfl⟩ (.inl rfl)
  · refine wpList_append_own_at _ hgd s x t ho 0 E i z n bytes ht HI.out.1 HI.out.2.1 HI.out.2.2.1 HI.out.2.2.2 hzs hn0 v L.length (rows enc L) hs hown ⟨b, off, none⟩ M.length cap (rows enc M) hx (by rw [rows_length hn M, Nat.mul_comm]) ?_ ?_ h63 hbytes (Nat.zero_le _) ?_
    · intro j u hj; have : (⟨b, off, none⟩ : Addr).add j = ⟨b, off + j, none⟩ := by unfold Addr.add; split <;> simp_all
      rw [this]; exact hr j u hj
    · intro u hu; unfold rows at hu; obtain ⟨l, hl, hu⟩ := List.mem_flatMap.1 hu; exact h1 l u hu
    · intro v' w' hown' hg _ hat; refine h v' w' ?_ hg hat; unfold Own; rw [List.length_append, show rows enc (L ++ M) = rows enc L ++ rows enc M by simp [rows]]; exact hown'
theorem rows_append {α : Type} (enc : α → List Value) (A B : List α) : rows enc (A ++ B) = rows enc A ++ rows enc B := by simp [rows]
theorem own_src {w : World} {v : Value} {L : List Jar} (h : Own Jar.cells 35 0 63 w v L) : Src Jar.cells 35 w v L := by
  rcases h.2 with ⟨rfl, h0⟩ | ⟨g, cap, cur, rfl, hb, hg, h1, h2, h3, h4⟩
  · exact .inl ⟨rfl, List.eq_nil_of_length_eq_zero h0⟩
  · refine .inr ⟨g, 0, cap, rfl, fun j u hj => ?_⟩; have := World.ownsRow.cells h (g := g) rfl j u hj; have e : (⟨g, 0, none⟩ : Addr).add j = ⟨g, 0 + j, none⟩ := by unfold Addr.add; split <;> simp_all
    rwa [e] at this
theorem src_take {w : World} {L : List Jar} {g cap i : Nat} (h : Own Jar.cells 35 0 63 w (.slice (some ⟨g, 0, none⟩) L.length cap) L) (hi : i ≤ L.length) : Src Jar.cells 35 w (.slice (some ⟨g, 0, none⟩) i cap) (L.take i) := by
  refine .inr ⟨g, 0, cap, by rw [List.length_take, Nat.min_eq_left hi], fun j u hj => ?_⟩
  have hrow : (rows Jar.cells L)[j]? = some u := by
    have : rows Jar.cells L = rows Jar.cells (L.take i) ++ rows Jar.cells (L.drop i) := by rw [← rows_append, List.take_append_drop]
    rw [this, List.getElem?_append_left (List.getElem?_eq_some_iff.1 hj).1]; exact hj
  have := World.ownsRow.cells h (g := g) rfl j u hrow; have e : (⟨g, 0, none⟩ : Addr).add j = ⟨g, 0 + j, none⟩ := by unfold Addr.add; split <;> simp_all
  rwa [e] at this
theorem src_drop {w : World} {L : List Jar} {g cap i c : Nat} (h : Own Jar.cells 35 0 63 w (.slice (some ⟨g, 0, none⟩) L.length cap) L) (hi : i ≤ L.length) : Src Jar.cells 35 w (.slice (some ⟨g, i * 35, none⟩) (L.length - i) c) (L.drop i) := by
  refine .inr ⟨g, i * 35, c, by rw [List.length_drop], fun j u hj => ?_⟩; have hl : (rows Jar.cells (L.take i)).length = i * 35 := by rw [rows_length Jar.cells_length, List.length_take, Nat.min_eq_left hi, Nat.mul_comm]
  have hrow : (rows Jar.cells L)[i * 35 + j]? = some u := by
    have : rows Jar.cells L = rows Jar.cells (L.take i) ++ rows Jar.cells (L.drop i) := by rw [← rows_append, List.take_append_drop]
    rw [this, List.getElem?_append_right (by omega), hl, Nat.add_sub_cancel_left]; exact hj
  have := World.ownsRow.cells h (g := g) rfl _ u hrow; have e : (⟨g, 0, none⟩ : Addr).add (i * 35 + j) = ⟨g, i * 35 + j, none⟩ := by unfold Addr.add; split <;> simp_all
  rwa [e] at this
theorem src_from {w : World} {L : List Jar} {g cap i : Nat} (h : Own Jar.cells 35 0 63 w (.slice (some ⟨g, 0, none⟩) L.length cap) L) (hi : i ≤ L.length) (hc : L.length ≤ cap) : Src Jar.cells 35 w (.slice (if cap = i then some ⟨g, 0, none⟩ else some ⟨g, i * 35, none⟩) (L.length - i) (cap - i)) (L.drop i) := by
  by_cases he : cap = i
  · rw [if_pos he]; have hn : L.drop i = [] := List.drop_of_length_le (by omega); rw [hn, show L.length - i = 0 by omega]; exact .inr ⟨g, 0, cap - i, rfl, fun j u hj => by simp [rows] at hj⟩
  · rw [if_neg he]; exact src_drop h hi
theorem step_load_mid {P : Program} {ops : Array Oper} {o : Oper} {a : Act} {w : World} {K : Act → World → Prop} {Q : Exit → Act → World → Prop} {X : Prop} (hgd : o.guard = none) (ty : TypeId) (x : Operand) (ho : o.op = .load ty x)
    (b off : Nat) (hx : a.eval x = .pointer (some ⟨b, off, none⟩)) (cs : List Value) (d : TypeDesc) (hS : w.rangeAt b off cs) (hu : P.underlying ty = some d) (hd : d.isRow = true) (hi : (P.info? ty).map (·.size) = some cs.length)
    (h : K (a.put o.dst (.agg cs.toArray)) w) : if Region.wanted o (yielded ops a.tmps) = true then Oper.wp P o a w K Q else X := by
  rw [if_pos (by simp [Region.wanted, hgd])]; unfold Oper.wp execOp; simp only [ho, hx, Instr.loadAt, Instr.sureAddr, Sem.run_bind, Sem.run_pure, Result.andThen_ok, run_loadVar_mid w b off ty cs d hS hu hd hi]; exact h
theorem step_buildJar {ops : Array Oper} {o : Oper} {a : Act} {w : World} {K : Act → World → Prop} {Q : Exit → Act → World → Prop} {X : Prop} (hg : o.guard = none) (t : TypeId) (x : Operand) (ho : o.op = .buildSlice t 1 #[(0, x)])
    {is : TypeInfo} (Hs : Hid (Tryz.prog.info? 63 = some is ∧ is.zero = some (.agg jar0.cells.toArray) ∧ is.size = 35 ∧ is.bytes = 64)) (hu : Tryz.prog.underlying t = some (.slice 63)) (j : Jar) (cs : List Value) (hcs : cs = j.cells) (hx : a.eval x = .agg cs.toArray)
    (h : K (a.put o.dst (.slice (some ⟨w.heap.size, 0, none⟩) 1 1)) (w.alloc (.cells cs.toArray 63))) : if Region.wanted o (yielded ops a.tmps) = true then Oper.wp Tryz.prog o a w K Q else X := by
  subst hcs; rw [if_pos (by simp [Region.wanted, hg])]; refine wp_buildSlice t 63 1 #[(0, x)] ho j.cells.toArray is _ hu Hs.out.1 Hs.out.2.1 (by rw [Hs.out.2.2.1]; omega) (by rw [Hs.out.2.2.1]; omega) ?_ h; rw [Hs.out.2.2.1]
  have := Great.fill_whole (s := 35) (by omega) [.agg j.cells.toArray] ((Array.range (1 * 35)).map fun k => (Value.agg jar0.cells.toArray).cells[k % (Value.agg jar0.cells.toArray).cells.size]!) (by
    intro v hv; simp at hv; subst hv; show j.cells.toArray.size = 35; simp [Jar.cells_length]) (by simp)
  simp only [List.zipIdx_cons, List.zipIdx_nil, List.map_cons, List.map_nil, List.flatMap_cons, List.flatMap_nil, List.append_nil] at this; have e : (#[(0, x)].map fun (i, x) => (i, a.eval x)).toList = [((0 : Nat), Value.agg j.cells.toArray)] := by simp [hx]
  rw [e]; exact this
theorem step_appendM {P : Program} {ops : Array Oper} {o : Oper} {a : Act} {w : World} {K : Act → World → Prop} {Q : Exit → Act → World → Prop} {X : Prop} (hgd : o.guard = none) (s x : Operand) (t : TypeId)
    (ho : o.op = .call { callee := .builtin .append, args := #[s, x], argTypes := #[t, t] })
    {α : Type} {enc : α → List Value} {n : Nat} {E : TypeId} {L M : List α} {v vx : Value}
    (i : TypeInfo) (z : Value) (bytes : Nat) (ht : P.underlying t = some (.slice E)) (HI : Hid (P.info? E = some i ∧ i.zero = some z ∧ i.size = n ∧ i.bytes = bytes)) (hzs : z.cells.size = n) (hn0 : 0 < n)
    (hn : ∀ x, (enc x).length = n) (h1 : ∀ x, ∀ u ∈ enc x, u.oneCell' = true)
    (hs : a.eval s = v) (hown : Own enc n 0 E w v L) (hx : a.eval x = vx) (hsrc : Src enc n w vx M)
    (h63 : L.length + M.length ≤ maxLen) (hbytes : (L.length + M.length) * bytes ≤ 140737488355328)
    (h : ∀ v' w', Own enc n 0 E w' v' (L ++ M) → w.grownBy w' v.ownBlock → (v'.ownBlock = v.ownBlock ∨ v'.ownBlock = some w.heap.size) → K (a.put o.dst v') w') : if Region.wanted o (yielded ops a.tmps) = true then Oper.wp P o a w K Q else X := by
  rw [if_pos (by simp [Region.wanted, hgd])]; rcases hsrc with ⟨rfl, rfl⟩ | ⟨b, off, cap, rfl, hr⟩
  · have hrun := run_append_owned_none (P := P) (w := w) 0 t o.type E i n ht HI.out.1 v L.length (rows enc L) hown; unfold Oper.wp; simp [execOp, ho, resolve, invoke, builtin, hs, hx, hrun, Result.andThen]; exact h v w (by rw [List.append_nil]; exact hown) ⟨rfl, rfl, rfl, Nat.le_refl _, fun _ _ _ => rfl⟩ (.inl rfl)
  · obtain ⟨v', w', hrun, h2, h3, h4, h5⟩ := run_append_own_at (P := P) w 0 t o.type E i z n bytes ht HI.out.1 HI.out.2.1 HI.out.2.2.1 HI.out.2.2.2 hzs hn0 v L.length (rows enc L) hown ⟨b, off, none⟩ M.length cap (rows enc M) (by rw [rows_length hn M, Nat.mul_comm]) (fun j u hj => by
        have : (⟨b, off, none⟩ : Addr).add j = ⟨b, off + j, none⟩ := by unfold Addr.add; split <;> simp_all
        rw [this]
        exact hr j u hj) (fun u hu => by
        unfold rows at hu; obtain ⟨l, hl, hu⟩ := List.mem_flatMap.1 hu; exact h1 l u hu) h63 hbytes (Nat.zero_le _)
    unfold Oper.wp execOp; simp only [ho, resolve, invoke, builtin, Sem.run_bind, Sem.run_pure, Result.andThen_ok, List.map_toArray, List.map_cons, List.map_nil, hs, hx, hrun]; refine h v' w' ?_ h3 h5; unfold Own; rw [List.length_append, show rows enc (L ++ M) = rows enc L ++ rows enc M by simp [rows]]; exact h2
theorem own_one (w : World) (j : Jar) : Own Jar.cells 35 0 63 (w.alloc (.cells j.cells.toArray 63)) (.slice (some ⟨w.heap.size, 0, none⟩) 1 1) [j] := by
  refine ⟨by simp [rows, Jar.cells_length], .inr ⟨w.heap.size, 1, j.cells.toArray, rfl, Nat.zero_le _, heap_alloc_new w _, Nat.le_refl _, by simp [maxLen], by simp [Jar.cells_length], ?_⟩⟩; simp [rows, ← Jar.cells_length j]
def refPutE (L : List Jar) (j : Jar) : Int := if goodJ j = false then 1 else if 0 ≤ posL L j.dig then 9 else if 64 ≤ L.length then 6 else 0
def refPutL (L : List Jar) (j : Jar) : List Jar := if refPutE L j = 0 then j :: L else L
theorem step_buildJar2 {ops : Array Oper} {o : Oper} {a : Act} {w : World} {K : Act → World → Prop} {Q : Exit → Act → World → Prop} {X : Prop} (hg : o.guard = none) (t : TypeId) (x : Operand) (ho : o.op = .buildSlice t 1 #[(0, x)])
    {is : TypeInfo} (Hs : Hid (Tryz.prog.info? 63 = some is ∧ is.zero = some (.agg jar0.cells.toArray) ∧ is.size = 35 ∧ is.bytes = 64)) (hu : Tryz.prog.underlying t = some (.slice 63)) (j : Jar) (cs : List Value) (hcs : cs = j.cells) (hx : a.eval x = .agg cs.toArray)
    (h : ∀ B w2, w.heap.size = B → Own Jar.cells 35 0 63 w2 (.slice (some ⟨B, 0, none⟩) 1 1) [j] → Keep [] w w2 → B < w2.heap.size → K (a.put o.dst (.slice (some ⟨B, 0, none⟩) 1 1)) w2) : if Region.wanted o (yielded ops a.tmps) = true then Oper.wp Tryz.prog o a w K Q else X :=
  step_buildJar hg t x ho Hs hu j cs hcs hx (h _ _ rfl (by rw [hcs]; exact own_one w j) ((Keep.refl _ _).alloc _) (by simp))
theorem posL_or (L : List Jar) (d : Dig) : (posL L d = -1 ∧ findL L d = none) ∨ ∃ k x, posL L d = (k : Nat) ∧ L[k]? = some x ∧ x.dig = d ∧ findL L d = some x := by
  unfold posL findL
  induction L with
  | nil => exact .inl ⟨rfl, rfl⟩
  | cons y r ih =>
    by_cases hy : y.dig = d
    · exact .inr ⟨0, y, by simp [List.findIdx?_cons, hy], rfl, hy, by simp [hy]⟩
    · rcases ih with ⟨h1, h2⟩ | ⟨k, x, h1, h2, h3, h4⟩
      · left; constructor
        · cases hf : r.findIdx? (fun x => decide (x.dig = d)) with
          | none => simp [List.findIdx?_cons, hy, hf]
          | some i => rw [hf] at h1; simp at h1
        · simp [hy]; simpa using h2
      · right; refine ⟨k + 1, x, ?_, h2, h3, ?_⟩
        · cases hf : r.findIdx? (fun x => decide (x.dig = d)) with
          | none => rw [hf] at h1; simp at h1
          | some i => rw [hf] at h1; simp at h1; simp [List.findIdx?_cons, hy, hf, h1]
        · simp [hy]; simpa using h4
end Go.Proofs.YtkghgaopcgcheaaGreatDoor
namespace Go.Proofs.YtkghgaopcgcheaaGreatDoor
open Go.ChangeShapes Go.WideShapes Go.ChangeAt Go.RowKit
section
variable {H : Type} {enc : TypeId × Value → H} {w : World} {base : Nat} {spare : Nat → Bool} {held : Bool}
def goodIn (j : Jar) : Prop := j.typ.length ≤ maxLen ∧ in64 j.size ∧ in64 j.pins
end
end Go.Proofs.YtkghgaopcgcheaaGreatDoor
namespace Go.Proofs.YtkghgaopcgcheaaGreatDoor
open Go.RowKit Go.Maps
def jarLits (j : Jar) : List Lit := (j.dig.1.map fun b => .int .u8 (b.toNat : Nat)) ++ [.string j.typ, .int .i64 j.size, .int .i64 j.pins]
theorem jarLits_inj {a b : Jar} (h : jarLits a = jarLits b) : a = b := by
  unfold jarLits at h; obtain ⟨h1, h2⟩ := List.append_inj h (by simp [a.dig.2, b.dig.2]); simp at h2; obtain ⟨e1, e2, e3⟩ := h2; have e0 : a.dig = b.dig := Subtype.ext (map_inj (fun x y hxy => by simp at hxy; exact UInt8.toNat_inj.1 (by omega)) _ _ h1); cases a; cases b; simp at *; exact ⟨e0, e1, e2, e3⟩
theorem int_lits (D : Nat) (n : Int) (hn : in64 n) : Tryz.prog.keyLits (D + 1) 3 [.int .i64 n] = some [.int .i64 n] := by
  unfold Program.keyLits; rw [Tryz.underlying3]
  have : (Lit.int .i64 n).wf = true := by
    unfold in64 at hn; simp [Lit.wf, IntKind.min, IntKind.max, IntKind.signed, IntKind.bits]; omega
  simp [this]
theorem str_lits (D : Nat) (l : List UInt8) (hl : l.length ≤ maxLen) : Tryz.prog.keyLits (D + 1) 9 [.string (S l)] = some [.string l] := by
  unfold Program.keyLits; rw [Tryz.underlying9]; have h1 := S_size l; have h2 : (S l).data.toList = l := rfl; simp [h1, h2, hl]
theorem jar_lits (D : Nat) (j : Jar) (hj : goodIn j) : Tryz.prog.keyLits (D + 3) 63 j.cells = some (jarLits j) := by
  have hc : Tryz.prog.cellsOf 63 = 35 := by kernel_rfl
  have h1 : Tryz.prog.cellsOf 5 = 1 := by kernel_rfl
  have hd : Tryz.prog.cellsOf 25 = 32 := by kernel_rfl
  have hs : Tryz.prog.cellsOf 9 = 1 := by kernel_rfl
  have hi : Tryz.prog.cellsOf 3 = 1 := by kernel_rfl
  have hl := digC_length j.dig
  have p0 : Tryz.prog.keyLits (D + 2) 25 ((j.cells.drop 0).take 32) = some (j.dig.1.map fun b => .int .u8 (b.toNat : Nat)) := by
    have e : (j.cells.drop 0).take 32 = j.dig.1.map fun b => Value.int .u8 (b.toNat : Nat) := by
      rw [List.drop_zero]; unfold Jar.cells; rw [List.take_left' hl]; rfl
    rw [e]; exact keyLits_bytes Tryz.underlying25 Tryz.underlying5 h1 hd D j.dig.1 j.dig.2
  have p1 : Tryz.prog.keyLits (D + 2) 9 ((j.cells.drop 32).take 1) = some [.string j.typ] := by
    have e : (j.cells.drop 32).take 1 = [.string (S j.typ)] := by unfold Jar.cells; rw [List.drop_left' hl]; rfl
    rw [e]; exact str_lits _ _ hj.1
  have p2 : Tryz.prog.keyLits (D + 2) 3 ((j.cells.drop 33).take 1) = some [.int .i64 j.size] := by
    have e : (j.cells.drop 33).take 1 = [.int .i64 j.size] := by unfold Jar.cells; rw [show 33 = 32 + 1 from rfl, ← List.drop_drop, List.drop_left' hl]; rfl
    rw [e]; exact int_lits _ _ hj.2.1
  have p3 : Tryz.prog.keyLits (D + 2) 3 ((j.cells.drop 34).take 1) = some [.int .i64 j.pins] := by
    have e : (j.cells.drop 34).take 1 = [.int .i64 j.pins] := by unfold Jar.cells; rw [show 34 = 32 + 2 from rfl, ← List.drop_drop, List.drop_left' hl]; rfl
    rw [e]; exact int_lits _ _ hj.2.2
  unfold Program.keyLits; rw [Tryz.underlying63]; simp only; rw [if_pos ⟨by rw [hc]; exact Jar.cells_length j, by kernel_rfl⟩]; simp only [List.mapM_cons, List.mapM_nil, hd, hs, hi, p0, p1, p2, p3]; rfl
theorem eqJar (a b : Jar) (ha : goodIn a) (hb : goodIn b) (w : World) : (Op.equalIn 10000 63 (.agg a.cells.toArray) (.agg b.cells.toArray)).run Tryz.prog w = .ok (decide (a = b)) w := by
  have hc : Tryz.prog.cellsOf 63 = 35 := by kernel_rfl
  have hf : ∀ j : Jar, Value.formed Tryz.prog 63 (.agg j.cells.toArray) = true := fun j => by
    unfold Value.formed; rw [Tryz.underlying63]; simp [hc, Jar.cells_length]
  obtain ⟨r, hr, hi⟩ := run_equalIn_deep (P := Tryz.prog) 9997 3 63 (of_decide_eq_true (by kernel_rfl)) w 3 3 (.agg a.cells.toArray) (.agg b.cells.toArray) (jarLits a) (jarLits b) (hf a) (hf b) (jar_lits 0 a ha) (jar_lits 0 b hb); refine (show (Op.equalIn 10000 63 (.agg a.cells.toArray) (.agg b.cells.toArray)).run Tryz.prog w = .ok r w from hr).trans ?_; congr 1; rw [Bool.eq_iff_iff, hi, decide_eq_true_eq]; exact ⟨jarLits_inj, fun e => by rw [e]⟩
theorem ref_Same21 (va vb : Value) (L : List Jar) (w : World) (ha : Own Jar.cells 35 0 63 w va L) (hb : Own Jar.cells 35 0 63 w vb L) (hg : ∀ j ∈ L, goodIn j) :
    Calls Tryz.prog 9 #[va, vb] w fun e w' => e = .returned (.bool true) ∧ Keep [] w w' := by
  obtain ⟨aa, ca, rfl, hal⟩ := ha.shape; obtain ⟨ab, cb, rfl, hbl⟩ := hb.shape; have hal' : L.length ≤ 9223372036854775807 := hal; have HA := Lib.hid (fun w' (k : Keep [] w w') => ha.keep0 k); have HB := Lib.hid (fun w' (k : Keep [] w w') => hb.keep0 k); have HG := Lib.hid hg; have q1 : (L.length == L.length) = true := by simp
  clear ha hb hal hbl hg; go_enter Tryz.func9, Tryz.ntmps9; go_wp2_with fail
  go_loopg [5] L.length (fun g i wr => ∃ k : Nat, i = .int .i64 k ∧ k ≤ L.length ∧ g = L.length - k ∧ Hid (Keep [] w wr))
  case atStart => exact ⟨0, rfl, Nat.zero_le _, by omega, Lib.hid (Keep.refl _ _)⟩
  case round =>
    obtain ⟨k, rfl, hk, hgk, HK⟩ := hrel; by_cases hlt : k < L.length
    · obtain ⟨x, hx⟩ : ∃ x, L[k]? = some x := ⟨_, List.getElem?_eq_getElem hlt⟩
      obtain ⟨ga, c1, e1, _, _, r1⟩ := own_at (HA.out wr HK.out) hx; obtain ⟨gb, c2, e2, _, _, r2⟩ := own_at (HB.out wr HK.out) hx; cases e1; cases e2; have h0 : (0 : Int) ≤ (k : Int) := by omega
      have h1 : (k : Int) < (L.length : Int) := by omega
      have hgx := HG.out x (List.mem_of_getElem? hx); have hq := fun w' => eqJar x x hgx hgx w'
      rw [decide_eq_true rfl] at hq; have HL := Lib.hid (show (Tryz.prog.info? 63).map (·.size) = some x.cells.length by rw [Jar.cells_length]; exact jar_size)
      have R1 : Hid (∀ w', (∃ y, w' = wr.drewN y) → w'.rangeAt ga (k * 35) x.cells) := fun w' hw' => by
        obtain ⟨y, rfl⟩ := hw'; exact r1
      have R2 : Hid (∀ w', (∃ y, w' = wr.drewN y) → w'.rangeAt gb (k * 35) x.cells) := fun w' hw' => by
        obtain ⟨y, rfl⟩ := hw'; exact r2
      generalize x.cells = xc at *; clear hx r1 r2 hgx; go_wp2_with fail; refine wp_region_quiet_lit (by kernel_rfl) (by kernel_rfl) ?_
      repeat (go_big_quiet_step (fail))
      refine wpQuiet_load rfl 63 (.tmp 19) rfl ga (k * 35) (by simp [Act.eval, Addr.add]) xc _ R1.out Tryz.underlying63 rfl HL.out ?_; simp only [sq]
      repeat (go_big_quiet_step (fail))
      refine wpQuiet_load rfl 63 (.tmp 23) rfl gb (k * 35) (by simp [Act.eval, Addr.add]) xc _ R2.out Tryz.underlying63 rfl HL.out ?_; simp only [sq]
      repeat (go_big_quiet_step (fail))
      refine wpQuiet_nil ?_; intro _ hw'; obtain ⟨nq, hw''⟩ := hw'; subst hw''; go_wp2_with fail
      go_roundg (L.length - (k + 1))
      case measure => omega
      case rel => exact ⟨k + 1, rfl, by omega, rfl, Lib.hid (HK.out.drewN nq)⟩
    · have hlt2 : ¬ (k : Int) < (L.length : Int) := by omega
      clear hlt; go_wp2_with fail; go_ret; exact ⟨rfl, HK.out⟩
theorem rest_at : ∀ (L : List Jar) (k : Nat) (x : Jar) (d : Dig), (L.map (·.dig)).Nodup → L[k]? = some x → x.dig = d → restL L d = L.take k ++ L.drop (k + 1)
  | [], k, x, d, _, hx, _ => by simp at hx
  | y :: r, 0, x, d, hn, hx, hd => by
    simp at hx; subst hx; simp only [List.map_cons, List.nodup_cons] at hn
    have : r.filter (fun x => !decide (x.dig = d)) = r := by
      rw [List.filter_eq_self]; intro z hz; have : z.dig ≠ d := fun e => hn.1 (by rw [hd, ← e]; exact List.mem_map_of_mem hz)
      simp [this]
    simp [restL, hd, this]
  | y :: r, k + 1, x, d, hn, hx, hd => by
    simp only [List.map_cons, List.nodup_cons] at hn; have hx' : r[k]? = some x := by simpa using hx
    have hy : y.dig ≠ d := fun e => hn.1 (by rw [e, ← hd]; exact List.mem_map_of_mem (List.mem_of_getElem? hx'))
    have ih := rest_at r k x d hn.2 hx' hd; unfold restL at *; simp [hy, ih]
theorem put_same (L : List Jar) (j : Jar) : refPutE L j = putE L j ∧ refPutL L j = putL L j := by
  have : refPutE L j = putE L j := by
    unfold refPutE putE; rcases posL_or L j.dig with ⟨h1, h2⟩ | ⟨k, x, h1, _, _, h2⟩
    · rw [h1, h2]; simp
    · rw [h1, h2]; simp
  exact ⟨this, by unfold refPutL putL; rw [this]⟩
section
variable {w : World} {u : Nat} {v : Value} {L : List Jar} {budget : Int}
end
end Go.Proofs.YtkghgaopcgcheaaGreatDoor
namespace Go.Proofs.YtkghgaopcgcheaaGreatDoor
open Go.RowKit Go.Maps
structure Dq (tv : Value) (w : World) (u : Nat) (v : Value) (L : List Jar) (budget : Int) : Prop where
  blk : Blk w u 40 [tv, .int .i64 64, v, .int .i64 budget]
  own : Own Jar.cells 35 0 63 w v L
  ne : v.ownBlock ≠ some u
section
variable {tv : Value}
theorem Dq.keep {w w' : World} {u : Nat} {v : Value} {L : List Jar} {budget : Int} {T : List Nat} (h : Dq tv w u v L budget) (k : Keep T w w') (hu : u ∉ T) (hv : ∀ g, v.ownBlock = some g → g ∉ T) : Dq tv w' u v L budget :=
  ⟨k.blk h.blk hu, h.own.keep k hv, h.ne⟩
theorem Dq.keep0 {w w' : World} {u : Nat} {v : Value} {L : List Jar} {budget : Int} (h : Dq tv w u v L budget) (k : Keep [] w w') : Dq tv w' u v L budget := h.keep k (by simp) (by simp)
theorem ref_PlaceQ (u : Nat) (v : Value) (L : List Jar) (budget : Int) (d : Dig) (w : World) (h : Dq tv w u v L budget) :
    Calls Tryz.prog 22 #[.pointer (some ⟨u, 2, none⟩), .agg (digC d).toArray] w fun e w' => e = .returned (.int .i64 (posL L d)) ∧ Keep [] w w' := by
  have hb := Blk.newA w (digC d).toArray 25; have hk := (Keep.refl [] w).alloc (.cells (digC d).toArray 25); generalize hwA : w.alloc (.cells (digC d).toArray 25) = wA at hb hk; have HB := Lib.hid (fun w' (k : Keep [] wA w') => (k.blk hb (by simp)).rangeAt); have HD := Lib.hid (fun w' (k : Keep [] wA w') => h.keep0 (hk.trans k)); have HK := Lib.hid hk; have HDL := Lib.hid (digC_length d); obtain ⟨a, cap, rfl, hml⟩ := h.own.shape; have hml' : L.length ≤ 9223372036854775807 := hml; have HE := Lib.hid (fun (x : Dig) => eqDig x d); generalize digC d = dc at HB HDL HE hwA ⊢; clear hb hk h hml; have c0 := (HD.out wA (Keep.refl _ _)).blk.get (k := 2) rfl; go_enter Tryz.func22, Tryz.ntmps22; go_wp2_with fail; clear c0 hwA
  go_loopg [5] L.length (fun g s5 wr => ∃ k : Nat, s5 = .int .i64 k ∧ g = L.length - k ∧ k ≤ L.length ∧ Hid (Keep [] wA wr) ∧ Hid (∀ j, j < k → ∀ y, L[j]? = some y → y.dig ≠ d))
  case atStart => exact ⟨0, rfl, by omega, by omega, Lib.hid (Keep.refl _ _), Lib.hid (fun j hj => absurd hj (by omega))⟩
  case round =>
    obtain ⟨k, rfl, hgk, hk, HKr, HN⟩ := hrel; have c0 := (HD.out wr HKr.out).blk.get (k := 2) rfl; by_cases hkl : k < L.length
    · obtain ⟨x, hx⟩ : ∃ x, L[k]? = some x := ⟨_, List.getElem?_eq_getElem hkl⟩
      obtain ⟨g', cap', hv, hle, hcm, hr⟩ := own_at (HD.out wr HKr.out).own hx; cases hv; have hkL : (k : Int) < (L.length : Int) := by omega
      have HRX : Hid (∀ w', (∃ y, w' = wr.drewN y) → w'.rangeAt g' (k * 35) (digC x.dig)) := fun w' hw' => by
        obtain ⟨y, rfl⟩ := hw'; intro j v hv; refine hr j v ?_; unfold Jar.cells; rw [List.getElem?_append_left (List.getElem?_eq_some_iff.1 hv).1]; exact hv
      have HRB : Hid (∀ w', (∃ y, w' = wr.drewN y) → w'.rangeAt w.heap.size 0 dc) := fun w' hw' => by
        obtain ⟨y, rfl⟩ := hw'; exact HB.out _ (HKr.out.drewN y)
      have HDX := Lib.hid (digC_length x.dig); have hq := HE.out x.dig; generalize digC x.dig = dx at HRX HDX hq; clear hr hle hcm; by_cases he : x.dig = d
      · rw [decide_eq_true he] at hq; have HX := Lib.hid (posL_at hx he HN.out); clear he hx; go_wp2_with fail; refine wp_region_quiet_lit (by kernel_rfl) (by kernel_rfl) ?_
        repeat (go_big_quiet_step (fail))
        refine wpQuiet_load rfl 25 (.tmp 21) rfl g' (k * 35) (by simp [Act.eval, Addr.add]) dx _ HRX.out Tryz.underlying25 rfl (by rw [HDX.out]; kernel_rfl) ?_; simp only [sq]; refine wpQuiet_load rfl 25 (.tmp 3) rfl w.heap.size 0 (by rfl) dc _ HRB.out Tryz.underlying25 rfl (by rw [HDL.out]; kernel_rfl) ?_; simp only [sq]
        repeat (go_big_quiet_step (fail))
        refine wpQuiet_nil ?_; intro _ hw'; obtain ⟨nq, hw''⟩ := hw'; subst hw''; go_wp2_with fail; go_ret; exact ⟨ret_int HX.out.symm, HK.out.trans (HKr.out.drewN nq)⟩
      · rw [decide_eq_false he] at hq
        have HN' := Lib.hid (show ∀ j, j < k + 1 → ∀ y, L[j]? = some y → y.dig ≠ d by
          intro j hj y hy; rcases Nat.lt_succ_iff_lt_or_eq.1 hj with h | rfl
          · exact HN.out j h y hy
          · rw [hx] at hy; cases hy; exact he)
        clear he hx; go_wp2_with fail; refine wp_region_quiet_lit (by kernel_rfl) (by kernel_rfl) ?_
        repeat (go_big_quiet_step (fail))
        refine wpQuiet_load rfl 25 (.tmp 21) rfl g' (k * 35) (by simp [Act.eval, Addr.add]) dx _ HRX.out Tryz.underlying25 rfl (by rw [HDX.out]; kernel_rfl) ?_; simp only [sq]; refine wpQuiet_load rfl 25 (.tmp 3) rfl w.heap.size 0 (by rfl) dc _ HRB.out Tryz.underlying25 rfl (by rw [HDL.out]; kernel_rfl) ?_; simp only [sq]
        repeat (go_big_quiet_step (fail))
        refine wpQuiet_nil ?_; intro _ hw'; obtain ⟨nq, hw''⟩ := hw'; subst hw''; go_wp2_with fail
        go_roundg (L.length - (k + 1))
        case measure => omega
        case rel => exact ⟨k + 1, rfl, rfl, by omega, Lib.hid (HKr.out.drewN nq), HN'⟩
    · have HX := Lib.hid (posL_no (fun j hj => HN.out j (by omega))); have hkl2 : ¬ (k : Int) < (L.length : Int) := by omega
      clear hkl; go_wp2_with fail; go_ret; exact ⟨ret_int HX.out.symm, HK.out.trans HKr.out⟩
theorem ref_withoutQ (u : Nat) (v : Value) (L : List Jar) (budget : Int) (i : Nat) (w : World) (h : Dq tv w u v L budget) (hi : i < L.length) (hL : L.length ≤ 64) :
    Calls Tryz.prog 120 #[.pointer (some ⟨u, 2, none⟩), .int .i64 i] w fun e w' => ∃ v', e = .returned v' ∧ Own Jar.cells 35 0 63 w' v' (L.take i ++ L.drop (i + 1)) ∧ (∀ g, v'.ownBlock = some g → w.heap.size ≤ g) ∧ Keep [] w w' := by
  obtain ⟨g, cap, hv, hle, hcm, _⟩ := own_at h.own (List.getElem?_eq_getElem hi); subst hv; have c0 := h.blk.get (k := 2) rfl; have h0 : (0 : Int) ≤ (i : Int) := by omega
  have h1 : (i : Int) ≤ (L.length : Int) := by omega
  have h1' : (i : Int) ≤ (cap : Int) := by omega
  have h2 : (0 : Int) ≤ (i : Int) + 1 := by omega
  have h3 : (i : Int) + 1 ≤ (L.length : Int) := by omega
  have h4 := IntWalk.i64_in ((i : Int) + 1) (by omega); have hkA := (Keep.refl [] w).alloc (.cells #[] 63); have hA := h.keep0 hkA; have cA := hA.blk.get (k := 2) rfl; have hN := Own.none (base := 0) Jar.cells 35 63 w (Nat.zero_le _); have hsrc := src_take hA.own (Nat.le_of_lt hi); have HH := Lib.hid (And.intro hA.blk (And.intro hA.own hA.ne)); have HK := Lib.hid hkA; have HSZ := Lib.hid (show (w.alloc (.cells #[] 63)).heap.size = w.heap.size + 1 by simp); have HG := Lib.hid (h.own.lt g rfl).2; have HU := Lib.hid h.blk.lt; generalize hwA : w.alloc (.cells #[] 63) = wA at *; have HN := Lib.hid hN; have HS := Lib.hid hsrc; have HNE := Lib.hid h.ne; obtain ⟨is, Hs⟩ := jarinfo'; clear hkA hA hN hsrc h c0; go_enter Tryz.func120, Tryz.ntmps120
  go_wp2_with (first
    | (at_builtin; (refine wpList_appendM (o := _) rfl (.tmp 6) (.tmp 12) 29 rfl (v := .slice (some ⟨w.heap.size, 0, none⟩) 0 0) (vx := .slice (some ⟨g, 0, none⟩) i cap) is _ 64 Tryz.underlying29 Hs (by rfl) (by decide) Jar.cells_length Jar.one wA ?_ HN.out ?_ HS.out (by simp [maxLen]; omega) (by simp; omega) ?_)
       rfl; rfl; intro v1 w1 hown1 hg1 hat1; have hk1 : Keep [] w w1 := HK.out.grown hg1 (fun g hg hlt => by simp [Value.ownBlock] at hg; omega); have hgb : ∀ q, q < w.heap.size → w1.heap[q]? = wA.heap[q]? := fun q hq => hg1.block q (by have := HSZ.out; omega) (fun e => by simp [Value.ownBlock] at e; omega)
       have hb1 : Blk w1 u 40 _ := (hgb u HU.out).trans HH.out.1; have c1 := hb1.get (k := 2) rfl; have ho1 := HH.out.2.1.grown hg1 (.inr (fun e => by simp [Value.ownBlock] at e; have := HG.out; omega)); have HS1 := Lib.hid (src_from (i := i + 1) ho1 (by omega) hle); have HO1 := Lib.hid hown1; have HK1 := Lib.hid hk1
       have HV1 : Hid (∀ q, v1.ownBlock = some q → w.heap.size ≤ q) := fun q hq => by
         rcases hat1 with e | e
         · rw [e] at hq; simp [Value.ownBlock] at hq; omega
         · rw [e] at hq; simp at hq; have := HSZ.out; omega
       clear hg1 hgb hb1 ho1 hown1 hk1 hat1 cA)
    | (at_builtin; go_must (refine wpList_appendM (o := _) rfl (.tmp 14) (.tmp 21) 29 rfl (v := v1) (vx := .slice (if cap = i + 1 then some ⟨g, 0, none⟩ else some ⟨g, (i + 1) * 35, none⟩) (L.length - (i + 1)) (cap - (i + 1))) is _ 64 Tryz.underlying29 Hs (by rfl) (by decide) Jar.cells_length Jar.one w1 ?_ HO1.out ?_ HS1.out (by simp [maxLen]; omega) (by simp; omega) ?_)
       rfl; rfl; intro v2 w2 hown2 hg2 hat2; have HO2 := Lib.hid hown2; have HK2 := Lib.hid (HK1.out.grown hg2 (fun q hq hlt => by have := HV1.out q hq; omega))
       have HV2 : Hid (∀ q, v2.ownBlock = some q → w.heap.size ≤ q) := fun q hq => by
         rcases hat2 with e | e
         · exact HV1.out q (e ▸ hq)
         · rw [e] at hq; simp at hq; have := HK1.out.size; omega
       clear hown2 hg2 hat2)
    | fail)
  all_goals
    go_ret; exact ⟨v2, rfl, HO2.out, HV2.out, HK2.out⟩
def DoneQ (tv : Value) (w w' : World) (u : Nat) (v : Value) (L : List Jar) (budget : Int) : Prop := ∃ v', Dq tv w' u v' L budget ∧ Keep [u] w w' ∧ ∀ g, v'.ownBlock = some g → v'.ownBlock = v.ownBlock ∨ w.heap.size ≤ g
theorem put_doneQ {w wp w3 : World} {u : Nat} {v v3 : Value} {M : List Jar} {L : List Jar} {cs : List Value} {budget : Int} (hk : Keep [] w wp) (hb : Blk (wp.alloc (.cells cs.toArray 63)) u 40 [tv, .int .i64 64, v, .int .i64 budget]) (hsz : w.heap.size + 1 ≤ wp.heap.size ∧ u < w.heap.size) {l c : Nat}
    (hown : Own Jar.cells 35 0 63 w3 v3 M) (hg : (wp.alloc (.cells cs.toArray 63)).grownBy w3 (Value.slice (some ⟨wp.heap.size, 0, none⟩) l c).ownBlock) (hat : v3.ownBlock = (Value.slice (some ⟨wp.heap.size, 0, none⟩) l c).ownBlock ∨ v3.ownBlock = some (wp.alloc (.cells cs.toArray 63)).heap.size) (hM : M = L) :
    DoneQ tv w (w3.setCell ⟨u, 2, none⟩ v3) u v L budget := by
  subst hM
  have hn : ∀ g, v3.ownBlock = some g → w.heap.size ≤ g := fun g hg' => by
    rcases hat with e | e
    · rw [e] at hg'; simp [Value.ownBlock] at hg'; omega
    · rw [e] at hg'; simp at hg'; omega
  have hb3 : Blk w3 u 40 _ := (hg.block u (by have := hb.lt; exact this) (fun e => by simp [Value.ownBlock] at e; omega)).trans hb; have hk3 : Keep [] w w3 := (hk.alloc _).grown hg (fun g hg' hlt => by simp [Value.ownBlock] at hg'; omega); have hks : Keep [u] w3 (w3.setCell ⟨u, 2, none⟩ v3) := (Keep.refl _ _).setCell _ _ (by simp); refine ⟨v3, ⟨hb3.set 2 _, hown.keep hks (fun g hg' => by simp; have := hn g hg'; omega), fun e => by have := hn u e; omega⟩, ?_, fun g hg' => .inr (hn g hg')⟩; exact (hk3.mono (by simp)).setCell _ _ (fun _ => by simp)
theorem DoneQ.same {w w' : World} {u : Nat} {v : Value} {L : List Jar} {budget : Int} (h : Dq tv w u v L budget) (k : Keep [] w w') : DoneQ tv w w' u v L budget := ⟨v, h.keep0 k, k.mono (by simp), fun g _ => .inl rfl⟩
theorem ref_Put21Q (u : Nat) (v : Value) (L : List Jar) (budget : Int) (j : Jar) (w : World) (h : Dq tv w u v L budget) (hL : L.length ≤ 64) (hjl : j.typ.length ≤ maxLen) :
    Calls Tryz.prog 64 #[.pointer (some ⟨u, 2, none⟩), .agg j.cells.toArray] w fun e w' => e = .returned (.int .i64 (refPutE L j)) ∧ DoneQ tv w w' u v (refPutL L j) budget := by
  have hb := Blk.newA w j.cells.toArray 63; have hk := (Keep.refl [] w).alloc (.cells j.cells.toArray 63); have hsz : (w.alloc (.cells j.cells.toArray 63)).heap.size = w.heap.size + 1 := by simp
  generalize hwA : w.alloc (.cells j.cells.toArray 63) = wA at hb hk hsz; have HJ := Lib.hid (fun w' (k : Keep [] wA w') => (k.blk hb (by simp)).rangeAt); have HD := Lib.hid (fun w' (k : Keep [] wA w') => h.keep0 (hk.trans k)); have HSAME := Lib.hid (fun w' (k : Keep [] wA w') => DoneQ.same h (hk.trans k)); have HK := Lib.hid hk; have HJL := Lib.hid (show (Tryz.prog.info? 63).map (·.size) = some j.cells.length by rw [Jar.cells_length]; exact jar_size); have HG1 := Lib.hid (fun w' => ref_Good21 j w' hjl); obtain ⟨a, cap, rfl, hml⟩ := h.own.shape; have HP1 := Lib.hid (fun w' (k : Keep [] wA w') => ref_PlaceQ u (.slice a L.length cap) L budget j.dig w' (h.keep0 (hk.trans k))); have HE : Hid (refPutE L j = if goodJ j = false then 1 else if 0 ≤ posL L j.dig then 9 else if 64 ≤ L.length then 6 else 0) := rfl; have HLL : Hid (refPutL L j = if refPutE L j = 0 then j :: L else L) := rfl; have HU := Lib.hid h.blk.lt; have HSZ := Lib.hid hsz
  have HDR : Hid (∀ w' (k : Keep [] wA w'), w'.rangeAt w.heap.size 0 (digC j.dig)) := fun w' k i x hx => by
    refine HJ.out w' k i x ?_; rw [show j.cells.toArray.toList = j.cells from rfl]; unfold Jar.cells; rw [List.getElem?_append_left (List.getElem?_eq_some_iff.1 hx).1]; exact hx
  have HDL := Lib.hid (digC_length j.dig); generalize refPutE L j = rE at *; generalize refPutL L j = rL at *; generalize posL L j.dig = ps at HP1 HE; generalize hdc : digC j.dig = dc at HP1 HDR HDL; obtain ⟨is, Hs⟩ := jarinfo'; obtain ⟨cs, hcs⟩ : ∃ cs, cs = j.cells := ⟨_, rfl⟩
  have HCS := Lib.hid hcs; have HB := Lib.hid hb; rw [← hcs] at HJ HJL HG1 hwA HB ⊢; clear hb hk hml hsz hcs hdc
  cases hg : goodJ j with
  | false =>
    rw [hg] at HG1; have HX := Lib.hid (show rE = 1 by rw [HE.out, if_pos hg]); have HY := Lib.hid (show rL = L by rw [HLL.out, HX.out]; rfl); clear hg; go_enter Tryz.func64, Tryz.ntmps64
    go_wp2_with (first | (refine wpList_load_mid rfl 63 (.tmp 3) rfl w.heap.size 0 (by rfl) cs _ (HJ.out wA (Keep.refl _ _)) Tryz.underlying63 rfl HJL.out ?_) | fail); refine (HG1.out _).mono ?_; rintro e w1 ⟨rfl, k1⟩; go_wp2_with fail; go_ret; exact ⟨ret_int HX.out.symm, by rw [HY.out]; exact HSAME.out _ k1⟩
  | true =>
    rw [hg] at HG1
    have HX0 : Hid (rE = if 0 ≤ ps then 9 else if 64 ≤ L.length then 6 else 0) := by
      show rE = _; rw [HE.out, if_neg (by rw [hg]; simp)]
    clear hg HE; go_enter Tryz.func64, Tryz.ntmps64
    go_wp2_with (first | (refine wpList_load_mid rfl 63 (.tmp 3) rfl w.heap.size 0 (by rfl) cs _ (HJ.out wA (Keep.refl _ _)) Tryz.underlying63 rfl HJL.out ?_) | fail); refine (HG1.out _).mono ?_; rintro e w1 ⟨rfl, k1⟩
    go_wp2_with (first | (refine wpList_load_mid rfl 25 (.tmp 9) rfl w.heap.size 0 (by rfl) dc _ (HDR.out w1 k1) Tryz.underlying25 rfl (by rw [HDL.out]; exact dig_size) ?_) | fail); refine (HP1.out _ k1).mono ?_; rintro e w2 ⟨rfl, k2⟩; have K2 := Lib.hid (k1.trans k2); clear k1 k2; by_cases hp : 0 ≤ ps
    · have HX := Lib.hid (show rE = 9 by rw [HX0.out, if_pos hp]); have HY := Lib.hid (show rL = L by rw [HLL.out, HX.out]; rfl); have hp' : decide (0 ≤ ps) = true := decide_eq_true hp; go_wp2_with fail; go_ret; exact ⟨ret_int HX.out.symm, by rw [HY.out]; exact HSAME.out _ K2.out⟩
    · have hp' : decide (0 ≤ ps) = false := decide_eq_false hp; have D2 := (HD.out w2 K2.out)
      have c0 := D2.blk.get (k := 2) rfl; by_cases h64 : 64 ≤ L.length
      · have HX := Lib.hid (show rE = 6 by rw [HX0.out, if_neg hp, if_pos h64]); have HY := Lib.hid (show rL = L by rw [HLL.out, HX.out]; rfl); have h64' : decide ((64 : Int) ≤ (L.length : Int)) = true := decide_eq_true (by omega); clear hp D2; go_wp2_with fail; go_ret; exact ⟨ret_int HX.out.symm, by rw [HY.out]; exact HSAME.out _ K2.out⟩
      · have HX := Lib.hid (show rE = 0 by rw [HX0.out, if_neg hp, if_neg h64]); have HY := Lib.hid (show rL = j :: L by rw [HLL.out, HX.out, if_pos rfl]); have h64' : ¬ (64 : Int) ≤ (L.length : Int) := by omega
        have HKP : Hid (Keep [] w w2.drew) := (HK.out.trans K2.out).drew; have hka := (Keep.refl [] w2.drew).alloc (.cells cs.toArray 63); have D3 := (HD.out w2.drew K2.out.drew).keep0 hka; have HB2 := Lib.hid D3.blk; have HS2 := Lib.hid (own_src D3.own); have c2 : (w2.alloc (.cells cs.toArray 63)).cell? ⟨u, 2, none⟩ = some (.slice a L.length cap) := D3.blk.get (k := 2) rfl; have HRB := Lib.hid (HJ.out w2.drew K2.out.drew); have HSZ2 := Lib.hid (show w.heap.size + 1 ≤ w2.heap.size by have := HSZ.out; have := K2.out.size; omega)
        have HO2 : Hid (Own Jar.cells 35 0 63 ((World.drew w2).alloc (.cells cs.toArray 63)) (.slice (some ⟨(World.drew w2).heap.size, 0, none⟩) 1 1) [j]) := by
          rw [HCS.out]; exact own_one _ _
        clear hp D2 D3 hka h64; go_wp2_with fail
        go_cut [] (fun wx => DoneQ tv w wx u (.slice a L.length cap) (j :: L) budget)
        case first =>
          refine wp_region_any (by kernel_rfl) ?_; change wpAny _ _ _ _ _ _ _ (World.drew _); refine wpAny_take (i := 0) (v := ?_) rfl (by kernel_rfl) (by kernel_rfl) (by kernel_rfl) (fun _ _ _ h => h) (Or.inl ⟨by rfl, ?_⟩) ?_; rotate_left
          · (intro w; go_simp) <;> (with_reducible rfl)
          (try simp only [sq]); refine wpAny_take (i := 3) (v := ?_) rfl (by kernel_rfl) (by kernel_rfl) (by kernel_rfl) (fun _ _ _ h => h) (Or.inl ⟨by rfl, ?_⟩) ?_; rotate_left
          · (intro w; go_simp) <;> (with_reducible rfl)
          (try simp only [sq]); refine wpAny_take (i := 4) (v := ?_) rfl (by kernel_rfl) (by kernel_rfl) (by kernel_rfl) (fun _ _ _ h => h) (Or.inl ⟨by rfl, ?_⟩) ?_; rotate_left
          · (intro w; go_simp) <;> (with_reducible rfl)
          (try simp only [sq]); refine wpAny_take (i := 5) (v := ?_) rfl (by kernel_rfl) (by kernel_rfl) (by kernel_rfl) (fun _ _ _ h => h) (Or.inl ⟨by rfl, ?_⟩) ?_; rotate_left
          · (intro w; go_simp) <;> (with_reducible rfl)
          (try simp only [sq]); refine wpAny_ready (rs := [1, 6]) (by kernel_rfl) (by simp) ?_; refine AllReady.cons (o := _) rfl (fun K hK => ?_) ?_
          · refine step_load_mid rfl 63 (.tmp 3) rfl w.heap.size 0 (by rfl) cs _ HRB.out Tryz.underlying63 rfl HJL.out ?_; refine hK _ _ ?_; clear hK K; (try simp only [sq]); refine wpAny_ready (rs := [2, 6]) (by kernel_rfl) (by simp) ?_; refine AllReady.cons (o := _) rfl (fun K hK => ?_) ?_
            · refine step_buildJar rfl 29 (.tmp 20) rfl Hs Tryz.underlying29 j cs HCS.out (by rfl) ?_; refine hK _ _ ?_; clear hK K; (try simp only [sq]); refine wpAny_ready (rs := [6]) (by kernel_rfl) (by simp) ?_; refine AllReady.cons (o := _) rfl (fun K hK => ?_) ?_
              · go_simp; refine hK _ _ ?_; clear hK K; (try simp only [sq]); refine wpAny_ready (rs := [7]) (by kernel_rfl) (by simp) ?_; refine AllReady.cons (o := _) rfl (fun K hK => ?_) ?_
                · refine step_appendM rfl (.tmp 21) (.tmp 25) 29 rfl is _ 64 Tryz.underlying29 Hs (by rfl) (by decide) Jar.cells_length Jar.one (v := .slice (some ⟨(World.drew w2).heap.size, 0, none⟩) 1 1) (vx := .slice a L.length cap) (L := [j]) (by rfl) HO2.out (by rfl) HS2.out (by simp [maxLen]; omega) (by simp; omega) ?_; intro v3 w3 hown3 hg3 hat3; have hb3 : Blk w3 u 40 _ := (hg3.block u (by have := HSZ2.out; have := HU.out; simp; omega) (fun e => by have := HSZ2.out; have := HU.out; simp [Value.ownBlock] at e; omega)).trans HB2.out; have d0 := hb3.get (k := 2) rfl; have df := hb3.frozen; obtain ⟨a3, cap3, rfl, _⟩ := hown3.shape; refine hK _ _ ?_; clear hK K; (try simp only [sq]); refine wpAny_ready (rs := [8]) (by kernel_rfl) (by simp) ?_; refine AllReady.cons (o := _) rfl (fun K hK => ?_) ?_
                  · go_simp; refine hK _ _ ?_; clear hK K; (try simp only [sq]); refine wpAny_ready (rs := [9]) (by kernel_rfl) (by simp) ?_; refine AllReady.cons (o := _) rfl (fun K hK => ?_) ?_
                    · go_simp; refine hK _ _ ?_; clear hK K; (try simp only [sq]); refine wpAny_ready (rs := [10]) (by kernel_rfl) (by simp) ?_; refine AllReady.cons (o := _) rfl (fun K hK => ?_) ?_
                      · go_simp; refine hK _ _ ?_; clear hK K; (try simp only [sq]); refine wpAny_done (by kernel_rfl) ?_ _; go_wp2_with fail; go_meet; exact put_doneQ HKP.out HB2.out (And.intro HSZ2.out HU.out) hown3 hg3 hat3 rfl
                      exact AllReady.nil
                    exact AllReady.nil
                  exact AllReady.nil
                exact AllReady.nil
              exact AllReady.nil
            refine AllReady.cons (o := _) rfl (fun K hK => ?_) ?_
            · go_simp; refine hK _ _ ?_; clear hK K; (try simp only [sq]); refine wpAny_ready (rs := [2]) (by kernel_rfl) (by simp) ?_; refine AllReady.cons (o := _) rfl (fun K hK => ?_) ?_
              · refine step_buildJar rfl 29 (.tmp 20) rfl Hs Tryz.underlying29 j cs HCS.out (by rfl) ?_; refine hK _ _ ?_; clear hK K; (try simp only [sq]); refine wpAny_ready (rs := [7]) (by kernel_rfl) (by simp) ?_; refine AllReady.cons (o := _) rfl (fun K hK => ?_) ?_
                · refine step_appendM rfl (.tmp 21) (.tmp 25) 29 rfl is _ 64 Tryz.underlying29 Hs (by rfl) (by decide) Jar.cells_length Jar.one (v := .slice (some ⟨(World.drew w2).heap.size, 0, none⟩) 1 1) (vx := .slice a L.length cap) (L := [j]) (by rfl) HO2.out (by rfl) HS2.out (by simp [maxLen]; omega) (by simp; omega) ?_; intro v3 w3 hown3 hg3 hat3; have hb3 : Blk w3 u 40 _ := (hg3.block u (by have := HSZ2.out; have := HU.out; simp; omega) (fun e => by have := HSZ2.out; have := HU.out; simp [Value.ownBlock] at e; omega)).trans HB2.out; have d0 := hb3.get (k := 2) rfl; have df := hb3.frozen; obtain ⟨a3, cap3, rfl, _⟩ := hown3.shape; refine hK _ _ ?_; clear hK K; (try simp only [sq]); refine wpAny_ready (rs := [8]) (by kernel_rfl) (by simp) ?_; refine AllReady.cons (o := _) rfl (fun K hK => ?_) ?_
                  · go_simp; refine hK _ _ ?_; clear hK K; (try simp only [sq]); refine wpAny_ready (rs := [9]) (by kernel_rfl) (by simp) ?_; refine AllReady.cons (o := _) rfl (fun K hK => ?_) ?_
                    · go_simp; refine hK _ _ ?_; clear hK K; (try simp only [sq]); refine wpAny_ready (rs := [10]) (by kernel_rfl) (by simp) ?_; refine AllReady.cons (o := _) rfl (fun K hK => ?_) ?_
                      · go_simp; refine hK _ _ ?_; clear hK K; (try simp only [sq]); refine wpAny_done (by kernel_rfl) ?_ _; go_wp2_with fail; go_meet; exact put_doneQ HKP.out HB2.out (And.intro HSZ2.out HU.out) hown3 hg3 hat3 rfl
                      exact AllReady.nil
                    exact AllReady.nil
                  exact AllReady.nil
                exact AllReady.nil
              exact AllReady.nil
            exact AllReady.nil
          refine AllReady.cons (o := _) rfl (fun K hK => ?_) ?_
          · go_simp; refine hK _ _ ?_; clear hK K; (try simp only [sq]); refine wpAny_ready (rs := [1]) (by kernel_rfl) (by simp) ?_; refine AllReady.cons (o := _) rfl (fun K hK => ?_) ?_
            · refine step_load_mid rfl 63 (.tmp 3) rfl w.heap.size 0 (by rfl) cs _ HRB.out Tryz.underlying63 rfl HJL.out ?_; refine hK _ _ ?_; clear hK K; (try simp only [sq]); refine wpAny_ready (rs := [2]) (by kernel_rfl) (by simp) ?_; refine AllReady.cons (o := _) rfl (fun K hK => ?_) ?_
              · refine step_buildJar rfl 29 (.tmp 20) rfl Hs Tryz.underlying29 j cs HCS.out (by rfl) ?_; refine hK _ _ ?_; clear hK K; (try simp only [sq]); refine wpAny_ready (rs := [7]) (by kernel_rfl) (by simp) ?_; refine AllReady.cons (o := _) rfl (fun K hK => ?_) ?_
                · refine step_appendM rfl (.tmp 21) (.tmp 25) 29 rfl is _ 64 Tryz.underlying29 Hs (by rfl) (by decide) Jar.cells_length Jar.one (v := .slice (some ⟨(World.drew w2).heap.size, 0, none⟩) 1 1) (vx := .slice a L.length cap) (L := [j]) (by rfl) HO2.out (by rfl) HS2.out (by simp [maxLen]; omega) (by simp; omega) ?_; intro v3 w3 hown3 hg3 hat3; have hb3 : Blk w3 u 40 _ := (hg3.block u (by have := HSZ2.out; have := HU.out; simp; omega) (fun e => by have := HSZ2.out; have := HU.out; simp [Value.ownBlock] at e; omega)).trans HB2.out; have d0 := hb3.get (k := 2) rfl; have df := hb3.frozen; obtain ⟨a3, cap3, rfl, _⟩ := hown3.shape; refine hK _ _ ?_; clear hK K; (try simp only [sq]); refine wpAny_ready (rs := [8]) (by kernel_rfl) (by simp) ?_; refine AllReady.cons (o := _) rfl (fun K hK => ?_) ?_
                  · go_simp; refine hK _ _ ?_; clear hK K; (try simp only [sq]); refine wpAny_ready (rs := [9]) (by kernel_rfl) (by simp) ?_; refine AllReady.cons (o := _) rfl (fun K hK => ?_) ?_
                    · go_simp; refine hK _ _ ?_; clear hK K; (try simp only [sq]); refine wpAny_ready (rs := [10]) (by kernel_rfl) (by simp) ?_; refine AllReady.cons (o := _) rfl (fun K hK => ?_) ?_
                      · go_simp; refine hK _ _ ?_; clear hK K; (try simp only [sq]); refine wpAny_done (by kernel_rfl) ?_ _; go_wp2_with fail; go_meet; exact put_doneQ HKP.out HB2.out (And.intro HSZ2.out HU.out) hown3 hg3 hat3 rfl
                      exact AllReady.nil
                    exact AllReady.nil
                  exact AllReady.nil
                exact AllReady.nil
              exact AllReady.nil
            exact AllReady.nil
          exact AllReady.nil
        case rest =>
          have HC := Lib.hid hcut; clear hcut; go_wp2_with fail; go_ret; exact ⟨ret_int HX.out.symm, by rw [HY.out]; exact HC.out⟩
end
end Go.Proofs.YtkghgaopcgcheaaGreatDoor
