/- Parts of the proof of ErrandTries, in order. No conditions but those that each theorem states. -/
import Derived.Test.YtlhnjkekjbbhcaaGreatDoorYErrandTries0
import Derived.Lib.SlBytesConst
import Derived.Lib.LaidTab
import Derived.Lib.ItoaNum
import Derived.Lib.ItoaLen
import Derived.Sort.Grow
import Derived.Deep.MidRow
import Derived.Test.YtlhnjkekjbbhcaaGreatDoorYErrandTries30
import Derived.Test.YtlhnjkekjbbhcaaGreatDoorYErrandTries31
set_option linter.unusedSimpArgs false
set_option linter.unusedVariables false
namespace Go.Proofs.YtlhnjkekjbbhcaaGreatDoor
open Go.RowKit
def MemK (ws : World) (S : List Nat) (w0 w : World) (L : List (Nat × TypeId × List Value)) : Prop := Mem w0 w L ∧ Keep S ws w
section
variable {ws w0 w w' : World} {S : List Nat} {L : List (Nat × TypeId × List Value)}
theorem MemK.of (h : Mem w0 w L) (S : List Nat) : MemK w S w0 w L := ⟨h, Keep.refl _ _⟩
theorem MemK.keep0 (h : MemK ws S w0 w L) (k : Keep [] w w') : MemK ws S w0 w' L := ⟨h.1.keep0 k, h.2.trans' k (by simp)⟩
theorem MemK.tail {x : Nat × TypeId × List Value} (h : MemK ws S w0 w (x :: L)) : MemK ws S w0 w L := ⟨h.1.tail, h.2⟩
theorem MemK.get (h : MemK ws S w0 w L) (i : Nat) {b : Nat} {T : TypeId} {cs : List Value} (hi : L[i]? = some (b, T, cs)) (k : Nat) {v : Value} (hk : cs[k]? = some v) : w.cell? ⟨b, k, none⟩ = some v := h.1.get i hi k hk
theorem MemK.alloc (h : MemK ws S w0 w L) (Z : List Value) (T : TypeId) : MemK ws S w0 (w.alloc (.cells Z.toArray T)) ((w.heap.size, T, Z) :: L) := ⟨h.1.alloc Z T, h.2.alloc _⟩
theorem MemK.setCell (h : MemK ws S w0 w L) (i : Nat) {b : Nat} {T : TypeId} {cs : List Value} (hi : L[i]? = some (b, T, cs)) (o : Nat) (v : Value) (hb : b < ws.heap.size → b ∈ S) : MemK ws S w0 (w.setCell ⟨b, o, none⟩ v) (L.set i (b, T, cs.set o v)) := ⟨h.1.setCell i hi o v, h.2.setCell _ _ hb⟩
end
theorem storeVar_cells (ty : TypeId) (p : Addr) (v : Value) (hv : v.cells = #[v]) : storeVar ty p v = storeVar ty p (.agg #[v]) := by
  unfold storeVar; rw [hv]; rfl
section
variable {P : Program} {ops : Array Oper} {rest : List Oper} {o : Oper} {a : Act} {ws w w0 : World} {S : List Nat} {Q : Exit → Act → World → Prop} {L : List (Nat × TypeId × List Value)} {K : Act → World → Prop}
theorem wpList_allocK (hgd : o.guard = none) (ty : TypeId) (ho : o.op = .alloc ty) (Z : List Value) (HZ : Hid (ZeroIs P ty Z)) (HM : Hid (MemK ws S w0 w L))
    (h : ∀ b w', Hid (MemK ws S w0 w' ((b, ty, Z) :: L)) → Hid (ws.heap.size ≤ b) → wpList P ops Q rest (a.put o.dst (.pointer (some ⟨b, 0, none⟩))) w') : wpList P ops Q (o :: rest) a w :=
  wpList_allocM hgd ty ho Z HZ (Lib.hid HM.out.1) fun b w' hM hk hb => h b w' (Lib.hid ⟨hM.out, HM.out.2.trans' hk.out (by simp)⟩) (Lib.hid (by rw [hb.out]; exact HM.out.2.size))
theorem wpList_boxK (hgd : o.guard = none) (ty : TypeId) (x : Operand) (ho : o.op = .box ty x) (cs : List Value) (hx : (a.eval x).cells = cs.toArray) (HM : Hid (MemK ws S w0 w L))
    (h : ∀ b w', Hid (MemK ws S w0 w' ((b, ty, cs) :: L)) → Hid (ws.heap.size ≤ b) → wpList P ops Q rest (a.put o.dst (.pointer (some ⟨b, 0, none⟩))) w') : wpList P ops Q (o :: rest) a w :=
  wpList_boxM hgd ty x ho cs hx (Lib.hid HM.out.1) fun b w' hM hk hb => h b w' (Lib.hid ⟨hM.out, HM.out.2.trans' hk.out (by simp)⟩) (Lib.hid (by rw [hb.out]; exact HM.out.2.size))
theorem wpList_loadK (hw : Region.wanted o (yielded ops a.tmps) = true) (ty : TypeId) (x : Operand) (ho : o.op = .load ty x) (HM : Hid (MemK ws S w0 w L)) (i : Nat) {b : Nat} {T : TypeId} {cs : List Value} (hi : L[i]? = some (b, T, cs)) (hx : a.eval x = .pointer (some ⟨b, 0, none⟩))
    (d : TypeDesc) (hu : P.underlying ty = some d) (hd : d.isRow = true) (hs : (P.info? ty).map (·.size) = some cs.length)
    (h : wpList P ops Q rest (a.put o.dst (.agg cs.toArray)) w) : wpList P ops Q (o :: rest) a w := wpList_loadM hw ty x ho (Lib.hid HM.out.1) i hi hx d hu hd hs h
theorem wpList_loadPartK (hw : Region.wanted o (yielded ops a.tmps) = true) (ty : TypeId) (x : Operand) (ho : o.op = .load ty x) (HM : Hid (MemK ws S w0 w L)) (i : Nat) {b : Nat} {T : TypeId} {cs : List Value} (hi : L[i]? = some (b, T, cs)) (off : Nat) (hx : a.eval x = .pointer (some ⟨b, off, none⟩))
    (vs : List Value) (hv : ∀ j v, vs[j]? = some v → cs[off + j]? = some v) (d : TypeDesc) (hu : P.underlying ty = some d) (hd : d.isRow = true) (hs : (P.info? ty).map (·.size) = some vs.length)
    (h : wpList P ops Q rest (a.put o.dst (.agg vs.toArray)) w) : wpList P ops Q (o :: rest) a w := wpList_loadPart hw ty x ho (Lib.hid HM.out.1) i hi off hx vs hv d hu hd hs h
theorem wpList_storeK (hgd : o.guard = none) (ty : TypeId) (x y : Operand) (ho : o.op = .store ty x y) (HM : Hid (MemK ws S w0 w L)) (i : Nat) {b : Nat} {T : TypeId} {cs : List Value} (hi : L[i]? = some (b, T, cs)) (hx : a.eval x = .pointer (some ⟨b, 0, none⟩)) (vs : List Value) (hy : a.eval y = .agg vs.toArray)
    (hs : (P.info? ty).map (·.size) = some vs.length) (hl : cs.length = vs.length) (h1 : ∀ v ∈ vs, v.oneCell' = true) (hb : b < ws.heap.size → b ∈ S)
    (h : ∀ w', Hid (MemK ws S w0 w' (L.set i (b, T, vs))) → wpList P ops Q rest (a.put o.dst undef) w') : wpList P ops Q (o :: rest) a w :=
  wpList_storeM hgd ty x y ho (Lib.hid HM.out.1) i hi hx vs hy hs hl h1 fun w' hM hk => h w' (Lib.hid ⟨hM.out, HM.out.2.trans' hk.out (fun x hx hlt => by have h9 : x = b := (by simpa using hx); rw [h9] at hlt ⊢; exact hb hlt)⟩)
theorem wpList_storePartK (hgd : o.guard = none) (ty : TypeId) (x y : Operand) (ho : o.op = .store ty x y) (HM : Hid (MemK ws S w0 w L)) (i : Nat) {b : Nat} {T : TypeId} {cs : List Value} (hi : L[i]? = some (b, T, cs)) (off : Nat) (hx : a.eval x = .pointer (some ⟨b, off, none⟩)) (vs : List Value) (hy : a.eval y = .agg vs.toArray)
    (hs : (P.info? ty).map (·.size) = some vs.length) (pre xs suf : List Value) (hc : cs = pre ++ xs ++ suf) (hl : xs.length = vs.length) (ho2 : off = pre.length) (h1 : ∀ v ∈ vs, v.oneCell' = true) (hb : b < ws.heap.size → b ∈ S)
    (h : ∀ w', Hid (MemK ws S w0 w' (L.set i (b, T, pre ++ vs ++ suf))) → wpList P ops Q rest (a.put o.dst undef) w') : wpList P ops Q (o :: rest) a w :=
  wpList_storePart hgd ty x y ho (Lib.hid HM.out.1) i hi off hx vs hy hs pre xs suf hc hl ho2 h1 fun w' hM hk => h w' (Lib.hid ⟨hM.out, HM.out.2.trans' hk.out (fun x hx hlt => by have h9 : x = b := (by simpa using hx); rw [h9] at hlt ⊢; exact hb hlt)⟩)
theorem wp_store1K (ty : TypeId) (x y : Operand) (ho : o.op = .store ty x y) (HM : Hid (MemK ws S w0 w L)) (i : Nat) {b : Nat} {T : TypeId} {cs : List Value} (hi : L[i]? = some (b, T, cs)) (off : Nat) (hx : a.eval x = .pointer (some ⟨b, off, none⟩)) (v : Value) (hy : a.eval y = v) (hv : v.cells = #[v]) (h1 : v.oneCell' = true)
    (hs : (P.info? ty).map (·.size) = some 1) (hl : off < cs.length) (hb : b < ws.heap.size → b ∈ S)
    (h : ∀ w', Hid (MemK ws S w0 w' (L.set i (b, T, cs.set off v))) → K (a.put o.dst undef) w') : o.wp P a w K Q := by
  have hst := run_storeVar_mid (P := P) w b off ty #[v] ((HM.out.1.blk i hi).there' off 1 (by omega)) hs (by simp [h1]); unfold Oper.wp execOp; simp only [ho, hx, hy, Instr.storeAt, Instr.sureAddr, Sem.run_bind, Sem.run_pure, Result.andThen_ok, storeVar_cells ty _ v hv, hst]; exact h _ (Lib.hid (HM.out.setCell i hi off v hb))
theorem wpList_store1K (hgd : o.guard = none) (ty : TypeId) (x y : Operand) (ho : o.op = .store ty x y) (HM : Hid (MemK ws S w0 w L)) (i : Nat) {b : Nat} {T : TypeId} {cs : List Value} (hi : L[i]? = some (b, T, cs)) (off : Nat) (hx : a.eval x = .pointer (some ⟨b, off, none⟩)) (v : Value) (hy : a.eval y = v) (hv : v.cells = #[v]) (h1 : v.oneCell' = true)
    (hs : (P.info? ty).map (·.size) = some 1) (hl : off < cs.length) (hb : b < ws.heap.size → b ∈ S)
    (h : ∀ w', Hid (MemK ws S w0 w' (L.set i (b, T, cs.set off v))) → wpList P ops Q rest (a.put o.dst undef) w') : wpList P ops Q (o :: rest) a w :=
  wpList_plain hgd fun _ hK => wp_store1K ty x y ho HM i hi off hx v hy hv h1 hs hl hb fun w' hM => hK _ _ (h w' hM)
theorem wp_allocK (ty : TypeId) (ho : o.op = .alloc ty) (Z : List Value) (HZ : Hid (ZeroIs P ty Z)) (HM : Hid (MemK ws S w0 w L))
    (h : ∀ b w', Hid (MemK ws S w0 w' ((b, ty, Z) :: L)) → Hid (ws.heap.size ≤ b) → K (a.put o.dst (.pointer (some ⟨b, 0, none⟩))) w') : o.wp P a w K Q := by
  unfold Oper.wp execOp; simp only [ho]; have hz := HZ.out w; simp only [Sem.run_bind, hz, Result.andThen_ok, Sem.run_pure]; exact h _ _ (Lib.hid (HM.out.alloc Z ty)) (Lib.hid HM.out.2.size)
theorem wp_storeK (ty : TypeId) (x y : Operand) (ho : o.op = .store ty x y) (HM : Hid (MemK ws S w0 w L)) (i : Nat) {b : Nat} {T : TypeId} {cs : List Value} (hi : L[i]? = some (b, T, cs)) (hx : a.eval x = .pointer (some ⟨b, 0, none⟩)) (vs : List Value) (hy : a.eval y = .agg vs.toArray)
    (hs : (P.info? ty).map (·.size) = some vs.length) (hl : cs.length = vs.length) (h1 : ∀ v ∈ vs, v.oneCell' = true) (hb : b < ws.heap.size → b ∈ S)
    (h : ∀ w', Hid (MemK ws S w0 w' (L.set i (b, T, vs))) → K (a.put o.dst undef) w') : o.wp P a w K Q :=
  wp_store_mid ty x y ho b 0 vs.toArray hx hy ((HM.out.1.blk i hi).there' 0 _ (by simp [hl])) (by simpa using hs) (all_oneCell_toArray h1)
    (h _ (Lib.hid ⟨HM.out.1.setAll i hi vs hl, Keep.setCells' b hb vs 0 w HM.out.2⟩))
theorem wp_storePartK (ty : TypeId) (x y : Operand) (ho : o.op = .store ty x y) (HM : Hid (MemK ws S w0 w L)) (i : Nat) {b : Nat} {T : TypeId} {cs : List Value} (hi : L[i]? = some (b, T, cs)) (off : Nat) (hx : a.eval x = .pointer (some ⟨b, off, none⟩)) (vs : List Value) (hy : a.eval y = .agg vs.toArray)
    (hs : (P.info? ty).map (·.size) = some vs.length) (pre xs suf : List Value) (hc : cs = pre ++ xs ++ suf) (hl : xs.length = vs.length) (ho2 : off = pre.length) (h1 : ∀ v ∈ vs, v.oneCell' = true) (hb : b < ws.heap.size → b ∈ S)
    (h : ∀ w', Hid (MemK ws S w0 w' (L.set i (b, T, pre ++ vs ++ suf))) → K (a.put o.dst undef) w') : o.wp P a w K Q :=
  wp_store_mid ty x y ho b off vs.toArray hx hy ((HM.out.1.blk i hi).there' off _ (by subst hc ho2; simp [hl])) (by simpa using hs) (all_oneCell_toArray h1)
    (h _ (Lib.hid ⟨HM.out.1.setMid i hi pre xs suf vs hc hl off ho2, Keep.setCells' b hb vs off w HM.out.2⟩))
end
end Go.Proofs.YtlhnjkekjbbhcaaGreatDoor
namespace Go.Proofs.YtlhnjkekjbbhcaaGreatDoor
open Go.RowKit Go.Shelf
def Cf.cells (c : Cf) : List Value := [.string (S c.host), .int .i64 c.gu, .int .i64 c.ca, .int .i64 c.fl, .int .i64 c.bu, .int .i64 c.re, .int .i64 c.st, .float .f64 c.ttl, .float .f64 c.mt, .float .f64 c.ms, .float .f64 c.tm, .float .f64 c.bo, .float .f64 c.pr]
theorem Cf.len (c : Cf) : c.cells.length = 13 := rfl
theorem Cf.one (c : Cf) : ∀ v ∈ c.cells, v.oneCell' = true := by
  intro v hv; simp only [Cf.cells, List.mem_cons, List.not_mem_nil, or_false] at hv; rcases hv with rfl | rfl | rfl | rfl | rfl | rfl | rfl | rfl | rfl | rfl | rfl | rfl | rfl <;> rfl
theorem cf_size (c : Cf) : (Tryz.prog.info? 48).map (·.size) = some c.cells.length := by rw [c.len]; kernel_rfl
def ErS.top (E : ErS) (rp va : Value) : List Value := [rp, .int .i64 E.began, .int .i64 E.last, .int .i64 E.head.st, va, .int .i64 E.head.len, .bool E.head.ch, .bool E.head.cl, .bool E.body, .string (S E.data), .int .i64 E.taken, .int .i64 E.size, .bool E.reuse]
def ErS.mid (E : ErS) : List Value := [.int .i64 E.state, .int .i64 E.unt]
def ErS.low (E : ErS) : List Value := [.int .i64 E.tries, .int .i64 E.misses, .int .i64 E.silent, .int .i64 E.heard]
def ErS.cells (E : ErS) (rp va : Value) : List Value := E.top rp va ++ (E.key.cells ++ (E.cfg.cells ++ (E.known.cells ++ (E.mid ++ (E.res.cells ++ E.low)))))
theorem ErS.len (E : ErS) (rp va : Value) : (E.cells rp va).length = 142 := by
  simp only [ErS.cells, List.length_append, Ky.len, Cf.len, Tk.len, Rs.len]; rfl
theorem get_skip {l r : List Value} {n : Nat} (h : l.length = n) (i : Nat) : (l ++ r)[n + i]? = r[i]? := by
  rw [List.getElem?_append_right (by omega), h, Nat.add_sub_cancel_left]
theorem set_skip {l r : List Value} {n : Nat} (h : l.length = n) (i : Nat) (v : Value) : (l ++ r).set (n + i) v = l ++ r.set i v := by
  rw [List.set_append_right _ _ (by omega), h, Nat.add_sub_cancel_left]
theorem er_key (E : ErS) (rp va : Value) {i : Nat} (hi : i < 36) : (E.cells rp va)[13 + i]? = E.key.cells[i]? := by
  have h1 : (E.top rp va).length = 13 := rfl; unfold ErS.cells; rw [get_skip h1, List.getElem?_append_left (by rw [E.key.len]; exact hi)]
theorem er_cfg (E : ErS) (rp va : Value) {i : Nat} (hi : i < 13) : (E.cells rp va)[49 + i]? = E.cfg.cells[i]? := by
  have h1 : (E.top rp va).length = 13 := rfl; unfold ErS.cells; rw [show 49 + i = 13 + (36 + i) by omega, get_skip h1, get_skip E.key.len, List.getElem?_append_left (by rw [E.cfg.len]; exact hi)]
theorem er_known (E : ErS) (rp va : Value) {i : Nat} (hi : i < 38) : (E.cells rp va)[62 + i]? = E.known.cells[i]? := by
  have h1 : (E.top rp va).length = 13 := rfl; unfold ErS.cells; rw [show 62 + i = 13 + (36 + (13 + i)) by omega, get_skip h1, get_skip E.key.len, get_skip E.cfg.len, List.getElem?_append_left (by rw [E.known.len]; exact hi)]
theorem er_mid (E : ErS) (rp va : Value) {i : Nat} (hi : i < 2) : (E.cells rp va)[100 + i]? = E.mid[i]? := by
  have h1 : (E.top rp va).length = 13 := rfl; unfold ErS.cells; rw [show 100 + i = 13 + (36 + (13 + (38 + i))) by omega, get_skip h1, get_skip E.key.len, get_skip E.cfg.len, get_skip E.known.len, List.getElem?_append_left (by show i < 2; exact hi)]
theorem er_res (E : ErS) (rp va : Value) {i : Nat} (hi : i < 36) : (E.cells rp va)[102 + i]? = E.res.cells[i]? := by
  have h1 : (E.top rp va).length = 13 := rfl; have h2 : E.mid.length = 2 := rfl; unfold ErS.cells; rw [show 102 + i = 13 + (36 + (13 + (38 + (2 + i)))) by omega, get_skip h1, get_skip E.key.len, get_skip E.cfg.len, get_skip E.known.len, get_skip h2, List.getElem?_append_left (by rw [E.res.len]; exact hi)]
theorem er_low (E : ErS) (rp va : Value) (i : Nat) : (E.cells rp va)[138 + i]? = E.low[i]? := by
  have h1 : (E.top rp va).length = 13 := rfl; have h2 : E.mid.length = 2 := rfl; unfold ErS.cells; rw [show 138 + i = 13 + (36 + (13 + (38 + (2 + (36 + i))))) by omega, get_skip h1, get_skip E.key.len, get_skip E.cfg.len, get_skip E.known.len, get_skip h2, get_skip E.res.len]
theorem er_smid (E : ErS) (rp va : Value) {i : Nat} (hi : i < 2) (v : Value) : (E.cells rp va).set (100 + i) v = E.top rp va ++ (E.key.cells ++ (E.cfg.cells ++ (E.known.cells ++ (E.mid.set i v ++ (E.res.cells ++ E.low))))) := by
  have h1 : (E.top rp va).length = 13 := rfl; unfold ErS.cells; rw [show 100 + i = 13 + (36 + (13 + (38 + i))) by omega, set_skip h1, set_skip E.key.len, set_skip E.cfg.len, set_skip E.known.len, List.set_append_left _ _ (by show i < 2; exact hi)]
theorem er_slow (E : ErS) (rp va : Value) (i : Nat) (v : Value) : (E.cells rp va).set (138 + i) v = E.top rp va ++ (E.key.cells ++ (E.cfg.cells ++ (E.known.cells ++ (E.mid ++ (E.res.cells ++ E.low.set i v))))) := by
  have h1 : (E.top rp va).length = 13 := rfl; have h2 : E.mid.length = 2 := rfl; unfold ErS.cells; rw [show 138 + i = 13 + (36 + (13 + (38 + (2 + (36 + i))))) by omega, set_skip h1, set_skip E.key.len, set_skip E.cfg.len, set_skip E.known.len, set_skip h2, set_skip E.res.len]
structure Et (w0 w : World) (b : Nat) (rp va : Value) (X : List Nat) (E : ErS) (n : Nat) (L : List Nat) : Prop where
  blk : Blk w b 106 (E.cells rp va)
  rep : match E.rep with
    | none => rp = .pointer none ∧ X = []
    | some P => ∃ p, rp = .pointer (some ⟨p, 0, none⟩) ∧ Rp w0 w p X P n (b :: (va.ownBlock.toList ++ L))
  hd : Own Fld.cells 2 w0.heap.size 89 w va E.head.F
  sm : ∀ f ∈ E.head.F, f.name.length ≤ 1048576 ∧ f.value.length ≤ 1048576
  kp : Keep [] w0 w
  lo : w0.heap.size ≤ b
  ne : va.ownBlock ≠ some b
  ap : ∀ l ∈ L, l ≠ b ∧ va.ownBlock ≠ some l ∧ l < w.heap.size
theorem er_top (E : ErS) (rp va : Value) (i : Nat) (hi : i < 13) : (E.cells rp va)[i]? = (E.top rp va)[i]? := by
  unfold ErS.cells; exact List.getElem?_append_left hi
theorem er_stop (E : ErS) (rp va : Value) (i : Nat) (hi : i < 13) (v : Value) : (E.cells rp va).set i v = (E.top rp va).set i v ++ (E.key.cells ++ (E.cfg.cells ++ (E.known.cells ++ (E.mid ++ (E.res.cells ++ E.low))))) := by
  unfold ErS.cells; exact List.set_append_left _ _ hi
theorem g_rep (E : ErS) (rp va : Value) : (E.cells rp va)[0]? = some rp := er_top E rp va 0 (by omega)
theorem g_began (E : ErS) (rp va : Value) : (E.cells rp va)[1]? = some (.int .i64 E.began) := er_top E rp va 1 (by omega)
theorem g_last (E : ErS) (rp va : Value) : (E.cells rp va)[2]? = some (.int .i64 E.last) := er_top E rp va 2 (by omega)
theorem g_len (E : ErS) (rp va : Value) : (E.cells rp va)[5]? = some (.int .i64 E.head.len) := er_top E rp va 5 (by omega)
theorem g_cl (E : ErS) (rp va : Value) : (E.cells rp va)[7]? = some (.bool E.head.cl) := er_top E rp va 7 (by omega)
theorem g_body (E : ErS) (rp va : Value) : (E.cells rp va)[8]? = some (.bool E.body) := er_top E rp va 8 (by omega)
theorem g_data (E : ErS) (rp va : Value) : (E.cells rp va)[9]? = some (.string (S E.data)) := er_top E rp va 9 (by omega)
theorem g_taken (E : ErS) (rp va : Value) : (E.cells rp va)[10]? = some (.int .i64 E.taken) := er_top E rp va 10 (by omega)
theorem g_size (E : ErS) (rp va : Value) : (E.cells rp va)[11]? = some (.int .i64 E.size) := er_top E rp va 11 (by omega)
theorem g_reuse (E : ErS) (rp va : Value) : (E.cells rp va)[12]? = some (.bool E.reuse) := er_top E rp va 12 (by omega)
theorem g_kind (E : ErS) (rp va : Value) : (E.cells rp va)[13]? = some (.int .i64 E.key.kind) := er_key E rp va (i := 0) (by omega)
theorem g_host (E : ErS) (rp va : Value) : (E.cells rp va)[49]? = some (.string (S E.cfg.host)) := er_cfg E rp va (i := 0) (by omega)
theorem g_re (E : ErS) (rp va : Value) : (E.cells rp va)[54]? = some (.int .i64 E.cfg.re) := er_cfg E rp va (i := 5) (by omega)
theorem g_tm (E : ErS) (rp va : Value) : (E.cells rp va)[59]? = some (.float .f64 E.cfg.tm) := er_cfg E rp va (i := 10) (by omega)
theorem g_bo (E : ErS) (rp va : Value) : (E.cells rp va)[60]? = some (.float .f64 E.cfg.bo) := er_cfg E rp va (i := 11) (by omega)
theorem g_state (E : ErS) (rp va : Value) : (E.cells rp va)[100]? = some (.int .i64 E.state) := er_mid E rp va (i := 0) (by omega)
theorem g_unt (E : ErS) (rp va : Value) : (E.cells rp va)[101]? = some (.int .i64 E.unt) := er_mid E rp va (i := 1) (by omega)
theorem g_tries (E : ErS) (rp va : Value) : (E.cells rp va)[138]? = some (.int .i64 E.tries) := er_low E rp va 0
theorem g_misses (E : ErS) (rp va : Value) : (E.cells rp va)[139]? = some (.int .i64 E.misses) := er_low E rp va 1
theorem g_silent (E : ErS) (rp va : Value) : (E.cells rp va)[140]? = some (.int .i64 E.silent) := er_low E rp va 2
theorem g_heard (E : ErS) (rp va : Value) : (E.cells rp va)[141]? = some (.int .i64 E.heard) := er_low E rp va 3
theorem s_last (E : ErS) (rp va : Value) (x : Int) : (E.cells rp va).set 2 (.int .i64 x) = ({ E with last := x } : ErS).cells rp va := er_stop E rp va 2 (by omega) _
theorem s_body (E : ErS) (rp va : Value) (x : Bool) : (E.cells rp va).set 8 (.bool x) = ({ E with body := x } : ErS).cells rp va := er_stop E rp va 8 (by omega) _
theorem s_data (E : ErS) (rp va : Value) (x : List UInt8) : (E.cells rp va).set 9 (.string (S x)) = ({ E with data := x } : ErS).cells rp va := er_stop E rp va 9 (by omega) _
theorem s_taken (E : ErS) (rp va : Value) (x : Int) : (E.cells rp va).set 10 (.int .i64 x) = ({ E with taken := x } : ErS).cells rp va := er_stop E rp va 10 (by omega) _
theorem s_size (E : ErS) (rp va : Value) (x : Int) : (E.cells rp va).set 11 (.int .i64 x) = ({ E with size := x } : ErS).cells rp va := er_stop E rp va 11 (by omega) _
theorem s_reuse (E : ErS) (rp va : Value) (x : Bool) : (E.cells rp va).set 12 (.bool x) = ({ E with reuse := x } : ErS).cells rp va := er_stop E rp va 12 (by omega) _
theorem s_state (E : ErS) (rp va : Value) (x : Int) : (E.cells rp va).set 100 (.int .i64 x) = ({ E with state := x } : ErS).cells rp va := er_smid E rp va (i := 0) (by omega) _
theorem s_unt (E : ErS) (rp va : Value) (x : Int) : (E.cells rp va).set 101 (.int .i64 x) = ({ E with unt := x } : ErS).cells rp va := er_smid E rp va (i := 1) (by omega) _
theorem s_tries (E : ErS) (rp va : Value) (x : Int) : (E.cells rp va).set 138 (.int .i64 x) = ({ E with tries := x } : ErS).cells rp va := er_slow E rp va 0 _
theorem s_misses (E : ErS) (rp va : Value) (x : Int) : (E.cells rp va).set 139 (.int .i64 x) = ({ E with misses := x } : ErS).cells rp va := er_slow E rp va 1 _
theorem s_silent (E : ErS) (rp va : Value) (x : Int) : (E.cells rp va).set 140 (.int .i64 x) = ({ E with silent := x } : ErS).cells rp va := er_slow E rp va 2 _
theorem s_heard (E : ErS) (rp va : Value) (x : Int) : (E.cells rp va).set 141 (.int .i64 x) = ({ E with heard := x } : ErS).cells rp va := er_slow E rp va 3 _
def ErS.upto (E : ErS) (rp va : Value) : List Value := E.top rp va ++ (E.key.cells ++ (E.cfg.cells ++ (E.known.cells ++ E.mid)))
theorem ErS.upto_len (E : ErS) (rp va : Value) : (E.upto rp va).length = 102 := by
  simp only [ErS.upto, List.length_append, Ky.len, Cf.len, Tk.len]; rfl
theorem p_res (E : ErS) (rp va : Value) : E.cells rp va = E.upto rp va ++ E.res.cells ++ E.low := by
  simp only [ErS.cells, ErS.upto, List.append_assoc]
theorem p_res' (E : ErS) (rp va : Value) (r : Rs) : E.upto rp va ++ r.cells ++ E.low = ({ E with res := r } : ErS).cells rp va := by
  simp only [ErS.cells, ErS.upto, List.append_assoc]; rfl
def ErS.pre3 (E : ErS) (rp : Value) : List Value := [rp, .int .i64 E.began, .int .i64 E.last]
def ErS.post8 (E : ErS) : List Value := [.bool E.body, .string (S E.data), .int .i64 E.taken, .int .i64 E.size, .bool E.reuse] ++ (E.key.cells ++ (E.cfg.cells ++ (E.known.cells ++ (E.mid ++ (E.res.cells ++ E.low)))))
theorem p_head (E : ErS) (rp va : Value) : E.cells rp va = E.pre3 rp ++ ansC E.head.st va E.head.len E.head.ch E.head.cl ++ E.post8 := rfl
theorem p_head' (E : ErS) (rp va : Value) (a : Ans) : E.pre3 rp ++ ansC a.st va a.len a.ch a.cl ++ E.post8 = ({ E with head := a } : ErS).cells rp va := rfl
def ErS.past (E : ErS) : List Value := E.key.cells ++ (E.cfg.cells ++ (E.known.cells ++ (E.mid ++ (E.res.cells ++ E.low))))
theorem p_top (E : ErS) (rp va : Value) : E.cells rp va = [] ++ E.top rp va ++ E.past := rfl
def smallA (a : Ans) : Prop := ∀ f ∈ a.F, f.name.length ≤ 1048576 ∧ f.value.length ≤ 1048576
section
variable {w0 w w' : World} {b n : Nat} {rp va : Value} {X L : List Nat} {E E' : ErS}
theorem Et.lt (h : Et w0 w b rp va X E n L) : b < w.heap.size := h.blk.lt
theorem Et.an (h : Et w0 w b rp va X E n L) : AnIn w va E.head.F := ⟨h.hd.sl Fld.cells_length, fun f hf => (h.sm f hf).1, fun f hf => (h.sm f hf).2⟩
theorem Et.mem (h : Et w0 w b rp va X E n L) : MemK w (b :: X) w0 w [(b, 106, E.cells rp va)] := by
  refine ⟨⟨h.kp, fun i j x y hi hj _ => ?_, fun x hx => ?_⟩, Keep.refl _ _⟩
  · have h1 : i < 1 := (List.getElem?_eq_some_iff.1 hi).1; have h2 : j < 1 := (List.getElem?_eq_some_iff.1 hj).1; omega
  · simp only [List.mem_singleton] at hx; subst hx; exact ⟨h.lo, h.blk⟩
theorem Et.reply (h : Et w0 w b rp va X E n L) {P : ReS} (hP : E.rep = some P) : ∃ p, rp = .pointer (some ⟨p, 0, Option.none⟩) ∧ Rp w0 w p X P n (b :: (va.ownBlock.toList ++ L)) := by
  have := h.rep; rw [hP] at this; exact this
theorem Et.base (h : Et w0 w b rp va X E n L) : ∀ x ∈ b :: X, w0.heap.size ≤ x := by
  intro x hx; rcases List.mem_cons.1 hx with rfl | hx
  · exact h.lo
  · have hr := h.rep
    cases hP : E.rep with
    | none => rw [hP] at hr; rw [hr.2] at hx; cases hx
    | some P =>
      obtain ⟨p, _, hR⟩ := h.reply hP; exact (hR.re.lo x hx).1
theorem Et.xlt (h : Et w0 w b rp va X E n L) : ∀ x ∈ X, x < w.heap.size ∧ x ≠ b ∧ va.ownBlock ≠ some x ∧ x ∉ L := by
  intro x hx; have hr := h.rep
  cases hP : E.rep with
  | none => rw [hP] at hr; rw [hr.2] at hx; cases hx
  | some P =>
    obtain ⟨p, _, hR⟩ := h.reply hP; refine ⟨(hR.re.lo x hx).2, fun hh => ?_, fun hh => ?_, fun hh => ?_⟩
    · exact (hR.ap b (by simp)).1 (hh ▸ hx)
    · exact (hR.ap x (by rw [hh]; simp)).1 hx
    · exact (hR.ap x (by simp [hh])).1 hx
theorem Et.keep {T : List Nat} (h : Et w0 w b rp va X E n L) (k : Keep T w w') (hT : ∀ x ∈ T, w0.heap.size ≤ x) (hb : b ∉ T) (hX : ∀ x ∈ X, x ∉ T) (hv : ∀ g, va.ownBlock = some g → g ∉ T) : Et w0 w' b rp va X E n L := by
  refine ⟨k.blk h.blk hb, ?_, h.hd.keep k hv, h.sm, h.kp.above k hT, h.lo, h.ne, fun l hl => ⟨(h.ap l hl).1, (h.ap l hl).2.1, Nat.lt_of_lt_of_le (h.ap l hl).2.2 k.size⟩⟩; have hr := h.rep
  cases hP : E.rep with
  | none => rw [hP] at hr; exact hr
  | some P =>
    obtain ⟨p, hp, hR⟩ := h.reply hP; exact ⟨p, hp, hR.keep k hT hX⟩
theorem Et.keep0 (h : Et w0 w b rp va X E n L) (k : Keep [] w w') : Et w0 w' b rp va X E n L := h.keep k (by simp) (by simp) (by simp) (by simp)
theorem Et.less {L' : List Nat} (h : Et w0 w b rp va X E n L) (hL : ∀ l ∈ L', l ∈ L) : Et w0 w b rp va X E n L' := by
  refine ⟨h.blk, ?_, h.hd, h.sm, h.kp, h.lo, h.ne, fun l hl => h.ap l (hL l hl)⟩; have hr := h.rep
  cases hP : E.rep with
  | none => rw [hP] at hr; exact hr
  | some P =>
    obtain ⟨p, hp, hR⟩ := h.reply hP; refine ⟨p, hp, hR.less fun l hl => ?_⟩; rcases List.mem_cons.1 hl with rfl | hl
    · simp
    · rcases List.mem_append.1 hl with hl | hl
      · simp [hl]
      · simp [hL l hl]
theorem Et.own (h : Et w0 w b rp va X E n L) (k : Keep [b] w w') (hB : Blk w' b 106 (E'.cells rp va)) (hr : E'.rep = E.rep) (hh : E'.head.F = E.head.F) : Et w0 w' b rp va X E' n L := by
  have hx := h.xlt; refine ⟨hB, ?_, ?_, ?_, h.kp.above k (by simpa using h.lo), h.lo, h.ne, fun l hl => ⟨(h.ap l hl).1, (h.ap l hl).2.1, Nat.lt_of_lt_of_le (h.ap l hl).2.2 k.size⟩⟩
  · have hr' := h.rep; rw [hr]
    cases hP : E.rep with
    | none => rw [hP] at hr'; exact hr'
    | some P =>
      obtain ⟨p, hp, hR⟩ := h.reply hP; exact ⟨p, hp, hR.keep k (by simpa using h.lo) (fun x hx' => by simpa using (hx x hx').2.1)⟩
  · rw [hh]; exact h.hd.keep k (fun g hg => by simp only [List.mem_singleton]; rintro rfl; exact h.ne hg)
  · rw [hh]; exact h.sm
theorem Et.called {p n' : Nat} {X' : List Nat} {P P' : ReS} (h : Et w0 w b rp va X E n L) (_hP : E.rep = some P) (hp : rp = .pointer (some ⟨p, 0, Option.none⟩)) (hR : Rp w0 w' p X' P' n' (b :: (va.ownBlock.toList ++ L))) (k : Keep X w w') : Et w0 w' b rp va X' { E with rep := some P' } n' L := by
  have hx := h.xlt; have hb := h.base; refine ⟨k.blk h.blk (fun hh => (hx b hh).2.1 rfl), ⟨p, hp, hR⟩, h.hd.keep k (fun g hg hh => (hx g hh).2.2.1 hg), h.sm, h.kp.above k (fun x hx' => hb x (List.mem_cons_of_mem _ hx')), h.lo, h.ne, fun l hl => ⟨(h.ap l hl).1, (h.ap l hl).2.1, Nat.lt_of_lt_of_le (h.ap l hl).2.2 k.size⟩⟩
end
end Go.Proofs.YtlhnjkekjbbhcaaGreatDoor
