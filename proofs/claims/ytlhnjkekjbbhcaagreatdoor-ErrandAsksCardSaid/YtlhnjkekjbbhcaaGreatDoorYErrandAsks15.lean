/- Parts of the proof of ErrandAsks, in order. No conditions but those that each theorem states. -/
import Derived.Test.YtlhnjkekjbbhcaaGreatDoorYErrandAsks0
import Derived.Lib.ItoaNum
import Derived.Lib.SlTrimSet
import Derived.Lib.SlBytesConst
import Derived.Lib.LaidTab
import Derived.Lib.ItoaLen
import Derived.Sort.Grow
import Derived.Deep.RegionHeld3
import Derived.Test.YtlhnjkekjbbhcaaGreatDoorYErrandAsks14
set_option linter.unusedSimpArgs false
set_option linter.unusedVariables false
namespace Go.Proofs.YtlhnjkekjbbhcaaGreatDoor
open Go.RowKit
def MemK (ws : World) (S : List Nat) (w0 w : World) (L : List (Nat × TypeId × List Value)) : Prop := Mem w0 w L ∧ Keep S ws w
section
variable {ws w0 w w' : World} {S : List Nat} {L : List (Nat × TypeId × List Value)}
theorem MemK.of (h : Mem w0 w L) (S : List Nat) : MemK w S w0 w L := ⟨h, Keep.refl _ _⟩
theorem MemK.keep0 (h : MemK ws S w0 w L) (k : Keep [] w w') : MemK ws S w0 w' L := ⟨h.1.keep0 k, h.2.trans' k (by simp)⟩
theorem MemK.tail {x : Nat × TypeId × List Value} (h : MemK ws S w0 w (x :: L)) : MemK ws S w0 w L := ⟨h.1.tail, h.2⟩
theorem MemK.get (h : MemK ws S w0 w L) (i : Nat) {b : Nat} {T : TypeId} {cs : List Value} (hi : L[i]? = some (b, T, cs)) (k : Nat) {v : Value} (hk : cs[k]? = some v) : w.cell? ⟨b, k, none⟩ = some v := h.1.get i hi k hk
theorem MemK.alloc (h : MemK ws S w0 w L) (Z : List Value) (T : TypeId) : MemK ws S w0 (w.alloc (.cells Z.toArray T)) ((w.heap.size, T, Z) :: L) := ⟨h.1.alloc Z T, h.2.alloc _⟩
theorem MemK.setCell (h : MemK ws S w0 w L) (i : Nat) {b : Nat} {T : TypeId} {cs : List Value} (hi : L[i]? = some (b, T, cs)) (o : Nat) (v : Value) (hb : b < ws.heap.size → b ∈ S) : MemK ws S w0 (w.setCell ⟨b, o, none⟩ v) (L.set i (b, T, cs.set o v)) := ⟨h.1.setCell i hi o v, h.2.setCell _ _ hb⟩
end
theorem storeVar_cells (ty : TypeId) (p : Addr) (v : Value) (hv : v.cells = #[v]) : storeVar ty p v = storeVar ty p (.agg #[v]) := by
  unfold storeVar; rw [hv]; rfl
section
variable {P : Program} {ops : Array Oper} {rest : List Oper} {o : Oper} {a : Act} {ws w w0 : World} {S : List Nat} {Q : Exit → Act → World → Prop} {L : List (Nat × TypeId × List Value)} {K : Act → World → Prop}
theorem wpList_allocK (hgd : o.guard = none) (ty : TypeId) (ho : o.op = .alloc ty) (Z : List Value) (HZ : Hid (ZeroIs P ty Z)) (HM : Hid (MemK ws S w0 w L))
    (h : ∀ b w', Hid (MemK ws S w0 w' ((b, ty, Z) :: L)) → Hid (ws.heap.size ≤ b) → wpList P ops Q rest (a.put o.dst (.pointer (some ⟨b, 0, none⟩))) w') : wpList P ops Q (o :: rest) a w :=
  wpList_allocM hgd ty ho Z HZ (Lib.hid HM.out.1) fun b w' hM hk hb => h b w' (Lib.hid ⟨hM.out, HM.out.2.trans' hk.out (by simp)⟩) (Lib.hid (by rw [hb.out]; exact HM.out.2.size))
theorem wpList_boxK (hgd : o.guard = none) (ty : TypeId) (x : Operand) (ho : o.op = .box ty x) (cs : List Value) (hx : (a.eval x).cells = cs.toArray) (HM : Hid (MemK ws S w0 w L))
    (h : ∀ b w', Hid (MemK ws S w0 w' ((b, ty, cs) :: L)) → Hid (ws.heap.size ≤ b) → wpList P ops Q rest (a.put o.dst (.pointer (some ⟨b, 0, none⟩))) w') : wpList P ops Q (o :: rest) a w :=
  wpList_boxM hgd ty x ho cs hx (Lib.hid HM.out.1) fun b w' hM hk hb => h b w' (Lib.hid ⟨hM.out, HM.out.2.trans' hk.out (by simp)⟩) (Lib.hid (by rw [hb.out]; exact HM.out.2.size))
theorem wpList_loadK (hw : Region.wanted o (yielded ops a.tmps) = true) (ty : TypeId) (x : Operand) (ho : o.op = .load ty x) (HM : Hid (MemK ws S w0 w L)) (i : Nat) {b : Nat} {T : TypeId} {cs : List Value} (hi : L[i]? = some (b, T, cs)) (hx : a.eval x = .pointer (some ⟨b, 0, none⟩))
    (d : TypeDesc) (hu : P.underlying ty = some d) (hd : d.isRow = true) (hs : (P.info? ty).map (·.size) = some cs.length)
    (h : wpList P ops Q rest (a.put o.dst (.agg cs.toArray)) w) : wpList P ops Q (o :: rest) a w := wpList_loadM hw ty x ho (Lib.hid HM.out.1) i hi hx d hu hd hs h
theorem wpList_loadPartK (hw : Region.wanted o (yielded ops a.tmps) = true) (ty : TypeId) (x : Operand) (ho : o.op = .load ty x) (HM : Hid (MemK ws S w0 w L)) (i : Nat) {b : Nat} {T : TypeId} {cs : List Value} (hi : L[i]? = some (b, T, cs)) (off : Nat) (hx : a.eval x = .pointer (some ⟨b, off, none⟩))
    (vs : List Value) (hv : ∀ j v, vs[j]? = some v → cs[off + j]? = some v) (d : TypeDesc) (hu : P.underlying ty = some d) (hd : d.isRow = true) (hs : (P.info? ty).map (·.size) = some vs.length)
    (h : wpList P ops Q rest (a.put o.dst (.agg vs.toArray)) w) : wpList P ops Q (o :: rest) a w := wpList_loadPart hw ty x ho (Lib.hid HM.out.1) i hi off hx vs hv d hu hd hs h
theorem wpList_storeK (hgd : o.guard = none) (ty : TypeId) (x y : Operand) (ho : o.op = .store ty x y) (HM : Hid (MemK ws S w0 w L)) (i : Nat) {b : Nat} {T : TypeId} {cs : List Value} (hi : L[i]? = some (b, T, cs)) (hx : a.eval x = .pointer (some ⟨b, 0, none⟩)) (vs : List Value) (hy : a.eval y = .agg vs.toArray)
    (hs : (P.info? ty).map (·.size) = some vs.length) (hl : cs.length = vs.length) (h1 : ∀ v ∈ vs, v.oneCell' = true) (hb : b < ws.heap.size → b ∈ S)
    (h : ∀ w', Hid (MemK ws S w0 w' (L.set i (b, T, vs))) → wpList P ops Q rest (a.put o.dst undef) w') : wpList P ops Q (o :: rest) a w :=
  wpList_storeM hgd ty x y ho (Lib.hid HM.out.1) i hi hx vs hy hs hl h1 fun w' hM hk => h w' (Lib.hid ⟨hM.out, HM.out.2.trans' hk.out (fun x hx hlt => by have h9 : x = b := (by simpa using hx); rw [h9] at hlt ⊢; exact hb hlt)⟩)
theorem wpList_storePartK (hgd : o.guard = none) (ty : TypeId) (x y : Operand) (ho : o.op = .store ty x y) (HM : Hid (MemK ws S w0 w L)) (i : Nat) {b : Nat} {T : TypeId} {cs : List Value} (hi : L[i]? = some (b, T, cs)) (off : Nat) (hx : a.eval x = .pointer (some ⟨b, off, none⟩)) (vs : List Value) (hy : a.eval y = .agg vs.toArray)
    (hs : (P.info? ty).map (·.size) = some vs.length) (pre xs suf : List Value) (hc : cs = pre ++ xs ++ suf) (hl : xs.length = vs.length) (ho2 : off = pre.length) (h1 : ∀ v ∈ vs, v.oneCell' = true) (hb : b < ws.heap.size → b ∈ S)
    (h : ∀ w', Hid (MemK ws S w0 w' (L.set i (b, T, pre ++ vs ++ suf))) → wpList P ops Q rest (a.put o.dst undef) w') : wpList P ops Q (o :: rest) a w :=
  wpList_storePart hgd ty x y ho (Lib.hid HM.out.1) i hi off hx vs hy hs pre xs suf hc hl ho2 h1 fun w' hM hk => h w' (Lib.hid ⟨hM.out, HM.out.2.trans' hk.out (fun x hx hlt => by have h9 : x = b := (by simpa using hx); rw [h9] at hlt ⊢; exact hb hlt)⟩)
theorem wp_store1K (ty : TypeId) (x y : Operand) (ho : o.op = .store ty x y) (HM : Hid (MemK ws S w0 w L)) (i : Nat) {b : Nat} {T : TypeId} {cs : List Value} (hi : L[i]? = some (b, T, cs)) (off : Nat) (hx : a.eval x = .pointer (some ⟨b, off, none⟩)) (v : Value) (hy : a.eval y = v) (hv : v.cells = #[v]) (h1 : v.oneCell' = true)
    (hs : (P.info? ty).map (·.size) = some 1) (hl : off < cs.length) (hb : b < ws.heap.size → b ∈ S)
    (h : ∀ w', Hid (MemK ws S w0 w' (L.set i (b, T, cs.set off v))) → K (a.put o.dst undef) w') : o.wp P a w K Q := by
  have hst := run_storeVar_mid (P := P) w b off ty #[v] ((HM.out.1.blk i hi).there' off 1 (by omega)) hs (by simp [h1]); unfold Oper.wp execOp; simp only [ho, hx, hy, Instr.storeAt, Instr.sureAddr, Sem.run_bind, Sem.run_pure, Result.andThen_ok, storeVar_cells ty _ v hv, hst]; exact h _ (Lib.hid (HM.out.setCell i hi off v hb))
theorem wpList_store1K (hgd : o.guard = none) (ty : TypeId) (x y : Operand) (ho : o.op = .store ty x y) (HM : Hid (MemK ws S w0 w L)) (i : Nat) {b : Nat} {T : TypeId} {cs : List Value} (hi : L[i]? = some (b, T, cs)) (off : Nat) (hx : a.eval x = .pointer (some ⟨b, off, none⟩)) (v : Value) (hy : a.eval y = v) (hv : v.cells = #[v]) (h1 : v.oneCell' = true)
    (hs : (P.info? ty).map (·.size) = some 1) (hl : off < cs.length) (hb : b < ws.heap.size → b ∈ S)
    (h : ∀ w', Hid (MemK ws S w0 w' (L.set i (b, T, cs.set off v))) → wpList P ops Q rest (a.put o.dst undef) w') : wpList P ops Q (o :: rest) a w :=
  wpList_plain hgd fun _ hK => wp_store1K ty x y ho HM i hi off hx v hy hv h1 hs hl hb fun w' hM => hK _ _ (h w' hM)
theorem wp_allocK (ty : TypeId) (ho : o.op = .alloc ty) (Z : List Value) (HZ : Hid (ZeroIs P ty Z)) (HM : Hid (MemK ws S w0 w L))
    (h : ∀ b w', Hid (MemK ws S w0 w' ((b, ty, Z) :: L)) → Hid (ws.heap.size ≤ b) → K (a.put o.dst (.pointer (some ⟨b, 0, none⟩))) w') : o.wp P a w K Q := by
  unfold Oper.wp execOp; simp only [ho]; have hz := HZ.out w; simp only [Sem.run_bind, hz, Result.andThen_ok, Sem.run_pure]; exact h _ _ (Lib.hid (HM.out.alloc Z ty)) (Lib.hid HM.out.2.size)
theorem wp_storeK (ty : TypeId) (x y : Operand) (ho : o.op = .store ty x y) (HM : Hid (MemK ws S w0 w L)) (i : Nat) {b : Nat} {T : TypeId} {cs : List Value} (hi : L[i]? = some (b, T, cs)) (hx : a.eval x = .pointer (some ⟨b, 0, none⟩)) (vs : List Value) (hy : a.eval y = .agg vs.toArray)
    (hs : (P.info? ty).map (·.size) = some vs.length) (hl : cs.length = vs.length) (h1 : ∀ v ∈ vs, v.oneCell' = true) (hb : b < ws.heap.size → b ∈ S)
    (h : ∀ w', Hid (MemK ws S w0 w' (L.set i (b, T, vs))) → K (a.put o.dst undef) w') : o.wp P a w K Q :=
  wp_store_mid ty x y ho b 0 vs.toArray hx hy ((HM.out.1.blk i hi).there' 0 _ (by simp [hl])) (by simpa using hs) (all_oneCell_toArray h1)
    (h _ (Lib.hid ⟨HM.out.1.setAll i hi vs hl, Keep.setCells' b hb vs 0 w HM.out.2⟩))
theorem wp_storePartK (ty : TypeId) (x y : Operand) (ho : o.op = .store ty x y) (HM : Hid (MemK ws S w0 w L)) (i : Nat) {b : Nat} {T : TypeId} {cs : List Value} (hi : L[i]? = some (b, T, cs)) (off : Nat) (hx : a.eval x = .pointer (some ⟨b, off, none⟩)) (vs : List Value) (hy : a.eval y = .agg vs.toArray)
    (hs : (P.info? ty).map (·.size) = some vs.length) (pre xs suf : List Value) (hc : cs = pre ++ xs ++ suf) (hl : xs.length = vs.length) (ho2 : off = pre.length) (h1 : ∀ v ∈ vs, v.oneCell' = true) (hb : b < ws.heap.size → b ∈ S)
    (h : ∀ w', Hid (MemK ws S w0 w' (L.set i (b, T, pre ++ vs ++ suf))) → K (a.put o.dst undef) w') : o.wp P a w K Q :=
  wp_store_mid ty x y ho b off vs.toArray hx hy ((HM.out.1.blk i hi).there' off _ (by subst hc ho2; simp [hl])) (by simpa using hs) (all_oneCell_toArray h1)
    (h _ (Lib.hid ⟨HM.out.1.setMid i hi pre xs suf vs hc hl off ho2, Keep.setCells' b hb vs off w HM.out.2⟩))
end
end Go.Proofs.YtlhnjkekjbbhcaaGreatDoor
namespace Go.Proofs.YtlhnjkekjbbhcaaGreatDoor
open Go.RowKit
theorem lowB_tchar (b : UInt8) : tchar (lowB b) = tchar b := by
  refine all_u8 (p := fun b => tchar (lowB b) = tchar b) ?_ b; decide +kernel
theorem lowB_slash (b : UInt8) : (lowB b == 47) = (b == 47) := by
  refine all_u8 (p := fun b => (lowB b == 47) = (b == 47)) ?_ b; decide +kernel
theorem isTok_low (l : List UInt8) : isTok (lowW l) = isTok l := by
  unfold isTok lowW; rw [List.all_map]; have : (tchar ∘ lowB) = tchar := funext lowB_tchar; rw [this]; simp
theorem low_len (l : List UInt8) : (lowW l).length = l.length := by simp [lowW]
theorem low_slash (l : List UInt8) : Lib.indexByte (lowW l) 47 = Lib.indexByte l 47 := by
  have h : ∀ (l : List UInt8) (i : Nat), (lowW l)[i]? = some (47 : UInt8) ↔ l[i]? = some (47 : UInt8) := fun l i => by
    unfold lowW; rw [List.getElem?_map]
    cases l[i]? with
    | none => simp
    | some b =>
      have := lowB_slash b; rw [Bool.eq_iff_iff, beq_iff_eq, beq_iff_eq] at this; simpa using this
  have g1 := Lib.indexByte_ge (lowW l) 47; have g2 := Lib.indexByte_ge l 47; by_cases h1 : Lib.indexByte l 47 = -1
  · rw [h1]; by_cases h2 : Lib.indexByte (lowW l) 47 = -1
    · exact h2
    · obtain ⟨i, hi⟩ : ∃ i : Nat, Lib.indexByte (lowW l) 47 = i := ⟨(Lib.indexByte (lowW l) 47).toNat, by omega⟩
      exact absurd ((h l i).1 (Lib.indexByte_some hi).1) (Lib.indexByte_none h1 i)
  · obtain ⟨i, hi⟩ : ∃ i : Nat, Lib.indexByte l 47 = i := ⟨(Lib.indexByte l 47).toNat, by omega⟩
    rw [hi]; exact indexByte_at ((h l i).2 (Lib.indexByte_some hi).1) (fun j hj h3 => (Lib.indexByte_some hi).2 j hj ((h l j).1 h3))
def typA (l : List UInt8) : List UInt8 := l.take (Lib.indexByte l 47).toNat
def typB (l : List UInt8) : List UInt8 := l.drop ((Lib.indexByte l 47).toNat + 1)
def isTypeM (l : List UInt8) : Bool := decide (0 ≤ Lib.indexByte l 47) && isTok (typA l) && isTok (typB l) && decide (l.length ≤ 100)
theorem low_cut (l : List UInt8) : Lib.cut (lowW l) [47] = if 0 ≤ Lib.indexByte l 47 then (lowW (typA l), lowW (typB l), true) else (lowW l, [], false) := by
  unfold Lib.cut; rw [Lib.index_one, low_slash]; by_cases h : 0 ≤ Lib.indexByte l 47
  · rw [if_pos h, if_pos h]; simp [typA, typB, lowW, List.map_take, List.map_drop]
  · rw [if_neg h, if_neg h]
theorem isType_cut (l : List UInt8) : isTypeM l = ((Lib.cut (lowW l) [47]).2.2 && isTok (Lib.cut (lowW l) [47]).1 && isTok (Lib.cut (lowW l) [47]).2.1 && decide (l.length ≤ 100)) := by
  rw [low_cut]; unfold isTypeM; by_cases h : 0 ≤ Lib.indexByte l 47
  · rw [if_pos h, decide_eq_true h]; simp only [isTok_low]
  · rw [if_neg h, decide_eq_false h]; simp
def GT : Int := 4611686018427387904
end Go.Proofs.YtlhnjkekjbbhcaaGreatDoor
namespace Go.Proofs.YtlhnjkekjbbhcaaGreatDoor
open Go.RowKit Go.Shelf
theorem drop_atG {α : Type} {l : List α} {k : Nat} {c : α} (h : l[k]? = some c) : l.drop k = c :: l.drop (k + 1) := by
  obtain ⟨hl, hc⟩ := List.getElem?_eq_some_iff.1 h; rw [List.drop_eq_getElem_cons hl, hc]
theorem trimW_len (l : List UInt8) : (trimW l).length ≤ l.length := by
  unfold trimW Lib.trimS Lib.trimLeftS Lib.trimRightS; refine Nat.le_trans (List.dropWhile_sublist _).length_le ?_; rw [List.length_reverse]; refine Nat.le_trans (List.dropWhile_sublist _).length_le ?_; simp
theorem cutM_elem (b : UInt8) (m : Nat) : ∀ (l : List UInt8) (q : Bool) (p : List UInt8), p.length + l.length ≤ m → ∀ x ∈ cutM b l q p, x.length ≤ m
  | [], q, p, h, x, hx => by
    simp [cutM] at hx; subst hx; have := trimW_len p; simp at h; omega
  | [c], q, p, h, x, hx => by
    rw [cutM.eq_def] at hx; dsimp only at hx
    split at hx
    · exact cutM_elem b m [] _ _ (by simp at h ⊢; omega) x hx
    · split at hx
      · simp at hx; subst hx; have := trimW_len (p ++ [c]); simp at h this; omega
      · split at hx
        · rcases List.mem_cons.1 hx with rfl | hx
          · have := trimW_len p; simp at h; omega
          · exact cutM_elem b m [] _ _ (by simp at h ⊢) x hx
        · exact cutM_elem b m [] _ _ (by simp at h ⊢; omega) x hx
  | c :: d :: r, q, p, h, x, hx => by
    rw [cutM.eq_def] at hx; dsimp only at hx
    split at hx
    · exact cutM_elem b m (d :: r) _ _ (by simp at h ⊢; omega) x hx
    · split at hx
      · exact cutM_elem b m r _ _ (by simp at h ⊢; omega) x hx
      · split at hx
        · rcases List.mem_cons.1 hx with rfl | hx
          · have := trimW_len p; simp at h; omega
          · exact cutM_elem b m (d :: r) _ _ (by simp at h ⊢; omega) x hx
        · exact cutM_elem b m (d :: r) _ _ (by simp at h ⊢; omega) x hx
theorem cutW_elem {l : List UInt8} {b : UInt8} {x : List UInt8} (h : x ∈ cutW l b) : x.length ≤ l.length := cutM_elem b l.length l false [] (by simp) x h
def protB : List UInt8 := [72, 84, 84, 80, 47, 49, 46, 49]
def laidOk (L : List Fld) : Bool := decide (L.length ≤ 32) && L.all goodF
def laidE (st : List UInt8) (L : List Fld) : Int := if laidOk L then (if (headT st L).length ≤ 4096 then 0 else 4) else 1
def laidS (st : List UInt8) (L : List Fld) : List UInt8 := if laidE st L = 0 then headT st L else []
def tgtB (b : UInt8) : Bool := decide (33 ≤ b.toNat) && decide (b.toNat ≤ 126)
def isTgt (l : List UInt8) : Bool := l.all tgtB && !l.isEmpty
def httpB : List UInt8 := [72, 84, 84, 80, 47]
def digB (b : UInt8) : Bool := decide (48 ≤ b.toNat) && decide (b.toNat ≤ 57)
def verOk (l : List UInt8) : Bool := decide (l.length = 8) && decide (l.take 5 = httpB) && digB (l.getD 5 0) && (l.getD 6 0 == 46) && digB (l.getD 7 0)
def minS (l : List UInt8) : Int := if verOk l then (if l.getD 5 0 = 49 ∧ (l.getD 7 0).toNat ≤ 49 then 200 else 505) else 400
def minV (l : List UInt8) : Int := if minS l = 200 then ((l.getD 7 0).toNat : Int) - 48 else 0
structure Ln where
  m : List UInt8
  t : List UInt8
  v : Int
  s : Int
def lnM (l : List UInt8) : Ln :=
  let c := Lib.cut l [32]
  let d := Lib.cut c.2.1 [32]
  if c.2.2 && d.2.2 && isTok c.1 && isTgt d.1 then (if minS d.2.1 = 200 then ⟨c.1, d.1, minV d.2.1, 200⟩ else ⟨[], [], 0, minS d.2.1⟩) else ⟨[], [], 0, 400⟩
def askT (m t : List UInt8) : List UInt8 := m ++ [32] ++ t ++ [32] ++ protB
def askOk (m t : List UInt8) : Bool := decide ((lnM (askT m t)).s = 200) && decide ((askT m t).length ≤ 1024)
def askE (m t : List UInt8) (L : List Fld) : Int := if askOk m t then laidE (askT m t) L else 1
def askS (m t : List UInt8) (L : List Fld) : List UInt8 := if askOk m t then laidS (askT m t) L else []
set_option maxHeartbeats 1000000 in
theorem outlet_Bodyless (s : Int) (h : Bool) (w : World) :
    Calls Tryz.prog 154 #[.int .i64 s, .bool h] w fun e w' => e = .returned (.bool (h || (decide (100 ≤ s) && decide (s < 200)) || decide (s = 204) || decide (s = 304))) ∧ w' = w := by
  cases h with
  | true =>
    go_enter Tryz.func154, Tryz.ntmps154; go_wp2_with fail; go_ret; exact ⟨by simp, rfl⟩
  | false =>
    by_cases h1 : 100 ≤ s ∧ s < 200
    · obtain ⟨ha, hb⟩ := h1; have ha' : decide (s ≥ 100) = true := by simp; omega
      go_enter Tryz.func154, Tryz.ntmps154; go_wp2_with fail; go_ret; exact ⟨by simp [ha, hb], rfl⟩
    · have hx : (decide (100 ≤ s) && decide (s < 200)) = false := by simp; omega
      rw [hx]; by_cases ha : 100 ≤ s
      · have hb : decide (s < 200) = false := by simp; omega
        by_cases h4 : s = 204
        · have h4' := (int_eq h4).1; clear h1 hx; go_enter Tryz.func154, Tryz.ntmps154; go_wp2_with fail; go_ret; exact ⟨by simp [h4], rfl⟩
        · have h4' := (int_ne h4).1; clear h1 hx; go_enter Tryz.func154, Tryz.ntmps154; go_wp2_with fail
          all_goals (go_ret; refine ⟨?_, rfl⟩)
          all_goals (by_cases h5 : s = 304 <;> simp [h4, h5])
      · by_cases h4 : s = 204
        · omega
        · have h4' := (int_ne h4).1; clear h1 hx; go_enter Tryz.func154, Tryz.ntmps154; go_wp2_with fail
          all_goals (go_ret; refine ⟨?_, rfl⟩)
          all_goals (by_cases h5 : s = 304 <;> simp [h5])
set_option maxHeartbeats 400000 in
theorem inlet_isDigit (b : UInt8) (w : World) :
    Calls Tryz.prog 175 #[.int .u8 b.toNat] w fun e w' => e = .returned (.bool (digB b)) ∧ w = w' := by
  have hb := u8_nat b; by_cases h1 : 48 ≤ b.toNat
  · by_cases h2 : b.toNat ≤ 57
    · go_enter Tryz.func175, Tryz.ntmps175; go_wp2_with fail; go_ret; exact ⟨by simp [digB, h1, h2] <;> omega, rfl⟩
    · go_enter Tryz.func175, Tryz.ntmps175; go_wp2_with fail; go_ret; exact ⟨by simp [digB, h1, h2] <;> omega, rfl⟩
  · go_enter Tryz.func175, Tryz.ntmps175; go_wp2_with fail; go_ret; exact ⟨by simp [digB, h1], rfl⟩
set_option maxRecDepth 100000 in
set_option maxHeartbeats 1000000 in
theorem inlet_isTarget (l : List UInt8) (w : World) (hs : l.length ≤ maxLen) :
    Calls Tryz.prog 132 #[.string (S l)] w fun e w' => e = .returned (.bool (isTgt l)) ∧ Keep [] w w' := by
  have hs' : l.length ≤ 9223372036854775807 := hs; have hcv := conv_run w (S l); have hcell : Hid (∀ (k : Nat) (c : UInt8), l[k]? = some c → _) := fun k c h => conv_at w 5 h
  have hkp := conv_keep w 5 (S l); generalize Lib.bytesWorld w 5 (S l) = wb at hcv hcell hkp; have hsz := S_size l; have hte := S_toList l; clear hs; go_enter Tryz.func132, Tryz.ntmps132; go_wp2_with fail
  go_loop [8] (fun i => ∃ k : Nat, i = .int .i64 k ∧ k ≤ l.length ∧ Hid ((l.take k).all tgtB = true)) (fun i => l.length - (intOf i).toNat)
  case atStart => exact ⟨0, rfl, Nat.zero_le _, by simp [Hid]⟩
  case round =>
    obtain ⟨k, rfl, hk, hall⟩ := hrel; by_cases hlt : k < l.length
    · obtain ⟨c, hg⟩ : ∃ c, l[k]? = some c := ⟨_, List.getElem?_eq_getElem hlt⟩
      have hc := hcell.out k c hg; have hc8 := u8_nat c; have HG := Lib.hid hg; clear hg; by_cases ht : tgtB c = true
      · have h1 : 33 ≤ c.toNat ∧ c.toNat ≤ 126 := by simpa [tgtB] using ht
        have h2 : ¬ c.toNat ≤ 32 := by omega
        have h3 : ¬ 126 < c.toNat := by omega
        have HT := Lib.hid ht; clear ht h1; go_wp2_with fail
        go_round
        case rel => exact ⟨k + 1, by go_num, by omega, by rw [Hid, take_snoc HG.out, List.all_append, hall.out]; simp [HT.out]⟩
        case measure => simp [intOf]; omega
      · have this : isTgt l = false := by
          unfold isTgt; rw [show l.all tgtB = false from by rw [List.all_eq_false]; exact ⟨c, List.mem_of_getElem? HG.out, ht⟩]; rfl
        have H := Lib.hid this; by_cases h2 : c.toNat ≤ 32
        · clear this ht; go_wp2_with fail; go_ret; exact ⟨ret_bool H.out.symm, hkp⟩
        · have h3 : 126 < c.toNat := by
            simp [tgtB] at ht; omega
          clear this ht; go_wp2_with fail; go_ret; exact ⟨ret_bool H.out.symm, hkp⟩
    · have e : l.take k = l := List.take_of_length_le (by omega); rw [e] at hall; clear e; go_wp2_with fail; go_ret; refine ⟨ret_bool ?_, hkp⟩; unfold isTgt; rw [hall.out]; simp
theorem take5_prefix (l : List UInt8) : Lib.hasPrefix l httpB = decide (l.take 5 = httpB) := by
  rw [Bool.eq_iff_iff]; unfold Lib.hasPrefix; rw [List.isPrefixOf_iff_prefix, List.prefix_iff_eq_take]; constructor
  · intro h; exact decide_eq_true h.symm
  · intro h; exact (of_decide_eq_true h).symm
theorem ver_no {l : List UInt8} (h : Lib.hasPrefix l httpB = false ∨ l.length ≠ 8) : minS l = 400 ∧ minV l = 0 := by
  have hv : verOk l = false := by
    unfold verOk; rcases h with h | h
    · rw [take5_prefix] at h; rw [h]; simp
    · simp [h]
  have hs : minS l = 400 := by unfold minS; rw [hv]; rfl
  exact ⟨hs, by unfold minV; rw [hs]; rfl⟩
theorem ver_of (a p c : UInt8) : minS (httpB ++ [a, p, c]) = (if digB a && (p == 46) && digB c then (if a = 49 ∧ c.toNat ≤ 49 then 200 else 505) else 400) ∧ minV (httpB ++ [a, p, c]) = (if digB a && (p == 46) && digB c then (if a = 49 ∧ c.toNat ≤ 49 then (c.toNat : Int) - 48 else 0) else 0) := by
  have hv : verOk (httpB ++ [a, p, c]) = (digB a && (p == 46) && digB c) := by
    unfold verOk; simp [httpB]
  have hs : minS (httpB ++ [a, p, c]) = (if digB a && (p == 46) && digB c then (if a = 49 ∧ c.toNat ≤ 49 then 200 else 505) else 400) := by
    unfold minS; rw [hv]; rfl
  refine ⟨hs, ?_⟩; unfold minV; rw [hs]; by_cases h1 : (digB a && (p == 46) && digB c) = true
  · by_cases h2 : a = 49 ∧ c.toNat ≤ 49
    · rw [if_pos h1, if_pos h2, if_pos rfl, if_pos h1, if_pos h2]; rfl
    · rw [if_pos h1, if_neg h2, if_neg (by decide), if_pos h1, if_neg h2]
  · rw [if_neg h1, if_neg (by decide), if_neg h1]
set_option maxRecDepth 100000 in
set_option maxHeartbeats 2000000 in
theorem inlet_minor (l : List UInt8) (w : World) (hl : l.length ≤ maxLen) :
    Calls Tryz.prog 133 #[.string (S l)] w fun e w' => e = .returned (.tuple #[.int .i64 (minV l), .int .i64 (minS l)]) ∧ Keep [] w w' := by
  have hl' : l.length ≤ 9223372036854775807 := hl
  have hP : Calls Tryz.prog 74 #[.string (S l), .string ⟨#[72, 84, 84, 80, 47]⟩] w fun e w' => e = .returned (.tuple #[.string (S (Lib.trimPrefix l httpB)), .bool (Lib.hasPrefix l httpB)]) ∧ w' = w := by
    have := Tryz.strings_CutPrefix (S l) ⟨#[72, 84, 84, 80, 47]⟩ w; rw [S_list] at this; exact this
  have hsz := S_size l
  cases hpf : Lib.hasPrefix l httpB with
  | false =>
    obtain ⟨e1, e2⟩ := ver_no (.inl hpf); rw [e1, e2]; rw [hpf] at hP; have HP := Lib.hid hP; clear hP hpf e1 e2; go_enter Tryz.func133, Tryz.ntmps133; go_wp2_with fail; refine HP.out.mono ?_; rintro e w1 ⟨rfl, rfl⟩; go_wp2_with fail; go_ret2; exact ⟨rfl, Keep.refl _ _⟩
  | true =>
    rw [hpf] at hP; by_cases h8 : l.length = 8
    · have hle : l = httpB ++ l.drop 5 := by
        rw [take5_prefix] at hpf; have := of_decide_eq_true hpf; rw [← this, List.take_append_drop]
      have htr : Lib.trimPrefix l httpB = l.drop 5 := by unfold Lib.trimPrefix; rw [if_pos hpf]; rfl
      have hr3 : (l.drop 5).length = 3 := by rw [List.length_drop, h8]
      rw [htr] at hP; generalize l.drop 5 = r at *
      obtain ⟨a, p, c, rfl⟩ : ∃ a p c, r = [a, p, c] := by
        match r, hr3 with
        | [a, p, c], _ => exact ⟨a, p, c, rfl⟩
      have g0 := S_get (l := [a, p, c]) (k := 0) (c := a) rfl; have g1 := S_get (l := [a, p, c]) (k := 1) (c := p) rfl; have g2 := S_get (l := [a, p, c]) (k := 2) (c := c) rfl; have hs3 : (S [a, p, c]).size = 3 := S_size _; obtain ⟨hms, hmv⟩ := ver_of a p c; rw [← hle] at hms hmv; generalize minS l = ms at hms ⊢; generalize minV l = mv at hmv ⊢; have h8' : ((l.length : Nat) : Int) = 8 := by omega
      have h8q := (int_eq h8').2; have HP := Lib.hid hP; have Da := Lib.hid (fun w1 => inlet_isDigit a w1); have Dc := Lib.hid (fun w1 => inlet_isDigit c w1); have ca := u8_nat a; have cp := u8_nat p; have cc := u8_nat c; generalize S [a, p, c] = sr at *; clear hP hpf hle htr hr3 h8 h8'
      cases hda : digB a with
      | false =>
        rw [hda] at Da hms hmv; have HX := Lib.hid (show mv = 0 ∧ ms = 400 from ⟨by simpa using hmv, by simpa using hms⟩); clear hms hmv hda; go_enter Tryz.func133, Tryz.ntmps133; go_wp2_with fail; refine HP.out.mono ?_; rintro e w1 ⟨rfl, rfl⟩; go_wp2_with (first | (go_at_call 175; refine (Da.out _).mono ?_; rintro e w2 ⟨rfl, rfl⟩) | (go_at_call 175; refine (Dc.out _).mono ?_; rintro e w2 ⟨rfl, rfl⟩)); go_ret2; exact ⟨by rw [HX.out.1, HX.out.2]; rfl, Keep.refl _ _⟩
      | true =>
        by_cases hp : p = 46
        · have hpb : (p == 46) = true := by simp [hp]
          have hpn : ((p.toNat : Nat) : Int) = 46 := by rw [hp]; rfl
          have hpq := (int_eq hpn).2; rw [hda, hpb] at hms hmv; rw [hda] at Da; clear hpn hp hpb
          cases hdc : digB c with
          | false =>
            rw [hdc] at Dc hms hmv; have HX := Lib.hid (show mv = 0 ∧ ms = 400 from ⟨by simpa using hmv, by simpa using hms⟩); clear hms hmv hda hdc; go_enter Tryz.func133, Tryz.ntmps133; go_wp2_with fail; refine HP.out.mono ?_; rintro e w1 ⟨rfl, rfl⟩; go_wp2_with (first | (go_at_call 175; refine (Da.out _).mono ?_; rintro e w2 ⟨rfl, rfl⟩) | (go_at_call 175; refine (Dc.out _).mono ?_; rintro e w2 ⟨rfl, rfl⟩)); go_ret2; exact ⟨by rw [HX.out.1, HX.out.2]; rfl, Keep.refl _ _⟩
          | true =>
            rw [hdc] at Dc hms hmv; simp only [Bool.and_self, if_true] at hms hmv; have hc9 : 48 ≤ c.toNat ∧ c.toNat ≤ 57 := by simpa [digB] using hdc
            obtain ⟨hc0, hc1⟩ := hc9; by_cases ha : a = 49
            · have han : ((a.toNat : Nat) : Int) = 49 := by rw [ha]; rfl
              have haq := (int_eq han).2; by_cases hc : c.toNat ≤ 49
              · rw [if_pos ⟨ha, hc⟩] at hms hmv; have hcq : decide (((c.toNat : Nat) : Int) > 49) = false := by simp; omega
                have hwr := IntWalk.u8_in ((c.toNat : Int) - 48) (by omega); have hwi := IntWalk.i64_in ((c.toNat : Int) - 48) (by omega); have HX := Lib.hid (And.intro hmv hms); clear hms hmv hda hdc ha han; go_enter Tryz.func133, Tryz.ntmps133; go_wp2_with fail; refine HP.out.mono ?_; rintro e w1 ⟨rfl, rfl⟩; go_wp2_with (first | (go_at_call 175; refine (Da.out _).mono ?_; rintro e w2 ⟨rfl, rfl⟩) | (go_at_call 175; refine (Dc.out _).mono ?_; rintro e w2 ⟨rfl, rfl⟩)); go_ret2; exact ⟨by rw [HX.out.1, HX.out.2]; rfl, Keep.refl _ _⟩
              · rw [if_neg (fun h => hc h.2)] at hms hmv; have hcq : decide (((c.toNat : Nat) : Int) > 49) = true := by simp; omega
                have HX := Lib.hid (And.intro hmv hms); clear hms hmv hda hdc ha han; go_enter Tryz.func133, Tryz.ntmps133; go_wp2_with fail; refine HP.out.mono ?_; rintro e w1 ⟨rfl, rfl⟩; go_wp2_with (first | (go_at_call 175; refine (Da.out _).mono ?_; rintro e w2 ⟨rfl, rfl⟩) | (go_at_call 175; refine (Dc.out _).mono ?_; rintro e w2 ⟨rfl, rfl⟩)); go_ret2; exact ⟨by rw [HX.out.1, HX.out.2]; rfl, Keep.refl _ _⟩
            · rw [if_neg (fun h => ha h.1)] at hms hmv; have han : ((a.toNat : Nat) : Int) ≠ 49 := fun e => ha (UInt8.toNat_inj.1 (by show a.toNat = 49; omega))
              have haq := (int_ne han).2; have HX := Lib.hid (And.intro hmv hms); clear hms hmv hda hdc ha han; go_enter Tryz.func133, Tryz.ntmps133; go_wp2_with fail; refine HP.out.mono ?_; rintro e w1 ⟨rfl, rfl⟩; go_wp2_with (first | (go_at_call 175; refine (Da.out _).mono ?_; rintro e w2 ⟨rfl, rfl⟩) | (go_at_call 175; refine (Dc.out _).mono ?_; rintro e w2 ⟨rfl, rfl⟩)); go_ret2; exact ⟨by rw [HX.out.1, HX.out.2]; rfl, Keep.refl _ _⟩
        · have hpb : (p == 46) = false := by simp [hp]
          have hpn : ((p.toNat : Nat) : Int) ≠ 46 := fun e => hp (UInt8.toNat_inj.1 (by show p.toNat = 46; omega))
          have hpq := (int_ne hpn).2; rw [hda, hpb] at hms hmv; rw [hda] at Da; have HX := Lib.hid (show mv = 0 ∧ ms = 400 from ⟨by simpa using hmv, by simpa using hms⟩); clear hms hmv hda hpn hp hpb; go_enter Tryz.func133, Tryz.ntmps133; go_wp2_with fail; refine HP.out.mono ?_; rintro e w1 ⟨rfl, rfl⟩; go_wp2_with (first | (go_at_call 175; refine (Da.out _).mono ?_; rintro e w2 ⟨rfl, rfl⟩) | (go_at_call 175; refine (Dc.out _).mono ?_; rintro e w2 ⟨rfl, rfl⟩)); go_ret2; exact ⟨by rw [HX.out.1, HX.out.2]; rfl, Keep.refl _ _⟩
    · obtain ⟨e1, e2⟩ := ver_no (.inr h8); rw [e1, e2]; have h8' : ((l.length : Nat) : Int) ≠ 8 := by omega
      have h8q := (int_ne h8').2; have HP := Lib.hid hP; clear hP hpf e1 e2 h8 h8'; go_enter Tryz.func133, Tryz.ntmps133; go_wp2_with fail; refine HP.out.mono ?_; rintro e w1 ⟨rfl, rfl⟩; go_wp2_with fail; go_ret2; exact ⟨rfl, Keep.refl _ _⟩
end Go.Proofs.YtlhnjkekjbbhcaaGreatDoor
