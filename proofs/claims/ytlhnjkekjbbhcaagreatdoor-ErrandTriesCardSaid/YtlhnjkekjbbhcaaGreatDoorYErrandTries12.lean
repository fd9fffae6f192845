/- Parts of the proof of ErrandTries, in order. No conditions but those that each theorem states. -/
import Derived.Test.YtlhnjkekjbbhcaaGreatDoorYErrandTries0
import Derived.Lib.Builder
import Derived.Lib.AppendStr
import Derived.Test.YtlhnjkekjbbhcaaGreatDoorYErrandTries8
set_option linter.unusedSimpArgs false
set_option linter.unusedVariables false
namespace Go.Proofs.YtlhnjkekjbbhcaaGreatDoor
open Go.RowKit Go.Shelf
structure Bd (B : Nat) (w : World) (b o : Nat) (T : TypeId) (cs : List Value) (v : Value) (l : List UInt8) : Prop where
  blk : Blk w b T cs
  ad : cs[o]? = some (.pointer none) ∨ cs[o]? = some (.pointer (some ⟨b, o, none⟩))
  buf : cs[o + 1]? = some v
  own : Own byteC 1 B 5 w v l
  ne : v.ownBlock ≠ some b
def Lies (T : TypeId) (n o : Nat) : Prop := liesAt Tryz.prog Tryz.prog.depth T (n / Tryz.prog.cellsOf T) o 174 1 = true ∧ o + 1 < n
theorem lies_own : Lies 174 2 0 := ⟨by kernel_rfl, by omega⟩
theorem bld_info : ∃ j, Tryz.prog.info? 174 = some j ∧ j.size = 2 := by
  have : (Tryz.prog.info? 174).map (·.size) = some 2 := by kernel_rfl
  cases h : Tryz.prog.info? 174 with
  | none => rw [h] at this; cases this
  | some j => exact ⟨j, rfl, by rw [h] at this; simpa using this⟩
theorem u8_info : ∃ i, Tryz.prog.info? 5 = some i ∧ i.zero = some (.int .u8 0) ∧ i.size = 1 ∧ i.bytes = 1 := by
  have : (Tryz.prog.info? 5).map (fun i => (i.zero, i.size, i.bytes)) = some (some (.int .u8 0), 1, 1) := by kernel_rfl
  cases h : Tryz.prog.info? 5 with
  | none => rw [h] at this; cases this
  | some i => rw [h] at this; simp at this; exact ⟨i, rfl, this⟩
theorem rows_bytes (l : List UInt8) : rows byteC l = Lib.byteCells l := by
  induction l with
  | nil => rfl
  | cons c r ih => show byteC c ++ rows byteC r = _; rw [ih]; rfl
theorem append_string_at {P : Program} {w : World} (base : Nat) (t u ty e : TypeId) (i : TypeInfo) (ht : P.underlying t = some (.slice e)) (hu : P.underlying u = some .string) (hi : P.info? e = some i) (hz : i.zero = some (.int .u8 0))
    (hsize : i.size = 1) (hby : i.bytes = 1) (v : Value) (n : Nat) (xs : List Value) (hown : w.ownsRow base e 1 v n xs) (s : ByteArray)
    (h63 : n + s.size ≤ maxLen) (hbytes : n + s.size ≤ 140737488355328) (hbase : base ≤ w.heap.size) :
    ∃ v' w', (Builtin.append_ #[t, u] ty #[v, .string s]).run P w = .ok v' w' ∧ w'.ownsRow base e 1 v' (n + s.size) (xs ++ Lib.strCells s) ∧ w.grownBy w' v.ownBlock ∧
      (v'.ownBlock = v.ownBlock ∨ ∃ g, v'.ownBlock = some g ∧ w.heap.size ≤ g) := by
  obtain ⟨v', w', hr, h2, h3, _⟩ := Lib.run_append_own_string (P := P) w base t u ty e i ht hu hi hz hsize hby v n xs hown s h63 hbytes hbase; refine ⟨v', w', hr, h2, h3, ?_⟩; have hown0 := hown; rcases hown.2 with ⟨rfl, rfl⟩ | ⟨g, cap, cur, rfl, hbg, hg, hnc, hcm, hcs, htake⟩
  · obtain ⟨v2, w2, hr2, k2, _, _⟩ := Lib.run_append_own_string (P := P) w w.heap.size t u ty e i ht hu hi hz hsize hby (.slice none 0 0) 0 xs ⟨hown.1, .inl ⟨rfl, rfl⟩⟩ s h63 hbytes (Nat.le_refl _); rw [hr] at hr2; injection hr2 with e1 e2
    subst e1
    cases hb : v'.ownBlock with
    | none => exact .inl rfl
    | some g => exact .inr ⟨g, rfl, (World.ownsRow.lt k2 g hb).1⟩
  · by_cases hroom : n + s.size ≤ cap
    · have hr2 := Lib.run_append_room_string (P := P) w t u ty e i ht hu hi hsize g n cap cur hg s hroom (by have := hcs; simp at this; omega); rw [hr] at hr2; injection hr2 with e1 e2
      subst e1; exact .inl rfl
    · have hsmall : n + s.size ≤ 9223372036854775807 := h63; have hr2 := Lib.run_append_grow_string (P := P) w t u ty e i (.int .u8 0) ht hu hi hz ⟨g, 0, none⟩ n cap xs (by rw [hsize]; simpa using hown0.1) (World.ownsRow.cells hown0 (g := g) rfl) s (by omega) (by omega) (by rw [hby]; exact growslice_fits (by omega) (by omega)); rw [hr] at hr2; injection hr2 with e1 e2
      subst e1; exact .inr ⟨w.heap.size, rfl, Nat.le_refl _⟩
theorem wpList_append_string_at {P : Program} {ops : Array Oper} {rest : List Oper} {o : Oper} {a : Act} {w : World} {Q : Exit → Act → World → Prop} (hgd : o.guard = none) (sl x : Operand) (t u : TypeId)
    (ho : o.op = .call { callee := .builtin .append, args := #[sl, x], argTypes := #[t, u] })
    (base : Nat) (e : TypeId) (i : TypeInfo) (ht : P.underlying t = some (.slice e)) (hu : P.underlying u = some .string) (hi : P.info? e = some i) (hz : i.zero = some (.int .u8 0))
    (hsize : i.size = 1) (hby : i.bytes = 1)
    (v : Value) (n : Nat) (xs : List Value) (hs : a.eval sl = v) (hown : w.ownsRow base e 1 v n xs) (s : ByteArray) (hx : a.eval x = .string s)
    (h63 : n + s.size ≤ maxLen) (hbytes : n + s.size ≤ 140737488355328) (hbase : base ≤ w.heap.size)
    (h : ∀ v' w', w'.ownsRow base e 1 v' (n + s.size) (xs ++ Lib.strCells s) → w.grownBy w' v.ownBlock → (v'.ownBlock = v.ownBlock ∨ ∃ g, v'.ownBlock = some g ∧ w.heap.size ≤ g) → wpList P ops Q rest (a.put o.dst v') w') : wpList P ops Q (o :: rest) a w := by
  refine wpList_plain hgd fun K hK => ?_
  obtain ⟨v', w', hr, h2, h3, h4⟩ := append_string_at (P := P) (w := w) base t u o.type e i ht hu hi hz hsize hby v n xs hown s h63 hbytes hbase; unfold Oper.wp execOp; simp only [ho, resolve, invoke, builtin, Sem.run_bind, Sem.run_pure, Result.andThen_ok, List.map_toArray, List.map_cons, List.map_nil, hs, hx, hr]; exact hK _ _ (h v' w' h2 h3 h4)
set_option maxHeartbeats 1000000 in
set_option maxRecDepth 100000 in
theorem bld_copyCheck (b o : Nat) (T : TypeId) (cs : List Value) (w : World) (hb : Blk w b T cs) (hl : Lies T cs.length o) (had : cs[o]? = some (.pointer none) ∨ cs[o]? = some (.pointer (some ⟨b, o, none⟩))) :
    Calls Tryz.prog 176 #[.pointer (some ⟨b, o, none⟩)] w fun e w' => e = .returned (.tuple #[]) ∧ Blk w' b T (cs.set o (.pointer (some ⟨b, o, none⟩))) ∧ Keep [b] w w' := by
  obtain ⟨j, hj, hjs⟩ := bld_info; have hu82 := Tryz.underlying172; have hu112 := Tryz.underlying220; rcases had with h0 | h0
  · have c0 := hb.get h0; have f0 := hb.frozen o
    have hsh : w.shape? b = some (T, cs.length) := by
      have : w.heap[b]? = some (.cells cs.toArray T (0, 0)) := hb; simp [World.shape?, this]
    have hk : Keep [b] w (w.setCell ⟨b, o, none⟩ (.pointer (some ⟨b, o, none⟩))) := (Keep.refl _ _).setCell _ _ (by simp); have hb' := hb.set o (.pointer (some ⟨b, o, none⟩)); have HP := Lib.hid (And.intro hb' hk); have HB := Lib.hid hb; clear hb' hk hb; go_enter Tryz.func176, Tryz.ntmps176; go_wp2_with fail; rw [Lib.run_to_unsafe w ⟨b, o, none⟩ hu82 hu112 hj (by rw [hjs]; decide) hsh (by have := hl.2; show o < _; omega)]; simp only [Result.andThen]; rw [Oper.upon_value]; go_wp2_with fail; rw [run_callFunc_extern Tryz.func210 (by kernel_rfl) (by kernel_rfl) (by kernel_rfl) (e := Extern.AbiNoEscape.same) (by kernel_rfl)]; rw [Lib.run_noEscape]; simp only [Result.andThen]; rw [Oper.upon_value]; go_wp2_with fail; rw [Lib.run_from_unsafe w ⟨b, o, none⟩ hu112 hu82 hj hsh hl.1]; simp only [Result.andThen]; rw [Oper.upon_value]; have g0 := HP.out.1.get (k := o) (v := .pointer (some ⟨b, o, none⟩)) (by rw [List.getElem?_set_self (by have := hl.2; omega)]); go_wp2_with fail; go_end0; exact ⟨rfl, HP.out.1, HP.out.2⟩
  · have c0 := hb.get h0; have hcs : cs.set o (.pointer (some ⟨b, o, none⟩)) = cs := list_set_self _ _ _ h0; rw [hcs]; have HB := Lib.hid hb; clear hb hcs h0; go_enter Tryz.func176, Tryz.ntmps176; go_wp2_with fail; rw [Lib.run_neq_ptr_same w _ hu82 hj]; go_wp2_with fail; go_end0; exact ⟨rfl, HB.out, Keep.refl _ _⟩
set_option maxHeartbeats 1000000 in
set_option maxRecDepth 100000 in
theorem bld_Write {B b o : Nat} {T : TypeId} {cs : List Value} {v : Value} {l : List UInt8} {w : World} (s : List UInt8) (h : Bd B w b o T cs v l) (hl : Lies T cs.length o) (hB : B ≤ w.heap.size) (hlen : l.length + s.length ≤ 140737488355328) :
    Calls Tryz.prog 134 #[.pointer (some ⟨b, o, none⟩), .string (S s)] w fun e w' => e = .returned (.tuple #[.int .i64 (s.length : Nat), .nilIface]) ∧
      ∃ v', Bd B w' b o T ((cs.set o (.pointer (some ⟨b, o, none⟩))).set (o + 1) v') v' (l ++ s) ∧ Keep (b :: v.ownBlock.toList) w w' ∧ (v'.ownBlock = v.ownBlock ∨ ∃ g, v'.ownBlock = some g ∧ w.heap.size ≤ g) := by
  obtain ⟨i, hi, hz, h1, h2⟩ := u8_info; have hC := Lib.hid (bld_copyCheck b o T cs w h.blk hl h.ad); have hsz := S_size s; have H := Lib.hid h; clear h; go_enter Tryz.func134, Tryz.ntmps134; go_wp2_with fail; refine hC.out.mono ?_; rintro e w1 ⟨rfl, hb1, hk1⟩
  have hown1 : Own byteC 1 B 5 w1 v l := H.out.own.keep hk1 (fun g hg => by
    simp only [List.mem_singleton]; rintro rfl; exact H.out.ne hg)
  have c1 := hb1.get (k := o + 1) (v := v) (by rw [List.getElem?_set_ne (by omega)]; exact H.out.buf); have hor := hown1; unfold Own at hor; rw [rows_bytes] at hor; have HO := Lib.hid hor; have HB1 := Lib.hid hb1; have HK1 := Lib.hid hk1; clear hor hown1 hb1 hk1; go_wp2_with (at_builtin; go_must (refine wpList_append_string_at rfl _ _ 143 9 rfl B 5 i Tryz.underlying143 Tryz.underlying9 hi hz h1 h2 v l.length (Lib.byteCells l) rfl HO.out (S s) rfl (by rw [hsz]; unfold maxLen; omega) (by rw [hsz]; exact hlen) (by have := HK1.out.size; omega) ?_)); intro v' w2 hown' hgrow hat; have hbl := HB1.out.lt
  have hb2 : Blk w2 b T (cs.set o (.pointer (some ⟨b, o, none⟩))) := by
    unfold Blk; rw [hgrow.block b hbl (fun e => H.out.ne e.symm)]; exact HB1.out
  have d1 := hb2.get (k := o + 1) (v := v) (by rw [List.getElem?_set_ne (by omega)]; exact H.out.buf); have f1 := hb2.frozen (o + 1); have hb3 := hb2.set (o + 1) v'
  have hne' : v'.ownBlock ≠ some b := by
    rcases hat with e | ⟨g, e, hg⟩
    · rw [e]; exact H.out.ne
    · rw [e]; intro e'; injection e' with e'; omega
  have hown2 : Own byteC 1 B 5 w2 v' (l ++ s) := by
    unfold Own; rw [rows_bytes, List.length_append]; (try rw [hsz] at hown'); have e : Lib.byteCells (l ++ s) = Lib.byteCells l ++ Lib.strCells (S s) := by unfold Lib.byteCells; rw [List.map_append]; rfl
    rw [e]; exact hown'
  have hown3 : Own byteC 1 B 5 (w2.setCell ⟨b, o + 1, none⟩ v') v' (l ++ s) := hown2.keep (S := [b]) ((Keep.refl _ _).setCell _ _ (by simp)) (fun g hg => by
    simp only [List.mem_singleton]; rintro rfl; exact hne' hg)
  have hkk : Keep (b :: v.ownBlock.toList) w (w2.setCell ⟨b, o + 1, none⟩ v') := ((HK1.out.mono (by simp)).grown hgrow (fun k hk _ => by simp [hk])).setCell _ _ (by simp)
  have hat' : v'.ownBlock = v.ownBlock ∨ ∃ g, v'.ownBlock = some g ∧ w.heap.size ≤ g := by
    rcases hat with e | ⟨g, e, hg⟩
    · exact .inl e
    · exact .inr ⟨g, e, Nat.le_trans HK1.out.size hg⟩
  have HF := Lib.hid (And.intro hb3 (And.intro hne' (And.intro hown3 (And.intro hkk hat'))))
  obtain ⟨ao, n', cap, rfl⟩ : ∃ ao n' cap, v' = .slice ao n' cap := by
    rcases hown'.2 with ⟨hv, _⟩ | ⟨g, cap, cur, hv, _⟩
    · exact ⟨_, _, _, hv⟩
    · exact ⟨_, _, _, hv⟩
  clear hb3 hne' hown3 hown2 hkk hat hat' hgrow hown' hb2; have h20 : (cs.set o (.pointer (some ⟨b, o, none⟩)))[o]? = some (.pointer (some ⟨b, o, none⟩)) := by rw [List.getElem?_set_self (by have := hl.2; omega)]
  go_wp2_with fail; go_ret2; refine ⟨by rw [← hsz]; rfl, _, ⟨HF.out.1, .inr ?_, ?_, HF.out.2.2.1, HF.out.2.1⟩, HF.out.2.2.2.1, HF.out.2.2.2.2⟩
  · rw [List.getElem?_set_ne (by omega)]; exact h20
  · rw [List.getElem?_set_self (by simpa using hl.2)]
theorem Bd.lib {B b : Nat} {cs : List Value} {v : Value} {l : List UInt8} {w : World} (h : Bd B w b 0 174 cs v l) (hc : cs.length = 2) (hb : B ≤ b) : Lib.IsBuilder 174 5 B b (Lib.byteCells l) w := by
  obtain ⟨p, q, rfl⟩ : ∃ p q, cs = [p, q] := by
    match cs, hc with
    | [p, q], _ => exact ⟨p, q, rfl⟩
  have hq : q = v := by have := h.buf; simpa using this
  subst hq; have hown := h.own; unfold Own at hown; rw [rows_bytes, ← Lib.byteCells_length l] at hown; rcases h.ad with e | e
  · simp at e; subst e; exact .inl ⟨hb, q, h.blk, hown, h.ne⟩
  · simp at e; subst e; exact .inr ⟨hb, q, h.blk, hown, h.ne⟩
def Bld (w0 w : World) (b : Nat) (l : List UInt8) : Prop := ∃ cs v, Bd w0.heap.size w b 0 174 cs v l ∧ cs.length = 2 ∧ w0.heap.size ≤ b ∧ Keep [] w0 w
theorem Bd.keep {B b o : Nat} {T : TypeId} {cs : List Value} {v : Value} {l : List UInt8} {w w' : World} {S : List Nat} (h : Bd B w b o T cs v l) (k : Keep S w w') (hb : b ∉ S) (hv : ∀ g, v.ownBlock = some g → g ∉ S) : Bd B w' b o T cs v l :=
  ⟨k.blk h.blk hb, h.ad, h.buf, h.own.keep k hv, h.ne⟩
theorem Bld.keep0 {w0 w w' : World} {b : Nat} {l : List UInt8} (h : Bld w0 w b l) (k : Keep [] w w') : Bld w0 w' b l := by
  obtain ⟨cs, v, h1, h2, h3, h4⟩ := h; exact ⟨cs, v, h1.keep k (by simp) (by simp), h2, h3, h4.trans k⟩
theorem Bld.kept {w0 w : World} {b : Nat} {l : List UInt8} (h : Bld w0 w b l) : Keep [] w0 w := let ⟨_, _, _, _, _, h4⟩ := h; h4
theorem bld_new {w0 w : World} (k : Keep [] w0 w) : Bld w0 (w.alloc (.cells #[.pointer none, .slice none 0 0] 174)) w.heap.size [] :=
  ⟨[.pointer none, .slice none 0 0], .slice none 0 0, ⟨Blk.newA w _ _, .inl rfl, rfl, Own.nil _ _ _ _ _, by simp [Value.ownBlock]⟩, rfl, k.size, k.alloc _⟩
theorem bld_write {w0 w : World} {b : Nat} {l : List UInt8} (h : Bld w0 w b l) (s : List UInt8) (hlen : l.length + s.length ≤ 140737488355328) :
    Calls Tryz.prog 134 #[.pointer (some ⟨b, 0, none⟩), .string (S s)] w fun e w' => e = .returned (.tuple #[.int .i64 (s.length : Nat), .nilIface]) ∧ Bld w0 w' b (l ++ s) := by
  obtain ⟨cs, v, h1, h2, h3, h4⟩ := h; refine (bld_Write s h1 (by rw [h2]; exact lies_own) h4.size hlen).mono ?_; rintro e w' ⟨rfl, v', k1, k2, _⟩
  exact ⟨rfl, _, v', k1, by simpa using h2, h3, h4.trans' k2 (fun x hx hl => by
    rcases List.mem_cons.1 hx with rfl | hx
    · omega
    · have := (h1.own.lt x (by simpa using hx)).1; omega)⟩
theorem bld_len {w0 w : World} {b : Nat} {l : List UInt8} (h : Bld w0 w b l) :
    Calls Tryz.prog 137 #[.pointer (some ⟨b, 0, none⟩)] w fun e w' => e = .returned (.int .i64 (l.length : Nat)) ∧ w' = w := by
  obtain ⟨cs, v, h1, h2, h3, h4⟩ := h; have := Tryz.Builder_Len w0.heap.size b _ w (h1.lib h2 h3); rw [Lib.byteCells_length] at this; exact this
theorem bld_string {w0 w : World} {b : Nat} {l : List UInt8} (h : Bld w0 w b l) :
    Calls Tryz.prog 138 #[.pointer (some ⟨b, 0, none⟩)] w fun e w' => e = .returned (.string (S l)) ∧ Keep [] w0 w' := by
  obtain ⟨cs, v, h1, h2, h3, h4⟩ := h; refine (Tryz.Builder_String_any w0.heap.size b l w (h1.lib h2 h3) h4.size).mono ?_; rintro e w' ⟨rfl, hb⟩; exact ⟨rfl, hb.os.trans h4.os, hb.tape.trans h4.tape, hb.output.trans h4.output, Nat.le_trans h4.size hb.size, fun k hk hn => (hb.block k hk).trans (h4.block k hk hn)⟩
def ckC (c : Ck) (ad v : Value) : List Value := [.int .i64 (c.st : Nat), .int .i64 (c.left : Nat), .int .i64 (c.most : Nat), .int .i64 (c.flds : Nat), .string (S c.inp), ad, v, .int .i64 (c.dat.length : Nat), .int .i64 c.err]
theorem ck_lies : Lies 200 9 5 := ⟨by kernel_rfl, by omega⟩
def Ct (B : Nat) (w : World) (b : Nat) (p : List UInt8) (c : Ck) (v : Value) : Prop := ∃ ad o, Bd B w b 5 200 (ckC c ad v) v o ∧ c.dat = p ++ o
theorem Ct.keep {B b : Nat} {w w' : World} {p : List UInt8} {c : Ck} {v : Value} {S : List Nat} (h : Ct B w b p c v) (k : Keep S w w') (hb : b ∉ S) (hv : ∀ g, v.ownBlock = some g → g ∉ S) : Ct B w' b p c v := by
  obtain ⟨ad, o, h1, h2⟩ := h; exact ⟨ad, o, h1.keep k hb hv, h2⟩
theorem Ct.keep0 {B b : Nat} {w w' : World} {p : List UInt8} {c : Ck} {v : Value} (h : Ct B w b p c v) (k : Keep [] w w') : Ct B w' b p c v := h.keep k (by simp) (by simp)
theorem Ct.cells {B b : Nat} {w : World} {p : List UInt8} {c : Ck} {v : Value} (h : Ct B w b p c v) : ∃ ad, Blk w b 200 (ckC c ad v) := let ⟨ad, _, h1, _⟩ := h; ⟨ad, h1.blk⟩
theorem Ct.set {B b : Nat} {w : World} {p : List UInt8} {c c' : Ck} {v : Value} (h : Ct B w b p c v) (k : Nat) (x : Value) (hc : ∀ ad, (ckC c ad v).set k x = ckC c' ad v) (hd : c'.dat = c.dat) : Ct B (w.setCell ⟨b, k, none⟩ x) b p c' v := by
  obtain ⟨ad, o, h1, h2⟩ := h; refine ⟨ad, o, ⟨?_, ?_, rfl, ?_, h1.ne⟩, hd.trans h2⟩
  · rw [← hc ad]; exact h1.blk.set k x
  · have := h1.ad; simpa [ckC] using this
  · exact h1.own.keep (S := [b]) ((Keep.refl _ _).setCell _ _ (by simp)) (fun g hg => by
      simp only [List.mem_singleton]; rintro rfl; exact h1.ne hg)
theorem Ct.at {B b : Nat} {w : World} {p : List UInt8} {c : Ck} {v : Value} (h : Ct B w b p c v) : w.cell? ⟨b, 0, none⟩ = some (.int .i64 (c.st : Nat)) ∧ w.cell? ⟨b, 1, none⟩ = some (.int .i64 (c.left : Nat)) ∧ w.cell? ⟨b, 2, none⟩ = some (.int .i64 (c.most : Nat)) ∧ w.cell? ⟨b, 3, none⟩ = some (.int .i64 (c.flds : Nat)) ∧
    w.cell? ⟨b, 4, none⟩ = some (.string (S c.inp)) ∧ w.cell? ⟨b, 7, none⟩ = some (.int .i64 (c.dat.length : Nat)) ∧ w.cell? ⟨b, 8, none⟩ = some (.int .i64 c.err) := by
  obtain ⟨ad, h1⟩ := h.cells; exact ⟨h1.get rfl, h1.get rfl, h1.get rfl, h1.get rfl, h1.get rfl, h1.get rfl, h1.get rfl⟩
theorem Ct.free {B b : Nat} {w : World} {p : List UInt8} {c : Ck} {v : Value} (h : Ct B w b p c v) (k : Nat) : w.frozen? ⟨b, k, none⟩ = false := let ⟨_, h1⟩ := h.cells; h1.frozen k
theorem idx_n {l : List UInt8} {m : Nat} {w : World} (_hm : m ≤ l.length) : Calls Tryz.prog 97 #[.string ((S l).extract 0 m), .int .u8 10] w fun e w' => e = .returned (.int .i64 (Lib.indexByte (l.take m) 10)) ∧ w' = w := by
  have h := Tryz.strings_IndexByte ((S l).extract 0 m) 10 w; rw [S_extract, List.drop_zero] at h ⊢; exact h
set_option maxRecDepth 100000 in
set_option maxHeartbeats 1000000 in
theorem chunk_line (B b : Nat) (p : List UInt8) (c : Ck) (v : Value) (w : World) (h : Ct B w b p c v) (hl : c.inp.length ≤ 1048576) :
    Calls Tryz.prog 225 #[.pointer (some ⟨b, 0, none⟩)] w fun e w' => e = .returned (.tuple #[.string (S (lnC c.inp).t), .int .i64 (lnC c.inp).e]) ∧ Ct B w' b p { c with inp := (lnC c.inp).r } v ∧ Keep [b] w w' := by
  have sz := S_size c.inp; obtain ⟨_, _, _, _, c4, _, _⟩ := h.at; have H := Lib.hid h; have hI := fun w1 => idx_n (l := c.inp) (m := min c.inp.length 256) (w := w1) (Nat.min_le_left _ _)
  have e256 : c.inp.take (min c.inp.length 256) = c.inp.take 256 := by
    rcases Nat.le_total c.inp.length 256 with hh | hh
    · rw [Nat.min_eq_left hh, List.take_length, List.take_of_length_le hh]
    · rw [Nat.min_eq_right hh]
  rw [e256] at hI; have hmin : min ((c.inp.length : Nat) : Int) 256 = ((min c.inp.length 256 : Nat) : Int) := by omega
  generalize hmm : min c.inp.length 256 = m at *; have m1 : (m : Int) ≤ (c.inp.length : Int) := by omega
  have m0 : (0 : Int) ≤ (m : Int) := by omega
  have HI := Lib.hid hI; have hcases := line_cases c.inp; have hshort := line_short (l := c.inp); have hat := fun k => line_at (l := c.inp) (k := k)
  clear h e256 hmm hI; generalize Lib.indexByte (c.inp.take 256) 10 = ix at *; go_enter Tryz.func225, Tryz.ntmps225
  go_upto_region 1 with fail
  go_cut [4] (fun y wx => y = .int .i64 ix ∧ Hid (Keep [] w wx))
  case first =>
    clear hcases hshort hat; go_region_with (first | (go_at_call 97; refine (HI.out _).mono ?_; rintro e w1 ⟨rfl, rfl⟩) | fail)
    all_goals
      go_wp2_with fail; go_meet; exact ⟨rfl, Lib.hid (by repeat (first | exact Keep.refl _ _ | apply Keep.drew))⟩
  case rest =>
  obtain ⟨rfl, KX⟩ := hcut; have H1 := Lib.hid (H.out.keep0 KX.out); clear c4 HI hmin m1 m0; obtain ⟨_, _, _, _, c4, _, _⟩ := H1.out.at; have f4 := H1.out.free 4; have K1 := Lib.hid (KX.out.mono (S' := [b]) (by simp)); rcases hcases with hn | ⟨k, hk, hkl, h256⟩
  · have hL := hshort hn; by_cases h2 : 256 ≤ c.inp.length
    · rw [if_pos h2] at hL; have HL := Lib.hid hL; have h2' : decide (((c.inp.length : Nat) : Int) ≥ 256) = true := by simp; omega
      clear hL hshort hat; go_wp2_with fail; go_ret2; rw [HL.out]; exact ⟨rfl, H1.out, K1.out⟩
    · rw [if_neg h2] at hL; have HL := Lib.hid hL; have h2' : decide (((c.inp.length : Nat) : Int) ≥ 256) = false := by simp; omega
      clear hL hshort hat; go_wp2_with fail; go_ret2; rw [HL.out]; exact ⟨rfl, H1.out, K1.out⟩
  · have hL := hat k hk; subst hk; have hx1 : (S c.inp).extract 0 (k + 1) = S (c.inp.take (k + 1)) := by rw [S_extract, List.drop_zero]
    have hx2 : (S c.inp).extract (k + 1) c.inp.length = S (c.inp.drop (k + 1)) := by rw [S_extract, List.take_length]
    have hCS : ∀ w1, Calls Tryz.prog 222 #[.string (S (c.inp.take (k + 1))), .string ⟨#[13, 10]⟩] w1 fun e w' => e = .returned (.tuple #[.string (S (Lib.trimSuffix (c.inp.take (k + 1)) crlfC)), .bool (Lib.hasSuffix (c.inp.take (k + 1)) crlfC)]) ∧ w' = w1 := fun w1 =>
      Tryz.strings_CutSuffix (S (c.inp.take (k + 1))) ⟨#[13, 10]⟩ w1 (by rw [S_size, List.length_take]; omega)
    generalize Lib.trimSuffix (c.inp.take (k + 1)) crlfC = t at *; generalize hsx : Lib.hasSuffix (c.inp.take (k + 1)) crlfC = sx at *; have hkw := IntWalk.i64_in ((k : Int) + 1) (by omega); have hk1 : (k : Int) + 1 ≤ (c.inp.length : Int) := by omega
    have hk0 : (0 : Int) ≤ (k : Int) + 1 := by omega
    have hkn : ((k : Int) + 1).toNat = k + 1 := by omega
    have hkl0 : decide ((k : Int) < 0) = false := by simp
    clear hshort hat hsx
    cases sx with
    | false =>
      have HL := Lib.hid (show lnC c.inp = ⟨[], 3, c.inp⟩ from hL); have HCS := Lib.hid hCS; clear hL hCS; go_wp2_with fail; refine (HCS.out _).mono ?_; rintro e w1 ⟨rfl, rfl⟩; go_wp2_with fail; go_ret2; rw [HL.out]; exact ⟨rfl, H1.out, K1.out⟩
    | true =>
      have HL := Lib.hid (show lnC c.inp = ⟨t, 0, c.inp.drop (k + 1)⟩ from hL); have HCS := Lib.hid hCS; clear hL hCS; go_wp2_with fail; refine (HCS.out _).mono ?_; rintro e w1 ⟨rfl, rfl⟩; go_wp2_with fail; go_ret2; rw [HL.out]; exact ⟨rfl, H1.out.set 4 _ (fun _ => rfl) rfl, K1.out.setCell _ _ (by simp)⟩
def xColon : List UInt8 := [120, 58]
theorem isRest_parse (r : List UInt8) : parseE (xColon ++ r) = if isTxt r then 0 else 3 := by
  have hi : Lib.indexByte (xColon ++ r) 58 = ((1 : Nat) : Int) := indexByte_at rfl (fun j hj => by
    have : j = 0 := by omega
    subst this; show (some (120 : UInt8)) ≠ some 58; decide)
  unfold parseE; rw [parseF_eq, hi]; have h1 : (xColon ++ r).take ((1 : Nat) : Int).toNat = [120] := rfl; have h2 : (xColon ++ r).drop (((1 : Nat) : Int).toNat + 1) = r := rfl; rw [h1, h2]; have h3 : isTok [120] = true := by decide +kernel
  cases isTxt r <;> simp [h3]
theorem parse_two (l : List UInt8) (w : World) (hm : ML w) (hl : l.length < 4294967281) : Calls Tryz.prog 223 #[.string (S l)] w fun e w' => e = .returned (.tuple #[.agg #[.string (S (parseV l).name), .string (S (parseV l).value)], .int .i64 (parseE l)]) ∧ Keep [] w w' := field_Parse l w hm hl
set_option maxRecDepth 100000 in
set_option maxHeartbeats 1000000 in
theorem chunk_isRest (r : List UInt8) (w : World) (hm : ML w) (hl : r.length ≤ 1048576) :
    Calls Tryz.prog 226 #[.string (S r)] w fun e w' => e = .returned (.bool (restOk r)) ∧ Keep [] w w' := by
  have hsz := S_size r; have hte := S_toList r
  cases r with
  | nil =>
    go_enter Tryz.func226, Tryz.ntmps226; go_wp2_with fail; go_ret; exact ⟨rfl, Keep.refl _ _⟩
  | cons c r =>
    have hO : restOk (c :: r) = (isTxt (c :: r) && decide (0 ≤ Lib.indexByte [32, 9, 59] c)) := rfl; have hg := fun hk => S_get (l := c :: r) (k := 0) (c := c) rfl hk
    have hP := parse_two (xColon ++ (c :: r)) w hm (by simp [xColon] at hl ⊢; omega); rw [isRest_parse] at hP; have hcat : (⟨#[120, 58]⟩ : ByteArray) ++ S (c :: r) = S (xColon ++ (c :: r)) := S_append xColon _; have hix := Tryz.strings_IndexByte ⟨#[32, 9, 59]⟩ c.toNat; have ec : ((c.toNat : Int)).toNat.toUInt8 = c := by simp
    rw [ec] at hix; change ∀ w1, Calls Tryz.prog 97 #[.string ⟨#[32, 9, 59]⟩, .int .u8 c.toNat] w1 fun e w' => e = .returned (.int .i64 (Lib.indexByte [32, 9, 59] c)) ∧ w' = w1 at hix
    generalize restOk (c :: r) = ro at *; generalize hl0 : c :: r = l at *; have hemp : l.isEmpty = false := by rw [← hl0]; rfl
    have hlen : 0 < l.length := by rw [← hl0]; simp
    generalize (parseV (xColon ++ l)).name = pn at *; generalize (parseV (xColon ++ l)).value = pw at *; generalize xColon ++ l = xl at *; generalize Lib.indexByte [32, 9, 59] c = ix at *; have hcc := u8_nat c; clear hl0 ec; have HIX := Lib.hid hix
    cases htx : isTxt l with
    | false =>
      rw [htx] at hP hO; have HP := Lib.hid hP; have HO := Lib.hid hO; clear hP hO htx hix hg; go_enter Tryz.func226, Tryz.ntmps226; go_wp2_with fail; refine HP.out.mono ?_; rintro e w1 ⟨rfl, k1⟩; go_wp2_with fail; go_ret; refine ⟨ret_bool (by rw [HO.out]; rfl), ?_⟩
      repeat (first | exact k1 | exact Keep.alloc k1 _ | (refine Keep.setCell ?_ _ _ (by first | omega | (intro hh; exact absurd hh (by have := k1.size; simp; omega)))))
    | true =>
      rw [htx] at hP hO; have HP := Lib.hid hP; have HO := Lib.hid hO; clear hP hO htx hix; by_cases h0 : 0 ≤ ix
      · have h0' : decide (ix ≥ 0) = true := by simp; omega
        go_enter Tryz.func226, Tryz.ntmps226; go_wp2_with fail; refine HP.out.mono ?_; rintro e w1 ⟨rfl, k1⟩; go_wp2_with fail; refine (HIX.out _).mono ?_; rintro e w2 ⟨rfl, rfl⟩; go_wp2_with fail; go_ret; refine ⟨ret_bool (by rw [HO.out]; simp [h0]), ?_⟩
        repeat (first | exact k1 | exact Keep.alloc k1 _ | (refine Keep.setCell ?_ _ _ (by first | omega | (intro hh; exact absurd hh (by have := k1.size; simp; omega)))))
      · have h0' : decide (ix ≥ 0) = false := by simp; omega
        go_enter Tryz.func226, Tryz.ntmps226; go_wp2_with fail; refine HP.out.mono ?_; rintro e w1 ⟨rfl, k1⟩; go_wp2_with fail; refine (HIX.out _).mono ?_; rintro e w2 ⟨rfl, rfl⟩; go_wp2_with fail; go_ret; refine ⟨ret_bool (by rw [HO.out]; simp [h0]), ?_⟩
        repeat (first | exact k1 | exact Keep.alloc k1 _ | (refine Keep.setCell ?_ _ _ (by first | omega | (intro hh; exact absurd hh (by have := k1.size; simp; omega)))))
end Go.Proofs.YtlhnjkekjbbhcaaGreatDoor
