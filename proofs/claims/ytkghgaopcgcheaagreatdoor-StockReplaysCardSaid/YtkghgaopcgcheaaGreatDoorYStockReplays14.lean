/- Parts of the proof of StockReplays, in order. No conditions but those that each theorem states. -/
import Derived.Test.YtkghgaopcgcheaaGreatDoorYStockReplays0
import Derived.Lib.Builder
import Derived.Lib.AppendStr
import Derived.Maps.AppendAt
import Derived.Lib.AppendZerosOnto
import Derived.Lib.AppendZeros
import Derived.Lib.Overlaps
import Derived.Test.YtkghgaopcgcheaaGreatDoorYStockReplays13
set_option maxRecDepth 100000
set_option maxHeartbeats 16000000
set_option linter.unusedSimpArgs false
set_option linter.unusedVariables false
namespace Go.Proofs.YtkghgaopcgcheaaGreatDoor
open Go.RowKit Go.Shelf
structure Bd (B : Nat) (w : World) (b o : Nat) (T : TypeId) (cs : List Value) (v : Value) (l : List UInt8) : Prop where
  blk : Blk w b T cs
  ad : cs[o]? = some (.pointer none) ∨ cs[o]? = some (.pointer (some ⟨b, o, none⟩))
  buf : cs[o + 1]? = some v
  own : Own byteC 1 B 5 w v l
  ne : v.ownBlock ≠ some b
def Lies (T : TypeId) (n o : Nat) : Prop := liesAt Tryz.prog Tryz.prog.depth T (n / Tryz.prog.cellsOf T) o 211 1 = true ∧ o + 1 < n
theorem lies_own : Lies 211 2 0 := ⟨by kernel_rfl, by omega⟩
theorem bld_info : ∃ j, Tryz.prog.info? 211 = some j ∧ j.size = 2 := by
  have : (Tryz.prog.info? 211).map (·.size) = some 2 := by kernel_rfl
  cases h : Tryz.prog.info? 211 with
  | none => rw [h] at this; cases this
  | some j => exact ⟨j, rfl, by rw [h] at this; simpa using this⟩
theorem u8_info : ∃ i, Tryz.prog.info? 5 = some i ∧ i.zero = some (.int .u8 0) ∧ i.size = 1 ∧ i.bytes = 1 := by
  have : (Tryz.prog.info? 5).map (fun i => (i.zero, i.size, i.bytes)) = some (some (.int .u8 0), 1, 1) := by kernel_rfl
  cases h : Tryz.prog.info? 5 with
  | none => rw [h] at this; cases this
  | some i => rw [h] at this; simp at this; exact ⟨i, rfl, this⟩
theorem rows_bytes (l : List UInt8) : rows byteC l = Lib.byteCells l := by
  induction l with
  | nil => rfl
  | cons c r ih => show byteC c ++ rows byteC r = _; rw [ih]; rfl
theorem append_string_at {P : Program} {w : World} (base : Nat) (t u ty e : TypeId) (i : TypeInfo) (ht : P.underlying t = some (.slice e)) (hu : P.underlying u = some .string) (hi : P.info? e = some i) (hz : i.zero = some (.int .u8 0))
    (hsize : i.size = 1) (hby : i.bytes = 1) (v : Value) (n : Nat) (xs : List Value) (hown : w.ownsRow base e 1 v n xs) (s : ByteArray)
    (h63 : n + s.size ≤ maxLen) (hbytes : n + s.size ≤ 140737488355328) (hbase : base ≤ w.heap.size) :
    ∃ v' w', (Builtin.append_ #[t, u] ty #[v, .string s]).run P w = .ok v' w' ∧ w'.ownsRow base e 1 v' (n + s.size) (xs ++ Lib.strCells s) ∧ w.grownBy w' v.ownBlock ∧
      (v'.ownBlock = v.ownBlock ∨ ∃ g, v'.ownBlock = some g ∧ w.heap.size ≤ g) := by
  obtain ⟨v', w', hr, h2, h3, _⟩ := Lib.run_append_own_string (P := P) w base t u ty e i ht hu hi hz hsize hby v n xs hown s h63 hbytes hbase; refine ⟨v', w', hr, h2, h3, ?_⟩; have hown0 := hown; rcases hown.2 with ⟨rfl, rfl⟩ | ⟨g, cap, cur, rfl, hbg, hg, hnc, hcm, hcs, htake⟩
  · obtain ⟨v2, w2, hr2, k2, _, _⟩ := Lib.run_append_own_string (P := P) w w.heap.size t u ty e i ht hu hi hz hsize hby (.slice none 0 0) 0 xs ⟨hown.1, .inl ⟨rfl, rfl⟩⟩ s h63 hbytes (Nat.le_refl _); rw [hr] at hr2; injection hr2 with e1 e2
    subst e1
    cases hb : v'.ownBlock with
    | none => exact .inl rfl
    | some g => exact .inr ⟨g, rfl, (World.ownsRow.lt k2 g hb).1⟩
  · by_cases hroom : n + s.size ≤ cap
    · have hr2 := Lib.run_append_room_string (P := P) w t u ty e i ht hu hi hsize g n cap cur hg s hroom (by have := hcs; simp at this; omega); rw [hr] at hr2; injection hr2 with e1 e2
      subst e1; exact .inl rfl
    · have hsmall : n + s.size ≤ 9223372036854775807 := h63; have hr2 := Lib.run_append_grow_string (P := P) w t u ty e i (.int .u8 0) ht hu hi hz ⟨g, 0, none⟩ n cap xs (by rw [hsize]; simpa using hown0.1) (World.ownsRow.cells hown0 (g := g) rfl) s (by omega) (by omega) (by rw [hby]; exact growslice_fits (by omega) (by omega)); rw [hr] at hr2; injection hr2 with e1 e2
      subst e1; exact .inr ⟨w.heap.size, rfl, Nat.le_refl _⟩
theorem wpList_append_string_at {P : Program} {ops : Array Oper} {rest : List Oper} {o : Oper} {a : Act} {w : World} {Q : Exit → Act → World → Prop} (hgd : o.guard = none) (sl x : Operand) (t u : TypeId)
    (ho : o.op = .call { callee := .builtin .append, args := #[sl, x], argTypes := #[t, u] })
    (base : Nat) (e : TypeId) (i : TypeInfo) (ht : P.underlying t = some (.slice e)) (hu : P.underlying u = some .string) (hi : P.info? e = some i) (hz : i.zero = some (.int .u8 0))
    (hsize : i.size = 1) (hby : i.bytes = 1)
    (v : Value) (n : Nat) (xs : List Value) (hs : a.eval sl = v) (hown : w.ownsRow base e 1 v n xs) (s : ByteArray) (hx : a.eval x = .string s)
    (h63 : n + s.size ≤ maxLen) (hbytes : n + s.size ≤ 140737488355328) (hbase : base ≤ w.heap.size)
    (h : ∀ v' w', w'.ownsRow base e 1 v' (n + s.size) (xs ++ Lib.strCells s) → w.grownBy w' v.ownBlock → (v'.ownBlock = v.ownBlock ∨ ∃ g, v'.ownBlock = some g ∧ w.heap.size ≤ g) → wpList P ops Q rest (a.put o.dst v') w') : wpList P ops Q (o :: rest) a w := by
  refine wpList_plain hgd fun K hK => ?_
  obtain ⟨v', w', hr, h2, h3, h4⟩ := append_string_at (P := P) (w := w) base t u o.type e i ht hu hi hz hsize hby v n xs hown s h63 hbytes hbase; unfold Oper.wp execOp; simp only [ho, resolve, invoke, builtin, Sem.run_bind, Sem.run_pure, Result.andThen_ok, List.map_toArray, List.map_cons, List.map_nil, hs, hx, hr]; exact hK _ _ (h v' w' h2 h3 h4)
theorem bld_copyCheck (b o : Nat) (T : TypeId) (cs : List Value) (w : World) (hb : Blk w b T cs) (hl : Lies T cs.length o) (had : cs[o]? = some (.pointer none) ∨ cs[o]? = some (.pointer (some ⟨b, o, none⟩))) :
    Calls Tryz.prog 184 #[.pointer (some ⟨b, o, none⟩)] w fun e w' => e = .returned (.tuple #[]) ∧ Blk w' b T (cs.set o (.pointer (some ⟨b, o, none⟩))) ∧ Keep [b] w w' := by
  obtain ⟨j, hj, hjs⟩ := bld_info; have hu82 := Tryz.underlying209; have hu112 := Tryz.underlying264; rcases had with h0 | h0
  · have c0 := hb.get h0; have f0 := hb.frozen o
    have hsh : w.shape? b = some (T, cs.length) := by
      have : w.heap[b]? = some (.cells cs.toArray T (0, 0)) := hb; simp [World.shape?, this]
    have hk : Keep [b] w (w.setCell ⟨b, o, none⟩ (.pointer (some ⟨b, o, none⟩))) := (Keep.refl _ _).setCell _ _ (by simp); have hb' := hb.set o (.pointer (some ⟨b, o, none⟩)); have HP := Lib.hid (And.intro hb' hk); have HB := Lib.hid hb; clear hb' hk hb; go_enter Tryz.func184, Tryz.ntmps184; go_wp2_with fail; rw [Lib.run_to_unsafe w ⟨b, o, none⟩ hu82 hu112 hj (by rw [hjs]; decide) hsh (by have := hl.2; show o < _; omega)]; simp only [Result.andThen]; rw [Oper.upon_value]; go_wp2_with fail; rw [run_callFunc_extern Tryz.func212 (by kernel_rfl) (by kernel_rfl) (by kernel_rfl) (e := Extern.AbiNoEscape.same) (by kernel_rfl)]; rw [Lib.run_noEscape]; simp only [Result.andThen]; rw [Oper.upon_value]; go_wp2_with fail; rw [Lib.run_from_unsafe w ⟨b, o, none⟩ hu112 hu82 hj hsh hl.1]; simp only [Result.andThen]; rw [Oper.upon_value]; have g0 := HP.out.1.get (k := o) (v := .pointer (some ⟨b, o, none⟩)) (by rw [List.getElem?_set_self (by have := hl.2; omega)]); go_wp2_with fail; go_end0; exact ⟨rfl, HP.out.1, HP.out.2⟩
  · have c0 := hb.get h0; have hcs : cs.set o (.pointer (some ⟨b, o, none⟩)) = cs := list_set_self _ _ _ h0; rw [hcs]; have HB := Lib.hid hb; clear hb hcs h0; go_enter Tryz.func184, Tryz.ntmps184; go_wp2_with fail; rw [Lib.run_neq_ptr_same w _ hu82 hj]; go_wp2_with fail; go_end0; exact ⟨rfl, HB.out, Keep.refl _ _⟩
theorem bld_Write {B b o : Nat} {T : TypeId} {cs : List Value} {v : Value} {l : List UInt8} {w : World} (s : List UInt8) (h : Bd B w b o T cs v l) (hl : Lies T cs.length o) (hB : B ≤ w.heap.size) (hlen : l.length + s.length ≤ 140737488355328) :
    Calls Tryz.prog 146 #[.pointer (some ⟨b, o, none⟩), .string (S s)] w fun e w' => e = .returned (.tuple #[.int .i64 (s.length : Nat), .nilIface]) ∧
      ∃ v', Bd B w' b o T ((cs.set o (.pointer (some ⟨b, o, none⟩))).set (o + 1) v') v' (l ++ s) ∧ Keep (b :: v.ownBlock.toList) w w' ∧ (v'.ownBlock = v.ownBlock ∨ ∃ g, v'.ownBlock = some g ∧ w.heap.size ≤ g) := by
  obtain ⟨i, hi, hz, h1, h2⟩ := u8_info; have hC := Lib.hid (bld_copyCheck b o T cs w h.blk hl h.ad); have hsz := S_size s; have H := Lib.hid h; clear h; go_enter Tryz.func146, Tryz.ntmps146; go_wp2_with fail; refine hC.out.mono ?_; rintro e w1 ⟨rfl, hb1, hk1⟩
  have hown1 : Own byteC 1 B 5 w1 v l := H.out.own.keep hk1 (fun g hg => by
    simp only [List.mem_singleton]; rintro rfl; exact H.out.ne hg)
  have c1 := hb1.get (k := o + 1) (v := v) (by rw [List.getElem?_set_ne (by omega)]; exact H.out.buf); have hor := hown1; unfold Own at hor; rw [rows_bytes] at hor; have HO := Lib.hid hor; have HB1 := Lib.hid hb1; have HK1 := Lib.hid hk1; clear hor hown1 hb1 hk1; go_wp2_with (at_builtin; go_must (refine wpList_append_string_at rfl _ _ 126 9 rfl B 5 i Tryz.underlying126 Tryz.underlying9 hi hz h1 h2 v l.length (Lib.byteCells l) rfl HO.out (S s) rfl (by rw [hsz]; unfold maxLen; omega) (by rw [hsz]; exact hlen) (by have := HK1.out.size; omega) ?_)); intro v' w2 hown' hgrow hat; have hbl := HB1.out.lt
  have hb2 : Blk w2 b T (cs.set o (.pointer (some ⟨b, o, none⟩))) := by
    unfold Blk; rw [hgrow.block b hbl (fun e => H.out.ne e.symm)]; exact HB1.out
  have d1 := hb2.get (k := o + 1) (v := v) (by rw [List.getElem?_set_ne (by omega)]; exact H.out.buf); have f1 := hb2.frozen (o + 1); have hb3 := hb2.set (o + 1) v'
  have hne' : v'.ownBlock ≠ some b := by
    rcases hat with e | ⟨g, e, hg⟩
    · rw [e]; exact H.out.ne
    · rw [e]; intro e'; injection e' with e'; omega
  have hown2 : Own byteC 1 B 5 w2 v' (l ++ s) := by
    unfold Own; rw [rows_bytes, List.length_append]; (try rw [hsz] at hown'); have e : Lib.byteCells (l ++ s) = Lib.byteCells l ++ Lib.strCells (S s) := by unfold Lib.byteCells; rw [List.map_append]; rfl
    rw [e]; exact hown'
  have hown3 : Own byteC 1 B 5 (w2.setCell ⟨b, o + 1, none⟩ v') v' (l ++ s) := hown2.keep (S := [b]) ((Keep.refl _ _).setCell _ _ (by simp)) (fun g hg => by
    simp only [List.mem_singleton]; rintro rfl; exact hne' hg)
  have hkk : Keep (b :: v.ownBlock.toList) w (w2.setCell ⟨b, o + 1, none⟩ v') := ((HK1.out.mono (by simp)).grown hgrow (fun k hk _ => by simp [hk])).setCell _ _ (by simp)
  have hat' : v'.ownBlock = v.ownBlock ∨ ∃ g, v'.ownBlock = some g ∧ w.heap.size ≤ g := by
    rcases hat with e | ⟨g, e, hg⟩
    · exact .inl e
    · exact .inr ⟨g, e, Nat.le_trans HK1.out.size hg⟩
  have HF := Lib.hid (And.intro hb3 (And.intro hne' (And.intro hown3 (And.intro hkk hat'))))
  obtain ⟨ao, n', cap, rfl⟩ : ∃ ao n' cap, v' = .slice ao n' cap := by
    rcases hown'.2 with ⟨hv, _⟩ | ⟨g, cap, cur, hv, _⟩
    · exact ⟨_, _, _, hv⟩
    · exact ⟨_, _, _, hv⟩
  clear hb3 hne' hown3 hown2 hkk hat hat' hgrow hown' hb2; have h20 : (cs.set o (.pointer (some ⟨b, o, none⟩)))[o]? = some (.pointer (some ⟨b, o, none⟩)) := by rw [List.getElem?_set_self (by have := hl.2; omega)]
  go_wp2_with fail; go_ret2; refine ⟨by rw [← hsz]; rfl, _, ⟨HF.out.1, .inr ?_, ?_, HF.out.2.2.1, HF.out.2.1⟩, HF.out.2.2.2.1, HF.out.2.2.2.2⟩
  · rw [List.getElem?_set_ne (by omega)]; exact h20
  · rw [List.getElem?_set_self (by simpa using hl.2)]
theorem Bd.lib {B b : Nat} {cs : List Value} {v : Value} {l : List UInt8} {w : World} (h : Bd B w b 0 211 cs v l) (hc : cs.length = 2) (hb : B ≤ b) : Lib.IsBuilder 211 5 B b (Lib.byteCells l) w := by
  obtain ⟨p, q, rfl⟩ : ∃ p q, cs = [p, q] := by
    match cs, hc with
    | [p, q], _ => exact ⟨p, q, rfl⟩
  have hq : q = v := by have := h.buf; simpa using this
  subst hq; have hown := h.own; unfold Own at hown; rw [rows_bytes, ← Lib.byteCells_length l] at hown; rcases h.ad with e | e
  · simp at e; subst e; exact .inl ⟨hb, q, h.blk, hown, h.ne⟩
  · simp at e; subst e; exact .inr ⟨hb, q, h.blk, hown, h.ne⟩
def Bld (w0 w : World) (b : Nat) (l : List UInt8) : Prop := ∃ cs v, Bd w0.heap.size w b 0 211 cs v l ∧ cs.length = 2 ∧ w0.heap.size ≤ b ∧ Keep [] w0 w
theorem Bd.keep {B b o : Nat} {T : TypeId} {cs : List Value} {v : Value} {l : List UInt8} {w w' : World} {S : List Nat} (h : Bd B w b o T cs v l) (k : Keep S w w') (hb : b ∉ S) (hv : ∀ g, v.ownBlock = some g → g ∉ S) : Bd B w' b o T cs v l :=
  ⟨k.blk h.blk hb, h.ad, h.buf, h.own.keep k hv, h.ne⟩
theorem Bld.keep0 {w0 w w' : World} {b : Nat} {l : List UInt8} (h : Bld w0 w b l) (k : Keep [] w w') : Bld w0 w' b l := by
  obtain ⟨cs, v, h1, h2, h3, h4⟩ := h; exact ⟨cs, v, h1.keep k (by simp) (by simp), h2, h3, h4.trans k⟩
theorem Bld.kept {w0 w : World} {b : Nat} {l : List UInt8} (h : Bld w0 w b l) : Keep [] w0 w := let ⟨_, _, _, _, _, h4⟩ := h; h4
theorem bld_new {w0 w : World} (k : Keep [] w0 w) : Bld w0 (w.alloc (.cells #[.pointer none, .slice none 0 0] 211)) w.heap.size [] :=
  ⟨[.pointer none, .slice none 0 0], .slice none 0 0, ⟨Blk.newA w _ _, .inl rfl, rfl, Own.nil _ _ _ _ _, by simp [Value.ownBlock]⟩, rfl, k.size, k.alloc _⟩
theorem bld_write {w0 w : World} {b : Nat} {l : List UInt8} (h : Bld w0 w b l) (s : List UInt8) (hlen : l.length + s.length ≤ 140737488355328) :
    Calls Tryz.prog 146 #[.pointer (some ⟨b, 0, none⟩), .string (S s)] w fun e w' => e = .returned (.tuple #[.int .i64 (s.length : Nat), .nilIface]) ∧ Bld w0 w' b (l ++ s) := by
  obtain ⟨cs, v, h1, h2, h3, h4⟩ := h; refine (bld_Write s h1 (by rw [h2]; exact lies_own) h4.size hlen).mono ?_; rintro e w' ⟨rfl, v', k1, k2, _⟩
  exact ⟨rfl, _, v', k1, by simpa using h2, h3, h4.trans' k2 (fun x hx hl => by
    rcases List.mem_cons.1 hx with rfl | hx
    · omega
    · have := (h1.own.lt x (by simpa using hx)).1; omega)⟩
theorem bld_string {w0 w : World} {b : Nat} {l : List UInt8} (h : Bld w0 w b l) :
    Calls Tryz.prog 147 #[.pointer (some ⟨b, 0, none⟩)] w fun e w' => e = .returned (.string (S l)) ∧ Keep [] w0 w' := by
  obtain ⟨cs, v, h1, h2, h3, h4⟩ := h; refine (Tryz.Builder_String_any w0.heap.size b l w (h1.lib h2 h3) h4.size).mono ?_; rintro e w' ⟨rfl, hb⟩; exact ⟨rfl, hb.os.trans h4.os, hb.tape.trans h4.tape, hb.output.trans h4.output, Nat.le_trans h4.size hb.size, fun k hk hn => (hb.block k hk).trans (h4.block k hk hn)⟩
end Go.Proofs.YtkghgaopcgcheaaGreatDoor
namespace Go.Proofs.YtkghgaopcgcheaaGreatDoor
open Go.RowKit Go.Maps
theorem mem_footE {d bm : Nat} {E : List Ent} {e : Ent} (he : e ∈ E) : ∀ t ∈ e.foot, t ∈ footD d bm E := fun t ht => mem_footD.2 (.inr (.inr ⟨e, he, ht⟩))
theorem grown_keep {w w' : World} {v : Value} (h : w.grownBy w' v.ownBlock) : Keep v.ownBlock.toList w w' := (Keep.refl _ w).grown h (fun k hk _ => by simp [hk])
theorem okN_of {s : List UInt8} {K : Dsk} (h : okN s K) : K.off = false ∧ 1 ≤ s.length ∧ s.length ≤ 80 := h
theorem plank_Sync {S0 : List Nat} (d : Nat) (K K' : Dsk) (s : List UInt8) (w : World) (h : Pk S0 w d K) (hc : syncD s K = some K') :
    Calls Tryz.prog 136 #[.pointer (some ⟨d, 0, none⟩), .string (S s)] w fun e w' => e = .returned (.int .i64 0) ∧ ∃ S', Pk S' w' d K' ∧ Grow S0 w S' w' := by
  obtain ⟨bm, E, ops, h1, h2, h3, h4, h5⟩ := h; unfold syncD at hc
  split at hc
  · cases hc
  rename_i b n hat
  split at hc
  case isFalse => cases hc
  case isTrue hok =>
  obtain ⟨hoff, hn1, hn2⟩ := okN_of hok; injection hc with hc
  subst hc; rw [h2] at hat; obtain ⟨x, hx, hxb, hxs, hxE, hxn⟩ := atD_some hat; have hxb : x.bytes = b := hxb; subst hxb; rw [hoff] at h1; have HF := Lib.hid (plank_find h1 s x hx ⟨hn1, hn2⟩)
  have HA := Lib.hid (show ∀ w1 o, PkW w1 d bm E K.room (usedF K.files : Nat) o false → Keep [d] w w1 → (∃ a c, x.val = .slice a x.bytes.length c ∧ w1.cell? ⟨x.blk, 0, none⟩ = some (.slice a x.bytes.length c)) ∧ w1.frozen? ⟨x.blk, 1, none⟩ = false ∧ (w1.cell? ⟨x.blk, 1, none⟩ = some (.int .i64 (x.safe : Nat))) ∧
      ∃ S', Pk S' (w1.setCell ⟨x.blk, 1, none⟩ (.int .i64 (x.bytes.length : Nat))) d { K with files := setD s (x.bytes, x.bytes.length) K.files } ∧ Grow S0 w S' (w1.setCell ⟨x.blk, 1, none⟩ (.int .i64 (x.bytes.length : Nat))) from fun w1 o p1 k1 => by
    have hf := p1.fil x hxE; obtain ⟨a, c, hv, _⟩ := hf.own.shape; refine ⟨⟨a, c, hv, by rw [← hv]; exact hf.blk.get rfl⟩, hf.blk.frozen 1, hf.blk.get rfl, ?_⟩; have k2 : Keep [x.blk] w1 (w1.setCell ⟨x.blk, 1, none⟩ (.int .i64 (x.bytes.length : Nat))) := (Keep.refl _ _).setCell _ _ (by simp)
    let y : Ent := { x with safe := x.bytes.length }
    have hy : FilW (w1.setCell ⟨x.blk, 1, none⟩ (.int .i64 (x.bytes.length : Nat))) y := ⟨hf.blk.set 1 _, hf.own.keep k2 (fun g hg => by simpa using hf.ne g hg), hf.ne, hf.name, hf.len, Nat.le_refl _⟩
    have p3 := p1.setFile (x := y) hxE rfl rfl hy k2 (fun t ht => by simp at ht; subst ht; exact List.mem_cons_self) (fun t ht => .inl ht); have e1 : setD s (x.bytes, x.bytes.length) K.files = (setE y E).map Ent.fil := by rw [h2, setE_fil, ← hxn]
    have e2 := used_set p1.apt (x := y) hxE rfl; have e3 : usedF ((setE y E).map Ent.fil) = usedF K.files := by rw [h2]; have : y.bytes.length = x.bytes.length := rfl; omega
    refine Pk.after (E := E) (E' := setE y E) (ops := o) (T := [d, x.blk]) h3 ?_ e1 ((k1.mono (by simp)).trans (k2.mono (by simp))) ?_ (fun t ht => (setE_foot (w := w1) (x := y) hxE (fun t ht => .inl ht) t ht).imp id (fun h => Nat.le_trans k1.size h)) ?_
    · rw [e1, e3]; show PkW _ d bm _ K.room (usedF K.files : Nat) o K.off; rw [hoff]; exact p3
    · intro t ht; simp at ht; rcases ht with rfl | rfl
      · exact mem_footD.2 (.inl rfl)
      · exact mem_footE hxE _ List.mem_cons_self
    · rw [e1, e3]; exact ⟨h4, h5⟩)
  clear h1 h2 h3 h4 h5 hat hx hoff; go_enter Tryz.func136, Tryz.ntmps136; go_wp2_with fail; refine HF.out.mono ?_; rintro e w1 ⟨rfl, ⟨o, p1⟩, k1⟩; obtain ⟨⟨a, c, hv, c0⟩, f1, c1, hr⟩ := HA.out w1 o p1 k1; have HR := Lib.hid hr; clear p1 k1 hr HA HF hv; go_wp2_with fail; go_ret; exact ⟨rfl, HR.out⟩
theorem plank_Read {S0 : List Nat} (d : Nat) (K : Dsk) (s l : List UInt8) (w : World) (h : Pk S0 w d K) (hc : readD s K = some l) :
    Calls Tryz.prog 135 #[.pointer (some ⟨d, 0, none⟩), .string (S s), .int .i64 0, .int .i64 (l.length : Nat)] w fun e w' => e = .returned (.tuple #[.string (S l), .int .i64 0]) ∧ ∃ S', Pk S' w' d K ∧ Grow S0 w S' w' := by
  obtain ⟨bm, E, ops, h1, h2, h3, h4, h5⟩ := h; unfold readD at hc
  split at hc
  · cases hc
  rename_i b n hat
  split at hc
  case isFalse => cases hc
  case isTrue hok =>
  obtain ⟨hoff, hn1, hn2⟩ := okN_of hok; injection hc with hc
  subst hc; rw [h2] at hat; obtain ⟨x, hx, hxb, hxs, hxE, hxn⟩ := atD_some hat; have hxb : x.bytes = b := hxb; subst hxb; rw [hoff] at h1; have hlen : x.bytes.length ≤ 4194304 := (h1.fil x hxE).len; have HF := Lib.hid (plank_find h1 s x hx ⟨hn1, hn2⟩)
  have HA := Lib.hid (show ∀ w1 o, PkW w1 d bm E K.room (usedF K.files : Nat) o false → Keep [d] w w1 → (w1.cell? ⟨x.blk, 0, none⟩ = some x.val ∧ (convert 126 9 x.val).run Tryz.prog w1 = .ok (.string (S x.bytes)) w1 ∧
      ((x.val = .slice none 0 0 ∧ x.bytes.length = 0) ∨ ∃ g c, x.val = .slice (some ⟨g, 0, none⟩) x.bytes.length c ∧ x.bytes.length ≤ c ∧ c ≤ 9223372036854775807)) ∧
      ∃ S', Pk S' w1 d K ∧ Grow S0 w S' w1 from fun w1 o p1 k1 => by
    have hf := p1.fil x hxE; refine ⟨⟨hf.blk.get rfl, own_back hf.own _ _ Tryz.underlying126 Tryz.underlying5 Tryz.underlying9, ?_⟩, ?_⟩
    · rcases hf.own.2 with ⟨h, h0⟩ | ⟨g, cap, cur, h, hbg, hg, hnc, hcm, _⟩
      · exact .inl ⟨h, h0⟩
      · exact .inr ⟨g, cap, h, hnc, hcm⟩
    · refine Pk.after (E := E) (E' := E) (ops := o) (T := [d]) h3 ?_ h2 k1 ?_ (fun t ht => .inl ht) ⟨h4, h5⟩
      · rw [hoff]; exact p1
      · intro t ht; simp at ht; subst ht; exact mem_footD.2 (.inl rfl))
  clear h1 h2 h3 h4 h5 hat hx hoff; have f0 : decide ((x.bytes.length : Int) < 0) = false := decide_eq_false (by omega); have f2 : decide (0 > (x.bytes.length : Int)) = false := decide_eq_false (by omega); obtain ⟨n, hn⟩ : ∃ n, x.bytes.length = n := ⟨_, rfl⟩
  rw [hn] at HA hlen f0 f2 ⊢; clear hn; go_enter Tryz.func135, Tryz.ntmps135; go_wp2_with fail; refine HF.out.mono ?_; rintro e w1 ⟨rfl, ⟨o, p1⟩, k1⟩; obtain ⟨⟨c0, hcv, hsh⟩, hr⟩ := HA.out w1 o p1 k1; have HR := Lib.hid hr; clear p1 k1 hr HA HF; rcases hsh with ⟨hv, rfl⟩ | ⟨g, c, hv, hc1, hc2⟩
  · rw [hv] at c0 hcv; clear hv; go_wp2_with fail; go_ret2; exact ⟨rfl, HR.out⟩
  · rw [hv] at c0 hcv; clear hv; go_wp2_with fail; go_ret2; exact ⟨rfl, HR.out⟩
end Go.Proofs.YtkghgaopcgcheaaGreatDoor
namespace Go.Proofs.YtkghgaopcgcheaaGreatDoor
open Go.RowKit
theorem tikinfo : (Tryz.prog.info? 51).map (fun i => (i.zero, i.size, i.bytes)) = some (some (.agg Tik.zero.cells.toArray), 38, 104) := by kernel_rfl
theorem tikinfo' : ∃ i0, Hid (Tryz.prog.info? 51 = some i0 ∧ i0.zero = some (.agg Tik.zero.cells.toArray) ∧ i0.size = 38 ∧ i0.bytes = 104) := by
  obtain ⟨i0, hi, hz0, hz1, hz2⟩ := info_parts tikinfo; exact ⟨i0, hi, hz0, hz1, hz2⟩
def OwnTo (w w' : World) (v v' : Value) : Prop := Keep v.ownBlock.toList w w' ∧ (v'.ownBlock = v.ownBlock ∨ ∃ g, v'.ownBlock = some g ∧ w.heap.size ≤ g)
theorem at_news {w : World} {nb : Nat} {T : TypeId} {cs : List Value} (hb : Blk w nb T cs) : ∀ j u, cs[j]? = some u → w.cell? ((⟨nb, 0, none⟩ : Addr).add j) = some u := fun j u hj => by
  rw [Addr.add_lit, Nat.zero_add]; exact hb.get hj
theorem tik_Insert_end (w : World) (v : Value) (L : List Tik) (x : Tik) (nb : Nat) (hb : Blk w nb 51 x.cells) (h : Own Tik.cells 38 0 51 w v L) (hl : L.length ≤ 1000) :
    Calls Tryz.prog 172 #[v, .int .i64 (L.length : Nat), .slice (some ⟨nb, 0, none⟩) 1 1] w fun e w' =>
      ∃ v', e = .returned v' ∧ Own Tik.cells 38 0 51 w' v' (L ++ [x]) ∧ OwnTo w w' v v' := by
  obtain ⟨is, Hs⟩ := tikinfo'; have e1 : rows Tik.cells [x] = x.cells := by simp [rows]
  rcases own_rows Tik.cells_length h with ⟨rfl, rfl⟩ | ⟨g, cap, R, rfl, _, _, hlc, hmc, _⟩
  · have h : Own Tik.cells 38 0 51 w (.slice none ([] : List Tik).length 0) [] := h; clear hl; show Calls _ _ #[.slice none 0 0, .int .i64 0, _] _ _; have HO := Lib.hid h; have HB := Lib.hid hb; clear h hb; go_enter Tryz.func172, Tryz.ntmps172
    go_wp2_with (first
      | (at_builtin; go_must (refine wpList_append_own_at _ rfl _ _ 28 rfl 0 51 is _ 38 104 Tryz.underlying28 Hs.out.1 Hs.out.2.1 Hs.out.2.2.1 Hs.out.2.2.2 (by rfl) (by decide) _ _ _ rfl HO.out ⟨nb, 0, none⟩ 1 1 x.cells rfl (by rw [Tik.cells_length]) (at_news HB.out) x.one (by first | (unfold maxLen; simp; done) | (unfold maxLen; omega)) (by first | (simp; done) | omega) (Nat.zero_le _) ?_)
         intro v' w' hown hg hnil hat)
      | fail)
    go_ret; refine ⟨v', rfl, ?_, grown_keep hg, ?_⟩
    · unfold Own; rw [e1]; exact hown
    · rcases hat with h | h
      · exact .inl h
      · exact .inr ⟨_, h, Nat.le_refl _⟩
  · have hmc' : cap ≤ 9223372036854775807 := hmc; obtain ⟨n, hn⟩ : ∃ n, L.length = n := ⟨_, rfl⟩
    have hO : w.ownsRow 0 51 38 (.slice (some ⟨g, 0, none⟩) n cap) n (rows Tik.cells L) := by rw [← hn]; exact h
    rw [hn] at hl hlc ⊢; clear h; have h := hO; by_cases hcn : cap = n
    · subst hcn; have HO := Lib.hid h; have HB := Lib.hid hb; clear h hb; go_enter Tryz.func172, Tryz.ntmps172
      go_wp2_with (first
        | (at_builtin; go_must (refine wpList_append_own_at _ rfl _ _ 28 rfl 0 51 is _ 38 104 Tryz.underlying28 Hs.out.1 Hs.out.2.1 Hs.out.2.2.1 Hs.out.2.2.2 (by rfl) (by decide) _ _ _ rfl HO.out ⟨nb, 0, none⟩ 1 1 x.cells rfl (by rw [Tik.cells_length]) (at_news HB.out) x.one (by first | (unfold maxLen; simp; done) | (unfold maxLen; omega)) (by first | (simp; done) | omega) (Nat.zero_le _) ?_)
           intro v' w' hown hg hnil hat)
        | fail)
      go_ret; refine ⟨v', rfl, ?_, grown_keep hg, ?_⟩
      · unfold Own; rw [rows_app', List.length_append, e1, hn]; exact hown
      · rcases hat with h | h
        · exact .inl h
        · exact .inr ⟨_, h, Nat.le_refl _⟩
    · have hcn2 : ¬ (n = cap) := fun h => hcn h.symm
      have HO := Lib.hid h; have HB := Lib.hid hb; clear h hb; go_enter Tryz.func172, Tryz.ntmps172
      go_wp2_with (first
        | (at_builtin; go_must (refine wpList_append_own_at _ rfl _ _ 28 rfl 0 51 is _ 38 104 Tryz.underlying28 Hs.out.1 Hs.out.2.1 Hs.out.2.2.1 Hs.out.2.2.2 (by rfl) (by decide) _ _ _ rfl HO.out ⟨nb, 0, none⟩ 1 1 x.cells rfl (by rw [Tik.cells_length]) (at_news HB.out) x.one (by first | (unfold maxLen; simp; done) | (unfold maxLen; omega)) (by first | (simp; done) | omega) (Nat.zero_le _) ?_)
           intro v' w' hown hg hnil hat)
        | fail)
      go_ret; refine ⟨v', rfl, ?_, grown_keep hg, ?_⟩
      · unfold Own; rw [rows_app', List.length_append, e1, hn]; exact hown
      · rcases hat with h | h
        · exact .inl h
        · exact .inr ⟨_, h, Nat.le_refl _⟩
theorem over_apart (w : World) (nb g : Nat) (cs ds : List Value) (hb : Blk w nb 51 cs) (hg : Blk w g 51 ds) (hne : nb ≠ g) (hd : ds.length ≠ 0) (la ca lb cb o : Nat) :
    (callFunc 202 #[.slice (some ⟨nb, 0, none⟩) la ca, .slice (some ⟨g, o, none⟩) lb cb]).run Tryz.prog w = .ok (.value (.bool false)) w := by
  rw [run_callFunc_extern Tryz.func202 (by kernel_rfl) (by kernel_rfl) (by kernel_rfl) (e := Extern.SlicesOverlaps.overlaps #[28, 28] #[4]) (by kernel_rfl)]; have hsz : ∀ w, (Go.sizeOf 51).run Tryz.prog w = .ok 38 w := fun w => by kernel_rfl
  have hb' : w.heap[nb]? = some (.cells cs.toArray 51 (0, 0)) := hb; have hg' : w.heap[g]? = some (.cells ds.toArray 51 (0, 0)) := hg; rw [Lib.run_overlaps_apart w 28 4 51 Tryz.underlying28 38 hsz ⟨nb, 0, none⟩ ⟨g, o, none⟩ la ca lb cb hne 51 51 cs.length ds.length (by simp [World.shape?, hb']) (by simp [World.shape?, hg']) hd (hb.frozen 0) (hb.frozen _)]; rfl
theorem tik_Insert_room (w : World) (g cap : Nat) (A B : List Tik) (R : List Value) (x : Tik) (nb : Nat) (hb : Blk w nb 51 x.cells) (hg : Blk w g 51 (rows Tik.cells (A ++ B) ++ R)) (hne : nb ≠ g) (hB : 0 < B.length) (hl : A.length + B.length + 1 ≤ cap) (hm : cap ≤ maxLen) (hR : R.length = (cap - (A.length + B.length)) * 38) :
    Calls Tryz.prog 172 #[.slice (some ⟨g, 0, none⟩) (A.length + B.length) cap, .int .i64 (A.length : Nat), .slice (some ⟨nb, 0, none⟩) 1 1] w fun e w' =>
      e = .returned (.slice (some ⟨g, 0, none⟩) (A.length + B.length + 1) cap) ∧ Own Tik.cells 38 0 51 w' (.slice (some ⟨g, 0, none⟩) (A.length + B.length + 1) cap) (A ++ x :: B) ∧ Keep [g] w w' := by
  have hm' : cap ≤ 9223372036854775807 := hm; obtain ⟨i, hi⟩ : ∃ i, A.length = i := ⟨_, rfl⟩
  obtain ⟨k, hk⟩ : ∃ k, B.length = k := ⟨_, rfl⟩
  obtain ⟨n, hn⟩ : ∃ n, i + k = n := ⟨_, rfl⟩
  rw [hi, hk] at hl hR ⊢; rw [hk] at hB; rw [hn] at hl hR ⊢; have f1 : decide ((i : Int) = (n : Int)) = false := decide_eq_false (by omega); have f1n : (i == n) = false := by simp; omega
  have f1d : decide (i = n) = false := decide_eq_false (by omega); have f2 : decide ((n : Int) + 1 > (cap : Int)) = false := decide_eq_false (by omega); have wk := IntWalk.i64_in ((n : Int) + 1) (by omega); have wk2 := IntWalk.i64_in ((i : Int) + 1) (by omega); have hov := fun la ca lb cb o => over_apart w nb g _ _ hb hg hne (by rw [List.length_append, rows_length Tik.cells_length, List.length_append, hi, hk]; omega) la ca lb cb o
  go_enter Tryz.func172, Tryz.ntmps172; go_wp2_with fail; have hA : (rows Tik.cells A).length = i * 38 := by rw [rows_length Tik.cells_length, hi, Nat.mul_comm]
  have hBl : (rows Tik.cells B).length = k * 38 := by rw [rows_length Tik.cells_length, hk, Nat.mul_comm]
  obtain ⟨C, hC⟩ : ∃ C, rows Tik.cells (A ++ B) ++ R = C := ⟨_, rfl⟩
  have hCe : C = rows Tik.cells A ++ (rows Tik.cells B ++ R) := by rw [← hC, rows_app', List.append_assoc]
  rw [hC] at hg
  have hCl : (n + 1) * 38 ≤ C.length := by
    rw [hCe, List.length_append, List.length_append, hA, hBl, hR]; have : 38 ≤ (cap - n) * 38 := Nat.le_mul_of_pos_left _ (by omega); omega
  have hsz : (Tryz.prog.info? 51).map (·.size) = some 38 := by kernel_rfl
  have g1 : Blk w.drew g 51 C := hg
  have hcp1 : ∀ ty dc sc, (Builtin.copy_ #[28, 28] ty #[.slice (some ⟨g, (i + 1) * 38, none⟩) (n - i) dc, .slice (some ⟨g, i * 38, none⟩) (n + 1 - i) sc]).run Tryz.prog w.drew = .ok (goInt k) (w.drew.setCells g ((i + 1) * 38) (rows Tik.cells B)) := fun ty dc sc =>
    run_copy_rows w.drew _ _ ty 51 38 g ((i + 1) * 38) _ dc ⟨g, i * 38, none⟩ _ sc k (rows Tik.cells B) Tryz.underlying28 hsz (by simp only [Nat.min_def]; split <;> omega) hBl
      (fun j u hj => by
        rw [Addr.add_lit, g1.cell, hCe, List.getElem?_append_right (by omega), hA, Nat.add_sub_cancel_left]; rw [List.getElem?_append_left (List.getElem?_eq_some_iff.1 hj).1]; exact hj)
      (fun j hj => by rw [g1.cell, List.getElem?_eq_getElem (by omega)]; rfl) (fun j _ => g1.frozen _) (rows_one Tik.one B)
  have g2 := Blk.overC (rows Tik.cells B) C ((i + 1) * 38) w.drew g1; rw [putAt_eq C _ _ (by omega)] at g2; have v3 : ((i : Int) + 1).toNat = i + 1 := by omega
  have v4 : (0 : Int) ≤ (i : Int) + 1 := by omega
  have v5 : (i : Int) + 1 ≤ (n : Int) + 1 := by omega
  have v6 : ¬ (cap = i + 1) := by omega
  have v7 : ¬ (cap = i) := by omega
  have v8 : i + 1 ≤ n + 1 := by omega
  have v9 : (i : Int) ≤ (n : Int) + 1 := by omega
  have v10 : i ≤ n + 1 := by omega
  clear hov; have G2 := Lib.hid g2; clear g1 g2; have K2 : Keep [g] w (w.drew.setCells g ((i + 1) * 38) (rows Tik.cells B)) := Keep.cellsTo (S := [g]) g (fun _ => by simp) _ _ _ ((Keep.refl _ _).drew); have hb2 := K2.blk hb (by simpa using hne)
  have hcp2 : ∀ ty dc, (Builtin.copy_ #[28, 28] ty #[.slice (some ⟨g, i * 38, none⟩) (n + 1 - i) dc, .slice (some ⟨nb, 0, none⟩) 1 1]).run Tryz.prog (w.drew.setCells g ((i + 1) * 38) (rows Tik.cells B)) =
      .ok (goInt 1) ((w.drew.setCells g ((i + 1) * 38) (rows Tik.cells B)).setCells g (i * 38) x.cells) := fun ty dc =>
    run_copy_rows _ _ _ ty 51 38 g (i * 38) _ dc ⟨nb, 0, none⟩ 1 1 1 x.cells Tryz.underlying28 hsz (by simp only [Nat.min_def]; split <;> omega) (by rw [Tik.cells_length])
      (at_news hb2)
      (fun j hj => by
        rw [G2.out.cell, List.getElem?_append_left (by rw [List.length_take]; rw [Tik.cells_length] at hj; omega), List.getElem?_eq_getElem (by rw [List.length_take]; rw [Tik.cells_length] at hj; omega)]
        rfl) (fun j _ => G2.out.frozen _) x.one
  have HF := Lib.hid (show Own Tik.cells 38 0 51 ((w.drew.setCells g ((i + 1) * 38) (rows Tik.cells B)).setCells g (i * 38) x.cells) (.slice (some ⟨g, 0, none⟩) (n + 1) cap) (A ++ x :: B) ∧ Keep [g] w ((w.drew.setCells g ((i + 1) * 38) (rows Tik.cells B)).setCells g (i * 38) x.cells) from by
    refine ⟨?_, Keep.cellsTo (S := [g]) g (fun _ => by simp) _ _ _ K2⟩; have g3 := Blk.overC x.cells _ (i * 38) _ G2.out; have ht : (C.take ((i + 1) * 38)).length = (i + 1) * 38 := by rw [List.length_take]; omega
    rw [putAt_eq _ _ _ (by rw [Tik.cells_length, List.length_append, ht]; omega), Tik.cells_length, List.take_append_of_le_length (by omega), List.take_take, Nat.min_eq_left (by omega),
      List.drop_append_of_le_length (by omega), List.drop_eq_nil_of_le (by omega), List.nil_append] at g3
    have hta : C.take (i * 38) = rows Tik.cells A := by rw [hCe, List.take_left' hA]
    rw [hta] at g3; have hln : (A ++ x :: B).length = n + 1 := by rw [List.length_append, List.length_cons, hi, hk]; omega
    have hrw : rows Tik.cells A ++ (x.cells ++ (rows Tik.cells B ++ C.drop ((i + 1) * 38 + (rows Tik.cells B).length))) = rows Tik.cells (A ++ x :: B) ++ C.drop ((i + 1) * 38 + (rows Tik.cells B).length) := by
      have : rows Tik.cells (x :: B) = x.cells ++ rows Tik.cells B := by simp [rows]
      rw [rows_app', this, List.append_assoc, List.append_assoc]
    rw [hrw] at g3
    have := own_of_rows (base := 0) (cap := cap) Tik.cells_length (Nat.zero_le g) g3 (by rw [hln]; omega) hm (by
      rw [List.length_drop, hln, hBl, hCe, List.length_append, List.length_append, hA, hBl, hR]
      have e1 : (cap - n) * 38 = (cap - (n + 1)) * 38 + 38 := by
        have : cap - n = (cap - (n + 1)) + 1 := by omega
        rw [this, Nat.add_mul]
      omega)
    rw [hln] at this; exact this)
  clear G2 K2 hb2
  go_region
  go_wp2_with fail; go_ret; exact ⟨rfl, HF.out⟩
theorem tikinfoz : ∃ i0 z, Hid (Tryz.prog.info? 51 = some i0 ∧ i0.zero = some z ∧ i0.size = 38 ∧ i0.bytes = 104) ∧ z.cells.size = 38 ∧ ∀ v ∈ z.cells.toList, v.oneCell' = true := by
  obtain ⟨i0, H⟩ := tikinfo'; exact ⟨i0, _, H, by show Tik.zero.cells.toArray.size = 38; rw [List.size_toArray, Tik.cells_length], fun v hv => Tik.one Tik.zero v (by simpa [Value.cells] using hv)⟩
theorem tik_Insert_grow (w : World) (g cap : Nat) (A B : List Tik) (R : List Value) (x : Tik) (nb : Nat) (hb : Blk w nb 51 x.cells) (hg : Blk w g 51 (rows Tik.cells (A ++ B) ++ R)) (hB : 0 < B.length) (hlc : A.length + B.length ≤ cap) (hl : cap < A.length + B.length + 1) (hm : A.length + B.length ≤ 1000) :
    Calls Tryz.prog 172 #[.slice (some ⟨g, 0, none⟩) (A.length + B.length) cap, .int .i64 (A.length : Nat), .slice (some ⟨nb, 0, none⟩) 1 1] w fun e w' =>
      ∃ v', e = .returned v' ∧ Own Tik.cells 38 0 51 w' v' (A ++ x :: B) ∧ Keep [] w w' ∧ ∃ q, v'.ownBlock = some q ∧ w.heap.size ≤ q := by
  obtain ⟨is, z, Hs, hz, _⟩ := tikinfoz; obtain ⟨i, hi⟩ : ∃ i, A.length = i := ⟨_, rfl⟩
  obtain ⟨k, hk⟩ : ∃ k, B.length = k := ⟨_, rfl⟩
  obtain ⟨n, hn⟩ : ∃ n, i + k = n := ⟨_, rfl⟩
  rw [hi, hk] at hl hlc hm ⊢; rw [hk] at hB; rw [hn] at hl hlc hm ⊢; obtain rfl : cap = n := by omega
  have hA : (rows Tik.cells A).length = i * 38 := by rw [rows_length Tik.cells_length, hi, Nat.mul_comm]
  have hBl : (rows Tik.cells B).length = k * 38 := by rw [rows_length Tik.cells_length, hk, Nat.mul_comm]
  have hsz : (Tryz.prog.info? 51).map (·.size) = some 38 := by kernel_rfl
  obtain ⟨N, hN⟩ : ∃ N, w.heap.size = N := ⟨_, rfl⟩
  have hNg : g < N := by rw [← hN]; exact hg.lt
  have hNb : nb < N := by rw [← hN]; exact hb.lt
  rw [rows_app', List.append_assoc] at hg; obtain ⟨G, hG⟩ : ∃ G, G = grownCap w (cap + 1) cap 51 := ⟨_, rfl⟩
  have hGn : cap + 1 ≤ G := by rw [hG]; exact grownCap_ge w _ _ _
  have hGm : G ≤ maxLen := by rw [hG]; exact grownCap_le_maxLen w (cap + 1) cap _ (by unfold maxLen; omega)
  have hGm' : G ≤ 9223372036854775807 := hGm
  have hold : (Builtin.firstCells is.size i (.slice (some ⟨g, 0, none⟩) i cap)).run Tryz.prog w.drew = .ok (rows Tik.cells A).toArray w.drew := by
    rw [Hs.out.2.2.1]
    exact run_firstCells_some w.drew 38 i ⟨g, 0, none⟩ i cap (rows Tik.cells A) hA (fun j u hj => by
      rw [Addr.add_lit, Nat.zero_add]; refine Blk.get (w := w.drew) hg ?_; rw [List.getElem?_append_left (List.getElem?_eq_some_iff.1 hj).1]; exact hj)
  obtain ⟨Zs, W1, hZl, hW1, hrz⟩ : ∃ (Zs : List Value) (W1 : World), Zs.length = (G - i) * 38 ∧ (Blk W1 N 51 (rows Tik.cells A ++ Zs) ∧ Keep [] w W1) ∧
      ∀ ty, (Builtin.append_ #[28, 3] ty #[.slice (some ⟨g, 0, none⟩) i cap, .int .i64 ((cap : Int) + 1 - (i : Int))]).run Tryz.prog w = .ok (.slice (some ⟨N, 0, none⟩) (cap + 1) G) W1 := by
    refine ⟨(Builtin.zeroCells z.cells (cap + 1 - i)).toList ++ (Builtin.zeroCells z.cells (G - (cap + 1))).toList,
      w.drew.alloc (.cells ((rows Tik.cells A).toArray ++ Builtin.zeroCells z.cells (cap + 1 - i) ++ Builtin.zeroCells z.cells (G - (cap + 1))) 51), ?_, ⟨?_, (Keep.refl _ _).drew.alloc _⟩, fun ty => ?_⟩
    · rw [List.length_append, Array.length_toList, Array.length_toList, size_zeroCells, size_zeroCells, hz, ← Nat.add_mul]; congr 1; omega
    · have := Blk.newA w.drew ((rows Tik.cells A).toArray ++ Builtin.zeroCells z.cells (cap + 1 - i) ++ Builtin.zeroCells z.cells (G - (cap + 1))) 51; rw [← hN]
      have e : ((rows Tik.cells A).toArray ++ Builtin.zeroCells z.cells (cap + 1 - i) ++ Builtin.zeroCells z.cells (G - (cap + 1))).toList = rows Tik.cells A ++ ((Builtin.zeroCells z.cells (cap + 1 - i)).toList ++ (Builtin.zeroCells z.cells (G - (cap + 1))).toList) := by
        rw [Array.toList_append, Array.toList_append, List.append_assoc]
      rw [e] at this; exact this
    · have h := Lib.run_append_grow_zeros w 28 3 ty 51 is _ .i64 .i64 Tryz.underlying28 Tryz.underlying3 Hs.out.1 Hs.out.2.1 (some ⟨g, 0, none⟩) i cap (rows Tik.cells A) hold (cap + 1 - i) (by omega) (by rw [Hs.out.2.2.1]; omega) (by omega) (by omega) (by rw [Hs.out.2.2.2]; omega) (by rw [Hs.out.2.2.2, show i + (cap + 1 - i) = cap + 1 by omega]; exact growslice_fits (by omega) (by omega)); have hik : i + (cap + 1 - i) = cap + 1 := by omega
      rw [hik, ← hG, hN] at h; have hkk : (cap : Int) + 1 - (i : Int) = ((cap + 1 - i : Nat) : Int) := by omega
      rw [hkk]; exact h
  obtain ⟨b1, k1⟩ := hW1; have e38 : (G - i) * 38 = (cap + 1 - i) * 38 + (G - (cap + 1)) * 38 := by rw [← Nat.add_mul]; congr 1; omega
  have ek : (cap + 1 - i) * 38 = 38 + k * 38 := by rw [show cap + 1 - i = 1 + k by omega, Nat.add_mul]
  have hcpA : ∀ ty dc, (Builtin.copy_ #[28, 28] ty #[.slice (some ⟨N, i * 38, none⟩) (cap + 1 - i) dc, .slice (some ⟨nb, 0, none⟩) 1 1]).run Tryz.prog W1 = .ok (goInt 1) (W1.setCells N (i * 38) x.cells) := fun ty dc =>
    run_copy_rows _ _ _ ty 51 38 N (i * 38) _ dc ⟨nb, 0, none⟩ 1 1 1 x.cells Tryz.underlying28 hsz (by simp only [Nat.min_def]; split <;> omega) (by rw [Tik.cells_length])
      (at_news (k1.blk hb (by simp)))
      (fun j hj => by
        rw [b1.cell, List.getElem?_eq_getElem (by rw [List.length_append, hA, hZl]; rw [Tik.cells_length] at hj; omega)]
        rfl) (fun j _ => b1.frozen _) x.one
  have b2 := Blk.overC x.cells _ (i * 38) _ b1; rw [putAt_eq _ _ _ (by rw [Tik.cells_length, List.length_append, hA, hZl]; omega), Tik.cells_length, List.take_left' hA, ← List.drop_drop, List.drop_left' hA] at b2; have k2 : Keep [] w (W1.setCells N (i * 38) x.cells) := Keep.cellsTo N (fun hh => by omega) _ _ _ k1; obtain ⟨W2, hW2⟩ : ∃ z, W1.setCells N (i * 38) x.cells = z := ⟨_, rfl⟩
  rw [hW2] at hcpA b2 k2
  have hcpB : ∀ ty dc sc, (Builtin.copy_ #[28, 28] ty #[.slice (some ⟨N, (i + 1) * 38, none⟩) (cap - i) dc, .slice (some ⟨g, i * 38, none⟩) (cap - i) sc]).run Tryz.prog W2.drew = .ok (goInt k) (W2.drew.setCells N ((i + 1) * 38) (rows Tik.cells B)) := fun ty dc sc =>
    run_copy_rows _ _ _ ty 51 38 N ((i + 1) * 38) _ dc ⟨g, i * 38, none⟩ _ sc k (rows Tik.cells B) Tryz.underlying28 hsz (by simp only [Nat.min_def]; split <;> omega) hBl
      (fun j u hj => by
        rw [Addr.add_lit]; refine Blk.get (w := W2.drew) (k2.drew.blk hg (by simp)) ?_; rw [List.getElem?_append_right (by omega), hA, Nat.add_sub_cancel_left, List.getElem?_append_left (List.getElem?_eq_some_iff.1 hj).1]; exact hj)
      (fun j hj => by
        rw [Blk.cell (w := W2.drew) b2, List.getElem?_eq_getElem (by rw [List.length_append, List.length_append, List.length_drop, hA, hZl, Tik.cells_length]; omega)]; rfl) (fun j _ => Blk.frozen (w := W2.drew) b2 _) (rows_one Tik.one B)
  have HF := Lib.hid (show Own Tik.cells 38 0 51 (W2.drew.setCells N ((i + 1) * 38) (rows Tik.cells B)) (.slice (some ⟨N, 0, none⟩) (cap + 1) G) (A ++ x :: B) ∧ Keep [] w (W2.drew.setCells N ((i + 1) * 38) (rows Tik.cells B)) from by
    refine ⟨?_, Keep.cellsTo N (fun hh => by omega) _ _ _ k2.drew⟩; have b3 := Blk.overC (rows Tik.cells B) _ ((i + 1) * 38) W2.drew b2; have e1 : rows Tik.cells A ++ (x.cells ++ Zs.drop 38) = (rows Tik.cells A ++ x.cells) ++ Zs.drop 38 := by rw [List.append_assoc]
    have e2 : (rows Tik.cells A ++ x.cells).length = (i + 1) * 38 := by rw [List.length_append, hA, Tik.cells_length]; omega
    rw [putAt_eq _ _ _ (by rw [e1, List.length_append, e2, List.length_drop, hZl, hBl]; omega), e1, List.take_left' e2, ← List.drop_drop, List.drop_left' e2, hBl, List.drop_drop] at b3; have hln : (A ++ x :: B).length = cap + 1 := by rw [List.length_append, List.length_cons, hi, hk]; omega
    have hrw : rows Tik.cells A ++ x.cells ++ (rows Tik.cells B ++ Zs.drop (38 + k * 38)) = rows Tik.cells (A ++ x :: B) ++ Zs.drop (38 + k * 38) := by
      have : rows Tik.cells (x :: B) = x.cells ++ rows Tik.cells B := by simp [rows]
      rw [rows_app', this]; simp only [List.append_assoc]
    rw [hrw] at b3; have := own_of_rows (base := 0) (cap := G) Tik.cells_length (Nat.zero_le N) b3 (by rw [hln]; exact hGn) hGm (by rw [List.length_drop, hZl, hln]; omega); rw [hln] at this; exact this)
  have f1 : decide ((i : Int) = (cap : Int)) = false := decide_eq_false (by omega); have f1n : (i == cap) = false := by simp; omega
  have f1d : decide (i = cap) = false := decide_eq_false (by omega); have f2 : decide ((cap : Int) + 1 > (cap : Int)) = true := decide_eq_true (by omega); have wk := IntWalk.i64_in ((cap : Int) + 1) (by omega); have wk2 := IntWalk.i64_in ((i : Int) + 1) (by omega); have wk3 := IntWalk.i64_in ((cap : Int) + 1 - (i : Int)) (by omega); have v3 : ((i : Int) + 1).toNat = i + 1 := by omega
  have v4 : (0 : Int) ≤ (i : Int) + 1 := by omega
  have v5 : (i : Int) + 1 ≤ (cap : Int) + 1 := by omega
  have v6 : ¬ (G = i + 1) := by omega
  have v7 : ¬ (G = i) := by omega
  have v7b : ¬ (cap = i) := by omega
  have v8 : i + 1 ≤ cap + 1 := by omega
  have v9 : (i : Int) ≤ (cap : Int) + 1 := by omega
  have v10 : i ≤ cap + 1 := by omega
  have v11 : i ≤ cap := by omega
  have HN := Lib.hid hN; clear hold e38 ek b1 b2 k1 k2 hA hBl hg hb hZl hGm hm hi hk hn hN hG Hs; go_enter Tryz.func172, Tryz.ntmps172
  go_wp2_with (first | (at_builtin; refine Lib.wpList_append_run _ rfl _ _ _ _ rfl _ _ rfl rfl _ _ (hrz _) ?_) | fail)
  go_region
  go_wp2_with fail; go_ret; exact ⟨_, rfl, HF.out.1, HF.out.2, N, rfl, by rw [HN.out]; exact Nat.le_refl _⟩
end Go.Proofs.YtkghgaopcgcheaaGreatDoor
