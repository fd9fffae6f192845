/- Parts of the proof of ErrandTries, in order. No conditions but those that each theorem states. -/
import Derived.Test.YtlhnjkekjbbhcaaGreatDoorYErrandTries0
import Derived.Maps.AppendAt
import Derived.Deep.LoopGhost
import Derived.Deep.Cut
import Derived.Deep.CutRange
import Derived.Deep.CutBlock
import Derived.Deep.DeepCutAuto
import Derived.Lib.IndexAny
import Derived.Test.YtlhnjkekjbbhcaaGreatDoorYErrandTries2
set_option linter.unusedSimpArgs false
set_option linter.unusedVariables false
namespace Go.Proofs.YtlhnjkekjbbhcaaGreatDoor
open Go.RowKit
def Own {α : Type} (enc : α → List Value) (n base : Nat) (E : TypeId) (w : World) (v : Value) (L : List α) : Prop := w.ownsRow base E n v L.length (rows enc L)
section
variable {α : Type} {enc : α → List Value} {n base : Nat} {E : TypeId} {w w' : World} {v : Value} {L : List α}
theorem Own.nil (enc : α → List Value) (n base : Nat) (E : TypeId) (w : World) : Own enc n base E w (.slice none 0 0) [] := World.ownsRow_nil w base E n
theorem Own.none (enc : α → List Value) (n : Nat) (E : TypeId) (w : World) (hb : base ≤ w.heap.size) : Own enc n base E (w.alloc (.cells #[] E)) (.slice (some ⟨w.heap.size, 0, none⟩) 0 0) [] :=
  World.ownsRow_made w #[] 0 hb (Nat.zero_le _) (by simp)
theorem Own.of_heap (h : Own enc n base E w v L) (e : w'.heap = w.heap) : Own enc n base E w' v L := by
  refine ⟨h.1, ?_⟩; rw [e]; exact h.2
theorem Own.alloc (h : Own enc n base E w v L) (o : Obj) : Own enc n base E (w.alloc o) v L := World.ownsRow.alloc h o
theorem Own.keep {S : List Nat} (h : Own enc n base E w v L) (k : Keep S w w') (hS : ∀ g, v.ownBlock = some g → g ∉ S) : Own enc n base E w' v L := by
  refine ⟨h.1, ?_⟩; rcases h.2 with hn | ⟨g, cap, cur, hv, hb, hg, rest⟩
  · exact .inl hn
  · exact .inr ⟨g, cap, cur, hv, hb, by rw [k.block g (lt_of_block hg) (hS g (by rw [hv]; rfl))]; exact hg, rest⟩
theorem Own.keep0 (h : Own enc n base E w v L) (k : Keep [] w w') : Own enc n base E w' v L := h.keep k (by simp)
theorem Own.grown {row : Option Nat} (h : Own enc n base E w v L) (k : w.grownBy w' row) (hr : v.ownBlock = Option.none ∨ v.ownBlock ≠ row) : Own enc n base E w' v L := World.ownsRow.kept h k hr
theorem Own.lower {base' : Nat} (h : Own enc n base E w v L) (hb : base' ≤ base) : Own enc n base' E w v L := by
  refine ⟨h.1, ?_⟩; rcases h.2 with hn | ⟨g, cap, cur, hv, hb', rest⟩
  · exact .inl hn
  · exact .inr ⟨g, cap, cur, hv, Nat.le_trans hb hb', rest⟩
theorem Own.sl (hn : ∀ x, (enc x).length = n) (h : Own enc n base E w v L) : Sl enc n w v L := by
  rcases h.2 with ⟨rfl, h0⟩ | ⟨g, cap, cur, rfl, hb, hg, h1, h2, h3, h4⟩
  · exact .inl ⟨Option.none, 0, rfl, Nat.zero_le _, List.eq_nil_of_length_eq_zero h0⟩
  · refine .inr ⟨g, 0, cap, rfl, h1, h2, fun i x hx k hk => ?_⟩; have := rows_get' hn L i k x hx hk; rw [← h4] at this; rw [Nat.zero_add, cell_of_row w g _ _ _ _ hg, ← this]; have hlt : i < L.length := (List.getElem?_eq_some_iff.1 hx).1; have hm : (i + 1) * n ≤ L.length * n := Nat.mul_le_mul_right n hlt; rw [Nat.add_mul] at hm; rw [List.getElem?_take, if_pos (by omega)]; simp
theorem Own.shape (h : Own enc n base E w v L) : ∃ a cap, v = .slice a L.length cap ∧ L.length ≤ maxLen := by
  rcases h.2 with ⟨rfl, h0⟩ | ⟨g, cap, cur, rfl, hb, hg, h1, h2, _⟩
  · exact ⟨_, 0, by rw [h0], by omega⟩
  · exact ⟨_, cap, rfl, by omega⟩
theorem Own.lt (h : Own enc n base E w v L) : ∀ k, v.ownBlock = some k → base ≤ k ∧ k < w.heap.size := World.ownsRow.lt h
end
theorem wpList_append1 {P : Program} {ops : Array Oper} {rest : List Oper} {o : Oper} {a : Act} {Q : Exit → Act → World → Prop} (hgd : o.guard = none) (s x : Operand) (t : TypeId)
    (ho : o.op = .call { callee := .builtin .append, args := #[s, x], argTypes := #[t, t] })
    {α : Type} {enc : α → List Value} {n base : Nat} {E : TypeId} {L : List α} {v : Value}
    (i : TypeInfo) (z : Value) (bytes : Nat) (ht : P.underlying t = some (.slice E)) (HI : Hid (P.info? E = some i ∧ i.zero = some z ∧ i.size = n ∧ i.bytes = bytes)) (hzs : z.cells.size = n) (hn0 : 0 < n)
    (hn : ∀ x, (enc x).length = n) (h1 : ∀ x, ∀ u ∈ enc x, u.oneCell' = true)
    (w0 w : World) (hb0 : base = w0.heap.size) (hk : Keep [] w0 w) (hs : a.eval s = v) (hown : Own enc n base E w v L) (y : α) (cs : List Value) (hcs : cs = enc y) (c : Nat) (hx : a.eval x = .slice (some ⟨w.heap.size, 0, none⟩) 1 c)
    (h63 : L.length + 1 ≤ maxLen) (hbytes : (L.length + 1) * bytes ≤ 140737488355328)
    (h : ∀ v' w', Own enc n base E w' v' (L ++ [y]) → Keep [] w0 w' → w.grownBy w' v.ownBlock → wpList P ops Q rest (a.put o.dst v') w') : wpList P ops Q (o :: rest) a (w.alloc (.cells cs.toArray E)) := by
  subst hcs hb0; refine wpList_append_own _ hgd s x t ho w0.heap.size E i z n bytes ht HI.out.1 HI.out.2.1 HI.out.2.2.1 HI.out.2.2.2 hzs hn0 v L.length (rows enc L) hs (hown.alloc _) ⟨w.heap.size, 0, none⟩ 1 c (enc y) hx (by rw [hn]; omega) ?_ (h1 y) h63 hbytes (by have := hk.size; simp; omega) ?_
  · intro j u hj; have hA := Blk.new w (enc y) E; have : (⟨w.heap.size, 0, none⟩ : Addr).add j = ⟨w.heap.size, j, none⟩ := by unfold Addr.add; split <;> simp_all
    rw [this, hA.cell j]; exact hj
  · intro v' w' hown' hg _
    have hg' : w.grownBy w' v.ownBlock := by
      have h0 := World.grownBy_alloc w (.cells (enc y).toArray E) v.ownBlock; exact ⟨hg.os.trans h0.os, hg.tape.trans h0.tape, hg.output.trans h0.output, Nat.le_trans h0.size hg.size, fun k hk hne => (hg.block k (Nat.lt_of_lt_of_le hk h0.size) hne).trans (h0.block k hk hne)⟩
    refine h v' w' ?_ (hk.grown hg' fun k hk1 hk2 => absurd (hown.lt k hk1).1 (by omega)) hg'; have : rows enc (L ++ [y]) = rows enc L ++ enc y := by simp [rows]
    unfold Own; rw [this, List.length_append]; exact hown'
def Sep (v u : Value) : Prop := ∀ g, v.ownBlock = some g → u.ownBlock ≠ some g
def Aside (w w' : World) (v v' : Value) : Prop := ∀ {β : Type} {e2 : β → List Value} {n2 b2 : Nat} {E2 : TypeId} {u : Value} {M : List β}, Own e2 n2 b2 E2 w u M → Sep v u → Own e2 n2 b2 E2 w' u M ∧ Sep v' u
theorem wpList_append2 {P : Program} {ops : Array Oper} {rest : List Oper} {o : Oper} {a : Act} {Q : Exit → Act → World → Prop} (hgd : o.guard = none) (s x : Operand) (t : TypeId)
    (ho : o.op = .call { callee := .builtin .append, args := #[s, x], argTypes := #[t, t] })
    {α : Type} {enc : α → List Value} {n base : Nat} {E : TypeId} {L : List α} {v : Value}
    (i : TypeInfo) (z : Value) (bytes : Nat) (ht : P.underlying t = some (.slice E)) (HI : Hid (P.info? E = some i ∧ i.zero = some z ∧ i.size = n ∧ i.bytes = bytes)) (hzs : z.cells.size = n) (hn0 : 0 < n)
    (hn : ∀ x, (enc x).length = n) (h1 : ∀ x, ∀ u ∈ enc x, u.oneCell' = true)
    (w0 w : World) (hb0 : base = w0.heap.size) (hk : Keep [] w0 w) (hs : a.eval s = v) (hown : Own enc n base E w v L) (y : α) (cs : List Value) (hcs : cs = enc y) (c : Nat) (hx : a.eval x = .slice (some ⟨w.heap.size, 0, none⟩) 1 c)
    (h63 : L.length + 1 ≤ maxLen) (hbytes : (L.length + 1) * bytes ≤ 140737488355328)
    (h : ∀ v' w', Own enc n base E w' v' (L ++ [y]) → Keep [] w0 w' → Aside w w' v v' → wpList P ops Q rest (a.put o.dst v') w') : wpList P ops Q (o :: rest) a (w.alloc (.cells cs.toArray E)) := by
  subst hcs hb0; refine wpList_append_own_at _ hgd s x t ho w0.heap.size E i z n bytes ht HI.out.1 HI.out.2.1 HI.out.2.2.1 HI.out.2.2.2 hzs hn0 v L.length (rows enc L) hs (hown.alloc _) ⟨w.heap.size, 0, none⟩ 1 c (enc y) hx (by rw [hn]; omega) ?_ (h1 y) h63 hbytes (by have := hk.size; simp; omega) ?_
  · intro j u hj; have hA := Blk.new w (enc y) E; have : (⟨w.heap.size, 0, none⟩ : Addr).add j = ⟨w.heap.size, j, none⟩ := by unfold Addr.add; split <;> simp_all
    rw [this, hA.cell j]; exact hj
  · intro v' w' hown' hg _ hat
    have hg' : w.grownBy w' v.ownBlock := by
      have h0 := World.grownBy_alloc w (.cells (enc y).toArray E) v.ownBlock; exact ⟨hg.os.trans h0.os, hg.tape.trans h0.tape, hg.output.trans h0.output, Nat.le_trans h0.size hg.size, fun k hk hne => (hg.block k (Nat.lt_of_lt_of_le hk h0.size) hne).trans (h0.block k hk hne)⟩
    refine h v' w' ?_ (hk.grown hg' fun k hk1 hk2 => absurd (hown.lt k hk1).1 (by omega)) ?_
    · have : rows enc (L ++ [y]) = rows enc L ++ enc y := by simp [rows]
      unfold Own; rw [this, List.length_append]; exact hown'
    · intro β e2 n2 b2 E2 u M hu hsep; refine ⟨hu.grown hg' ?_, ?_⟩
      · cases hub : u.ownBlock with
        | none => exact .inl rfl
        | some g => exact .inr fun e => hsep g (e ▸ rfl) hub
      · intro g h3 h4; rcases hat with h5 | h5
        · exact hsep g (h5 ▸ h3) h4
        · have h6 := (hu.lt g h4).2; rw [h3] at h5; simp at h5; omega
def byteC (c : UInt8) : List Value := [.int .u8 (c.toNat : Nat)]
theorem byteC_length (c : UInt8) : (byteC c).length = 1 := rfl
theorem byteC_one (c : UInt8) : ∀ u ∈ byteC c, u.oneCell' = true := by simp [byteC, Value.oneCell']
def strC (s : List UInt8) : List Value := [.string (S s)]
theorem strC_length (c : List UInt8) : (strC c).length = 1 := rfl
theorem strC_one (c : List UInt8) : ∀ u ∈ strC c, u.oneCell' = true := by simp [strC, Value.oneCell']
theorem own_back {P : Program} {w : World} {base : Nat} {E : TypeId} {v : Value} {l : List UInt8} (h : Own byteC 1 base E w v l) (src dst : TypeId) (hs : P.underlying src = some (.slice E)) (he : P.underlying E = some (.int .u8)) (hd : P.underlying dst = some .string) :
    (convert src dst v).run P w = .ok (.string (S l)) w := by
  have hsl := h.sl byteC_length; rcases h.2 with ⟨rfl, h0⟩ | ⟨g, cap, cur, rfl, _⟩
  · have : l = [] := List.eq_nil_of_length_eq_zero h0; subst this; exact run_convert_bytes_nil w src E hs he 0 0 dst hd
  · refine run_convert_bytes_back w src dst E ⟨g, 0, none⟩ cap l hs he hd (fun j hj => ?_); obtain ⟨b, off, cap', hv, _, _, hc⟩ := hsl.cell (i := j) (x := l[j]) (List.getElem?_eq_getElem hj); cases hv; have ha : (⟨g, 0, none⟩ : Addr).add j = ⟨g, 0 + j * 1 + 0, none⟩ := by unfold Addr.add; split <;> simp_all
    rw [ha]; exact hc 0 (by omega)
theorem S_get {l : List UInt8} {k : Nat} {c : UInt8} (h : l[k]? = some c) (hk : k < (S l).size) : (S l)[k]'hk = c := by
  obtain ⟨_, he⟩ := List.getElem?_eq_some_iff.1 h; exact he
end Go.Proofs.YtlhnjkekjbbhcaaGreatDoor
namespace Go.Proofs.YtlhnjkekjbbhcaaGreatDoor
open Go.RowKit Go.Shelf
theorem u8info : (Tryz.prog.info? 5).map (fun i => (i.zero, i.size, i.bytes)) = some (some (.int .u8 0), 1, 1) := by kernel_rfl
set_option maxRecDepth 100000 in
set_option maxHeartbeats 400000 in
theorem ref_Low (l : List UInt8) (w : World) (hs : l.length ≤ 70368744177664) :
    Calls Tryz.prog 92 #[.string (S l)] w fun e w' => e = .returned (.string (S (lowW l))) ∧ Keep [] w w' := by
  have hsz := S_size l; obtain ⟨i0, hi, hz0, hz1, hz2⟩ := info_parts u8info; have HI := Lib.hid (And.intro hi (And.intro hz0 (And.intro hz1 hz2))); clear hi hz0 hz1 hz2; go_enter Tryz.func92, Tryz.ntmps92; go_wp2_with fail
  go_loopg [3, 4] l.length (fun g v i wr => ∃ k : Nat, i = .int .i64 k ∧ k ≤ l.length ∧ g = l.length - k ∧ Own byteC 1 w.heap.size 5 wr v ((l.take k).map lowB) ∧ Keep [] w wr)
  case atStart => exact ⟨0, rfl, Nat.zero_le _, by omega, Own.none byteC 1 5 _ (Nat.le_refl _), (Keep.refl [] w).alloc _⟩
  case round =>
    obtain ⟨k, rfl, hk, hgk, hown, hkr⟩ := hrel; by_cases hlt : k < l.length
    · obtain ⟨c, hg⟩ : ∃ c, l[k]? = some c := ⟨_, List.getElem?_eq_getElem hlt⟩
      have hc8 := u8_nat c; have hget := S_get hg; have HG := Lib.hid hg; have HO := Lib.hid hown; clear hg hown; have hll : ((l.take k).map lowB).length = k := by simp; omega
      have HL := Lib.hid hll; have HM := Lib.hid (show maxLen = 9223372036854775807 from rfl); clear hll; by_cases h1 : 65 ≤ c.toNat
      · by_cases h2 : c.toNat ≤ 90
        · have hl : (lowB c).toNat = c.toNat + 32 := by
            unfold lowB; rw [if_pos ⟨h1, h2⟩, UInt8.toNat_add]; have : (32 : UInt8).toNat = 32 := rfl; omega
          have HE := Lib.hid hl; clear hl
          go_wp2_with (first
            | (at_builtin
               go_must (refine wpList_append1 rfl _ _ 143 rfl i0 (.int .u8 0) 1 Tryz.underlying143 HI rfl (by decide) byteC_length byteC_one w wr rfl hkr (by rfl) HO.out (lowB c) _ (by simp only [byteC, HE.out]; congr; omega) _ rfl (by have := HL.out; have := HM.out; omega) (by have := HL.out; omega) ?_); intro v' w1 hown' hk' hg')
            | fail)
          go_roundg (l.length - (k + 1))
          case measure => omega
          case rel => exact ⟨k + 1, by go_num, by omega, rfl, by rw [take_snoc HG.out, List.map_append]; exact hown', hk'⟩
        · have hl : lowB c = c := by unfold lowB; rw [if_neg (by omega)]
          have HE := Lib.hid hl; clear hl
          go_wp2_with (first
            | (at_builtin
               go_must (refine wpList_append1 rfl _ _ 143 rfl i0 (.int .u8 0) 1 Tryz.underlying143 HI rfl (by decide) byteC_length byteC_one w wr rfl hkr (by rfl) HO.out (lowB c) _ (by simp only [byteC, HE.out]) _ rfl (by have := HL.out; have := HM.out; omega) (by have := HL.out; omega) ?_); intro v' w1 hown' hk' hg')
            | fail)
          go_roundg (l.length - (k + 1))
          case measure => omega
          case rel => exact ⟨k + 1, by go_num, by omega, rfl, by rw [take_snoc HG.out, List.map_append]; exact hown', hk'⟩
      · have hl : lowB c = c := by unfold lowB; rw [if_neg (by omega)]
        have HE := Lib.hid hl; clear hl
        go_wp2_with (first
          | (at_builtin
             go_must (refine wpList_append1 rfl _ _ 143 rfl i0 (.int .u8 0) 1 Tryz.underlying143 HI rfl (by decide) byteC_length byteC_one w wr rfl hkr (by rfl) HO.out (lowB c) _ (by simp only [byteC, HE.out]) _ rfl (by have := HL.out; have := HM.out; omega) (by have := HL.out; omega) ?_); intro v' w1 hown' hk' hg')
          | fail)
        go_roundg (l.length - (k + 1))
        case measure => omega
        case rel => exact ⟨k + 1, by go_num, by omega, rfl, by rw [take_snoc HG.out, List.map_append]; exact hown', hk'⟩
    · have hke : l.take k = l := List.take_of_length_le (by omega); rw [hke] at hown; have hback := own_back (P := Tryz.prog) hown 143 9 Tryz.underlying143 Tryz.underlying5 Tryz.underlying9; clear hke hown; go_wp2_with fail; go_ret; exact ⟨rfl, hkr⟩
theorem nat_eq {a b : Nat} (h : a = b) : (((a : Nat) : Int) == ((b : Nat) : Int)) = true ∧ (((a : Nat) : Int) != ((b : Nat) : Int)) = false := by subst h; simp
theorem nat_ne {a b : Nat} (h : a ≠ b) : (((a : Nat) : Int) == ((b : Nat) : Int)) = false ∧ (((a : Nat) : Int) != ((b : Nat) : Int)) = true := by
  constructor <;> simp <;> omega
theorem indexByte_at {l : List UInt8} {c : UInt8} {o : Nat} (h : l[o]? = some c) (hn : ∀ j, j < o → l[j]? ≠ some c) : Lib.indexByte l c = o := by
  have hge := Lib.indexByte_ge l c; by_cases h1 : Lib.indexByte l c = -1
  · exact absurd h (Lib.indexByte_none h1 o)
  · obtain ⟨o', ho⟩ : ∃ o' : Nat, Lib.indexByte l c = o' := ⟨(Lib.indexByte l c).toNat, by omega⟩
    obtain ⟨h2, h3⟩ := Lib.indexByte_some ho; rcases Nat.lt_trichotomy o o' with h4 | h4 | h4
    · exact absurd h (h3 o h4)
    · omega
    · exact absurd h2 (hn o' h4)
theorem int_eq {a z : Int} (h : a = z) : (a == z) = true ∧ (a != z) = false := by subst h; simp
theorem int_ne {a z : Int} (h : a ≠ z) : (a == z) = false ∧ (a != z) = true := by simp [h]
theorem parseF_eq (l : List UInt8) : parseF l = if 0 ≤ Lib.indexByte l 58 ∧ isTok (l.take (Lib.indexByte l 58).toNat) = true ∧ isTxt (l.drop ((Lib.indexByte l 58).toNat + 1)) = true then some ⟨l.take (Lib.indexByte l 58).toNat, trimW (l.drop ((Lib.indexByte l 58).toNat + 1))⟩ else none := by
  unfold parseF Lib.cut; rw [Lib.index_one]; by_cases h : 0 ≤ Lib.indexByte l 58
  · simp only [if_pos h, List.length_singleton]; by_cases h1 : isTok (l.take (Lib.indexByte l 58).toNat) = true
    · by_cases h2 : isTxt (l.drop ((Lib.indexByte l 58).toNat + 1)) = true
      · simp [h, h1, h2]
      · simp [h, h1, h2]
    · simp [h1]
  · simp only [if_neg h]; simp [h]
def cutM (by' : UInt8) : List UInt8 → Bool → List UInt8 → List (List UInt8)
  | [], _, p => [trimW p]
  | c :: r, q, p =>
    if c.toNat = 34 then cutM by' r (!q) (p ++ [c])
    else if c.toNat = 92 ∧ q = true then
      match r with
      | [] => [trimW (p ++ [c])]
      | d :: r' => cutM by' r' q (p ++ [c, d])
    else if c = by' ∧ q = false then trimW p :: cutM by' r q []
    else cutM by' r q (p ++ [c])
def cutW (l : List UInt8) (b : UInt8) : List (List UInt8) := cutM b l false []
theorem drop_at {l : List UInt8} {k : Nat} {c : UInt8} (h : l[k]? = some c) : l.drop k = c :: l.drop (k + 1) := by
  obtain ⟨hl, hc⟩ := List.getElem?_eq_some_iff.1 h; rw [List.drop_eq_getElem_cons hl, hc]
theorem cutM_quote {b c : UInt8} {r p : List UInt8} {q : Bool} (h : c.toNat = 34) : cutM b (c :: r) q p = cutM b r (!q) (p ++ [c]) := by
  rw [cutM.eq_def]; dsimp only; rw [if_pos h]
theorem cutM_slash {b c d : UInt8} {r p : List UInt8} (h : c.toNat = 92) : cutM b (c :: d :: r) true p = cutM b r true (p ++ [c, d]) := by
  rw [cutM.eq_def]; dsimp only; rw [if_neg (by omega), if_pos ⟨h, rfl⟩]
theorem cutM_slash_end {b c : UInt8} {p : List UInt8} (h : c.toNat = 92) : cutM b [c] true p = [trimW (p ++ [c])] := by
  rw [cutM.eq_def]; dsimp only; rw [if_neg (by omega), if_pos ⟨h, rfl⟩]
theorem cutM_by {b c : UInt8} {r p : List UInt8} (h : c.toNat ≠ 34) (hb : c = b) : cutM b (c :: r) false p = trimW p :: cutM b r false [] := by
  rw [cutM.eq_def]; dsimp only; rw [if_neg h, if_neg (by simp), if_pos ⟨hb, rfl⟩]
theorem cutM_plain {b c : UInt8} {r p : List UInt8} {q : Bool} (h : c.toNat ≠ 34) (h2 : ¬ (c.toNat = 92 ∧ q = true)) (hb : ¬ (c = b ∧ q = false)) : cutM b (c :: r) q p = cutM b r q (p ++ [c]) := by
  rw [cutM.eq_def]; dsimp only; rw [if_neg h, if_neg h2, if_neg hb]
theorem strinfo : (Tryz.prog.info? 9).map (fun i => (i.zero, i.size, i.bytes)) = some (some (.string ⟨#[]⟩), 1, 16) := by kernel_rfl
theorem strinfo' : ∃ i0, Hid (Tryz.prog.info? 9 = some i0 ∧ i0.zero = some (.string ⟨#[]⟩) ∧ i0.size = 1 ∧ i0.bytes = 16) := by
  obtain ⟨i0, hi, hz0, hz1, hz2⟩ := info_parts strinfo; exact ⟨i0, hi, hz0, hz1, hz2⟩
theorem strC_of {c : List UInt8} {s : ByteArray} (h : s = S c) : [Value.string s] = strC c := by rw [h]; rfl
def Texts (w : World) (M : List (List UInt8)) (e : Ending) (w' : World) : Prop := ∃ v, e = .returned v ∧ Own strC 1 w.heap.size 9 w' v M ∧ Keep [] w w'
theorem piece_snoc {l : List UInt8} {k f : Nat} {c : UInt8} (h : l[k]? = some c) (hf : f ≤ k) : (l.take (k + 1)).drop f = (l.take k).drop f ++ [c] := by
  have hl := (List.getElem?_eq_some_iff.1 h).1; rw [take_snoc h, List.drop_append_of_le_length (by simp; omega)]
set_option maxRecDepth 100000 in
set_option maxHeartbeats 2000000 in
theorem field_cut (l : List UInt8) (b : UInt8) (w : World) (hs : l.length ≤ 1048576) :
    Calls Tryz.prog 200 #[.string (S l), .int .u8 b.toNat] w (Texts w (cutW l b)) := by
  have hsz := S_size l; have HT := Lib.hid (fun (p : List UInt8) (h : p.length ≤ 1048576) (w1 : World) => field_trim p w1 (show p.length ≤ 9223372036854775807 by omega)); have HM := Lib.hid (show maxLen = 9223372036854775807 from rfl); obtain ⟨is, Hs⟩ := strinfo'; go_enter Tryz.func200, Tryz.ntmps200; go_wp2_with fail
  go_loopg [4, 5, 6, 7] (l.length + 1) (fun g o fv qv i wr => ∃ (k f : Nat) (O : List (List UInt8)) (q : Bool), i = .int .i64 k ∧ k ≤ l.length + 1 ∧ g = l.length + 1 - k ∧ fv = .int .i64 f ∧ f ≤ l.length ∧ f ≤ k ∧ qv = .bool q ∧
    Own strC 1 w.heap.size 9 wr o O ∧ Keep [] w wr ∧ O.length ≤ k ∧ Hid (cutW l b = O ++ cutM b (l.drop k) q ((l.take k).drop f)))
  case atStart =>
    exact ⟨0, 0, [], false, rfl, Nat.zero_le _, by omega, rfl, Nat.zero_le _, Nat.le_refl _, rfl, Own.nil strC 1 _ _ w, Keep.refl [] w, Nat.le_refl _, rfl⟩
  case round =>
    obtain ⟨k, f, O, q, rfl, hk, hgk, rfl, hfl, hfk, rfl, ho, hkr, hol, hcm⟩ := hrel; have HO := Lib.hid ho; have HK := Lib.hid hkr; clear ho hkr; by_cases hlt : k < l.length
    · obtain ⟨c, hg⟩ : ∃ c, l[k]? = some c := ⟨_, List.getElem?_eq_getElem hlt⟩
      have hc8 := u8_nat c; have hget := S_get hg; have HD := Lib.hid (drop_at hg); have HPS := Lib.hid (piece_snoc hg hfk); clear hg; by_cases h34 : c.toNat = 34
      · obtain ⟨q1, q2⟩ := int_eq (show ((c.toNat : Nat) : Int) = 34 by omega); have hn : Hid (cutW l b = O ++ cutM b (l.drop (k + 1)) (!q) ((l.take (k + 1)).drop f)) := by rw [Hid, hcm.out, HD.out, cutM_quote h34, HPS.out]
        clear hcm; go_wp2_with fail
        go_roundg (l.length + 1 - (k + 1))
        case measure => omega
        case rel => exact ⟨k + 1, f, O, !q, by go_num, by omega, rfl, rfl, hfl, by omega, rfl, HO.out, HK.out, by omega, hn⟩
      · obtain ⟨q1, q2⟩ := int_ne (show ((c.toNat : Nat) : Int) ≠ 34 by omega)
        cases q with
        | true =>
          by_cases h92 : c.toNat = 92
          · obtain ⟨q3, q4⟩ := int_eq (show ((c.toNat : Nat) : Int) = 92 by omega)
            have hn : Hid (cutW l b = O ++ cutM b (l.drop (k + 2)) true ((l.take (k + 2)).drop f)) := by
              by_cases hl2 : k + 1 < l.length
              · obtain ⟨d, hg2⟩ : ∃ d, l[k + 1]? = some d := ⟨_, List.getElem?_eq_getElem hl2⟩
                rw [Hid, hcm.out, HD.out, drop_at hg2, cutM_slash h92, piece_snoc hg2 (by omega), HPS.out]; simp
              · have e1 : l.drop (k + 1) = [] := List.drop_eq_nil_of_le (by omega); have e2 : l.drop (k + 2) = [] := List.drop_eq_nil_of_le (by omega); have e3 : l.take (k + 2) = l.take (k + 1) := by rw [List.take_of_length_le (by omega), List.take_of_length_le (by omega)]
                rw [Hid, hcm.out, HD.out, e1, cutM_slash_end h92, e2, e3, HPS.out]; rfl
            clear hcm; go_wp2_with fail
            go_roundg (l.length + 1 - (k + 2))
            case measure => omega
            case rel => exact ⟨k + 2, f, O, true, by go_num, by omega, rfl, rfl, hfl, by omega, rfl, HO.out, HK.out, by omega, hn⟩
          · obtain ⟨q3, q4⟩ := int_ne (show ((c.toNat : Nat) : Int) ≠ 92 by omega); have hn : Hid (cutW l b = O ++ cutM b (l.drop (k + 1)) true ((l.take (k + 1)).drop f)) := by rw [Hid, hcm.out, HD.out, cutM_plain h34 (by simp [h92]) (by simp), HPS.out]
            clear hcm; by_cases hb : c = b
            · obtain ⟨q5, q6⟩ := nat_eq (congrArg UInt8.toNat hb); have hbn := congrArg UInt8.toNat hb; clear hb; go_wp2_with fail
              go_roundg (l.length + 1 - (k + 1))
              case measure => omega
              case rel => exact ⟨k + 1, f, O, true, by go_num, by omega, rfl, rfl, hfl, by omega, rfl, HO.out, HK.out, by omega, hn⟩
            · obtain ⟨q5, q6⟩ := nat_ne (a := c.toNat) (b := b.toNat) (fun h => hb (UInt8.toNat_inj.1 h)); clear hb; go_wp2_with fail
              go_roundg (l.length + 1 - (k + 1))
              case measure => omega
              case rel => exact ⟨k + 1, f, O, true, by go_num, by omega, rfl, rfl, hfl, by omega, rfl, HO.out, HK.out, by omega, hn⟩
        | false =>
          have H92 : Hid (∃ z : Bool, (((c.toNat : Nat) : Int) == 92) = z) := ⟨_, rfl⟩
          obtain ⟨z, hz⟩ := H92.out; by_cases hb : c = b
          · have hn : Hid (cutW l b = (O ++ [trimW ((l.take k).drop f)]) ++ cutM b (l.drop (k + 1)) false ((l.take (k + 1)).drop (k + 1))) := by
              rw [Hid, hcm.out, HD.out, cutM_by h34 hb, show (l.take (k + 1)).drop (k + 1) = [] from List.drop_eq_nil_of_le (by simp; omega)]; simp
            obtain ⟨q5, q6⟩ := nat_eq (congrArg UInt8.toNat hb); have hx := S_extract l f k; have hpl : ((l.take k).drop f).length ≤ 1048576 := by simp; omega
            generalize (l.take k).drop f = p at hx hpl hn; clear hcm hb HPS
            go_wp2_with (first | (go_at_call 178; go_must (refine (HT.out p (by exact hpl) _).mono ?_); rintro e w1 ⟨rfl, hk1⟩) | (at_builtin; go_must (refine wpList_append2 rfl _ _ 201 rfl is (.string ⟨#[]⟩) 16 Tryz.underlying201 Hs rfl (by decide) strC_length strC_one w w1 rfl (HK.out.trans hk1) (by rfl) (HO.out.keep0 hk1) (trimW p) _ (strC_of rfl) _ rfl (by have := HM.out; omega) (by omega) ?_); intro v' w2 hown' hk' hside) | fail)
            all_goals (
              go_roundg (l.length + 1 - (k + 1))
              case measure => omega
              case rel => exact ⟨k + 1, k + 1, O ++ [trimW p], false, by go_num, by omega, rfl, by go_num, by omega, Nat.le_refl _, rfl, hown', hk', by simp; omega, hn⟩)
          · have hn : Hid (cutW l b = O ++ cutM b (l.drop (k + 1)) false ((l.take (k + 1)).drop f)) := by rw [Hid, hcm.out, HD.out, cutM_plain h34 (by simp) (by simp [hb]), HPS.out]
            obtain ⟨q5, q6⟩ := nat_ne (a := c.toNat) (b := b.toNat) (fun h => hb (UInt8.toNat_inj.1 h)); clear hcm
            cases z with
            | true =>
              have h92 : ((c.toNat : Nat) : Int) = 92 := by simpa using hz
              have hbn : c.toNat ≠ b.toNat := fun h => hb (UInt8.toNat_inj.1 h)
              obtain ⟨q7, q8⟩ := int_ne (show (92 : Int) ≠ ((b.toNat : Nat) : Int) by omega); clear hb; go_wp2_with fail
              go_roundg (l.length + 1 - (k + 1))
              case measure => omega
              case rel => exact ⟨k + 1, f, O, false, by go_num, by omega, rfl, rfl, hfl, by omega, rfl, HO.out, HK.out, by omega, hn⟩
            | false =>
              clear hb; go_wp2_with fail
              go_roundg (l.length + 1 - (k + 1))
              case measure => omega
              case rel => exact ⟨k + 1, f, O, false, by go_num, by omega, rfl, rfl, hfl, by omega, rfl, HO.out, HK.out, by omega, hn⟩
    · have hn : Hid (cutW l b = O ++ [trimW (l.drop f)]) := by
        rw [Hid, hcm.out, List.drop_eq_nil_of_le (by omega), List.take_of_length_le (by omega)]; rfl
      have hx : (S l).extract f l.length = S (l.drop f) := by rw [S_extract, List.take_of_length_le (Nat.le_refl _)]
      have hpl : (l.drop f).length ≤ 1048576 := by simp; omega
      generalize l.drop f = p at hx hpl hn; clear hcm
      go_wp2_with (first | (go_at_call 178; go_must (refine (HT.out p (by exact hpl) _).mono ?_); rintro e w1 ⟨rfl, hk1⟩) | (at_builtin; go_must (refine wpList_append2 rfl _ _ 201 rfl is (.string ⟨#[]⟩) 16 Tryz.underlying201 Hs rfl (by decide) strC_length strC_one w w1 rfl (HK.out.trans hk1) (by rfl) (HO.out.keep0 hk1) (trimW p) _ (strC_of rfl) _ rfl (by have := HM.out; omega) (by omega) ?_); intro v' w2 hown' hk' hside) | fail); go_ret; exact ⟨_, rfl, by rw [hn.out]; exact hown', hk'⟩
end Go.Proofs.YtlhnjkekjbbhcaaGreatDoor
