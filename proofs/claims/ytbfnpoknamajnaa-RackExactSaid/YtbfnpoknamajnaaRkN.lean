/- Layer 21: what the map's operations do; New. No conditions. -/
import Derived.Test.YtbfnpoknamajnaaRkT
import Derived.Great.Walk
namespace Go.Proofs.Ytbfnpoknamajnaa
open Go.RowKit Go.Maps

theorem ownsMap_fit {H : Type} {P : Program} {k : TypeId} {R : Value → Option (DataW H × List MemPlace)} {w : World} {b n : Nat} {D : DataW H} (h : w.ownsMap P k R b n D) : w.ownsMap P k R b (Maps.size D) D := by
  obtain ⟨es, clock, hb, F, hs, rfl⟩ := h
  exact ⟨es, clock, hb, F, by simp [Maps.size, length_sorted], rfl⟩
theorem keep_turned {w w' : World} {b : Nat} (h : w.mapTurned w' b) : Keep [b] w w' := (Keep.refl [b] w).grown h.grown (fun k hk _ => by simp at hk ⊢; exact hk.symm)
theorem dig_ne {d e : Dig} (h : e ≠ d) : (Lit.string e.1) ≠ Lit.string d.1 := fun x => h (Subtype.ext (by injection x))
theorem MapIs.made (w : World) : MapIs (w.alloc (.map #[] 0)) w.heap.size (fun _ => 0) 0 :=
  ⟨.map [], World.ownsMap_made w _ _ _, rfl, fun d => ⟨rfl, rfl⟩⟩
theorem MapIs.put {w : World} {bm n : Nat} {M : Dig → Nat} (h : MapIs w bm M n) (d : Dig) (i : Nat) (hi : 0 < i) (hi2 : i < 65) (hd : M d = 0) (hn : n < maxLen) :
    ∃ w', (Instr.mapUpdate 95 (.map (some bm)) (.agg (digC d).toArray) (.int .i64 (i : Nat))).run Try.prog w = .ok () w' ∧ MapIs w' bm (fun e => if e = d then i else M e) (n + 1) ∧ w.mapTurned w' bm := by
  obtain ⟨D, hown, hs, hat⟩ := h
  have hT := hown.tidy dig_law
  have hk : WideAt.IsKeyLit (Lit.string d.1) := by first | rfl | trivial | decide
  obtain ⟨w', hrun, ho', ht⟩ := hown.store (val := .int .i64 (i : Nat)) (d := .lit (.int .i64 (i : Nat))) (ps := []) dig_law Try.underlying95 hn (dig_key d) (plainElem_int Try.underlying3 (by simp [Lit.wf, IntKind.min, IntKind.max, IntKind.signed, IntKind.bits]; omega))
  refine ⟨w', hrun, ⟨_, ho', ?_, ?_⟩, ht⟩
  · rw [size_put hT, (hat d).2, hd, hs]; simp
  · intro e
    dsimp only
    by_cases he : e = d
    · subst he
      rw [atKey_put_same hT.isMap hk, has_put_same hT.isMap hk]
      have hv : (if e = e then i else M e) = i := if_pos rfl
      simp only [hv]
      exact ⟨rfl, by simp; omega⟩
    · rw [atKey_put_other (dig_ne he), has_put_other (dig_ne he)]
      have hv : (if e = d then i else M e) = M e := if_neg he
      simp only [hv]
      exact hat e
theorem MapIs.drop {w : World} {bm n : Nat} {M : Dig → Nat} (h : MapIs w bm M n) (d : Dig) (hd : M d ≠ 0) (ty : TypeId) :
    ∃ w', (Builtin.delete_ #[95, 44] ty #[.map (some bm), .agg (digC d).toArray]).run Try.prog w = .ok (.tuple #[]) w' ∧ MapIs w' bm (fun e => if e = d then 0 else M e) (n - 1) ∧ w.mapTurned w' bm := by
  obtain ⟨D, hown, hs, hat⟩ := h
  have hT := hown.tidy dig_law
  obtain ⟨w', hrun, ho', ht⟩ := hown.drop dig_law Try.underlying95 (dig_key d) ty
  have hsz : Maps.size (D.del (.string d.1)) = n - 1 := by
    have := size_del (k := Lit.string d.1) hT
    rw [(hat d).2, hs] at this
    simp [hd] at this
    omega
  refine ⟨w', hrun, ⟨_, by have := ownsMap_fit ho'; rwa [hsz] at this, hsz, ?_⟩, ht⟩
  intro e
  dsimp only
  by_cases he : e = d
  · subst he
    rw [atKey_del_same, has_del_same]
    have hv : (if e = e then 0 else M e) = 0 := if_pos rfl
    simp only [hv]
    exact ⟨rfl, rfl⟩
  · rw [atKey_del_other (dig_ne he), has_del_other (dig_ne he)]
    have hv : (if e = d then 0 else M e) = M e := if_neg he
    simp only [hv]
    exact hat e

/-- 'r.f = append(r.f, x)': what the append alone does -/
theorem wpList_append5 {P : Program} {ops : Array Oper} {rest : List Oper} {o : Oper} {a : Act} {Q : Exit → Act → World → Prop} (hgd : o.guard = none) (s x : Operand) (t : TypeId)
    (ho : o.op = .call { callee := .builtin .append, args := #[s, x], argTypes := #[t, t] })
    {α : Type} {enc : α → List Value} {n base : Nat} {E : TypeId} {L : List α} {v : Value}
    (i : TypeInfo) (z : Value) (bytes : Nat) (ht : P.underlying t = some (.slice E)) (HI : Hid (P.info? E = some i ∧ i.zero = some z ∧ i.size = n ∧ i.bytes = bytes)) (hzs : z.cells.size = n) (hn0 : 0 < n)
    (hn : ∀ x, (enc x).length = n) (h1 : ∀ x, ∀ u ∈ enc x, u.oneCell' = true)
    (w : World) (hs : a.eval s = v) (hown : Own enc n base E w v L) (hbw : base ≤ w.heap.size) (y : α) (cs : List Value) (hcs : cs = enc y) (c : Nat) (hx : a.eval x = .slice (some ⟨w.heap.size, 0, none⟩) 1 c)
    (h63 : L.length + 1 ≤ maxLen) (hbytes : (L.length + 1) * bytes ≤ 140737488355328)
    (h : ∀ v' w', Own enc n base E w' v' (L ++ [y]) → w.grownBy w' v.ownBlock → (v'.ownBlock = v.ownBlock ∨ v'.ownBlock = some (w.heap.size + 1)) → wpList P ops Q rest (a.put o.dst v') w') : wpList P ops Q (o :: rest) a (w.alloc (.cells cs.toArray E)) := by
  subst hcs
  refine wpList_append_own_at _ hgd s x t ho base E i z n bytes ht HI.out.1 HI.out.2.1 HI.out.2.2.1 HI.out.2.2.2 hzs hn0 v L.length (rows enc L) hs (hown.alloc _) ⟨w.heap.size, 0, none⟩ 1 c (enc y) hx (by rw [hn]; omega) ?_ (h1 y) h63 hbytes (by simp; omega) ?_
  · intro j u hj
    have hA := Blk.new w (enc y) E
    have : (⟨w.heap.size, 0, none⟩ : Addr).add j = ⟨w.heap.size, j, none⟩ := by unfold Addr.add; split <;> simp_all
    rw [this, hA.cell j]
    exact hj
  · intro v' w' hown' hg _ hat
    have hg' : w.grownBy w' v.ownBlock := by
      have h0 := World.grownBy_alloc w (.cells (enc y).toArray E) v.ownBlock
      exact ⟨hg.os.trans h0.os, hg.tape.trans h0.tape, hg.output.trans h0.output, Nat.le_trans h0.size hg.size, fun k hk hne => (hg.block k (Nat.lt_of_lt_of_le hk h0.size) hne).trans (h0.block k hk hne)⟩
    refine h v' w' ?_ hg' ?_
    · have : rows enc (L ++ [y]) = rows enc L ++ enc y := by simp [rows]
      unfold Own
      rw [this, List.length_append]
      exact hown'
    · simpa using hat
theorem intinfo : (Try.prog.info? 3).map (fun i => (i.zero, i.size, i.bytes)) = some (some (.int .i64 0), 1, 8) := by kernel_rfl
theorem intinfo' : ∃ i0, Hid (Try.prog.info? 3 = some i0 ∧ i0.zero = some (.int .i64 0) ∧ i0.size = 1 ∧ i0.bytes = 8) := by
  obtain ⟨i0, hi, hz0, hz1, hz2⟩ := info_parts intinfo
  exact ⟨i0, hi, hz0, hz1, hz2⟩

def place0 : Place := ⟨jar0, 0, 0⟩
def rk0 (bm : Nat) (budget : Int) : List Value := rows Place.cells (List.replicate 65 place0) ++ [.slice none 0 0, .map (some bm), .int .i64 budget, .int .i64 0, .int .i64 0]
set_option maxRecDepth 100000 in
theorem rk0_built (bm : Nat) (budget : Int) : Try.prog.built 100 [(2, .map (some bm)), (3, .int .i64 budget)] = some (rk0 bm budget).toArray := by kernel_rfl

theorem wpList_buildRk {ops : Array Oper} {rest : List Oper} {o : Oper} {a : Act} {w : World} {Q : Exit → Act → World → Prop} (hg : o.guard = none) {u v : Value} {cs : List Value} (HB : Hid (Try.prog.built 100 [(2, u), (3, v)] = some cs.toArray)) (x y : Operand)
    (ho : o.op = .build 100 #[(2, x), (3, y)]) (hx : a.eval x = u) (hy : a.eval y = v) (d : Option Tmp) (hd : o.dst = d) (h : wpList Try.prog ops Q rest (a.put d (.agg cs.toArray)) w) : wpList Try.prog ops Q (o :: rest) a w :=
  wpList_buildTo hg _ _ ho d hd cs.toArray (by
    have e : (#[(2, x), (3, y)].map fun (i, x) => (i, a.eval x)).toList = [(2, u), (3, v)] := by simp [hx, hy]
    rw [e]
    exact HB.out) h
theorem rack_New_bad (budget : Int) (w : World) (h : budget < 0 ∨ 1099511627776 < budget) :
    Calls Try.prog 16 #[.int .i64 budget] w fun e w' => e = .returned (.tuple #[.pointer none, .int .i64 1]) ∧ Keep [] w w' := by
  rcases h with h | h
  · go_enter Try.func16, Try.ntmps16
    go_wp2_with fail
    go_ret2
    exact ⟨rfl, Keep.refl _ _⟩
  · have h' : ¬ budget < 0 := by omega
    go_enter Try.func16, Try.ntmps16
    go_wp2_with fail
    go_ret2
    exact ⟨rfl, Keep.refl _ _⟩
def freeL (k : Nat) : List Nat := (List.range k).map fun j => 64 - j
theorem freeL_succ (k : Nat) : freeL (k + 1) = freeL k ++ [64 - k] := by simp [freeL, List.range_succ]
theorem freeL_all : freeL 64 = (List.range' 1 64).reverse := by decide
theorem ring0 : Ring (List.replicate 65 place0) [] (freeL 64) (fun _ => 0) := by
  refine ⟨by simp, ⟨rfl, rfl⟩, ?_, fun d h => absurd rfl h, fun i h => by simp at h⟩
  rw [List.nil_append, freeL_all]
  exact List.reverse_perm _
theorem rk0_blk {w : World} {b bm : Nat} {budget : Int} (h : Blk w b 100 (rk0 bm budget)) : RkBlk w b (List.replicate 65 place0) (.slice none 0 0) bm budget 0 0 := ⟨by simp, h⟩
structure NewRk (w wr : World) (b bm : Nat) (budget : Int) (fv : Value) (k : Nat) : Prop where
  blk : RkBlk wr b (List.replicate 65 place0) fv bm budget 0 0
  map : MapIs wr bm (fun _ => 0) 0
  own : Own intC 1 w.heap.size 3 wr fv (freeL k)
  nf : ∀ g, fv.ownBlock = some g → g ≠ b ∧ g ≠ bm
  ne : bm ≠ b
  keep : Keep [] w wr
theorem NewRk.store {w wr w1 : World} {b bm : Nat} {budget : Int} {fv v' : Value} {k : Nat} (h : NewRk w wr b bm budget fv k) (ho : Own intC 1 w.heap.size 3 w1 v' (freeL k ++ [64 - k])) (hg : wr.grownBy w1 fv.ownBlock) (hat : v'.ownBlock = fv.ownBlock ∨ v'.ownBlock = some (wr.heap.size + 1)) (hb : w.heap.size ≤ b) :
    RkBlk w1 b (List.replicate 65 place0) fv bm budget 0 0 ∧ NewRk w (w1.setCell ⟨b, 2405, none⟩ v') b bm budget v' (k + 1) := by
  have hk1 : Keep [] w w1 := h.keep.grown hg (fun g hg' hlt => by have := (h.own.lt g hg').1; omega)
  have hkr : Keep fv.ownBlock.toList wr w1 := (Keep.refl _ _).grown hg (fun g hg' _ => by simp [hg'])
  have hnb : b ∉ fv.ownBlock.toList := fun hm => (h.nf b (by simpa using hm)).1 rfl
  have hnm : bm ∉ fv.ownBlock.toList := fun hm => (h.nf bm (by simpa using hm)).2 rfl
  have hb1 := h.blk.keep hkr hnb
  have hlb := h.blk.2.lt
  have hlm := h.map.lt
  have hnf : ∀ g, v'.ownBlock = some g → g ≠ b ∧ g ≠ bm := fun g hg' => by
    rcases hat with e | e
    · exact h.nf g (e ▸ hg')
    · rw [e] at hg'
      simp at hg'
      omega
  have hks : Keep [b] w1 (w1.setCell ⟨b, 2405, none⟩ v') := (Keep.refl _ _).setCell _ _ (by simp)
  refine ⟨hb1, hb1.setTail 0 v' v' bm budget 0 0 rfl, (h.map.keep hkr hnm).keep hks (by simp; exact h.ne), ?_, hnf, h.ne, hk1.setCell _ _ (by simp; omega)⟩
  rw [freeL_succ]
  exact ho.keep hks (fun g hg' => by simp; exact (hnf g hg').1)

set_option maxRecDepth 100000 in
set_option maxHeartbeats 1000000 in
theorem rack_New (budget : Int) (w : World) (h0 : 0 ≤ budget) (h1 : budget ≤ 1099511627776) :
    Calls Try.prog 16 #[.int .i64 budget] w fun e w' => ∃ b S, e = .returned (.tuple #[.pointer (some ⟨b, 0, none⟩), .int .i64 0]) ∧ Rk S w' b budget [] ∧ (∀ k ∈ S, w.heap.size ≤ k) ∧ Keep [] w w' := by
  have h1' : ¬ budget > 1099511627776 := by omega
  have h0' : ¬ budget < 0 := by omega
  clear h0 h1
  have hbu := rk0_built w.heap.size budget
  have hN : NewRk w ((w.alloc (.map #[] 0)).alloc (.cells (rk0 w.heap.size budget).toArray 100)) (w.heap.size + 1) w.heap.size budget (.slice none 0 0) 0 := by
    have hb := Blk.newA (w.alloc (.map #[] 0)) (rk0 w.heap.size budget).toArray 100
    simp at hb
    exact ⟨rk0_blk hb, (MapIs.made w).alloc _, Own.nil _ _ _ _ _, by simp [Value.ownBlock], by omega, ((Keep.refl _ _).alloc _).alloc _⟩
  generalize rk0 w.heap.size budget = cs at hbu hN
  have HBU := Lib.hid hbu
  obtain ⟨is, Hs⟩ := intinfo'
  clear hbu
  have hmm := @run_makeMap Try.prog
  go_enter Try.func16, Try.ntmps16
  go_wp2_with (first
    | (refine wpList_buildRk rfl HBU _ _ rfl (by rfl) (by rfl) (some 14) rfl ?_)
    | fail)
  generalize hwA : (w.alloc (.map #[] 0)).alloc (.cells cs.toArray 100) = wA at hN
  try rw [hwA]
  clear hwA

  go_loopg [5] 64 (fun g s5 wr => ∃ (k : Nat) (fv : Value), s5 = .int .i64 (64 - (k : Int)) ∧ k ≤ 64 ∧ g = 64 - k ∧ Hid (NewRk w wr (w.heap.size + 1) w.heap.size budget fv k))
  case atStart => exact ⟨0, _, rfl, by omega, rfl, Lib.hid hN⟩
  case round =>
    obtain ⟨k, fv, rfl, hk, hgk, HN⟩ := hrel
    clear hN
    by_cases hlt : k < 64
    · have c5 : wr.cell? ⟨w.heap.size + 1, 2405, none⟩ = some fv := HN.out.blk.tail 0
      have hgt : ((64 - k : Nat) : Int) > 0 := by omega
      have hfl : (freeL k).length = k := by simp [freeL]
      have hsz := HN.out.keep.size
      have hnat : (64 - (k : Int)) = ((64 - k : Nat) : Int) := by omega
      have hw1 := IntWalk.i64_in (((64 - k : Nat) : Int) - 1) (by omega)
      go_wp2_with (first
        | (at_builtin; go_must (refine wpList_append5 rfl _ _ 38 rfl is _ 8 Try.underlying38 Hs (by rfl) (by decide) intC_length intC_one wr (by rfl) HN.out.own hsz (64 - k) _ (by rfl) _ (by rfl) (by rw [hfl]; show k + 1 ≤ 9223372036854775807; omega) (by rw [hfl]; omega) ?_); intro v' w1 hown' hg' hat'; obtain ⟨va, vc, rfl, _⟩ := hown'.shape; have hst := HN.out.store hown' hg' hat' (by omega); have d5 : w1.cell? ⟨w.heap.size + 1, 2405, none⟩ = some fv := hst.1.tail 0; have f5 := hst.1.2.frozen; have hN2 := Lib.hid hst.2; clear hst)
        | fail)
      go_roundg (64 - (k + 1))
      case measure => omega
      case rel =>
        rw [show (freeL k ++ [64 - k]).length = k + 1 by simp [hfl]] at hN2
        exact ⟨k + 1, _, congrArg (Value.int .i64) (by omega), by omega, by omega, hN2⟩
    · have hke : k = 64 := by omega
      subst hke
      go_wp2_with fail
      go_ret2
      refine ⟨_, w.heap.size :: (w.heap.size + 1) :: fv.ownBlock.toList, rfl, ⟨List.replicate 65 place0, fv, w.heap.size, 0, 0, fun _ => 0, [], freeL 64, ⟨HN.out.blk, HN.out.map, HN.out.own.lower (Nat.zero_le _), ring0, HN.out.ne, HN.out.nf, rfl, rfl, by simp⟩, rfl, by simp, by simp, fun g hg => by simp [hg]⟩, ?_, HN.out.keep⟩
      intro x hx
      simp at hx
      rcases hx with rfl | rfl | hx
      · omega
      · omega
      · exact (HN.out.own.lt x hx).1
end Go.Proofs.Ytbfnpoknamajnaa
