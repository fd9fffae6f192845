/- Layer 21: the document's rack: without, Sums. No conditions. -/
import Derived.Test.YtbfnpoknamajnaaRkB
import Derived.Laws.AppendOwnNone
namespace Go.Proofs.Ytbfnpoknamajnaa
open Go.RowKit Go.Maps

/-- rows that can be read -/
def Src {α : Type} (enc : α → List Value) (n : Nat) (w : World) (v : Value) (M : List α) : Prop :=
  (v = .slice none 0 0 ∧ M = []) ∨ ∃ b off cap, v = .slice (some ⟨b, off, none⟩) M.length cap ∧ ∀ j u, (rows enc M)[j]? = some u → w.cell? ⟨b, off + j, none⟩ = some u
/-- 'out = append(out, xs...)', out the call's own -/
theorem wpList_appendM {P : Program} {ops : Array Oper} {rest : List Oper} {o : Oper} {a : Act} {Q : Exit → Act → World → Prop} (hgd : o.guard = none) (s x : Operand) (t : TypeId)
    (ho : o.op = .call { callee := .builtin .append, args := #[s, x], argTypes := #[t, t] })
    {α : Type} {enc : α → List Value} {n : Nat} {E : TypeId} {L M : List α} {v vx : Value}
    (i : TypeInfo) (z : Value) (bytes : Nat) (ht : P.underlying t = some (.slice E)) (HI : Hid (P.info? E = some i ∧ i.zero = some z ∧ i.size = n ∧ i.bytes = bytes)) (hzs : z.cells.size = n) (hn0 : 0 < n)
    (hn : ∀ x, (enc x).length = n) (h1 : ∀ x, ∀ u ∈ enc x, u.oneCell' = true)
    (w : World) (hs : a.eval s = v) (hown : Own enc n 0 E w v L) (hx : a.eval x = vx) (hsrc : Src enc n w vx M)
    (h63 : L.length + M.length ≤ maxLen) (hbytes : (L.length + M.length) * bytes ≤ 140737488355328)
    (h : ∀ v' w', Own enc n 0 E w' v' (L ++ M) → w.grownBy w' v.ownBlock → (v'.ownBlock = v.ownBlock ∨ v'.ownBlock = some w.heap.size) → wpList P ops Q rest (a.put o.dst v') w') : wpList P ops Q (o :: rest) a w := by
  rcases hsrc with ⟨rfl, rfl⟩ | ⟨b, off, cap, rfl, hr⟩
  · refine wpList_append_own_none hgd s x t ho 0 E i n ht HI.out.1 v _ _ hs hown hx ?_
    refine h v w (by rw [List.append_nil]; exact hown) ⟨rfl, rfl, rfl, Nat.le_refl _, fun _ _ _ => rfl⟩ (.inl rfl)
  · refine wpList_append_own_at _ hgd s x t ho 0 E i z n bytes ht HI.out.1 HI.out.2.1 HI.out.2.2.1 HI.out.2.2.2 hzs hn0 v L.length (rows enc L) hs hown ⟨b, off, none⟩ M.length cap (rows enc M) hx (by rw [rows_length hn M, Nat.mul_comm]) ?_ ?_ h63 hbytes (Nat.zero_le _) ?_
    · intro j u hj
      have : (⟨b, off, none⟩ : Addr).add j = ⟨b, off + j, none⟩ := by unfold Addr.add; split <;> simp_all
      rw [this]
      exact hr j u hj
    · intro u hu
      unfold rows at hu
      obtain ⟨l, hl, hu⟩ := List.mem_flatMap.1 hu
      exact h1 l u hu
    · intro v' w' hown' hg _ hat
      refine h v' w' ?_ hg hat
      unfold Own
      rw [List.length_append, show rows enc (L ++ M) = rows enc L ++ rows enc M by simp [rows]]
      exact hown'
theorem rows_append {α : Type} (enc : α → List Value) (A B : List α) : rows enc (A ++ B) = rows enc A ++ rows enc B := by simp [rows]
theorem own_src {w : World} {v : Value} {L : List Jar} (h : Own Jar.cells 35 0 46 w v L) : Src Jar.cells 35 w v L := by
  rcases h.2 with ⟨rfl, h0⟩ | ⟨g, cap, cur, rfl, hb, hg, h1, h2, h3, h4⟩
  · exact .inl ⟨rfl, List.eq_nil_of_length_eq_zero h0⟩
  · refine .inr ⟨g, 0, cap, rfl, fun j u hj => ?_⟩
    have := World.ownsRow.cells h (g := g) rfl j u hj
    have e : (⟨g, 0, none⟩ : Addr).add j = ⟨g, 0 + j, none⟩ := by unfold Addr.add; split <;> simp_all
    rwa [e] at this
theorem src_take {w : World} {L : List Jar} {g cap i : Nat} (h : Own Jar.cells 35 0 46 w (.slice (some ⟨g, 0, none⟩) L.length cap) L) (hi : i ≤ L.length) : Src Jar.cells 35 w (.slice (some ⟨g, 0, none⟩) i cap) (L.take i) := by
  refine .inr ⟨g, 0, cap, by rw [List.length_take, Nat.min_eq_left hi], fun j u hj => ?_⟩
  have hrow : (rows Jar.cells L)[j]? = some u := by
    have : rows Jar.cells L = rows Jar.cells (L.take i) ++ rows Jar.cells (L.drop i) := by rw [← rows_append, List.take_append_drop]
    rw [this, List.getElem?_append_left (List.getElem?_eq_some_iff.1 hj).1]
    exact hj
  have := World.ownsRow.cells h (g := g) rfl j u hrow
  have e : (⟨g, 0, none⟩ : Addr).add j = ⟨g, 0 + j, none⟩ := by unfold Addr.add; split <;> simp_all
  rwa [e] at this
theorem src_drop {w : World} {L : List Jar} {g cap i c : Nat} (h : Own Jar.cells 35 0 46 w (.slice (some ⟨g, 0, none⟩) L.length cap) L) (hi : i ≤ L.length) : Src Jar.cells 35 w (.slice (some ⟨g, i * 35, none⟩) (L.length - i) c) (L.drop i) := by
  refine .inr ⟨g, i * 35, c, by rw [List.length_drop], fun j u hj => ?_⟩
  have hl : (rows Jar.cells (L.take i)).length = i * 35 := by rw [rows_length Jar.cells_length, List.length_take, Nat.min_eq_left hi, Nat.mul_comm]
  have hrow : (rows Jar.cells L)[i * 35 + j]? = some u := by
    have : rows Jar.cells L = rows Jar.cells (L.take i) ++ rows Jar.cells (L.drop i) := by rw [← rows_append, List.take_append_drop]
    rw [this, List.getElem?_append_right (by omega), hl, Nat.add_sub_cancel_left]
    exact hj
  have := World.ownsRow.cells h (g := g) rfl _ u hrow
  have e : (⟨g, 0, none⟩ : Addr).add (i * 35 + j) = ⟨g, i * 35 + j, none⟩ := by unfold Addr.add; split <;> simp_all
  rwa [e] at this
theorem src_from {w : World} {L : List Jar} {g cap i : Nat} (h : Own Jar.cells 35 0 46 w (.slice (some ⟨g, 0, none⟩) L.length cap) L) (hi : i ≤ L.length) (hc : L.length ≤ cap) : Src Jar.cells 35 w (.slice (if cap = i then some ⟨g, 0, none⟩ else some ⟨g, i * 35, none⟩) (L.length - i) (cap - i)) (L.drop i) := by
  by_cases he : cap = i
  · rw [if_pos he]
    have hn : L.drop i = [] := List.drop_of_length_le (by omega)
    rw [hn, show L.length - i = 0 by omega]
    exact .inr ⟨g, 0, cap - i, rfl, fun j u hj => by simp [rows] at hj⟩
  · rw [if_neg he]
    exact src_drop h hi
set_option maxRecDepth 100000 in
set_option maxHeartbeats 1000000 in
theorem ref_without (u : Nat) (v : Value) (L : List Jar) (budget : Int) (i : Nat) (w : World) (h : Dk w u v L budget) (hi : i < L.length) (hL : L.length ≤ 64) :
    Calls Try.prog 59 #[.pointer (some ⟨u, 0, none⟩), .int .i64 i] w fun e w' => ∃ v', e = .returned v' ∧ Own Jar.cells 35 0 46 w' v' (L.take i ++ L.drop (i + 1)) ∧ (∀ g, v'.ownBlock = some g → w.heap.size ≤ g) ∧ Keep [] w w' := by
  obtain ⟨g, cap, hv, hle, hcm, _⟩ := own_at h.own (List.getElem?_eq_getElem hi)
  subst hv
  have c0 := h.blk.get (k := 0) rfl
  have h0 : (0 : Int) ≤ (i : Int) := by omega
  have h1 : (i : Int) ≤ (L.length : Int) := by omega
  have h1' : (i : Int) ≤ (cap : Int) := by omega
  have h2 : (0 : Int) ≤ (i : Int) + 1 := by omega
  have h3 : (i : Int) + 1 ≤ (L.length : Int) := by omega
  have h4 := IntWalk.i64_in ((i : Int) + 1) (by omega)
  have hkA := (Keep.refl [] w).alloc (.cells #[] 46)
  have hA := h.keep0 hkA
  have cA := hA.blk.get (k := 0) rfl
  have hN := Own.none (base := 0) Jar.cells 35 46 w (Nat.zero_le _)
  have hsrc := src_take hA.own (Nat.le_of_lt hi)
  have HH := Lib.hid (And.intro hA.blk (And.intro hA.own hA.ne))
  have HK := Lib.hid hkA
  have HSZ := Lib.hid (show (w.alloc (.cells #[] 46)).heap.size = w.heap.size + 1 by simp)
  have HG := Lib.hid (h.own.lt g rfl).2
  have HU := Lib.hid h.blk.lt
  generalize hwA : w.alloc (.cells #[] 46) = wA at *
  have HN := Lib.hid hN
  have HS := Lib.hid hsrc
  have HNE := Lib.hid h.ne
  obtain ⟨is, Hs⟩ := jarinfo'
  clear hkA hA hN hsrc h c0
  go_enter Try.func59, Try.ntmps59
  go_wp2_with (first
    | (at_builtin; (refine wpList_appendM (o := _) rfl (.tmp 6) (.tmp 12) 72 rfl (v := .slice (some ⟨w.heap.size, 0, none⟩) 0 0) (vx := .slice (some ⟨g, 0, none⟩) i cap) is _ 64 Try.underlying72 Hs (by rfl) (by decide) Jar.cells_length Jar.one wA ?_ HN.out ?_ HS.out (by simp [maxLen]; omega) (by simp; omega) ?_)
       rfl
       rfl
       intro v1 w1 hown1 hg1 hat1
       have hk1 : Keep [] w w1 := HK.out.grown hg1 (fun g hg hlt => by simp [Value.ownBlock] at hg; omega)
       have hgb : ∀ q, q < w.heap.size → w1.heap[q]? = wA.heap[q]? := fun q hq => hg1.block q (by have := HSZ.out; omega) (fun e => by simp [Value.ownBlock] at e; omega)
       have hb1 : Blk w1 u 74 _ := (hgb u HU.out).trans HH.out.1
       have c1 := hb1.get (k := 0) rfl
       have ho1 := HH.out.2.1.grown hg1 (.inr (fun e => by simp [Value.ownBlock] at e; have := HG.out; omega))
       have HS1 := Lib.hid (src_from (i := i + 1) ho1 (by omega) hle)
       have HO1 := Lib.hid hown1
       have HK1 := Lib.hid hk1
       have HV1 : Hid (∀ q, v1.ownBlock = some q → w.heap.size ≤ q) := fun q hq => by
         rcases hat1 with e | e
         · rw [e] at hq; simp [Value.ownBlock] at hq; omega
         · rw [e] at hq; simp at hq; have := HSZ.out; omega
       clear hg1 hgb hb1 ho1 hown1 hk1 hat1 cA)
    | (at_builtin; go_must (refine wpList_appendM (o := _) rfl (.tmp 14) (.tmp 21) 72 rfl (v := v1) (vx := .slice (if cap = i + 1 then some ⟨g, 0, none⟩ else some ⟨g, (i + 1) * 35, none⟩) (L.length - (i + 1)) (cap - (i + 1))) is _ 64 Try.underlying72 Hs (by rfl) (by decide) Jar.cells_length Jar.one w1 ?_ HO1.out ?_ HS1.out (by simp [maxLen]; omega) (by simp; omega) ?_)
       rfl
       rfl
       intro v2 w2 hown2 hg2 hat2
       have HO2 := Lib.hid hown2
       have HK2 := Lib.hid (HK1.out.grown hg2 (fun q hq hlt => by have := HV1.out q hq; omega))
       have HV2 : Hid (∀ q, v2.ownBlock = some q → w.heap.size ≤ q) := fun q hq => by
         rcases hat2 with e | e
         · exact HV1.out q (e ▸ hq)
         · rw [e] at hq; simp at hq; have := HK1.out.size; omega
       clear hown2 hg2 hat2)
    | fail)
  all_goals
    go_ret
    exact ⟨v2, rfl, HO2.out, HV2.out, HK2.out⟩
theorem sum_take_snoc {L : List Jar} {k : Nat} {x : Jar} (hx : L[k]? = some x) (f : Jar → Int) : ((L.take (k + 1)).map f).sum = ((L.take k).map f).sum + f x := by
  rw [take_rev.take_snoc' hx]; simp
theorem sum_le {L : List Jar} {f : Jar → Int} (h : ∀ j ∈ L, 0 ≤ f j ∧ f j ≤ 1048576) : 0 ≤ (L.map f).sum ∧ (L.map f).sum ≤ 1048576 * L.length := by
  induction L with
  | nil => simp
  | cons x r ih =>
    have h1 := h x (by simp)
    have h2 := ih (fun j hj => h j (by simp [hj]))
    simp only [List.map_cons, List.sum_cons, List.length_cons]
    omega
set_option maxRecDepth 100000 in
set_option maxHeartbeats 1000000 in
theorem ref_Sums (u : Nat) (v : Value) (L : List Jar) (budget : Int) (w : World) (h : Dk w u v L budget) (hL : L.length ≤ 64) (hg : ∀ j ∈ L, okJar j) :
    Calls Try.prog 43 #[.pointer (some ⟨u, 0, none⟩)] w fun e w' => e = .returned (.tuple #[.int .i64 (sumL L), .int .i64 (usedL L)]) ∧ Keep [] w w' := by
  obtain ⟨a, cap, rfl, hml⟩ := h.own.shape
  have hml' : L.length ≤ 9223372036854775807 := hml
  have HD := Lib.hid (fun w' (k : Keep [] w w') => h.keep0 k)
  have HG := Lib.hid hg
  clear h hml hg
  go_enter Try.func43, Try.ntmps43
  go_wp2_with fail
  go_loopg [4, 5, 6] L.length (fun g s4 s5 s6 wr => ∃ k : Nat, s4 = .int .i64 (sumL (L.take k)) ∧ s5 = .int .i64 (usedL (L.take k)) ∧ s6 = .int .i64 k ∧ g = L.length - k ∧ k ≤ L.length ∧ Hid (Keep [] w wr))
  case atStart => exact ⟨0, rfl, rfl, rfl, by omega, by omega, Lib.hid (Keep.refl _ _)⟩
  case round =>
    obtain ⟨k, rfl, rfl, rfl, hgk, hk, HKr⟩ := hrel
    have c0 := (HD.out wr HKr.out).blk.get (k := 0) rfl
    by_cases hkl : k < L.length
    · obtain ⟨x, hx⟩ : ∃ x, L[k]? = some x := ⟨_, List.getElem?_eq_getElem hkl⟩
      obtain ⟨g', cap', hv, hle, hcm, hr⟩ := own_at (HD.out wr HKr.out).own hx
      cases hv
      have hkL : (k : Int) < (L.length : Int) := by omega
      have c33 := hr 33 (.int .i64 x.size) (by simp [Jar.cells, digC_length, List.getElem?_append])
      have c34 := hr 34 (.int .i64 x.pins) (by simp [Jar.cells, digC_length, List.getElem?_append])
      have hsx := sum_take_snoc hx (·.size)
      have hux := sum_take_snoc hx (fun x => if x.pins > 0 then x.size else 0)
      have hsl := sum_le (L := L.take k) (f := (·.size)) (fun j hj => by have := HG.out j (List.mem_of_mem_take hj); exact ⟨this.2.1, this.2.2.1⟩)
      have hul := sum_le (L := L.take k) (f := fun x => if x.pins > 0 then x.size else 0) (fun j hj => by have := HG.out j (List.mem_of_mem_take hj); show _ ∧ _; split <;> exact ⟨by have := this.2.1; omega, by have := this.2.2.1; omega⟩)
      have hgx := HG.out x (List.mem_of_getElem? hx)
      rw [List.length_take, Nat.min_eq_left hk] at hsl hul
      have hs' : sumL (L.take (k + 1)) = sumL (L.take k) + x.size := hsx
      have hu' : usedL (L.take (k + 1)) = usedL (L.take k) + (if x.pins > 0 then x.size else 0) := hux
      change 0 ≤ sumL (L.take k) ∧ sumL (L.take k) ≤ _ at hsl
      change 0 ≤ usedL (L.take k) ∧ usedL (L.take k) ≤ _ at hul
      generalize sumL (L.take k) = sa at *
      generalize usedL (L.take k) = sb at *
      obtain ⟨q1, q2, q3, q4, q5⟩ := hgx
      generalize x.size = xs at *
      generalize x.pins = xp at *
      have hw1 := IntWalk.i64_in (sa + xs) (by omega)
      have hw2 := IntWalk.i64_in (sb + xs) (by omega)
      clear hsx hux hr hx hle hcm
      by_cases hp : xp > 0
      · rw [if_pos hp] at hu'
        have HU := Lib.hid (And.intro hs' hu')
        have hp' : decide (0 < xp) = true := decide_eq_true hp
        clear hs' hu' q1 q2 q3 q4 q5 hsl hul
        go_wp2_with fail
        go_roundg (L.length - (k + 1))
        case measure => omega
        case rel => exact ⟨k + 1, by rw [HU.out.1], by rw [HU.out.2], rfl, rfl, by omega, HKr⟩
      · rw [if_neg hp, Int.add_zero] at hu'
        have HU := Lib.hid (And.intro hs' hu')
        have hp' : decide (0 < xp) = false := decide_eq_false hp
        clear hs' hu' q1 q2 q3 q4 q5 hsl hul
        go_wp2_with fail
        go_roundg (L.length - (k + 1))
        case measure => omega
        case rel => exact ⟨k + 1, by rw [HU.out.1], by rw [HU.out.2], rfl, rfl, by omega, HKr⟩
    · have HT := Lib.hid (List.take_of_length_le (show L.length ≤ k by omega))
      have hkl2 : ¬ (k : Int) < (L.length : Int) := by omega
      clear hkl
      go_wp2_with fail
      go_ret2
      refine ⟨?_, HKr.out⟩
      rw [HT.out]
      rfl
end Go.Proofs.Ytbfnpoknamajnaa
