/- Layer 16: bounds. No conditions but on lengths. -/
import Derived.Test.YthhnmfjfgbgjeaaDoorSl2
import Derived.Test.YthhnmfjfgbgjeaaDoorFldPm
namespace Go.Proofs.YthhnmfjfgbgjeaaDoor
open Go.RowKit Go.Shelf

structure Bds where
  ln : Int
  li : Bool
  hn : Int
  hi : Bool
  ok : Bool
def bdsM (l : List UInt8) : Bds :=
  if isUnitM l then
    let c := Lib.cut (l.drop 6) [45]
    ⟨numN c.1, numI c.1, numN c.2.1, numI c.2.1, c.2.2 && numK c.1 && numK c.2.1 && (numI c.1 || numI c.2.1) && !(numI c.1 && numI c.2.1 && decide (numN c.2.1 < numN c.1))⟩
  else ⟨0, false, 0, false, false⟩
def BdsOut (w : World) (r : Bds) (e : Ending) (w' : World) : Prop := e = .returned (.tuple #[.agg #[.int .i64 r.ln, .bool r.li], .agg #[.int .i64 r.hn, .bool r.hi], .bool r.ok]) ∧ Keep [] w w'

set_option maxRecDepth 100000 in
set_option maxHeartbeats 2000000 in
theorem slice_bounds (l : List UInt8) (w : World) (hm : ML w) (hl : l.length ≤ 1048576) :
    Calls Tryd.prog 30 #[.string (S l)] w (BdsOut w (bdsM l)) := by
  have hU := fun w1 => slice_isUnit l w1 (show l.length ≤ 9223372036854775807 by omega)
  have hC := fun w1 (k : Keep [] w w1) => strings_Cut (l.drop 6) ⟨#[45]⟩ w1 (hm.keep k (by simp)) (by simp; omega)
  have hlen := cut_len (l.drop 6) [45]
  have hB : bdsM l = if isUnitM l then ⟨numN (Lib.cut (l.drop 6) [45]).1, numI (Lib.cut (l.drop 6) [45]).1, numN (Lib.cut (l.drop 6) [45]).2.1, numI (Lib.cut (l.drop 6) [45]).2.1, (Lib.cut (l.drop 6) [45]).2.2 && numK (Lib.cut (l.drop 6) [45]).1 && numK (Lib.cut (l.drop 6) [45]).2.1 && (numI (Lib.cut (l.drop 6) [45]).1 || numI (Lib.cut (l.drop 6) [45]).2.1) && !(numI (Lib.cut (l.drop 6) [45]).1 && numI (Lib.cut (l.drop 6) [45]).2.1 && decide (numN (Lib.cut (l.drop 6) [45]).2.1 < numN (Lib.cut (l.drop 6) [45]).1))⟩ else ⟨0, false, 0, false, false⟩ := rfl
  have h6 : isUnitM l = true → 6 ≤ l.length := by
    intro h
    unfold isUnitM at h
    simp at h
    exact h.1
  change ∀ w1, Keep [] w w1 → Calls Tryd.prog 36 #[.string (S (l.drop 6)), .string ⟨#[45]⟩] w1 fun e w' => e = .returned (.tuple #[.string (S (Lib.cut (l.drop 6) [45]).1), .string (S (Lib.cut (l.drop 6) [45]).2.1), .bool (Lib.cut (l.drop 6) [45]).2.2]) ∧ Keep [] w1 w' at hC
  have hdl : (l.drop 6).length ≤ l.length := by simp
  generalize Lib.cut (l.drop 6) [45] = c at hC hlen hB
  obtain ⟨a, b, ok⟩ := c
  dsimp only at hC hlen hB
  have hA1 := fun w1 => slice_number a w1 (show a.length ≤ 9223372036854775807 by omega)
  have hA2 := fun w1 => slice_number b w1 (show b.length ≤ 9223372036854775807 by omega)
  unfold NumOut at hA1 hA2
  generalize numN a = an at hA1 hB
  generalize numI a = ai at hA1 hB
  generalize numK a = ak at hA1 hB
  generalize numN b = bn at hA2 hB
  generalize numI b = bi at hA2 hB
  generalize numK b = bk at hA2 hB
  generalize bdsM l = res at hB
  have hsz := S_size l
  have hbA := Blk.newA w #[.int .i64 0, .bool false] 58
  have hkA := (Keep.refl [] w).alloc (.cells #[.int .i64 0, .bool false] 58)
  have hbB : Blk ((w.alloc (.cells #[.int .i64 0, .bool false] 58)).alloc (.cells #[.int .i64 0, .bool false] 58)) (w.heap.size + 1) 58 [.int .i64 0, .bool false] := by
    have h := Blk.newA (w.alloc (.cells #[.int .i64 0, .bool false] 58)) #[.int .i64 0, .bool false] 58
    simpa using h
  have hkB := (Keep.refl [] (w.alloc (.cells #[.int .i64 0, .bool false] 58))).alloc (.cells #[.int .i64 0, .bool false] 58)
  have hbA2 := hkB.blk hbA (by simp)
  have hkB2 := hkA.trans hkB
  have hex : (S l).extract 6 l.length = S (l.drop 6) := by rw [S_extract, List.take_length]
  clear hkA hbA hkB
  generalize hwB : (w.alloc (.cells #[.int .i64 0, .bool false] 58)).alloc (.cells #[.int .i64 0, .bool false] 58) = wB at hbB hbA2 hkB2
  have HC := Lib.hid hC
  have HA1 := Lib.hid hA1
  have HA2 := Lib.hid hA2
  clear hC hA1 hA2 hlen hdl
  unfold BdsOut
  cases hu : isUnitM l with
  | false =>
    rw [hu] at hU hB
    simp only [Bool.false_eq_true, if_false] at hB
    have HB := Lib.hid hB
    have HU := Lib.hid hU
    clear hB hU h6 hu
    go_enter Tryd.func30, Tryd.ntmps30
    go_wp2_with fail
    refine (HU.out _).mono ?_
    rintro e w1 ⟨rfl, hk1⟩
    have L1 := hk1.blk hbA2 (by simp)
    have H1 := hk1.blk hbB (by simp)
    have K1 := hkB2.trans hk1
    have d0 := L1.get (k := 0) rfl
    have d1 := L1.get (k := 1) rfl
    have d2 := H1.get (k := 0) rfl
    have d3 := H1.get (k := 1) rfl
    have f1 := L1.frozen
    have f2 := H1.frozen
    clear hwB hbA2 hbB hkB2 hk1
    go_wp2_with fail
    -- FALSE
    go_region
    go_wp2_with fail
    have L2 := (L1.set 0 (.int .i64 0)).set 1 (.bool false)
    have L3 := ((L2.setOther (a := ⟨w.heap.size + 1, 0, none⟩) (by simp) (.int .i64 0)).setOther (a := ⟨w.heap.size + 1, 1, none⟩) (by simp) (.bool false)).drew
    have H2 := ((((H1.setOther (a := ⟨w.heap.size, 0, none⟩) (by simp) (.int .i64 0)).setOther (a := ⟨w.heap.size, 1, none⟩) (by simp) (.bool false)).set 0 (.int .i64 0)).set 1 (.bool false)).drew
    have K2 := ((((K1.setCell ⟨w.heap.size, 0, none⟩ (.int .i64 0) (by simp)).setCell ⟨w.heap.size, 1, none⟩ (.bool false) (by simp)).setCell ⟨w.heap.size + 1, 0, none⟩ (.int .i64 0) (by simp)).setCell ⟨w.heap.size + 1, 1, none⟩ (.bool false) (by simp)).drew
    generalize ((((w1.setCell ⟨w.heap.size, 0, none⟩ (.int .i64 0)).setCell ⟨w.heap.size, 1, none⟩ (.bool false)).setCell ⟨w.heap.size + 1, 0, none⟩ (.int .i64 0)).setCell ⟨w.heap.size + 1, 1, none⟩ (.bool false)).drew = wF at L3 H2 K2 ⊢
    have e0 := L3.get (k := 0) rfl
    have e1 := L3.get (k := 1) rfl
    have e2 := H2.get (k := 0) rfl
    have e3 := H2.get (k := 1) rfl
    refine bodyPost_ret (v := .tuple #[.agg #[.int .i64 0, .bool false], .agg #[.int .i64 0, .bool false], .bool false]) (by simp [results, Tryd.results30, go_sem, e0, e1, e2, e3]) rfl ⟨by rw [HB.out], K2⟩
  | true =>
    rw [hu] at hU hB
    simp only [if_true] at hB
    have HB := Lib.hid hB
    have HU := Lib.hid hU
    have h6 := h6 hu
    clear hB hU hu
    go_enter Tryd.func30, Tryd.ntmps30
    go_wp2_with fail
    refine (HU.out _).mono ?_
    rintro e w1 ⟨rfl, hk1⟩
    have L1 := Lib.hid (hk1.blk hbA2 (by simp))
    have H1 := Lib.hid (hk1.blk hbB (by simp))
    have K1 := Lib.hid (hkB2.trans hk1)
    clear hwB hbA2 hbB hkB2 hk1
    go_wp2_with fail
    refine (HC.out _ K1.out).mono ?_
    rintro e w2 ⟨rfl, hk2⟩
    go_wp2_with fail
    refine (HA1.out _).mono ?_
    rintro e w3 ⟨rfl, hk3⟩
    have L3 := (hk2.trans hk3).blk L1.out (by simp)
    have H3 := Lib.hid ((hk2.trans hk3).blk H1.out (by simp))
    have K3 := Lib.hid ((K1.out.trans hk2).trans hk3)
    have d0 := L3.get (k := 0) rfl
    have d1 := L3.get (k := 1) rfl
    have f1 := L3.frozen
    clear hk2 hk3 K1 L1 H1
    go_wp2_with fail
    refine (HA2.out _).mono ?_
    rintro e w5 ⟨rfl, hk5⟩
    have HL5 := Lib.hid (hk5.blk ((L3.set 0 (.int .i64 an)).set 1 (.bool ai)) (by simp))
    have h5' := hk5.blk ((H3.out.setOther (a := ⟨w.heap.size, 0, none⟩) (by simp) (.int .i64 an)).setOther (a := ⟨w.heap.size, 1, none⟩) (by simp) (.bool ai)) (by simp)
    have K5 := Lib.hid (((K3.out.setCell ⟨w.heap.size, 0, none⟩ (.int .i64 an) (by simp)).setCell ⟨w.heap.size, 1, none⟩ (.bool ai) (by simp)).trans hk5)
    have g0 := h5'.get (k := 0) rfl
    have g1 := h5'.get (k := 1) rfl
    have g2 := h5'.frozen
    clear hk5 L3 d0 d1 f1
    go_upto_region 6 with fail
    have H6 := (h5'.set 0 (.int .i64 bn)).set 1 (.bool bi)
    have L6 := (HL5.out.setOther (a := ⟨w.heap.size + 1, 0, none⟩) (by simp) (.int .i64 bn)).setOther (a := ⟨w.heap.size + 1, 1, none⟩) (by simp) (.bool bi)
    have K6 := (K5.out.setCell ⟨w.heap.size + 1, 0, none⟩ (.int .i64 bn) (by simp)).setCell ⟨w.heap.size + 1, 1, none⟩ (.bool bi) (by simp)
    generalize (w5.setCell ⟨w.heap.size + 1, 0, none⟩ (.int .i64 bn)).setCell ⟨w.heap.size + 1, 1, none⟩ (.bool bi) = w6 at H6 L6 K6 ⊢
    have c0 := L6.get (k := 0) rfl
    have c1 := L6.get (k := 1) rfl
    have c2 := H6.get (k := 0) rfl
    have c3 := H6.get (k := 1) rfl
    have n1 := L6.frozen
    have n2 := H6.frozen
    clear h5' g0 g1 g2 HL5 K5
    cases ok with
    | false =>
      go_wp2_with fail
      go_region
      go_wp2_with fail
      have L2 := (L6.set 0 (.int .i64 an)).set 1 (.bool ai)
      have L3 := ((L2.setOther (a := ⟨w.heap.size + 1, 0, none⟩) (by simp) (.int .i64 bn)).setOther (a := ⟨w.heap.size + 1, 1, none⟩) (by simp) (.bool bi)).drew
      have H2 := ((((H6.setOther (a := ⟨w.heap.size, 0, none⟩) (by simp) (.int .i64 an)).setOther (a := ⟨w.heap.size, 1, none⟩) (by simp) (.bool ai)).set 0 (.int .i64 bn)).set 1 (.bool bi)).drew
      have K2 := ((((K6.setCell ⟨w.heap.size, 0, none⟩ (.int .i64 an) (by simp)).setCell ⟨w.heap.size, 1, none⟩ (.bool ai) (by simp)).setCell ⟨w.heap.size + 1, 0, none⟩ (.int .i64 bn) (by simp)).setCell ⟨w.heap.size + 1, 1, none⟩ (.bool bi) (by simp)).drew
      generalize ((((w6.setCell ⟨w.heap.size, 0, none⟩ (.int .i64 an)).setCell ⟨w.heap.size, 1, none⟩ (.bool ai)).setCell ⟨w.heap.size + 1, 0, none⟩ (.int .i64 bn)).setCell ⟨w.heap.size + 1, 1, none⟩ (.bool bi)).drew = wF at L3 H2 K2 ⊢
      have e0 := L3.get (k := 0) rfl
      have e1 := L3.get (k := 1) rfl
      have e2 := H2.get (k := 0) rfl
      have e3 := H2.get (k := 1) rfl
      refine bodyPost_ret (v := .tuple #[.agg #[.int .i64 an, .bool ai], .agg #[.int .i64 bn, .bool bi], .bool false]) (by simp [results, Tryd.results30, go_sem, e0, e1, e2, e3]) rfl ⟨by rw [HB.out]; simp, K2⟩
    | true =>
      cases ak with
      | false =>
        go_wp2_with fail
        go_region
        go_wp2_with fail
        have L2 := (L6.set 0 (.int .i64 an)).set 1 (.bool ai)
        have L3 := ((L2.setOther (a := ⟨w.heap.size + 1, 0, none⟩) (by simp) (.int .i64 bn)).setOther (a := ⟨w.heap.size + 1, 1, none⟩) (by simp) (.bool bi)).drew
        have H2 := ((((H6.setOther (a := ⟨w.heap.size, 0, none⟩) (by simp) (.int .i64 an)).setOther (a := ⟨w.heap.size, 1, none⟩) (by simp) (.bool ai)).set 0 (.int .i64 bn)).set 1 (.bool bi)).drew
        have K2 := ((((K6.setCell ⟨w.heap.size, 0, none⟩ (.int .i64 an) (by simp)).setCell ⟨w.heap.size, 1, none⟩ (.bool ai) (by simp)).setCell ⟨w.heap.size + 1, 0, none⟩ (.int .i64 bn) (by simp)).setCell ⟨w.heap.size + 1, 1, none⟩ (.bool bi) (by simp)).drew
        generalize ((((w6.setCell ⟨w.heap.size, 0, none⟩ (.int .i64 an)).setCell ⟨w.heap.size, 1, none⟩ (.bool ai)).setCell ⟨w.heap.size + 1, 0, none⟩ (.int .i64 bn)).setCell ⟨w.heap.size + 1, 1, none⟩ (.bool bi)).drew = wF at L3 H2 K2 ⊢
        have e0 := L3.get (k := 0) rfl
        have e1 := L3.get (k := 1) rfl
        have e2 := H2.get (k := 0) rfl
        have e3 := H2.get (k := 1) rfl
        refine bodyPost_ret (v := .tuple #[.agg #[.int .i64 an, .bool ai], .agg #[.int .i64 bn, .bool bi], .bool false]) (by simp [results, Tryd.results30, go_sem, e0, e1, e2, e3]) rfl ⟨by rw [HB.out]; simp, K2⟩
      | true =>
        cases bk with
        | false =>
          go_wp2_with fail
          go_region
          go_wp2_with fail
          have L2 := (L6.set 0 (.int .i64 an)).set 1 (.bool ai)
          have L3 := ((L2.setOther (a := ⟨w.heap.size + 1, 0, none⟩) (by simp) (.int .i64 bn)).setOther (a := ⟨w.heap.size + 1, 1, none⟩) (by simp) (.bool bi)).drew
          have H2 := ((((H6.setOther (a := ⟨w.heap.size, 0, none⟩) (by simp) (.int .i64 an)).setOther (a := ⟨w.heap.size, 1, none⟩) (by simp) (.bool ai)).set 0 (.int .i64 bn)).set 1 (.bool bi)).drew
          have K2 := ((((K6.setCell ⟨w.heap.size, 0, none⟩ (.int .i64 an) (by simp)).setCell ⟨w.heap.size, 1, none⟩ (.bool ai) (by simp)).setCell ⟨w.heap.size + 1, 0, none⟩ (.int .i64 bn) (by simp)).setCell ⟨w.heap.size + 1, 1, none⟩ (.bool bi) (by simp)).drew
          generalize ((((w6.setCell ⟨w.heap.size, 0, none⟩ (.int .i64 an)).setCell ⟨w.heap.size, 1, none⟩ (.bool ai)).setCell ⟨w.heap.size + 1, 0, none⟩ (.int .i64 bn)).setCell ⟨w.heap.size + 1, 1, none⟩ (.bool bi)).drew = wF at L3 H2 K2 ⊢
          have e0 := L3.get (k := 0) rfl
          have e1 := L3.get (k := 1) rfl
          have e2 := H2.get (k := 0) rfl
          have e3 := H2.get (k := 1) rfl
          refine bodyPost_ret (v := .tuple #[.agg #[.int .i64 an, .bool ai], .agg #[.int .i64 bn, .bool bi], .bool false]) (by simp [results, Tryd.results30, go_sem, e0, e1, e2, e3]) rfl ⟨by rw [HB.out]; simp, K2⟩
        | true =>
          cases ai with
          | false =>
            cases bi with
            | false =>
              go_wp2_with fail
              go_region
              go_wp2_with fail
              have L2 := (L6.set 0 (.int .i64 an)).set 1 (.bool false)
              have L3 := ((L2.setOther (a := ⟨w.heap.size + 1, 0, none⟩) (by simp) (.int .i64 bn)).setOther (a := ⟨w.heap.size + 1, 1, none⟩) (by simp) (.bool false)).drew
              have H2 := ((((H6.setOther (a := ⟨w.heap.size, 0, none⟩) (by simp) (.int .i64 an)).setOther (a := ⟨w.heap.size, 1, none⟩) (by simp) (.bool false)).set 0 (.int .i64 bn)).set 1 (.bool false)).drew
              have K2 := ((((K6.setCell ⟨w.heap.size, 0, none⟩ (.int .i64 an) (by simp)).setCell ⟨w.heap.size, 1, none⟩ (.bool false) (by simp)).setCell ⟨w.heap.size + 1, 0, none⟩ (.int .i64 bn) (by simp)).setCell ⟨w.heap.size + 1, 1, none⟩ (.bool false) (by simp)).drew
              generalize ((((w6.setCell ⟨w.heap.size, 0, none⟩ (.int .i64 an)).setCell ⟨w.heap.size, 1, none⟩ (.bool false)).setCell ⟨w.heap.size + 1, 0, none⟩ (.int .i64 bn)).setCell ⟨w.heap.size + 1, 1, none⟩ (.bool false)).drew = wF at L3 H2 K2 ⊢
              have e0 := L3.get (k := 0) rfl
              have e1 := L3.get (k := 1) rfl
              have e2 := H2.get (k := 0) rfl
              have e3 := H2.get (k := 1) rfl
              refine bodyPost_ret (v := .tuple #[.agg #[.int .i64 an, .bool false], .agg #[.int .i64 bn, .bool false], .bool false]) (by simp [results, Tryd.results30, go_sem, e0, e1, e2, e3]) rfl ⟨by rw [HB.out]; simp, K2⟩
            | true =>
              go_wp2_with fail
              go_region
              go_wp2_with fail
              have L2 := (L6.set 0 (.int .i64 an)).set 1 (.bool false)
              have L3 := ((L2.setOther (a := ⟨w.heap.size + 1, 0, none⟩) (by simp) (.int .i64 bn)).setOther (a := ⟨w.heap.size + 1, 1, none⟩) (by simp) (.bool true)).drew
              have H2 := ((((H6.setOther (a := ⟨w.heap.size, 0, none⟩) (by simp) (.int .i64 an)).setOther (a := ⟨w.heap.size, 1, none⟩) (by simp) (.bool false)).set 0 (.int .i64 bn)).set 1 (.bool true)).drew
              have K2 := ((((K6.setCell ⟨w.heap.size, 0, none⟩ (.int .i64 an) (by simp)).setCell ⟨w.heap.size, 1, none⟩ (.bool false) (by simp)).setCell ⟨w.heap.size + 1, 0, none⟩ (.int .i64 bn) (by simp)).setCell ⟨w.heap.size + 1, 1, none⟩ (.bool true) (by simp)).drew
              generalize ((((w6.setCell ⟨w.heap.size, 0, none⟩ (.int .i64 an)).setCell ⟨w.heap.size, 1, none⟩ (.bool false)).setCell ⟨w.heap.size + 1, 0, none⟩ (.int .i64 bn)).setCell ⟨w.heap.size + 1, 1, none⟩ (.bool true)).drew = wF at L3 H2 K2 ⊢
              have e0 := L3.get (k := 0) rfl
              have e1 := L3.get (k := 1) rfl
              have e2 := H2.get (k := 0) rfl
              have e3 := H2.get (k := 1) rfl
              refine bodyPost_ret (v := .tuple #[.agg #[.int .i64 an, .bool false], .agg #[.int .i64 bn, .bool true], .bool true]) (by simp [results, Tryd.results30, go_sem, e0, e1, e2, e3]) rfl ⟨by rw [HB.out]; simp, K2⟩
          | true =>
            cases bi with
            | false =>
              go_wp2_with fail
              go_region
              go_wp2_with fail
              have L2 := (L6.set 0 (.int .i64 an)).set 1 (.bool true)
              have L3 := ((L2.setOther (a := ⟨w.heap.size + 1, 0, none⟩) (by simp) (.int .i64 bn)).setOther (a := ⟨w.heap.size + 1, 1, none⟩) (by simp) (.bool false)).drew
              have H2 := ((((H6.setOther (a := ⟨w.heap.size, 0, none⟩) (by simp) (.int .i64 an)).setOther (a := ⟨w.heap.size, 1, none⟩) (by simp) (.bool true)).set 0 (.int .i64 bn)).set 1 (.bool false)).drew
              have K2 := ((((K6.setCell ⟨w.heap.size, 0, none⟩ (.int .i64 an) (by simp)).setCell ⟨w.heap.size, 1, none⟩ (.bool true) (by simp)).setCell ⟨w.heap.size + 1, 0, none⟩ (.int .i64 bn) (by simp)).setCell ⟨w.heap.size + 1, 1, none⟩ (.bool false) (by simp)).drew
              generalize ((((w6.setCell ⟨w.heap.size, 0, none⟩ (.int .i64 an)).setCell ⟨w.heap.size, 1, none⟩ (.bool true)).setCell ⟨w.heap.size + 1, 0, none⟩ (.int .i64 bn)).setCell ⟨w.heap.size + 1, 1, none⟩ (.bool false)).drew = wF at L3 H2 K2 ⊢
              have e0 := L3.get (k := 0) rfl
              have e1 := L3.get (k := 1) rfl
              have e2 := H2.get (k := 0) rfl
              have e3 := H2.get (k := 1) rfl
              refine bodyPost_ret (v := .tuple #[.agg #[.int .i64 an, .bool true], .agg #[.int .i64 bn, .bool false], .bool true]) (by simp [results, Tryd.results30, go_sem, e0, e1, e2, e3]) rfl ⟨by rw [HB.out]; simp, K2⟩
            | true =>
              by_cases hlt : bn < an
              · have HLT := Lib.hid hlt
                go_wp2_with fail
                go_region
                go_wp2_with fail
                have L2 := (L6.set 0 (.int .i64 an)).set 1 (.bool true)
                have L3 := ((L2.setOther (a := ⟨w.heap.size + 1, 0, none⟩) (by simp) (.int .i64 bn)).setOther (a := ⟨w.heap.size + 1, 1, none⟩) (by simp) (.bool true)).drew
                have H2 := ((((H6.setOther (a := ⟨w.heap.size, 0, none⟩) (by simp) (.int .i64 an)).setOther (a := ⟨w.heap.size, 1, none⟩) (by simp) (.bool true)).set 0 (.int .i64 bn)).set 1 (.bool true)).drew
                have K2 := ((((K6.setCell ⟨w.heap.size, 0, none⟩ (.int .i64 an) (by simp)).setCell ⟨w.heap.size, 1, none⟩ (.bool true) (by simp)).setCell ⟨w.heap.size + 1, 0, none⟩ (.int .i64 bn) (by simp)).setCell ⟨w.heap.size + 1, 1, none⟩ (.bool true) (by simp)).drew
                generalize ((((w6.setCell ⟨w.heap.size, 0, none⟩ (.int .i64 an)).setCell ⟨w.heap.size, 1, none⟩ (.bool true)).setCell ⟨w.heap.size + 1, 0, none⟩ (.int .i64 bn)).setCell ⟨w.heap.size + 1, 1, none⟩ (.bool true)).drew = wF at L3 H2 K2 ⊢
                have e0 := L3.get (k := 0) rfl
                have e1 := L3.get (k := 1) rfl
                have e2 := H2.get (k := 0) rfl
                have e3 := H2.get (k := 1) rfl
                refine bodyPost_ret (v := .tuple #[.agg #[.int .i64 an, .bool true], .agg #[.int .i64 bn, .bool true], .bool false]) (by simp [results, Tryd.results30, go_sem, e0, e1, e2, e3]) rfl ⟨by rw [HB.out]; simp [HLT.out], K2⟩
              · have HLT := Lib.hid hlt
                have hlt' : decide (bn < an) = false := by simp; omega
                clear hlt
                go_wp2_with fail
                go_region
                go_wp2_with fail
                have L2 := (L6.set 0 (.int .i64 an)).set 1 (.bool true)
                have L3 := ((L2.setOther (a := ⟨w.heap.size + 1, 0, none⟩) (by simp) (.int .i64 bn)).setOther (a := ⟨w.heap.size + 1, 1, none⟩) (by simp) (.bool true)).drew
                have H2 := ((((H6.setOther (a := ⟨w.heap.size, 0, none⟩) (by simp) (.int .i64 an)).setOther (a := ⟨w.heap.size, 1, none⟩) (by simp) (.bool true)).set 0 (.int .i64 bn)).set 1 (.bool true)).drew
                have K2 := ((((K6.setCell ⟨w.heap.size, 0, none⟩ (.int .i64 an) (by simp)).setCell ⟨w.heap.size, 1, none⟩ (.bool true) (by simp)).setCell ⟨w.heap.size + 1, 0, none⟩ (.int .i64 bn) (by simp)).setCell ⟨w.heap.size + 1, 1, none⟩ (.bool true) (by simp)).drew
                generalize ((((w6.setCell ⟨w.heap.size, 0, none⟩ (.int .i64 an)).setCell ⟨w.heap.size, 1, none⟩ (.bool true)).setCell ⟨w.heap.size + 1, 0, none⟩ (.int .i64 bn)).setCell ⟨w.heap.size + 1, 1, none⟩ (.bool true)).drew = wF at L3 H2 K2 ⊢
                have e0 := L3.get (k := 0) rfl
                have e1 := L3.get (k := 1) rfl
                have e2 := H2.get (k := 0) rfl
                have e3 := H2.get (k := 1) rfl
                refine bodyPost_ret (v := .tuple #[.agg #[.int .i64 an, .bool true], .agg #[.int .i64 bn, .bool true], .bool true]) (by simp [results, Tryd.results30, go_sem, e0, e1, e2, e3]) rfl ⟨by rw [HB.out]; simp [HLT.out], K2⟩
end Go.Proofs.YthhnmfjfgbgjeaaDoor
