/- Parts of the proof of ErrandTries, in order. No conditions but those that each theorem states. -/
import Derived.Test.YtlhnjkekjbbhcaaGreatDoorYErrandTries0
import Derived.Test.YtlhnjkekjbbhcaaGreatDoorYErrandTries3
set_option linter.unusedSimpArgs false
set_option linter.unusedVariables false
namespace Go.Proofs.YtlhnjkekjbbhcaaGreatDoor
open Go.RowKit Go.Shelf
theorem Keep.load {w w' : World} (k : Keep [] w w') {a : Addr} {v : Value} (h : w.cell? a = some v) : w'.cell? a = some v :=
  (k.cell (World.block_lt_of_cell? w a h) (by simp)).trans h
def sameN (n : List UInt8) (f : Fld) : Bool := decide (lowW f.name = lowW n)
def getS (L : List Fld) (n : List UInt8) : List Fld := L.filter (sameN n)
def getV (L : List Fld) (n : List UInt8) : List UInt8 := match getS L n with | [] => [] | f :: _ => f.value
def getN (L : List Fld) (n : List UInt8) : Nat := (getS L n).length
theorem getN_le (L : List Fld) (n : List UInt8) : getN L n ≤ L.length := List.length_filter_le _ _
theorem getS_yes {L : List Fld} {n : List UInt8} {k : Nat} {x : Fld} (h : L[k]? = some x) (hs : lowW x.name = lowW n) : getS (L.take (k + 1)) n = getS (L.take k) n ++ [x] := by
  unfold getS; rw [List.take_add_one, h, List.filter_append]; simp [sameN, hs]
theorem getS_no {L : List Fld} {n : List UInt8} {k : Nat} {x : Fld} (h : L[k]? = some x) (hs : ¬ lowW x.name = lowW n) : getS (L.take (k + 1)) n = getS (L.take k) n := by
  unfold getS; rw [List.take_add_one, h, List.filter_append]; simp [sameN, hs]
theorem get_first {L : List Fld} {n : List UInt8} {k : Nat} {x : Fld} (h : L[k]? = some x) (hs : lowW x.name = lowW n) (h0 : getN (L.take k) n = 0) : getV (L.take (k + 1)) n = x.value ∧ getN (L.take (k + 1)) n = 1 := by
  have e : getS (L.take k) n = [] := List.eq_nil_of_length_eq_zero h0; unfold getV getN; rw [getS_yes h hs, e]; simp
theorem get_more {L : List Fld} {n : List UInt8} {k : Nat} {x : Fld} (h : L[k]? = some x) (hs : lowW x.name = lowW n) (h0 : getN (L.take k) n ≠ 0) : getV (L.take (k + 1)) n = getV (L.take k) n ∧ getN (L.take (k + 1)) n = getN (L.take k) n + 1 := by
  unfold getV getN; rw [getS_yes h hs]; unfold getN at h0
  cases he : getS (L.take k) n with
  | nil => rw [he] at h0; simp at h0
  | cons a r => simp
theorem get_none {L : List Fld} {n : List UInt8} {k : Nat} {x : Fld} (h : L[k]? = some x) (hs : ¬ lowW x.name = lowW n) : getV (L.take (k + 1)) n = getV (L.take k) n ∧ getN (L.take (k + 1)) n = getN (L.take k) n := by
  unfold getV getN; rw [getS_no h hs]; exact ⟨rfl, rfl⟩
def GetOut (w : World) (L : List Fld) (n : List UInt8) (e : Ending) (w' : World) : Prop := e = .returned (.tuple #[.string (S (getV L n)), .int .i64 (getN L n)]) ∧ Keep [] w w'
set_option maxRecDepth 100000 in
set_option maxHeartbeats 1000000 in
theorem ref_Get (va : Value) (L : List Fld) (n : List UInt8) (w : World) (ha : Sl Fld.cells 2 w va L) (hg : ∀ x ∈ L, x.name.length ≤ 70368744177664) (hn : n.length ≤ 70368744177664) :
    Calls Tryz.prog 52 #[va, .string (S n)] w (GetOut w L n) := by
  obtain ⟨aa, ca, rfl, hal⟩ := ha.shape; have hal' : L.length ≤ 9223372036854775807 := hal; have HA := Lib.hid ha; have HG := Lib.hid hg; have HN := Lib.hid hn; have HL := Lib.hid (fun k => getN_le (L.take k) n); clear ha hg hn hal; go_enter Tryz.func52, Tryz.ntmps52; go_wp2_with fail
  go_loopg [6, 7, 8] L.length (fun g s c i wr => ∃ k : Nat, i = .int .i64 k ∧ k ≤ L.length ∧ g = L.length - k ∧ s = .string (S (getV (L.take k) n)) ∧ c = .int .i64 (getN (L.take k) n) ∧ Keep [] w wr)
  case atStart => exact ⟨0, rfl, Nat.zero_le _, by omega, rfl, rfl, Keep.refl [] w⟩
  case round =>
    obtain ⟨k, rfl, hk, hgk, rfl, rfl, hkr⟩ := hrel; have hgl : getN (L.take k) n ≤ k := Nat.le_trans (HL.out k) (by simp; omega); by_cases hlt : k < L.length
    · obtain ⟨x, hx⟩ : ∃ x, L[k]? = some x := ⟨_, List.getElem?_eq_getElem hlt⟩
      obtain ⟨b1, o1, c1, e1, l1, m1, x1⟩ := HA.out.cell hx; simp only [Value.slice.injEq] at e1; obtain ⟨rfl, _, rfl⟩ := e1; have a0 := x1 0 (by omega); have a1 := x1 1 (by omega); simp only [Fld.cells, List.getElem?_cons_zero, List.getElem?_cons_succ, Nat.add_zero] at a0 a1; have A0 := Lib.hid a0; have A1 := Lib.hid a1; have HX := Lib.hid hx; have HK := Lib.hid hkr; have hb := HG.out x (List.mem_of_getElem? hx); have HB := Lib.hid hb; clear hx x1 l1 m1 hb a0 a1 hkr; have d0 := HK.out.load A0.out
      go_upto_region 6 with fail
      go_wp2_with fail; refine (ref_Low x.name _ HB.out).mono ?_; rintro e w1 ⟨rfl, hk1⟩; go_wp2_with fail; refine (ref_Low n _ HN.out).mono ?_; rintro e w2 ⟨rfl, hk2⟩; have HK2 := Lib.hid ((HK.out.trans hk1).trans hk2); clear hk1 hk2; have d1 := HK2.out.load A1.out; by_cases hs : lowW x.name = lowW n
      · have h1 : ((S (lowW x.name)).toList == (S (lowW n)).toList) = true := by rw [hs]; simp
        have HS := Lib.hid hs; clear hs; by_cases h0 : getN (L.take k) n = 0
        · have hr := get_first HX.out HS.out h0; have HR := Lib.hid hr; clear hr; go_wp2_with fail
          go_roundg (L.length - (k + 1))
          case measure => omega
          case rel => exact ⟨k + 1, by go_num, by omega, rfl, by rw [HR.out.1], by rw [HR.out.2]; simp, HK2.out⟩
        · have hr := get_more HX.out HS.out h0; have HR := Lib.hid hr; clear hr; go_wp2_with fail
          go_roundg (L.length - (k + 1))
          case measure => omega
          case rel => exact ⟨k + 1, by go_num, by omega, rfl, by rw [HR.out.1], by rw [HR.out.2]; simp, HK2.out⟩
      · have h1 : ((S (lowW x.name)).toList == (S (lowW n)).toList) = false := by rw [S_toList, S_toList]; simpa using hs
        have HR := Lib.hid (get_none HX.out hs); clear hs; go_wp2_with fail
        go_roundg (L.length - (k + 1))
        case measure => omega
        case rel => exact ⟨k + 1, by go_num, by omega, rfl, by rw [HR.out.1], by rw [HR.out.2], HK2.out⟩
    · have hke : L.take k = L := List.take_of_length_le (by omega); rw [hke]; go_wp2_with fail; go_ret2; exact ⟨rfl, hkr⟩
set_option maxRecDepth 100000 in
set_option maxHeartbeats 1000000 in
theorem field_Get (va : Value) (L : List Fld) (n : List UInt8) (w : World) (ha : Sl Fld.cells 2 w va L) (hg : ∀ x ∈ L, x.name.length ≤ maxLen) (hn : n.length ≤ maxLen) :
    Calls Tryz.prog 37 #[va, .string (S n)] w (GetOut w L n) := by
  obtain ⟨aa, ca, rfl, hal⟩ := ha.shape; have hal' : L.length ≤ 9223372036854775807 := hal; have HA := Lib.hid ha; have HG := Lib.hid hg; have HN := Lib.hid hn; have HL := Lib.hid (fun k => getN_le (L.take k) n); clear ha hg hn hal; go_enter Tryz.func37, Tryz.ntmps37; go_wp2_with fail
  go_loopg [4, 5, 10] L.length (fun g s c i wr => ∃ k : Nat, i = .int .i64 k ∧ k ≤ L.length ∧ g = L.length - k ∧ s = .string (S (getV (L.take k) n)) ∧ c = .int .i64 (getN (L.take k) n) ∧ Keep [] w wr)
  case atStart => exact ⟨0, rfl, Nat.zero_le _, by omega, rfl, rfl, Keep.refl [] w⟩
  case round =>
    obtain ⟨k, rfl, hk, hgk, rfl, rfl, hkr⟩ := hrel; have hgl : getN (L.take k) n ≤ k := Nat.le_trans (HL.out k) (by simp; omega); by_cases hlt : k < L.length
    · obtain ⟨x, hx⟩ : ∃ x, L[k]? = some x := ⟨_, List.getElem?_eq_getElem hlt⟩
      obtain ⟨b1, o1, c1, e1, l1, m1, x1⟩ := HA.out.cell hx; simp only [Value.slice.injEq] at e1; obtain ⟨rfl, _, rfl⟩ := e1; have a0 := x1 0 (by omega); have a1 := x1 1 (by omega); simp only [Fld.cells, List.getElem?_cons_zero, List.getElem?_cons_succ, Nat.add_zero] at a0 a1; have A0 := Lib.hid a0; have A1 := Lib.hid a1; have HX := Lib.hid hx; have HK := Lib.hid hkr; have hb := HG.out x (List.mem_of_getElem? hx); have HB := Lib.hid hb; clear hx x1 l1 m1 hb a0 a1 hkr; have d0 := HK.out.load A0.out; have hbA := Blk.newA wr #[.string (S x.name), .string (S x.value)] 89; have HBA := Lib.hid hbA; clear hbA; have d2 := HK.out.load A1.out
      go_upto_region 4 with fail
      go_wp2_with fail; refine (field_low x.name _ HB.out).mono ?_; rintro e w1 ⟨rfl, hk1⟩; go_wp2_with fail; refine (field_low n _ HN.out).mono ?_; rintro e w2 ⟨rfl, hk2⟩; have HK2 := Lib.hid (((HK.out.alloc (.cells #[.string (S x.name), .string (S x.value)] 89)).trans hk1).trans hk2); have d1 := (hk1.trans hk2).load (HBA.out.get (k := 1) rfl); clear hk1 hk2 d0 d2; by_cases hs : lowW x.name = lowW n
      · have h1 : ((S (lowW x.name)).toList == (S (lowW n)).toList) = true := by rw [hs]; simp
        have HS := Lib.hid hs; clear hs; by_cases h0 : getN (L.take k) n = 0
        · have hr := get_first HX.out HS.out h0; have HR := Lib.hid hr; clear hr; go_wp2_with fail
          go_roundg (L.length - (k + 1))
          case measure => omega
          case rel => exact ⟨k + 1, by go_num, by omega, rfl, by rw [HR.out.1], by rw [HR.out.2]; simp, HK2.out⟩
        · have hr := get_more HX.out HS.out h0; have HR := Lib.hid hr; clear hr; go_wp2_with fail
          go_roundg (L.length - (k + 1))
          case measure => omega
          case rel => exact ⟨k + 1, by go_num, by omega, rfl, by rw [HR.out.1], by rw [HR.out.2]; simp, HK2.out⟩
      · have h1 : ((S (lowW x.name)).toList == (S (lowW n)).toList) = false := by rw [S_toList, S_toList]; simpa using hs
        have HR := Lib.hid (get_none HX.out hs); clear hs; go_wp2_with fail
        go_roundg (L.length - (k + 1))
        case measure => omega
        case rel => exact ⟨k + 1, by go_num, by omega, rfl, by rw [HR.out.1], by rw [HR.out.2], HK2.out⟩
    · have hke : L.take k = L := List.take_of_length_le (by omega); rw [hke]; go_wp2_with fail; go_ret2; exact ⟨rfl, hkr⟩
theorem Sep.of_base {α β : Type} {e1 : α → List Value} {e2 : β → List Value} {n1 n2 b1 b2 : Nat} {E1 E2 : TypeId} {w w' : World} {v u : Value} {L : List α} {M : List β} (h : Own e1 n1 b1 E1 w v L) (h2 : Own e2 n2 b2 E2 w' u M) (hb : w.heap.size ≤ b2) : Sep v u := fun g g1 g2 => by
  have := (h.lt g g1).2; have := (h2.lt g g2).1; omega
theorem cutM_length (b : UInt8) : ∀ (l : List UInt8) (q : Bool) (p : List UInt8), (cutM b l q p).length ≤ l.length + 1
  | [], _, _ => by simp [cutM]
  | [c], q, p => by
    rw [cutM.eq_def]; dsimp only
    split
    · have := cutM_length b [] (!q) (p ++ [c]); simp at this ⊢; omega
    · split
      · simp
      · split
        · have := cutM_length b [] q []; simp at this ⊢; omega
        · have := cutM_length b [] q (p ++ [c]); simp at this ⊢; omega
  | c :: d :: r, q, p => by
    rw [cutM.eq_def]; dsimp only
    split
    · have := cutM_length b (d :: r) (!q) (p ++ [c]); simp at this ⊢; omega
    · split
      · have := cutM_length b r q (p ++ [c, d]); simp at this ⊢; omega
      · split
        · have := cutM_length b (d :: r) q []; simp at this ⊢; omega
        · have := cutM_length b (d :: r) q (p ++ [c]); simp at this ⊢; omega
theorem cutW_length (l : List UInt8) (b : UInt8) : (cutW l b).length ≤ l.length + 1 := cutM_length b l _ _
def full (M : List (List UInt8)) : List (List UInt8) := M.filter (fun s => decide (s ≠ []))
def elsM (L : List Fld) (n : List UInt8) : List (List UInt8) := (getS L n).flatMap fun f => full (cutW f.value 44)
theorem els_yes {L : List Fld} {n : List UInt8} {k : Nat} {x : Fld} (h : L[k]? = some x) (hs : lowW x.name = lowW n) : elsM (L.take (k + 1)) n = elsM (L.take k) n ++ full (cutW x.value 44) := by
  unfold elsM; rw [getS_yes h hs, List.flatMap_append]; simp
theorem els_no {L : List Fld} {n : List UInt8} {k : Nat} {x : Fld} (h : L[k]? = some x) (hs : ¬ lowW x.name = lowW n) : elsM (L.take (k + 1)) n = elsM (L.take k) n := by
  unfold elsM; rw [getS_no h hs]
theorem full_yes {M : List (List UInt8)} {j : Nat} {s : List UInt8} (h : M[j]? = some s) (hs : s ≠ []) : full (M.take (j + 1)) = full (M.take j) ++ [s] := by
  unfold full; rw [List.take_add_one, h, List.filter_append]; simp [hs]
theorem full_no {M : List (List UInt8)} {j : Nat} {s : List UInt8} (h : M[j]? = some s) (hs : s = []) : full (M.take (j + 1)) = full (M.take j) := by
  unfold full; rw [List.take_add_one, h, List.filter_append]; simp [hs]
theorem els_bound {a b m k : Nat} (h1 : a ≤ k * 1048577) (h2 : b ≤ m) (h3 : m ≤ 1048577) : a + b ≤ (k + 1) * 1048577 := by
  rw [Nat.add_mul, Nat.one_mul]; exact Nat.add_le_add h1 (Nat.le_trans h2 h3)
theorem els_bound0 {a k : Nat} (h1 : a ≤ k * 1048577) : a ≤ (k + 1) * 1048577 := by
  rw [Nat.add_mul]; exact Nat.le_add_right_of_le h1
theorem full_length (M : List (List UInt8)) : (full M).length ≤ M.length := List.length_filter_le _ _
set_option maxRecDepth 100000 in
set_option maxHeartbeats 2000000 in
theorem field_Elements (va : Value) (L : List Fld) (n : List UInt8) (w : World) (ha : Sl Fld.cells 2 w va L) (hg : ∀ x ∈ L, x.name.length ≤ 1048576 ∧ x.value.length ≤ 1048576) (hn : n.length ≤ 1048576) (hl : L.length ≤ 1024) :
    Calls Tryz.prog 165 #[va, .string (S n)] w (Texts w (elsM L n)) := by
  obtain ⟨aa, ca, rfl, _⟩ := ha.shape; have HA := Lib.hid ha; have HG := Lib.hid hg; have HN := Lib.hid hn; obtain ⟨is, Hs⟩ := strinfo'; have HM := Lib.hid (show maxLen = 9223372036854775807 from rfl); clear ha hg hn; go_enter Tryz.func165, Tryz.ntmps165; go_wp2_with fail
  go_loopg [4, 11] L.length (fun g o i wr => ∃ k : Nat, i = .int .i64 k ∧ k ≤ L.length ∧ g = L.length - k ∧ Own strC 1 w.heap.size 9 wr o (elsM (L.take k) n) ∧ (elsM (L.take k) n).length ≤ k * 1048577 ∧ Keep [] w wr)
  case atStart => exact ⟨0, rfl, Nat.zero_le _, by omega, Own.nil strC 1 _ 9 w, Nat.zero_le _, Keep.refl [] w⟩
  case round =>
    obtain ⟨k, rfl, hk, hgk, ho, hol, hkr⟩ := hrel; have HO := Lib.hid ho; have HK := Lib.hid hkr; clear ho hkr; by_cases hlt : k < L.length
    · obtain ⟨x, hx⟩ : ∃ x, L[k]? = some x := ⟨_, List.getElem?_eq_getElem hlt⟩
      obtain ⟨b1, o1, c1, e1, l1, m1, x1⟩ := HA.out.cell hx; simp only [Value.slice.injEq] at e1; obtain ⟨rfl, _, rfl⟩ := e1; have a0 := x1 0 (by omega); have a1 := x1 1 (by omega); simp only [Fld.cells, List.getElem?_cons_zero, List.getElem?_cons_succ, Nat.add_zero] at a0 a1; have A0 := Lib.hid a0; have A1 := Lib.hid a1; have HX := Lib.hid hx; have hb := HG.out x (List.mem_of_getElem? hx); have HB := Lib.hid hb; clear hx x1 l1 m1 hb a0 a1; have d0 := HK.out.load A0.out; have hbA := Blk.newA wr #[.string (S x.name), .string (S x.value)] 89; have HBA := Lib.hid hbA; clear hbA; have d2 := HK.out.load A1.out
      go_upto_region 4 with fail
      go_wp2_with fail; refine (field_low x.name _ (show _ ≤ 9223372036854775807 by have := HB.out.1; omega)).mono ?_; rintro e w1 ⟨rfl, hk1⟩; go_wp2_with fail; refine (field_low n _ (show _ ≤ 9223372036854775807 by have := HN.out; omega)).mono ?_; rintro e w2 ⟨rfl, hk2⟩; have HKA := (Keep.refl [] wr).alloc (.cells #[.string (S x.name), .string (S x.value)] 89); have HK2 := Lib.hid (((HK.out.trans HKA).trans hk1).trans hk2); have HKK := Lib.hid ((HKA.trans hk1).trans hk2); have d1 := (hk1.trans hk2).load (HBA.out.get (k := 1) rfl); clear hk1 hk2 d0 d2 HKA; have HO2 := Lib.hid (HO.out.keep0 HKK.out); by_cases hs : lowW x.name = lowW n
      · have h1 : ((S (lowW x.name)).toList == (S (lowW n)).toList) = true := by rw [hs]; simp
        have HE := Lib.hid (els_yes HX.out hs); have HV := Lib.hid (Nat.le_trans (cutW_length x.value 44) (Nat.succ_le_succ HB.out.2)); clear hs; go_wp2_with fail; refine (field_cut x.value 44 _ HB.out.2).mono ?_; rintro e w3 ⟨vc, rfl, hc, hk3⟩; have hsep := Sep.of_base HO2.out hc (Nat.le_refl _); have HO3 := HO2.out.keep0 hk3; have HK3 := HK2.out.trans hk3; have hc3 := hc.lower (base' := w.heap.size) HK2.out.size; generalize hM : cutW x.value 44 = M at hc3 HE HV; clear hc hk3 hM; obtain ⟨ac, cc, rfl, hml⟩ := hc3.shape; have hml' : M.length ≤ 9223372036854775807 := hml; have H0 := Lib.hid (And.intro HO3 (And.intro hc3 (And.intro hsep HK3))); clear HO3 hc3 hsep HK3 hml; go_wp2_with fail
        go_loopg [4, 25] M.length (fun g o2 j wz => ∃ m : Nat, j = .int .i64 m ∧ m ≤ M.length ∧ g = M.length - m ∧ Own strC 1 w.heap.size 9 wz o2 (elsM (L.take k) n ++ full (M.take m)) ∧
          Own strC 1 w.heap.size 9 wz (.slice ac M.length cc) M ∧ Sep o2 (.slice ac M.length cc) ∧ Keep [] w wz)
        case atStart => exact ⟨0, rfl, Nat.zero_le _, by omega, by simpa [full] using H0.out.1, H0.out.2.1, H0.out.2.2.1, H0.out.2.2.2⟩
        case round =>
          obtain ⟨m, rfl, hm, hgm, ho2, hc2, hsep2, hkz⟩ := hrel; have HOz := Lib.hid ho2; have HCz := Lib.hid hc2; have HSz := Lib.hid hsep2; have HKz := Lib.hid hkz; clear ho2 hc2 hsep2 hkz; by_cases hlm : m < M.length
          · obtain ⟨s, hs⟩ : ∃ s, M[m]? = some s := ⟨_, List.getElem?_eq_getElem hlm⟩
            obtain ⟨b2, o2, c2, e2, _, _, x2⟩ := (HCz.out.sl strC_length).cell hs; simp only [Value.slice.injEq] at e2; obtain ⟨rfl, _, rfl⟩ := e2; have s0 := x2 0 (by omega); simp only [strC, List.getElem?_cons_zero, Nat.add_zero, Nat.mul_one] at s0; have hte := S_toList s; have HSS := Lib.hid hs; clear x2 hs; by_cases hse : s = []
            · have HF := Lib.hid (full_no HSS.out hse); subst hse; have hq : (S []).toList = [] := S_toList []; go_wp2_with fail
              go_roundg (M.length - (m + 1))
              case measure => omega
              case rel => exact ⟨m + 1, by go_num, by omega, rfl, by rw [HF.out]; exact HOz.out, HCz.out, HSz.out, HKz.out⟩
            · have HF := Lib.hid (full_yes HSS.out hse); have hie : s.isEmpty = false := by cases s <;> simp_all
              have hfl := full_length (M.take m); have hfl2 : (M.take m).length ≤ m := by simp; omega
              have hvv : M.length ≤ 1048577 := HV.out; clear HV
              go_wp2_with (first | (at_builtin; go_must (refine wpList_append2 rfl _ _ 201 rfl is (.string ⟨#[]⟩) 16 Tryz.underlying201 Hs rfl (by decide) strC_length strC_one w wr rfl HKz.out (by rfl) HOz.out s _ (strC_of rfl) _ rfl (by have := HM.out; simp; omega) (by simp; omega) ?_); intro v' w4 hown' hk4 hside) | fail); have h5 := hside HCz.out HSz.out
              go_roundg (M.length - (m + 1))
              case measure => omega
              case rel => exact ⟨m + 1, by go_num, by omega, rfl, by rw [HF.out, ← List.append_assoc]; exact hown', h5.1, h5.2, hk4⟩
          · have hme : M.take m = M := List.take_of_length_le (by omega); have hfl := full_length M; have hvv : M.length ≤ 1048577 := HV.out; clear HV; go_wp2_with fail
            go_roundg (L.length - (k + 1))
            case measure => omega
            case rel => exact ⟨k + 1, by go_num, by omega, rfl, by rw [HE.out, ← hme]; exact HOz.out, by rw [HE.out, List.length_append]; exact els_bound hol hfl hvv, HKz.out⟩
      · have h1 : ((S (lowW x.name)).toList == (S (lowW n)).toList) = false := by rw [S_toList, S_toList]; simpa using hs
        have HE := Lib.hid (els_no HX.out hs); clear hs; go_wp2_with fail
        go_roundg (L.length - (k + 1))
        case measure => omega
        case rel => exact ⟨k + 1, by go_num, by omega, rfl, by rw [HE.out]; exact HO2.out, by rw [HE.out]; exact els_bound0 hol, HK2.out⟩
    · have hke : L.take k = L := List.take_of_length_le (by omega); rw [hke] at HO; go_wp2_with fail; go_ret; exact ⟨_, rfl, HO.out, HK.out⟩
def seenM (s : List UInt8) (at' : Nat) : List UInt8 := (s.take 4096).drop at'
def lineM (l : List UInt8) : Option (List UInt8) :=
  if Lib.hasSuffix l [13, 10] = true ∧ Lib.indexByte (Lib.trimSuffix l [13, 10]) 13 < 0 then some (Lib.trimSuffix l [13, 10]) else none
def nextM (s : List UInt8) (at' : Nat) : List UInt8 × Nat × Int :=
  if Lib.indexByte (seenM s at') 10 < 0 then ([], at', if 4096 ≤ s.length then 4 else 17)
  else match lineM ((seenM s at').take ((Lib.indexByte (seenM s at') 10).toNat + 1)) with
    | none => ([], at' + ((Lib.indexByte (seenM s at') 10).toNat + 1), 3)
    | some l => (l, at' + ((Lib.indexByte (seenM s at') 10).toNat + 1), 0)
def Hd (W w : World) (b : Nat) (st : List UInt8) (F : List Fld) (at' : Nat) : Prop :=
  ∃ fv, Blk w b 196 [.string (S st), fv, .int .i64 at'] ∧ Own Fld.cells 2 W.heap.size 89 w fv F ∧ (∀ g, fv.ownBlock = some g → g ≠ b) ∧ W.heap.size ≤ b ∧ Keep [] W w
theorem Hd.step {W w w' : World} {b : Nat} {st : List UInt8} {F : List Fld} {at' : Nat} (h : Hd W w b st F at') (k : Keep [] w w') : Hd W w' b st F at' := by
  obtain ⟨fv, h1, h2, h3, h4, h5⟩ := h; exact ⟨fv, k.blk h1 (by simp), h2.keep0 k, h3, h4, h5.trans k⟩
set_option maxRecDepth 100000 in
set_option maxHeartbeats 1000000 in
theorem head_next (W : World) (s : List UInt8) (b : Nat) (st : List UInt8) (F : List Fld) (at' : Nat) (w : World) (h : Hd W w b st F at') (hs : s.length ≤ 1048576) (ha : at' ≤ s.length) (ha2 : at' ≤ 4096) :
    Calls Tryz.prog 195 #[.pointer (some ⟨b, 0, none⟩), .string (S s)] w fun e w' => e = .returned (.tuple #[.string (S (nextM s at').1), .int .i64 (nextM s at').2.2]) ∧ Hd W w' b st F (nextM s at').2.1 := by
  obtain ⟨fv, h1, h2, h3, h4, h5⟩ := h; have c0 := h1.get (k := 2) rfl; have f0 := h1.frozen; have hlt := h1.lt; have H := Lib.hid (And.intro h1 (And.intro h2 (And.intro h3 (And.intro h4 h5)))); clear h1 h2 h3 h4 h5; have hsz := S_size s
  have hx : (S s).extract at' (min ((s.length : Nat) : Int) 4096).toNat = S (seenM s at') := by
    have e : (min ((s.length : Nat) : Int) 4096).toNat = min s.length 4096 := by omega
    rw [e, S_extract]; unfold seenM; congr 2; rw [Nat.min_comm, List.take_eq_take_iff]; omega
  have hix := Tryz.strings_IndexByte (S (seenM s at')) 10; have ec : ((10 : Int)).toNat.toUInt8 = 10 := rfl; rw [ec, S_list] at hix; have hseen : (seenM s at').length + at' ≤ 4096 ∧ (seenM s at').length + at' ≤ s.length := by unfold seenM; simp; omega
  obtain ⟨hq1, hq2⟩ := hseen
  have hN : nextM s at' = (if Lib.indexByte (seenM s at') 10 < 0 then ([], at', if 4096 ≤ s.length then 4 else 17)
    else match lineM ((seenM s at').take ((Lib.indexByte (seenM s at') 10).toNat + 1)) with
      | none => ([], at' + ((Lib.indexByte (seenM s at') 10).toNat + 1), 3)
      | some l => (l, at' + ((Lib.indexByte (seenM s at') 10).toNat + 1), 0) : List UInt8 × Nat × Int) := rfl
  generalize seenM s at' = l at hx hix hq1 hq2 hN; have hsl := S_size l; have hge := Lib.indexByte_ge l 10; by_cases hi : Lib.indexByte l 10 = -1
  · rw [hi] at hix hN; rw [if_pos (by omega)] at hN; by_cases hbig : 4096 ≤ s.length
    · rw [if_pos hbig] at hN; have HN := Lib.hid hN; clear hN hi hge; go_enter Tryz.func195, Tryz.ntmps195; go_wp2_with fail; refine (hix _).mono ?_; rintro e w1 ⟨rfl, rfl⟩; go_wp2_with fail; go_ret2; rw [HN.out]; exact ⟨rfl, fv, H.out⟩
    · rw [if_neg hbig] at hN; have HN := Lib.hid hN; clear hN hi hge; go_enter Tryz.func195, Tryz.ntmps195; go_wp2_with fail; refine (hix _).mono ?_; rintro e w1 ⟨rfl, rfl⟩; go_wp2_with fail; go_ret2; rw [HN.out]; exact ⟨rfl, fv, H.out⟩
  · obtain ⟨o, ho⟩ : ∃ o : Nat, Lib.indexByte l 10 = o := ⟨(Lib.indexByte l 10).toNat, by omega⟩
    have hol := (List.getElem?_eq_some_iff.1 (Lib.indexByte_some ho).1).1; rw [ho] at hix hN; rw [if_neg (by omega), Int.toNat_natCast] at hN; have hx3 : (S l).extract 0 (o + 1) = S (l.take (o + 1)) := by rw [S_extract]; simp
    have hcs := fun w1 => Tryz.strings_CutSuffix (S (l.take (o + 1))) ⟨#[13, 10]⟩ w1 (by rw [S_size]; simp; omega)
    rw [S_list] at hcs; change ∀ w1, Calls Tryz.prog 222 #[.string (S (l.take (o + 1))), .string ⟨#[13, 10]⟩] w1 fun e w' => e = .returned (.tuple #[.string (S (Lib.trimSuffix (l.take (o + 1)) [13, 10])), .bool (Lib.hasSuffix (l.take (o + 1)) [13, 10])]) ∧ w' = w1 at hcs
    have hL : lineM (l.take (o + 1)) = if Lib.hasSuffix (l.take (o + 1)) [13, 10] = true ∧ Lib.indexByte (Lib.trimSuffix (l.take (o + 1)) [13, 10]) 13 < 0 then some (Lib.trimSuffix (l.take (o + 1)) [13, 10]) else none := rfl
    have hi2 := Tryz.strings_IndexByte (S (Lib.trimSuffix (l.take (o + 1)) [13, 10])) 13; have ec2 : ((13 : Int)).toNat.toUInt8 = 13 := rfl; rw [ec2, S_list] at hi2; generalize Lib.trimSuffix (l.take (o + 1)) [13, 10] = tl at hcs hi2 hL; have hge2 := Lib.indexByte_ge tl 13
    have hset : ∀ w1 : World, w1 = w → Hd W (w1.setCell ⟨b, 2, none⟩ (.int .i64 (((at' + (o + 1) : Nat) : Int)))) b st F (at' + (o + 1)) := by
      rintro w1 rfl; obtain ⟨h1, h2, h3, h4, h5⟩ := H.out; have hk : Keep [b] w1 (w1.setCell ⟨b, 2, none⟩ (.int .i64 (((at' + (o + 1) : Nat) : Int)))) := (Keep.refl [b] w1).setCell _ _ (by simp); exact ⟨fv, h1.set 2 _, h2.keep hk (fun g hg => by simpa using h3 g hg), h3, h4, h5.setCell _ _ (by simp; omega)⟩
    have HS := Lib.hid hset; clear hset hi hge ho
    cases hsf : Lib.hasSuffix (l.take (o + 1)) [13, 10] with
    | false =>
      rw [hsf, if_neg (by simp)] at hL; rw [hL] at hN; rw [hsf] at hcs; have HN := Lib.hid hN; clear hN hL hi2 hge2 hsf; go_enter Tryz.func195, Tryz.ntmps195; go_wp2_with fail; refine (hix _).mono ?_; rintro e w1 ⟨rfl, rfl⟩; go_wp2_with fail; refine (hcs _).mono ?_; rintro e w2 ⟨rfl, rfl⟩; go_wp2_with fail; go_ret2; rw [HN.out]; exact ⟨rfl, HS.out _ rfl⟩
    | true =>
      rw [hsf] at hL hcs; by_cases h13 : Lib.indexByte tl 13 < 0
      · rw [if_pos ⟨rfl, h13⟩] at hL; rw [hL] at hN; have HN := Lib.hid hN; have hm1 : Lib.indexByte tl 13 = -1 := by omega
        rw [hm1] at hi2; clear hN hL hge2 hsf h13 hm1; go_enter Tryz.func195, Tryz.ntmps195; go_wp2_with fail; refine (hix _).mono ?_; rintro e w1 ⟨rfl, rfl⟩; go_wp2_with fail; refine (hcs _).mono ?_; rintro e w2 ⟨rfl, rfl⟩; go_wp2_with fail; refine (hi2 _).mono ?_; rintro e w3 ⟨rfl, rfl⟩; go_wp2_with fail; go_ret2; rw [HN.out]; exact ⟨rfl, HS.out _ rfl⟩
      · rw [if_neg (fun h => h13 h.2)] at hL; rw [hL] at hN; have HN := Lib.hid hN; obtain ⟨o2, ho2⟩ : ∃ o : Nat, Lib.indexByte tl 13 = o := ⟨(Lib.indexByte tl 13).toNat, by omega⟩
        rw [ho2] at hi2; clear hN hL hge2 hsf h13 ho2; go_enter Tryz.func195, Tryz.ntmps195; go_wp2_with fail; refine (hix _).mono ?_; rintro e w1 ⟨rfl, rfl⟩; go_wp2_with fail; refine (hcs _).mono ?_; rintro e w2 ⟨rfl, rfl⟩; go_wp2_with fail; refine (hi2 _).mono ?_; rintro e w3 ⟨rfl, rfl⟩; go_wp2_with fail; go_ret2; rw [HN.out]; exact ⟨rfl, HS.out _ rfl⟩
end Go.Proofs.YtlhnjkekjbbhcaaGreatDoor
