/- Layer 10: param, Params: both sides. No conditions but on lengths. -/
import Derived.Test.YtbeppooknhmhaaaDoorFldU
import Derived.Test.YtbeppooknhmhaaaDoorFld13
import Derived.Test.YtbeppooknhmhaaaDoorFld10
import Derived.Test.YtbeppooknhmhaaaDoorFldH
namespace Go.Proofs.YtbeppooknhmhaaaDoor
open Go.RowKit Go.Shelf

/-- a parameter; false: it is none -/
def parM (x : List UInt8) : Fld × Bool :=
  if (Lib.cut x [61]).2.2 && isTok (Lib.cut x [61]).1 then (⟨lowW (Lib.cut x [61]).1, (unqW (Lib.cut x [61]).2.1).1⟩, (unqW (Lib.cut x [61]).2.1).2) else (⟨[], []⟩, false)
def parsM : List (List UInt8) → List Fld → Option (List Fld)
  | [], out => some out
  | x :: r, out => if x = [] then parsM r out else if (parM x).2 then parsM r (out ++ [(parM x).1]) else none
structure Prm where
  hd : List UInt8
  F : List Fld
  e : Int
def paramsM (s : List UInt8) : Prm := match parsM (cutW s 59).tail [] with
  | none => ⟨[], [], 3⟩
  | some F => ⟨(cutW s 59).headD [], F, 0⟩
def ParOut (x : Fld × Bool) (w : World) (e : Ending) (w' : World) : Prop := e = .returned (.tuple #[.agg #[.string (S x.1.name), .string (S x.1.value)], .bool x.2]) ∧ Keep [] w w'

set_option maxRecDepth 100000 in
set_option maxHeartbeats 1000000 in
theorem field_param (l : List UInt8) (w : World) (hm : ML w) (hl : l.length ≤ 1048576) :
    Calls Tryd.prog 46 #[.string (S l)] w (ParOut (parM l) w) := by
  have hC := fun w1 (k : Keep [] w w1) => strings_Cut l ⟨#[61]⟩ w1 (hm.keep k (by simp)) (by omega)
  have hlen := cut_len l [61]
  have hP : parM l = if (Lib.cut l [61]).2.2 && isTok (Lib.cut l [61]).1 then (⟨lowW (Lib.cut l [61]).1, (unqW (Lib.cut l [61]).2.1).1⟩, (unqW (Lib.cut l [61]).2.1).2) else (⟨[], []⟩, false) := rfl
  change ∀ w1, Keep [] w w1 → Calls Tryd.prog 36 #[.string (S l), .string ⟨#[61]⟩] w1 fun e w' => e = .returned (.tuple #[.string (S (Lib.cut l [61]).1), .string (S (Lib.cut l [61]).2.1), .bool (Lib.cut l [61]).2.2]) ∧ Keep [] w1 w' at hC
  generalize Lib.cut l [61] = c at hC hlen hP
  obtain ⟨name, value, ok⟩ := c
  dsimp only at hC hlen hP
  generalize parM l = res at hP
  have HC := Lib.hid hC
  have hbA := Blk.newA w #[.string ⟨#[]⟩, .string ⟨#[]⟩] 34
  have hkA := (Keep.refl [] w).alloc (.cells #[.string ⟨#[]⟩, .string ⟨#[]⟩] 34)
  clear hC
  cases ok with
  | false =>
    simp only [Bool.false_and, Bool.false_eq_true, if_false] at hP
    have HP := Lib.hid hP
    clear hP
    go_enter Tryd.func46, Tryd.ntmps46
    go_wp2_with fail
    refine (HC.out _ hkA).mono ?_
    rintro e w1 ⟨rfl, hk1⟩
    have hb1 := hk1.blk hbA (by simp)
    have d0 := hb1.get (k := 0) rfl
    have d1 := hb1.get (k := 1) rfl
    have f1 := hb1.frozen
    have hs1 := hb1.lt
    go_wp2_with fail
    have hb2 := (hb1.set 0 (.string ⟨#[]⟩)).set 1 (.string ⟨#[]⟩)
    have d2 := hb2.get (k := 0) rfl
    have d3 := hb2.get (k := 1) rfl
    refine bodyPost_ret (v := .tuple #[.agg #[.string (S []), .string (S [])], .bool false]) ?_ rfl ⟨?_, ?_⟩
    · simp [results, Tryd.results46, go_sem, S, d2, d3]
    · rw [HP.out]
    · exact ((hkA.trans hk1).setCell _ _ (by simp)).setCell _ _ (by simp)
  | true =>
    have hT := fun w1 => field_IsToken name w1 (show name.length ≤ 9223372036854775807 by omega)
    have hU := fun w1 => field_unquote value w1 (by omega)
    have hR := fun w1 => field_low name w1 (show name.length ≤ 9223372036854775807 by omega)
    generalize unqW value = uq at hU hP
    obtain ⟨uv, ub⟩ := uq
    dsimp only at hU hP
    cases htk : isTok name with
    | false =>
      simp only [htk, Bool.and_false, Bool.false_eq_true, if_false] at hP
      rw [htk] at hT
      have HP := Lib.hid hP
      have HT := Lib.hid hT
      clear hP hT hU hR htk hlen
      go_enter Tryd.func46, Tryd.ntmps46
      go_wp2_with fail
      refine (HC.out _ hkA).mono ?_
      rintro e w1 ⟨rfl, hk1⟩
      go_wp2_with fail
      refine (HT.out _).mono ?_
      rintro e w2 ⟨rfl, hk2⟩
      have hb1 := hk2.blk (hk1.blk hbA (by simp)) (by simp)
      have d0 := hb1.get (k := 0) rfl
      have d1 := hb1.get (k := 1) rfl
      have f1 := hb1.frozen
      have hs1 := hb1.lt
      go_wp2_with fail
      have hb2 := (hb1.set 0 (.string ⟨#[]⟩)).set 1 (.string ⟨#[]⟩)
      have d2 := hb2.get (k := 0) rfl
      have d3 := hb2.get (k := 1) rfl
      refine bodyPost_ret (v := .tuple #[.agg #[.string (S []), .string (S [])], .bool false]) ?_ rfl ⟨?_, ?_⟩
      · simp [results, Tryd.results46, go_sem, S, d2, d3]
      · rw [HP.out]
      · exact (((hkA.trans hk1).trans hk2).setCell _ _ (by simp)).setCell _ _ (by simp)
    | true =>
      simp only [htk, Bool.and_true, if_true] at hP
      rw [htk] at hT
      have HP := Lib.hid hP
      have HT := Lib.hid hT
      have HU := Lib.hid hU
      have HR := Lib.hid hR
      clear hP hT hU hR htk hlen
      go_enter Tryd.func46, Tryd.ntmps46
      go_wp2_with fail
      refine (HC.out _ hkA).mono ?_
      rintro e w1 ⟨rfl, hk1⟩
      go_wp2_with fail
      refine (HT.out _).mono ?_
      rintro e w2 ⟨rfl, hk2⟩
      go_wp2_with fail
      refine (HU.out _).mono ?_
      rintro e w3 ⟨rfl, hk3⟩
      go_wp2_with fail
      refine (HR.out _).mono ?_
      rintro e w4 ⟨rfl, hk4⟩
      have hb1 := hk4.blk (hk3.blk (hk2.blk (hk1.blk hbA (by simp)) (by simp)) (by simp)) (by simp)
      have d0 := hb1.get (k := 0) rfl
      have d1 := hb1.get (k := 1) rfl
      have f1 := hb1.frozen
      have hs1 := hb1.lt
      go_wp2_with fail
      have hb2 := (hb1.set 0 (.string (S (lowW name)))).set 1 (.string (S uv))
      have d2 := hb2.get (k := 0) rfl
      have d3 := hb2.get (k := 1) rfl
      refine bodyPost_ret (v := .tuple #[.agg #[.string (S (lowW name)), .string (S uv)], .bool ub]) ?_ rfl ⟨?_, ?_⟩
      · simp [results, Tryd.results46, go_sem, d2, d3]
      · rw [HP.out]
      · exact (((((hkA.trans hk1).trans hk2).trans hk3).trans hk4).setCell _ _ (by simp)).setCell _ _ (by simp)
theorem param_is {l n v : List UInt8} {k : Bool} {w w1 : World} (hm : ML w) (hk : Keep [] w w1) (hl : l.length ≤ 1048576) (hv : parM l = (⟨n, v⟩, k)) :
    Calls Tryd.prog 46 #[.string (S l)] w1 fun e w' => e = .returned (.tuple #[.agg #[.string (S n), .string (S v)], .bool k]) ∧ Keep [] w1 w' := by
  have h := field_param l w1 (hm.keep hk (by simp)) hl
  rw [hv] at h
  exact h

def PrmOut (w : World) (r : Prm) (e : Ending) (w' : World) : Prop := ∃ v, e = .returned (.tuple #[.string (S r.hd), v, .int .i64 r.e]) ∧ Own Fld.cells 2 w.heap.size 34 w' v r.F ∧ Keep [] w w'
theorem drop_atG {α : Type} {l : List α} {k : Nat} {c : α} (h : l[k]? = some c) : l.drop k = c :: l.drop (k + 1) := by
  obtain ⟨hl, hc⟩ := List.getElem?_eq_some_iff.1 h
  rw [List.drop_eq_getElem_cons hl, hc]
theorem trimW_len (l : List UInt8) : (trimW l).length ≤ l.length := by
  unfold trimW Lib.trimS Lib.trimLeftS Lib.trimRightS
  refine Nat.le_trans (List.dropWhile_sublist _).length_le ?_
  rw [List.length_reverse]
  refine Nat.le_trans (List.dropWhile_sublist _).length_le ?_
  simp
theorem cutM_elem (b : UInt8) (m : Nat) : ∀ (l : List UInt8) (q : Bool) (p : List UInt8), p.length + l.length ≤ m → ∀ x ∈ cutM b l q p, x.length ≤ m
  | [], q, p, h, x, hx => by
    simp [cutM] at hx
    subst hx
    have := trimW_len p
    simp at h; omega
  | [c], q, p, h, x, hx => by
    rw [cutM.eq_def] at hx; dsimp only at hx
    split at hx
    · exact cutM_elem b m [] _ _ (by simp at h ⊢; omega) x hx
    · split at hx
      · simp at hx
        subst hx
        have := trimW_len (p ++ [c])
        simp at h this; omega
      · split at hx
        · rcases List.mem_cons.1 hx with rfl | hx
          · have := trimW_len p
            simp at h; omega
          · exact cutM_elem b m [] _ _ (by simp at h ⊢) x hx
        · exact cutM_elem b m [] _ _ (by simp at h ⊢; omega) x hx
  | c :: d :: r, q, p, h, x, hx => by
    rw [cutM.eq_def] at hx; dsimp only at hx
    split at hx
    · exact cutM_elem b m (d :: r) _ _ (by simp at h ⊢; omega) x hx
    · split at hx
      · exact cutM_elem b m r _ _ (by simp at h ⊢; omega) x hx
      · split at hx
        · rcases List.mem_cons.1 hx with rfl | hx
          · have := trimW_len p
            simp at h; omega
          · exact cutM_elem b m (d :: r) _ _ (by simp at h ⊢; omega) x hx
        · exact cutM_elem b m (d :: r) _ _ (by simp at h ⊢; omega) x hx
theorem cutW_elem {l : List UInt8} {b : UInt8} {x : List UInt8} (h : x ∈ cutW l b) : x.length ≤ l.length := cutM_elem b l.length l false [] (by simp) x h

set_option maxRecDepth 100000 in
set_option maxHeartbeats 1000000 in
theorem field_Params (l : List UInt8) (w : World) (hm : ML w) (hl : l.length ≤ 1048576) :
    Calls Tryd.prog 32 #[.string (S l)] w (PrmOut w (paramsM l)) := by
  have hC := field_cut l 59 w hl
  have hR : paramsM l = match parsM (cutW l 59).tail [] with
    | none => ⟨[], [], 3⟩
    | some F => ⟨(cutW l 59).headD [], F, 0⟩ := rfl
  have hne : cutW l 59 ≠ [] := cutM_ne _ _ _ _
  have hel : ∀ x ∈ cutW l 59, x.length ≤ 1048576 := fun x hx => Nat.le_trans (cutW_elem hx) hl
  have hll : (cutW l 59).length ≤ 1048577 := Nat.le_trans (cutW_length l 59) (by omega)
  have HM := Lib.hid (show maxLen = 9223372036854775807 from rfl)
  obtain ⟨is, Hs⟩ := fldinfo'
  generalize cutW l 59 = M at hC hR hne hel hll
  generalize paramsM l = res at hR
  cases M with
  | nil => exact absurd rfl hne
  | cons m0 T =>
  simp only [List.tail_cons, List.headD_cons] at hR
  have hTl : T.length ≤ 1048576 := by simpa using hll
  have HC := Lib.hid hC
  have HR := Lib.hid hR
  have HE := Lib.hid (fun x hx => hel x (List.mem_cons_of_mem _ hx))
  have HML := Lib.hid hm
  clear hC hR hel hm hne hll
  go_enter Tryd.func32, Tryd.ntmps32
  go_wp2_with fail
  refine HC.out.mono ?_
  rintro e w1 ⟨pv, rfl, ho1, hk1⟩
  have hsh : ∃ g cap, pv = .slice (some ⟨g, 0, none⟩) (T.length + 1) cap ∧ T.length + 1 ≤ cap ∧ cap ≤ maxLen := by
    rcases ho1.2 with ⟨_, h0⟩ | ⟨g, cap, cur, hv, _, _, h1, h2, _⟩
    · simp at h0
    · exact ⟨g, cap, hv, h1, h2⟩
  obtain ⟨g, cap, rfl, hc1, hc2⟩ := hsh
  have hc3 : cap ≤ 9223372036854775807 := hc2
  have hS0 : ∀ {v : Value}, v = .slice none 0 0 → Sep v (.slice (some ⟨g, 0, none⟩) (T.length + 1) cap) := fun h => by subst h; exact Sep.none_left _
  obtain ⟨b0, o0, c0, hv0, _, _, hx0⟩ := (ho1.sl strC_length).cell (i := 0) (x := m0) rfl
  cases hv0
  have HO1 := Lib.hid ho1
  have K1 := Lib.hid hk1
  have HS0 := Lib.hid (hS0 rfl)
  clear ho1 hk1 hc2 hS0 hx0
  by_cases hcap : cap = 1
  · have hT0 : T = [] := List.eq_nil_of_length_eq_zero (by omega)
    subst hT0
    subst hcap
    have HRR : Hid (res = ⟨m0, [], 0⟩) := HR.out
    have d0 := (HO1.out.sl strC_length).cell (i := 0) (x := m0) rfl
    obtain ⟨b1, o1, c1, hv1, _, _, hx1⟩ := d0
    cases hv1
    have e0 := hx1 0 (by omega)
    simp only [strC, List.getElem?_cons_zero, Nat.zero_mul, Nat.add_zero] at e0
    clear hx1 HR
    go_wp2_with fail
    go_loopg [6, 16] 1 (fun g o j wr => o = .slice none 0 0 ∧ j = .int .i64 0 ∧ w1 = wr)
    case atStart => exact ⟨rfl, rfl, rfl⟩
    case round =>
      obtain ⟨rfl, rfl, rfl⟩ := hrel
      go_wp2_with fail
      go_ret3
      rw [HRR.out]
      exact ⟨_, rfl, Own.nil _ _ _ _ _, K1.out⟩
  · have hcap2 : 1 < cap := by omega
    go_wp2_with fail
    go_loopg [6, 16] T.length (fun g' o j wr => ∃ (k : Nat) (O : List Fld), j = .int .i64 k ∧ k ≤ T.length ∧ g' = T.length - k ∧ O.length ≤ k ∧ Hid (Own Fld.cells 2 w.heap.size 34 wr o O) ∧
      Hid (Own strC 1 w.heap.size 9 wr (.slice (some ⟨g, 0, none⟩) (T.length + 1) cap) (m0 :: T)) ∧ Hid (Sep o (.slice (some ⟨g, 0, none⟩) (T.length + 1) cap)) ∧ Hid (Keep [] w wr) ∧ Hid (parsM T [] = parsM (T.drop k) O))
    case atStart => exact ⟨0, [], rfl, by omega, by omega, by simp, Lib.hid (Own.nil _ _ _ _ _), HO1, HS0, K1, Lib.hid rfl⟩
    case round =>
      obtain ⟨k, O, rfl, hk, rfl, hOl, HO, HP, HS, HK, HF⟩ := hrel
      clear HO1 HS0 K1
      by_cases hlt : k < T.length
      · obtain ⟨x, hx⟩ : ∃ x, T[k]? = some x := ⟨_, List.getElem?_eq_getElem hlt⟩
        have hxl := HE.out x (List.mem_of_getElem? hx)
        obtain ⟨b1, o1, c1, hv1, _, _, hx1⟩ := (HP.out.sl strC_length).cell (i := k + 1) (x := x) (by simpa using hx)
        cases hv1
        have e0 := hx1 0 (by omega)
        have ek : 0 + (k + 1) * 1 + 0 = 1 + k := by omega
        simp only [strC, List.getElem?_cons_zero, ek] at e0
        have hF := HF.out
        rw [drop_atG hx] at hF
        have ht := S_toList x
        clear hx1 hx HF ek
        by_cases hxe : x = []
        · subst hxe
          have hF2 : parsM T [] = parsM (T.drop (k + 1)) O := by rw [hF, parsM, if_pos rfl]
          have HF2 := Lib.hid hF2
          clear hF hF2
          go_wp2_with fail
          go_roundg (T.length - (k + 1))
          case measure => omega
          case rel => exact ⟨k + 1, O, by go_num, by omega, rfl, by omega, HO, HP, HS, HK, HF2⟩
        · rw [parsM, if_neg hxe] at hF
          have hie := isEmpty_false hxe
          obtain ⟨n, v, ok, hpar⟩ : ∃ n v ok, parM x = (⟨n, v⟩, ok) := ⟨_, _, _, rfl⟩
          rw [hpar] at hF
          have HPA := Lib.hid (fun w' (h : Keep [] w w') => param_is HML.out h hxl hpar)
          clear hpar hxe
          cases ok with
          | false =>
            have hF2 : res = ⟨[], [], 3⟩ := by rw [HR.out, hF]; rfl
            have HF2 := Lib.hid hF2
            clear hF hF2
            go_wp2_with fail
            refine (HPA.out _ HK.out).mono ?_
            rintro e w2 ⟨rfl, hk2⟩
            have K2 := Lib.hid ((HK.out.trans hk2).alloc (.cells #[.string (S n), .string (S v)] 34))
            clear hk2
            go_wp2_with fail
            go_ret3
            rw [HF2.out]
            exact ⟨_, rfl, Own.nil _ _ _ _ _, K2.out⟩
          | true =>
            have hF2 : parsM T [] = parsM (T.drop (k + 1)) (O ++ [⟨n, v⟩]) := hF
            have HF2 := Lib.hid hF2
            clear hF hF2
            go_wp2_with fail
            refine (HPA.out _ HK.out).mono ?_
            rintro e w2 ⟨rfl, hk2⟩
            have hk3 := (HK.out.trans hk2).alloc (.cells #[.string (S n), .string (S v)] 34)
            have ho3 := (HO.out.keep0 hk2).alloc (.cells #[.string (S n), .string (S v)] 34)
            have hp3 := (HP.out.keep0 hk2).alloc (.cells #[.string (S n), .string (S v)] 34)
            have hb3 := Blk.newA w2 #[.string (S n), .string (S v)] 34
            generalize hw3 : w2.alloc (.cells #[.string (S n), .string (S v)] 34) = w3 at hk3 ho3 hp3 hb3
            have K3 := Lib.hid hk3
            have O3 := Lib.hid ho3
            have P3 := Lib.hid hp3
            have d0 := hb3.get (k := 0) rfl
            have d1 := hb3.get (k := 1) rfl
            clear hk2 hk3 ho3 hp3 hb3
            go_wp2_with (first | (at_builtin; go_must (refine wpList_append2 rfl _ _ 23 rfl is (.agg #[.string ⟨#[]⟩, .string ⟨#[]⟩]) 32 Tryd.underlying23 Hs rfl (by decide) Fld.cells_length Fld.one w w3 rfl K3.out (by rfl) O3.out ⟨n, v⟩ _ rfl _ rfl (by have := HM.out; omega) (by omega) ?_); intro v' w4 hown' hk' hside) | fail)
            have hs4 := hside P3.out HS.out
            have O4 := Lib.hid hown'
            have K4 := Lib.hid hk'
            have P4 := Lib.hid hs4.1
            have S4 := Lib.hid hs4.2
            clear hown' hk' hside hs4 d0 d1 hw3 e0
            go_roundg (T.length - (k + 1))
            case measure => omega
            case rel => exact ⟨k + 1, O ++ [⟨n, v⟩], by go_num, by omega, rfl, by simp; omega, O4, P4, S4, K4, HF2⟩
      · have hF := HF.out
        rw [List.drop_eq_nil_of_le (by omega), parsM] at hF
        have hF2 : res = ⟨m0, O, 0⟩ := by rw [HR.out, hF]
        have HF2 := Lib.hid hF2
        obtain ⟨b1, o1, c1, hv1, _, _, hx1⟩ := (HP.out.sl strC_length).cell (i := 0) (x := m0) rfl
        cases hv1
        have e0 := hx1 0 (by omega)
        simp only [strC, List.getElem?_cons_zero, Nat.zero_mul, Nat.add_zero] at e0
        clear hF hF2 hx1 HF
        go_wp2_with fail
        go_ret3
        rw [HF2.out]
        exact ⟨_, rfl, HO.out, HK.out⟩
end Go.Proofs.YtbeppooknhmhaaaDoor
