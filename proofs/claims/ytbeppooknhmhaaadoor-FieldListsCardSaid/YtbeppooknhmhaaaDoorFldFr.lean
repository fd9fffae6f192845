/- Layer 10: Frame. No conditions but on lengths. -/
import Derived.Test.YtbeppooknhmhaaaDoorFld9
import Derived.Test.YtbeppooknhmhaaaDoorHexN
namespace Go.Proofs.YtbeppooknhmhaaaDoor
open Go.RowKit Go.Shelf

def nTE : List UInt8 := [84, 114, 97, 110, 115, 102, 101, 114, 45, 69, 110, 99, 111, 100, 105, 110, 103]
def nCL : List UInt8 := [67, 111, 110, 116, 101, 110, 116, 45, 76, 101, 110, 103, 116, 104]
def nChunked : List UInt8 := [99, 104, 117, 110, 107, 101, 100]
/-- how a body is framed: its length, whether in chunks, the error -/
structure Frm where
  n : Int
  ch : Bool
  e : Int
def frameM (L : List Fld) (most : Int) : Frm :=
  if 1 < getN L nTE ∨ 1 < getN L nCL ∨ 1 < getN L nTE + getN L nCL then ⟨0, false, 3⟩
  else if getN L nTE = 1 then (if lowW (getV L nTE) = nChunked then ⟨0, true, 0⟩ else ⟨0, false, 3⟩)
  else if getN L nCL = 0 then ⟨-1, false, 0⟩
  else ⟨undecV (getV L nCL) most, false, if undecE (getV L nCL) most = 14 then 4 else undecE (getV L nCL) most⟩
theorem frm_ret {a c : Int} {b d : Bool} {x y : Int} (h : a = c) (h2 : b = d) (h3 : x = y) : Ending.returned (.tuple #[.int .i64 a, .bool b, .int .i64 x]) = .returned (.tuple #[.int .i64 c, .bool d, .int .i64 y]) := by rw [h, h2, h3]
theorem getV_len {L : List Fld} {n : List UInt8} {m : Nat} (h : ∀ x ∈ L, x.value.length ≤ m) : (getV L n).length ≤ m := by
  unfold getV
  cases hg : getS L n with
  | nil => simp
  | cons f r =>
    have : f ∈ getS L n := by rw [hg]; simp
    exact h f (List.mem_filter.1 this).1

set_option maxRecDepth 100000 in
set_option maxHeartbeats 1000000 in
theorem field_Frame (va : Value) (L : List Fld) (most : Int) (w : World) (ha : Sl Fld.cells 2 w va L) (hg : ∀ x ∈ L, x.name.length ≤ maxLen) (hv : ∀ x ∈ L, x.value.length ≤ maxLen) (hl : L.length ≤ 4611686018427387904) :
    Calls Tryd.prog 24 #[va, .int .i64 most] w fun e w' => e = .returned (.tuple #[.int .i64 (frameM L most).n, .bool (frameM L most).ch, .int .i64 (frameM L most).e]) ∧ Keep [] w w' := by
  have HG1 := Lib.hid (field_Get va L nTE w ha hg (by decide))
  have HG2 := Lib.hid (fun w1 (k : Keep [] w w1) => field_Get va L nCL w1 (ha.keep Fld.cells_length (by omega) ha k (by simp) (Nat.le_refl _)) hg (by decide))
  have hL := fun w1 => field_low (getV L nTE) w1 (getV_len hv)
  have hU := fun w1 => hexa_Undec (getV L nCL) most w1 (getV_len hv)
  have hF : frameM L most = if 1 < getN L nTE ∨ 1 < getN L nCL ∨ 1 < getN L nTE + getN L nCL then ⟨0, false, 3⟩
    else if getN L nTE = 1 then (if lowW (getV L nTE) = nChunked then ⟨0, true, 0⟩ else ⟨0, false, 3⟩)
    else if getN L nCL = 0 then ⟨-1, false, 0⟩
    else ⟨undecV (getV L nCL) most, false, if undecE (getV L nCL) most = 14 then 4 else undecE (getV L nCL) most⟩ := rfl
  have b1 := getN_le L nTE
  have b2 := getN_le L nCL
  unfold GetOut at HG1 HG2
  generalize frameM L most = f at hF
  generalize getV L nTE = tv at hL hF HG1
  generalize getV L nCL = cv at hU hF HG2
  generalize getN L nTE = tn at hF b1 HG1
  generalize getN L nCL = cn at hF b2 HG2
  obtain ⟨fn, fc, fe⟩ := f
  dsimp only
  clear ha hg hv
  by_cases h1 : 1 < tn ∨ 1 < cn ∨ 1 < tn + cn
  · rw [if_pos h1] at hF
    have HF := Lib.hid hF
    clear hF hL hU
    by_cases t1 : 1 < tn
    · clear h1
      go_enter Tryd.func24, Tryd.ntmps24
      go_wp2_with fail
      refine HG1.out.mono ?_
      rintro e w1 ⟨rfl, hk1⟩
      have K1 := Lib.hid hk1
      clear hk1
      go_wp2_with fail
      refine (HG2.out _ K1.out).mono ?_
      rintro e w2 ⟨rfl, hk2⟩
      have K2 := Lib.hid (K1.out.trans hk2)
      clear hk2
      go_wp2_with fail
      go_ret3
      exact ⟨frm_ret (by cases HF.out; rfl) (by cases HF.out; rfl) (by cases HF.out; rfl), K2.out⟩
    · by_cases t2 : 1 < cn
      · clear h1
        go_enter Tryd.func24, Tryd.ntmps24
        go_wp2_with fail
        refine HG1.out.mono ?_
        rintro e w1 ⟨rfl, hk1⟩
        have K1 := Lib.hid hk1
        clear hk1
        go_wp2_with fail
        refine (HG2.out _ K1.out).mono ?_
        rintro e w2 ⟨rfl, hk2⟩
        have K2 := Lib.hid (K1.out.trans hk2)
        clear hk2
        go_wp2_with fail
        go_ret3
        exact ⟨frm_ret (by cases HF.out; rfl) (by cases HF.out; rfl) (by cases HF.out; rfl), K2.out⟩
      · have t3 : 1 < tn + cn := by omega
        clear h1
        go_enter Tryd.func24, Tryd.ntmps24
        go_wp2_with fail
        refine HG1.out.mono ?_
        rintro e w1 ⟨rfl, hk1⟩
        have K1 := Lib.hid hk1
        clear hk1
        go_wp2_with fail
        refine (HG2.out _ K1.out).mono ?_
        rintro e w2 ⟨rfl, hk2⟩
        have K2 := Lib.hid (K1.out.trans hk2)
        clear hk2
        go_wp2_with fail
        go_ret3
        exact ⟨frm_ret (by cases HF.out; rfl) (by cases HF.out; rfl) (by cases HF.out; rfl), K2.out⟩
  · rw [if_neg h1] at hF
    have t1 : tn ≤ 1 := by omega
    have t2 : cn ≤ 1 := by omega
    have t3 : tn + cn ≤ 1 := by omega
    clear h1
    by_cases t4 : tn = 1
    · rw [if_pos t4] at hF
      obtain ⟨q1, q2⟩ := int_eq (show ((tn : Nat) : Int) = 1 by omega)
      have q5 := S_toList (lowW tv)
      by_cases hc : lowW tv = nChunked
      · rw [if_pos hc] at hF
        have q3 : (lowW tv == [99, 104, 117, 110, 107, 101, 100]) = true := by rw [hc]; rfl
        have q4 : (lowW tv != [99, 104, 117, 110, 107, 101, 100]) = false := by rw [hc]; rfl
        have HF := Lib.hid hF
        have HL := Lib.hid hL
        clear hF hL hU t4 hc
        go_enter Tryd.func24, Tryd.ntmps24
        go_wp2_with fail
        refine HG1.out.mono ?_
        rintro e w1 ⟨rfl, hk1⟩
        have K1 := Lib.hid hk1
        clear hk1
        go_wp2_with fail
        refine (HG2.out _ K1.out).mono ?_
        rintro e w2 ⟨rfl, hk2⟩
        have K2 := Lib.hid (K1.out.trans hk2)
        clear hk2
        go_wp2_with fail
        refine (HL.out _).mono ?_
        rintro e w3 ⟨rfl, hk3⟩
        have K3 := Lib.hid (K2.out.trans hk3)
        clear hk3
        go_wp2_with fail
        go_ret3
        exact ⟨frm_ret (by cases HF.out; rfl) (by cases HF.out; rfl) (by cases HF.out; rfl), K3.out⟩
      · rw [if_neg hc] at hF
        have q3 : (lowW tv == [99, 104, 117, 110, 107, 101, 100]) = false := beq_eq_false_iff_ne.2 hc
        have q4 : (lowW tv != [99, 104, 117, 110, 107, 101, 100]) = true := bne_iff_ne.2 hc
        have HF := Lib.hid hF
        have HL := Lib.hid hL
        clear hF hL hU t4 hc
        go_enter Tryd.func24, Tryd.ntmps24
        go_wp2_with fail
        refine HG1.out.mono ?_
        rintro e w1 ⟨rfl, hk1⟩
        have K1 := Lib.hid hk1
        clear hk1
        go_wp2_with fail
        refine (HG2.out _ K1.out).mono ?_
        rintro e w2 ⟨rfl, hk2⟩
        have K2 := Lib.hid (K1.out.trans hk2)
        clear hk2
        go_wp2_with fail
        refine (HL.out _).mono ?_
        rintro e w3 ⟨rfl, hk3⟩
        have K3 := Lib.hid (K2.out.trans hk3)
        clear hk3
        go_wp2_with fail
        go_ret3
        exact ⟨frm_ret (by cases HF.out; rfl) (by cases HF.out; rfl) (by cases HF.out; rfl), K3.out⟩
    · rw [if_neg t4] at hF
      obtain ⟨q1, q2⟩ := int_ne (show ((tn : Nat) : Int) ≠ 1 by omega)
      by_cases t5 : cn = 0
      · rw [if_pos t5] at hF
        obtain ⟨q3, q4⟩ := int_eq (show ((cn : Nat) : Int) = 0 by omega)
        have HF := Lib.hid hF
        clear hF hL hU t4 t5
        go_enter Tryd.func24, Tryd.ntmps24
        go_wp2_with fail
        refine HG1.out.mono ?_
        rintro e w1 ⟨rfl, hk1⟩
        have K1 := Lib.hid hk1
        clear hk1
        go_wp2_with fail
        refine (HG2.out _ K1.out).mono ?_
        rintro e w2 ⟨rfl, hk2⟩
        have K2 := Lib.hid (K1.out.trans hk2)
        clear hk2
        go_wp2_with fail
        go_ret3
        exact ⟨frm_ret (by cases HF.out; rfl) (by cases HF.out; rfl) (by cases HF.out; rfl), K2.out⟩
      · rw [if_neg t5] at hF
        obtain ⟨q3, q4⟩ := int_ne (show ((cn : Nat) : Int) ≠ 0 by omega)
        generalize undecV cv most = uv at hF hU
        generalize undecE cv most = ue at hF hU
        have HU := Lib.hid hU
        by_cases h14 : ue = 14
        · rw [if_pos h14] at hF
          obtain ⟨q5, q6⟩ := int_eq h14
          have HF := Lib.hid hF
          clear hF hL hU t4 t5 h14
          go_enter Tryd.func24, Tryd.ntmps24
          go_wp2_with fail
          refine HG1.out.mono ?_
          rintro e w1 ⟨rfl, hk1⟩
          have K1 := Lib.hid hk1
          clear hk1
          go_wp2_with fail
          refine (HG2.out _ K1.out).mono ?_
          rintro e w2 ⟨rfl, hk2⟩
          have K2 := Lib.hid (K1.out.trans hk2)
          clear hk2
          go_wp2_with fail
          refine (HU.out _).mono ?_
          rintro e w3 ⟨rfl, hk3⟩
          have K3 := Lib.hid (K2.out.trans hk3)
          clear hk3
          go_wp2_with fail
          go_ret3
          exact ⟨frm_ret (by cases HF.out; rfl) (by cases HF.out; rfl) (by cases HF.out; rfl), K3.out⟩
        · rw [if_neg h14] at hF
          obtain ⟨q5, q6⟩ := int_ne h14
          have HF := Lib.hid hF
          clear hF hL hU t4 t5 h14
          go_enter Tryd.func24, Tryd.ntmps24
          go_wp2_with fail
          refine HG1.out.mono ?_
          rintro e w1 ⟨rfl, hk1⟩
          have K1 := Lib.hid hk1
          clear hk1
          go_wp2_with fail
          refine (HG2.out _ K1.out).mono ?_
          rintro e w2 ⟨rfl, hk2⟩
          have K2 := Lib.hid (K1.out.trans hk2)
          clear hk2
          go_wp2_with fail
          refine (HU.out _).mono ?_
          rintro e w3 ⟨rfl, hk3⟩
          have K3 := Lib.hid (K2.out.trans hk3)
          clear hk3
          go_wp2_with fail
          go_ret3
          exact ⟨frm_ret (by cases HF.out; rfl) (by cases HF.out; rfl) (by cases HF.out; rfl), K3.out⟩

theorem frame_cases (L : List Fld) (most : Int) :
    ((1 < getN L nTE ∨ 1 < getN L nCL ∨ 1 < getN L nTE + getN L nCL) ∧ frameM L most = ⟨0, false, 3⟩) ∨ (getN L nTE = 1 ∧ getN L nCL = 0 ∧ frameM L most = ⟨0, true, 0⟩) ∨
    (((getN L nTE = 1 ∧ getN L nCL = 0) ∨ (getN L nTE = 0 ∧ getN L nCL = 1)) ∧ ∃ x, x ≠ 0 ∧ frameM L most = ⟨0, false, x⟩) ∨ (getN L nTE = 0 ∧ getN L nCL = 0 ∧ frameM L most = ⟨-1, false, 0⟩) ∨
    (getN L nTE = 0 ∧ getN L nCL = 1 ∧ ∃ v, 0 ≤ v ∧ v ≤ most ∧ frameM L most = ⟨v, false, 0⟩) := by
  have h := undec_range (getV L nCL) most
  unfold frameM
  by_cases h1 : 1 < getN L nTE ∨ 1 < getN L nCL ∨ 1 < getN L nTE + getN L nCL
  · exact .inl ⟨h1, if_pos h1⟩
  · rw [if_neg h1]
    by_cases t4 : getN L nTE = 1
    · rw [if_pos t4]
      by_cases hc : lowW (getV L nTE) = nChunked
      · rw [if_pos hc]; exact .inr (.inl ⟨t4, by omega, rfl⟩)
      · rw [if_neg hc]; exact .inr (.inr (.inl ⟨.inl ⟨t4, by omega⟩, 3, by omega, rfl⟩))
    · rw [if_neg t4]
      by_cases t5 : getN L nCL = 0
      · rw [if_pos t5]; exact .inr (.inr (.inr (.inl ⟨by omega, t5, rfl⟩)))
      · rw [if_neg t5]
        by_cases he : undecE (getV L nCL) most = 0
        · rw [if_neg (by omega), he]
          exact .inr (.inr (.inr (.inr ⟨by omega, by omega, _, (h.1 he).1, (h.1 he).2, rfl⟩)))
        · obtain ⟨h2, h3⟩ := h.2 he
          rw [h2]
          refine .inr (.inr (.inl ⟨.inr ⟨by omega, by omega⟩, _, ?_, rfl⟩))
          split <;> omega
end Go.Proofs.YtbeppooknhmhaaaDoor
