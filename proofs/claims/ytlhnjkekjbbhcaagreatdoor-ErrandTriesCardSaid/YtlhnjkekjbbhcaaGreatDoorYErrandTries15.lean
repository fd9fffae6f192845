/- Parts of the proof of ErrandTries, in order. No conditions but those that each theorem states. -/
import Derived.Test.YtlhnjkekjbbhcaaGreatDoorYErrandTries0
import Derived.Lib.SlBytesConst
import Derived.Lib.LaidTab
import Derived.Lib.ItoaNum
import Derived.Lib.ItoaLen
import Derived.Sort.Grow
import Derived.Test.YtlhnjkekjbbhcaaGreatDoorYErrandTries11
import Derived.Test.YtlhnjkekjbbhcaaGreatDoorYErrandTries14
set_option linter.unusedSimpArgs false
set_option linter.unusedVariables false
namespace Go.Proofs.YtlhnjkekjbbhcaaGreatDoor
open Go.RowKit Go.Shelf
def nTE : List UInt8 := [84, 114, 97, 110, 115, 102, 101, 114, 45, 69, 110, 99, 111, 100, 105, 110, 103]
def nCL : List UInt8 := [67, 111, 110, 116, 101, 110, 116, 45, 76, 101, 110, 103, 116, 104]
def nChunked : List UInt8 := [99, 104, 117, 110, 107, 101, 100]
structure Frm where
  n : Int
  ch : Bool
  e : Int
def frameM (L : List Fld) (most : Int) : Frm :=
  if 1 < getN L nTE ∨ 1 < getN L nCL ∨ 1 < getN L nTE + getN L nCL then ⟨0, false, 3⟩
  else if getN L nTE = 1 then (if lowW (getV L nTE) = nChunked then ⟨0, true, 0⟩ else ⟨0, false, 3⟩)
  else if getN L nCL = 0 then ⟨-1, false, 0⟩
  else ⟨undecV (getV L nCL) most, false, if undecE (getV L nCL) most = 14 then 4 else undecE (getV L nCL) most⟩
theorem frm_ret {a c : Int} {b d : Bool} {x y : Int} (h : a = c) (h2 : b = d) (h3 : x = y) : Ending.returned (.tuple #[.int .i64 a, .bool b, .int .i64 x]) = .returned (.tuple #[.int .i64 c, .bool d, .int .i64 y]) := by rw [h, h2, h3]
theorem getV_len {L : List Fld} {n : List UInt8} {m : Nat} (h : ∀ x ∈ L, x.value.length ≤ m) : (getV L n).length ≤ m := by
  unfold getV
  cases hg : getS L n with
  | nil => simp
  | cons f r =>
    have : f ∈ getS L n := by rw [hg]; simp
    exact h f (List.mem_filter.1 this).1
set_option maxRecDepth 100000 in
set_option maxHeartbeats 1000000 in
theorem field_Frame (va : Value) (L : List Fld) (most : Int) (w : World) (ha : Sl Fld.cells 2 w va L) (hg : ∀ x ∈ L, x.name.length ≤ maxLen) (hv : ∀ x ∈ L, x.value.length ≤ maxLen) (_ : L.length ≤ 4611686018427387904) :
    Calls Tryz.prog 115 #[va, .int .i64 most] w fun e w' => e = .returned (.tuple #[.int .i64 (frameM L most).n, .bool (frameM L most).ch, .int .i64 (frameM L most).e]) ∧ Keep [] w w' := by
  have HG1 := Lib.hid (field_Get va L nTE w ha hg (by decide)); have HG2 := Lib.hid (fun w1 (k : Keep [] w w1) => field_Get va L nCL w1 (ha.keep Fld.cells_length (by omega) ha k (by simp) (Nat.le_refl _)) hg (by decide)); have hL := fun w1 => field_low (getV L nTE) w1 (getV_len hv)
  have hU := fun w1 => hexa_Undec (getV L nCL) most w1 (getV_len hv)
  have hF : frameM L most = if 1 < getN L nTE ∨ 1 < getN L nCL ∨ 1 < getN L nTE + getN L nCL then ⟨0, false, 3⟩
    else if getN L nTE = 1 then (if lowW (getV L nTE) = nChunked then ⟨0, true, 0⟩ else ⟨0, false, 3⟩)
    else if getN L nCL = 0 then ⟨-1, false, 0⟩
    else ⟨undecV (getV L nCL) most, false, if undecE (getV L nCL) most = 14 then 4 else undecE (getV L nCL) most⟩ := rfl
  have b1 := getN_le L nTE; have b2 := getN_le L nCL; unfold GetOut at HG1 HG2; generalize frameM L most = f at hF; generalize getV L nTE = tv at hL hF HG1; generalize getV L nCL = cv at hU hF HG2; generalize getN L nTE = tn at hF b1 HG1; generalize getN L nCL = cn at hF b2 HG2; obtain ⟨fn, fc, fe⟩ := f; dsimp only; clear ha hg hv; by_cases h1 : 1 < tn ∨ 1 < cn ∨ 1 < tn + cn
  · rw [if_pos h1] at hF; have HF := Lib.hid hF; clear hF hL hU; by_cases t1 : 1 < tn
    · clear h1; go_enter Tryz.func115, Tryz.ntmps115; go_wp2_with fail; refine HG1.out.mono ?_; rintro e w1 ⟨rfl, hk1⟩; have K1 := Lib.hid hk1; clear hk1; go_wp2_with fail; refine (HG2.out _ K1.out).mono ?_; rintro e w2 ⟨rfl, hk2⟩; have K2 := Lib.hid (K1.out.trans hk2); clear hk2; go_wp2_with fail; go_ret3; exact ⟨frm_ret (by cases HF.out; rfl) (by cases HF.out; rfl) (by cases HF.out; rfl), K2.out⟩
    · by_cases t2 : 1 < cn
      · clear h1; go_enter Tryz.func115, Tryz.ntmps115; go_wp2_with fail; refine HG1.out.mono ?_; rintro e w1 ⟨rfl, hk1⟩; have K1 := Lib.hid hk1; clear hk1; go_wp2_with fail; refine (HG2.out _ K1.out).mono ?_; rintro e w2 ⟨rfl, hk2⟩; have K2 := Lib.hid (K1.out.trans hk2); clear hk2; go_wp2_with fail; go_ret3; exact ⟨frm_ret (by cases HF.out; rfl) (by cases HF.out; rfl) (by cases HF.out; rfl), K2.out⟩
      · have t3 : 1 < tn + cn := by omega
        clear h1; go_enter Tryz.func115, Tryz.ntmps115; go_wp2_with fail; refine HG1.out.mono ?_; rintro e w1 ⟨rfl, hk1⟩; have K1 := Lib.hid hk1; clear hk1; go_wp2_with fail; refine (HG2.out _ K1.out).mono ?_; rintro e w2 ⟨rfl, hk2⟩; have K2 := Lib.hid (K1.out.trans hk2); clear hk2; go_wp2_with fail; go_ret3; exact ⟨frm_ret (by cases HF.out; rfl) (by cases HF.out; rfl) (by cases HF.out; rfl), K2.out⟩
  · rw [if_neg h1] at hF; have t1 : tn ≤ 1 := by omega
    have t2 : cn ≤ 1 := by omega
    have t3 : tn + cn ≤ 1 := by omega
    clear h1; by_cases t4 : tn = 1
    · rw [if_pos t4] at hF; obtain ⟨q1, q2⟩ := int_eq (show ((tn : Nat) : Int) = 1 by omega); have q5 := S_toList (lowW tv); by_cases hc : lowW tv = nChunked
      · rw [if_pos hc] at hF; have q3 : (lowW tv == [99, 104, 117, 110, 107, 101, 100]) = true := by rw [hc]; rfl
        have q4 : (lowW tv != [99, 104, 117, 110, 107, 101, 100]) = false := by rw [hc]; rfl
        have HF := Lib.hid hF; have HL := Lib.hid hL; clear hF hL hU t4 hc; go_enter Tryz.func115, Tryz.ntmps115; go_wp2_with fail; refine HG1.out.mono ?_; rintro e w1 ⟨rfl, hk1⟩; have K1 := Lib.hid hk1; clear hk1; go_wp2_with fail; refine (HG2.out _ K1.out).mono ?_; rintro e w2 ⟨rfl, hk2⟩; have K2 := Lib.hid (K1.out.trans hk2); clear hk2; go_wp2_with fail; refine (HL.out _).mono ?_; rintro e w3 ⟨rfl, hk3⟩; have K3 := Lib.hid (K2.out.trans hk3); clear hk3; go_wp2_with fail; go_ret3; exact ⟨frm_ret (by cases HF.out; rfl) (by cases HF.out; rfl) (by cases HF.out; rfl), K3.out⟩
      · rw [if_neg hc] at hF; have q3 : (lowW tv == [99, 104, 117, 110, 107, 101, 100]) = false := beq_eq_false_iff_ne.2 hc; have q4 : (lowW tv != [99, 104, 117, 110, 107, 101, 100]) = true := bne_iff_ne.2 hc; have HF := Lib.hid hF; have HL := Lib.hid hL; clear hF hL hU t4 hc; go_enter Tryz.func115, Tryz.ntmps115; go_wp2_with fail; refine HG1.out.mono ?_; rintro e w1 ⟨rfl, hk1⟩; have K1 := Lib.hid hk1; clear hk1; go_wp2_with fail; refine (HG2.out _ K1.out).mono ?_; rintro e w2 ⟨rfl, hk2⟩; have K2 := Lib.hid (K1.out.trans hk2); clear hk2; go_wp2_with fail; refine (HL.out _).mono ?_; rintro e w3 ⟨rfl, hk3⟩; have K3 := Lib.hid (K2.out.trans hk3); clear hk3; go_wp2_with fail; go_ret3; exact ⟨frm_ret (by cases HF.out; rfl) (by cases HF.out; rfl) (by cases HF.out; rfl), K3.out⟩
    · rw [if_neg t4] at hF; obtain ⟨q1, q2⟩ := int_ne (show ((tn : Nat) : Int) ≠ 1 by omega); by_cases t5 : cn = 0
      · rw [if_pos t5] at hF; obtain ⟨q3, q4⟩ := int_eq (show ((cn : Nat) : Int) = 0 by omega); have HF := Lib.hid hF; clear hF hL hU t4 t5; go_enter Tryz.func115, Tryz.ntmps115; go_wp2_with fail; refine HG1.out.mono ?_; rintro e w1 ⟨rfl, hk1⟩; have K1 := Lib.hid hk1; clear hk1; go_wp2_with fail; refine (HG2.out _ K1.out).mono ?_; rintro e w2 ⟨rfl, hk2⟩; have K2 := Lib.hid (K1.out.trans hk2); clear hk2; go_wp2_with fail; go_ret3; exact ⟨frm_ret (by cases HF.out; rfl) (by cases HF.out; rfl) (by cases HF.out; rfl), K2.out⟩
      · rw [if_neg t5] at hF; obtain ⟨q3, q4⟩ := int_ne (show ((cn : Nat) : Int) ≠ 0 by omega); generalize undecV cv most = uv at hF hU; generalize undecE cv most = ue at hF hU; have HU := Lib.hid hU; by_cases h14 : ue = 14
        · rw [if_pos h14] at hF; obtain ⟨q5, q6⟩ := int_eq h14; have HF := Lib.hid hF; clear hF hL hU t4 t5 h14; go_enter Tryz.func115, Tryz.ntmps115; go_wp2_with fail; refine HG1.out.mono ?_; rintro e w1 ⟨rfl, hk1⟩; have K1 := Lib.hid hk1; clear hk1; go_wp2_with fail; refine (HG2.out _ K1.out).mono ?_; rintro e w2 ⟨rfl, hk2⟩; have K2 := Lib.hid (K1.out.trans hk2); clear hk2; go_wp2_with fail; refine (HU.out _).mono ?_; rintro e w3 ⟨rfl, hk3⟩; have K3 := Lib.hid (K2.out.trans hk3); clear hk3; go_wp2_with fail; go_ret3; exact ⟨frm_ret (by cases HF.out; rfl) (by cases HF.out; rfl) (by cases HF.out; rfl), K3.out⟩
        · rw [if_neg h14] at hF; obtain ⟨q5, q6⟩ := int_ne h14; have HF := Lib.hid hF; clear hF hL hU t4 t5 h14; go_enter Tryz.func115, Tryz.ntmps115; go_wp2_with fail; refine HG1.out.mono ?_; rintro e w1 ⟨rfl, hk1⟩; have K1 := Lib.hid hk1; clear hk1; go_wp2_with fail; refine (HG2.out _ K1.out).mono ?_; rintro e w2 ⟨rfl, hk2⟩; have K2 := Lib.hid (K1.out.trans hk2); clear hk2; go_wp2_with fail; refine (HU.out _).mono ?_; rintro e w3 ⟨rfl, hk3⟩; have K3 := Lib.hid (K2.out.trans hk3); clear hk3; go_wp2_with fail; go_ret3; exact ⟨frm_ret (by cases HF.out; rfl) (by cases HF.out; rfl) (by cases HF.out; rfl), K3.out⟩
def nConn : List UInt8 := [67, 111, 110, 110, 101, 99, 116, 105, 111, 110]
def nClose : List UInt8 := [99, 108, 111, 115, 101]
def nKeep : List UInt8 := [107, 101, 101, 112, 45, 97, 108, 105, 118, 101]
def closeL : List (List UInt8) → Bool → Bool
  | [], k => !k
  | x :: r, k => if lowW x = nClose then true else closeL r (k || decide (lowW x = nKeep))
def closesM (L : List Fld) (minor : Int) : Bool := closeL (elsM L nConn) (decide (1 ≤ minor))
theorem els_elem {L : List Fld} {n x : List UInt8} {m : Nat} (hg : ∀ f ∈ L, f.value.length ≤ m) (h : x ∈ elsM L n) : x.length ≤ m := by
  unfold elsM at h; obtain ⟨f, hf, hx⟩ := List.mem_flatMap.1 h; have h1 := (List.mem_filter.1 hf).1; have h2 := (List.mem_filter.1 hx).1; exact Nat.le_trans (cutW_elem h2) (hg f h1)
set_option maxRecDepth 100000 in
set_option maxHeartbeats 1000000 in
theorem field_Closes (va : Value) (L : List Fld) (minor : Int) (w : World) (ha : Sl Fld.cells 2 w va L) (hg : ∀ x ∈ L, x.name.length ≤ 1048576 ∧ x.value.length ≤ 1048576) (hl : L.length ≤ 1024) :
    Calls Tryz.prog 117 #[va, .int .i64 minor] w fun e w' => e = .returned (.bool (closesM L minor)) ∧ Keep [] w w' := by
  have hE := field_Elements va L nConn w ha hg (by decide) hl; have hC : closesM L minor = closeL (elsM L nConn) (decide (1 ≤ minor)) := rfl; have hel : ∀ x ∈ elsM L nConn, x.length ≤ 1048576 := fun x hx => els_elem (fun f hf => (hg f hf).2) hx
  generalize elsM L nConn = M at hE hC hel; generalize closesM L minor = res at hC; have HE := Lib.hid hE; have HC := Lib.hid hC; have HEL := Lib.hid hel; have HLW := Lib.hid (fun (x : List UInt8) (h : x.length ≤ 1048576) (w1 : World) => field_low x w1 (show x.length ≤ 9223372036854775807 by omega)); clear hE hC hel ha hg; generalize hdec : decide (1 ≤ minor) = kp0 at HC; have hmin : (decide ((1 : Int) ≤ minor)) = kp0 := hdec; go_enter Tryz.func117, Tryz.ntmps117; go_wp2_with fail; refine HE.out.mono ?_; rintro e w1 ⟨pv, rfl, ho1, hk1⟩; obtain ⟨pa, pc, rfl, hml⟩ := ho1.shape; have hml' : M.length ≤ 9223372036854775807 := hml; have HO := Lib.hid ho1; have K1 := Lib.hid hk1; clear ho1 hk1 hml hdec; go_wp2_with fail; clear hmin
  go_loopg [5, 13] M.length (fun g kv j wr => ∃ (k : Nat) (b : Bool), j = .int .i64 k ∧ kv = .bool b ∧ k ≤ M.length ∧ g = M.length - k ∧ Hid (Own strC 1 w.heap.size 9 wr (.slice pa M.length pc) M) ∧ Hid (Keep [] w wr) ∧ Hid (res = closeL (M.drop k) b))
  case atStart => exact ⟨0, _, rfl, rfl, by omega, by omega, HO, K1, HC⟩
  case round =>
    obtain ⟨k, b, rfl, rfl, hk, rfl, HO, HK, HF⟩ := hrel; by_cases hlt : k < M.length
    · obtain ⟨x, hx⟩ : ∃ x, M[k]? = some x := ⟨_, List.getElem?_eq_getElem hlt⟩
      have HL := Lib.hid (HLW.out x (HEL.out x (List.mem_of_getElem? hx))); obtain ⟨b1, o1, c1, hv1, _, hc1, hx1⟩ := (HO.out.sl strC_length).cell hx; cases hv1; have hc1' : pc ≤ 9223372036854775807 := hc1; have e0 := hx1 0 (by omega); simp only [strC, List.getElem?_cons_zero, Nat.mul_one, Nat.add_zero] at e0; have hF := HF.out; rw [drop_atG hx, closeL] at hF; have ht := S_toList (lowW x); clear hx1 hx HF hc1; by_cases h1 : lowW x = nClose
      · rw [if_pos h1] at hF; have q1 : (lowW x == [99, 108, 111, 115, 101]) = true := by rw [h1]; rfl
        have HF := Lib.hid hF; clear hF h1; go_wp2_with fail; refine (HL.out _).mono ?_; rintro e w2 ⟨rfl, hk2⟩; have K2 := Lib.hid (HK.out.trans hk2); clear hk2; go_wp2_with fail; go_ret; exact ⟨ret_bool HF.out.symm, K2.out⟩
      · rw [if_neg h1] at hF; have q1 : (lowW x == [99, 108, 111, 115, 101]) = false := beq_eq_false_iff_ne.2 h1; by_cases h2 : lowW x = nKeep
        · have q2 : (lowW x == [107, 101, 101, 112, 45, 97, 108, 105, 118, 101]) = true := by rw [h2]; rfl
          have HF : Hid (res = closeL (M.drop (k + 1)) true) := by rw [Hid, hF]; simp [h2]
          clear hF h1 h2; go_wp2_with fail; refine (HL.out _).mono ?_; rintro e w2 ⟨rfl, hk2⟩; have K2 := Lib.hid (HK.out.trans hk2); have O2 := Lib.hid (HO.out.keep0 hk2); clear hk2; go_wp2_with fail
          go_roundg (M.length - (k + 1))
          case measure => omega
          case rel => exact ⟨k + 1, true, by go_num, rfl, by omega, rfl, O2, K2, HF⟩
        · have q2 : (lowW x == [107, 101, 101, 112, 45, 97, 108, 105, 118, 101]) = false := beq_eq_false_iff_ne.2 h2; have HF : Hid (res = closeL (M.drop (k + 1)) b) := by rw [Hid, hF]; simp [h2]
          clear hF h1 h2; go_wp2_with fail; refine (HL.out _).mono ?_; rintro e w2 ⟨rfl, hk2⟩; have K2 := Lib.hid (HK.out.trans hk2); have O2 := Lib.hid (HO.out.keep0 hk2); clear hk2; go_wp2_with fail
          go_roundg (M.length - (k + 1))
          case measure => omega
          case rel => exact ⟨k + 1, b, by go_num, rfl, by omega, rfl, O2, K2, HF⟩
    · have hF := HF.out; rw [List.drop_eq_nil_of_le (by omega), closeL] at hF; have HF2 := Lib.hid hF; clear hF HF; go_wp2_with fail; go_ret; exact ⟨ret_bool HF2.out.symm, HK.out⟩
end Go.Proofs.YtlhnjkekjbbhcaaGreatDoor
namespace Go.Proofs.YtlhnjkekjbbhcaaGreatDoor
open Go.RowKit
def nHost : List UInt8 := [72, 111, 115, 116]
end Go.Proofs.YtlhnjkekjbbhcaaGreatDoor
namespace Go.Proofs.YtlhnjkekjbbhcaaGreatDoor
open Go.RowKit Go.Shelf
theorem Ct.lt {B b : Nat} {w : World} {p : List UInt8} {c : Ck} {v : Value} (h : Ct B w b p c v) : b < w.heap.size := let ⟨_, h1⟩ := h.cells; h1.lt
end Go.Proofs.YtlhnjkekjbbhcaaGreatDoor
namespace Go.Proofs.YtlhnjkekjbbhcaaGreatDoor
open Go.RowKit
structure Ans where
  st : Int
  F : List Fld
  len : Int
  ch : Bool
  cl : Bool
def ans0 : Ans := ⟨0, [], 0, false, false⟩
structure ReS where
  head : Bool
  most : Nat
  st : Nat
  inp : List UInt8
  dat : List UInt8
  left : Nat
  size : Nat
  passed : Nat
  chk : Option Ck
  ans : Option Ans
  shut : Bool
  ended : Bool
def reNew (head : Bool) (most : Int) : ReS := ⟨head, (max most 0).toNat, 0, [], [], 0, 0, 0, none, none, false, false⟩
def reAdd (p : ReS) (s : List UInt8) : ReS × Int :=
  if (16384 : Int) - p.inp.length - p.dat.length < s.length then (p, 6) else if p.shut || p.st == 5 then (p, 0) else ({ p with inp := p.inp ++ s }, 0)
def reShut (p : ReS) : ReS := { p with shut := true }
def reFail (p : ReS) : ReS := { p with st := 5 }
def noBody (s : Int) (head : Bool) : Bool := head || (decide (100 ≤ s) && decide (s < 200)) || decide (s = 204) || decide (s = 304)
structure FrR where
  p : ReS
  a : Ans
  ok : Bool
def reFrame (p : ReS) (a : Ans) : FrR :=
  if noBody a.st p.head then ⟨{ p with st := 4 }, { a with len := max (frameM a.F 1048576).n 0 }, true⟩
  else if (frameM a.F p.most).e ≠ 0 then ⟨p, a, false⟩
  else if (frameM a.F p.most).ch then ⟨{ p with st := 1, chk := some (ck0 p.most) }, { a with ch := true }, true⟩
  else if (frameM a.F p.most).n < 0 then ⟨{ p with st := 3 }, { a with len := (frameM a.F p.most).n, cl := true }, true⟩
  else ⟨{ p with st := 2, left := (frameM a.F p.most).n.toNat }, { a with len := (frameM a.F p.most).n }, true⟩
def headA (p : ReS) : Ans := ⟨(slM (splitM p.inp).st).n, (splitM p.inp).F, 0, false, closesM (splitM p.inp).F (slM (splitM p.inp).st).v⟩
def headP (p : ReS) : ReS := { p with inp := p.inp.drop (splitM p.inp).n }
def readHeadR (p : ReS) : ReS × Bool :=
  if (splitM p.inp).e = 17 then (p, false)
  else if (splitM p.inp).e ≠ 0 ∨ (slM (splitM p.inp).st).ok = false ∨ (slM (splitM p.inp).st).n = 101 then (reFail p, true)
  else if (slM (splitM p.inp).st).n < 200 then (if 5 < p.passed + 1 then (reFail { headP p with passed := p.passed + 1 }, true) else ({ headP p with passed := p.passed + 1 }, true))
  else if (reFrame (headP p) (headA p)).ok then ({ (reFrame (headP p) (headA p)).p with ans := some (reFrame (headP p) (headA p)).a }, true)
  else (reFail (headP p), true)
def readLengthR (p : ReS) : ReS × Bool :=
  if p.left - min p.left p.inp.length = 0 then ({ p with dat := p.dat ++ p.inp.take (min p.left p.inp.length), inp := p.inp.drop (min p.left p.inp.length), left := 0, st := 4 }, true)
  else ({ p with dat := p.dat ++ p.inp.take (min p.left p.inp.length), inp := p.inp.drop (min p.left p.inp.length), left := p.left - min p.left p.inp.length }, decide (0 < min p.left p.inp.length))
def closeP (p : ReS) : ReS := { p with dat := p.dat ++ p.inp.take (min (p.most - p.size) p.inp.length), size := p.size + min (p.most - p.size) p.inp.length, inp := p.inp.drop (min (p.most - p.size) p.inp.length) }
def readCloseR (p : ReS) : ReS × Bool :=
  if (closeP p).inp ≠ [] then (reFail (closeP p), true)
  else if p.shut then ({ closeP p with st := 4 }, true)
  else (closeP p, decide (0 < min (p.most - p.size) p.inp.length))
def reFinish (p : ReS) : ReS × Int :=
  if p.st = 4 then ({ p with ended := true }, 3) else if p.st == 5 || p.shut then (reFail p, 4) else (p, 0)
def reRest (p : ReS) : List UInt8 := if p.ended then p.inp else []
end Go.Proofs.YtlhnjkekjbbhcaaGreatDoor
namespace Go.Proofs.YtlhnjkekjbbhcaaGreatDoor
open Go.RowKit Go.Shelf
def acceptB : List UInt8 := [65, 99, 99, 101, 112, 116]
def inmB : List UInt8 := [73, 102, 45, 78, 111, 110, 101, 45, 77, 97, 116, 99, 104]
def methHead : List UInt8 := [72, 69, 65, 68]
def methGet : List UInt8 := [71, 69, 84]
def ctB : List UInt8 := [67, 111, 110, 116, 101, 110, 116, 45, 84, 121, 112, 101]
def dcdB : List UInt8 := [68, 111, 99, 107, 101, 114, 45, 67, 111, 110, 116, 101, 110, 116, 45, 68, 105, 103, 101, 115, 116]
def accB : List UInt8 := [97, 112, 112, 108, 105, 99, 97, 116, 105, 111, 110, 47, 118, 110, 100, 46, 111, 99, 105, 46, 105, 109, 97, 103, 101, 46, 109, 97, 110, 105, 102, 101, 115, 116, 46, 118, 49, 43, 106, 115, 111, 110, 44, 32, 97, 112, 112, 108, 105, 99, 97, 116, 105, 111, 110, 47, 118, 110, 100, 46, 111, 99, 105, 46, 105, 109, 97, 103, 101, 46, 105, 110, 100, 101, 120, 46, 118, 49, 43, 106, 115, 111, 110, 44, 32, 42, 47, 42, 59, 113, 61, 48, 46, 53]
def goodKyM (k : Ky) : Bool := isRepoM k.repo && (if k.kind = 1 then isTagM k.tag && (decide (k.dig = zeroD) && !k.blob) else decide (k.kind = 2 ∨ k.kind = 3) && k.tag.isEmpty)
def routeM (k : Ky) : Rt := ⟨if k.kind = 1 then 2 else if k.blob = true then 4 else 3, k.repo, k.tag, k.dig⟩
theorem route_good {k : Ky} (h : goodKyM k = true) : goodRtM (routeM k) = true := by
  unfold goodKyM at h; rw [Bool.and_eq_true] at h; obtain ⟨h1, h2⟩ := h; by_cases hk : k.kind = 1
  · rw [if_pos hk] at h2; simp only [Bool.and_eq_true, decide_eq_true_eq] at h2; simp [goodRtM, routeM, hk, h1, h2.1, h2.2.1]
  · rw [if_neg hk] at h2; simp only [Bool.and_eq_true, decide_eq_true_eq, List.isEmpty_iff] at h2; cases hb : k.blob <;> simp [goodRtM, routeM, hk, hb, h1, h2.2]
def inmF (t : Tk) : Fld := ⟨inmB, [34] ++ stampM t.dig.1 ++ [34]⟩
def askF (k : Ky) (host : List UInt8) (t : Tk) : List Fld := [⟨nHost, host⟩] ++ (if k.blob = true then [] else [⟨acceptB, accB⟩]) ++ (if k.kind = 1 ∧ t.found = true then [inmF t] else [])
def methB (k : Ky) : List UInt8 := if k.kind = 2 then methGet else methHead
def askedE (k : Ky) (host : List UInt8) (t : Tk) : Int := if goodKyM k = true ∧ askE (methB k) (rtText (routeM k)) (askF k host t) = 0 then 0 else 1
def askedS (k : Ky) (host : List UInt8) (t : Tk) : List UInt8 := if askedE k host t = 0 then askS (methB k) (rtText (routeM k)) (askF k host t) else []
theorem asked_bad {k : Ky} {host : List UInt8} {t : Tk} (h : goodKyM k = false) : askedE k host t = 1 ∧ askedS k host t = [] := by
  have h1 : askedE k host t = 1 := by unfold askedE; rw [if_neg (by rw [h]; simp)]
  exact ⟨h1, by unfold askedS; rw [h1]; rfl⟩
theorem asked_no {k : Ky} {host : List UInt8} {t : Tk} (h : askE (methB k) (rtText (routeM k)) (askF k host t) ≠ 0) : askedE k host t = 1 ∧ askedS k host t = [] := by
  have h1 : askedE k host t = 1 := by unfold askedE; rw [if_neg (fun hh => h hh.2)]
  exact ⟨h1, by unfold askedS; rw [h1]; rfl⟩
theorem asked_yes {k : Ky} {host : List UInt8} {t : Tk} (hg : goodKyM k = true) (h : askE (methB k) (rtText (routeM k)) (askF k host t) = 0) : askedE k host t = 0 ∧ askedS k host t = askS (methB k) (rtText (routeM k)) (askF k host t) := by
  have h1 : askedE k host t = 0 := by unfold askedE; rw [if_pos ⟨hg, h⟩]
  exact ⟨h1, by unfold askedS; rw [h1]; rfl⟩
def typM (F : List Fld) : List UInt8 := if isTypeM (getV F ctB) = true then getV F ctB else []
def sizM (n : Int) : Int := if n < 0 ∨ 1048576 < n then 0 else n
def rs0 : Rs := ⟨0, zeroD, [], 0, 0⟩
def rsBad : Rs := ⟨502, zeroD, [], 0, 0⟩
def shownM (a : Ans) : Option Dig := behindO (getV a.F dcdB)
def foundM (k : Ky) (a : Ans) (at_ : Int) : Rs :=
  if k.kind = 1 ∧ getN a.F dcdB = 1 ∧ (shownM a).isSome = true then ⟨200, (shownM a).getD zeroD, typM a.F, sizM a.len, at_⟩
  else if k.kind = 3 ∧ (getN a.F dcdB = 0 ∨ (shownM a).isSome = true ∧ (shownM a).getD zeroD = k.dig) then ⟨200, k.dig, typM a.F, sizM a.len, at_⟩
  else rsBad
def judgeV (k : Ky) (a : Ans) : Int := if a.st = 404 then 1 else if a.st = 429 ∨ (500 ≤ a.st ∧ a.st ≤ 599) then 2 else if a.st = 200 ∧ k.kind = 2 then 3 else 1
def judgeR (k : Ky) (t : Tk) (a : Ans) (at_ : Int) : Rs :=
  if a.st = 404 then ⟨404, zeroD, [], 0, at_⟩
  else if a.st = 429 ∨ (500 ≤ a.st ∧ a.st ≤ 599) then rs0
  else if a.st = 200 then (if k.kind = 2 then rs0 else foundM k a at_)
  else if a.st = 304 ∧ k.kind = 1 ∧ t.found = true then ⟨304, t.dig, t.typ, t.size, at_⟩
  else rsBad
end Go.Proofs.YtlhnjkekjbbhcaaGreatDoor
namespace Go.Proofs.YtlhnjkekjbbhcaaGreatDoor
open Go.RowKit
def readChunksR (p : ReS) : ReS × Bool :=
  match p.chk with
  | none => (p, false)
  | some c =>
    if p.inp = [] then (p, false)
    else if (addC c p.inp).err ≠ 0 then (reFail { p with inp := [], dat := p.dat ++ (addC c p.inp).dat.drop c.dat.length, chk := some (addC c p.inp) }, true)
    else if (addC c p.inp).st = 4 then ({ p with inp := (addC c p.inp).inp, dat := p.dat ++ (addC c p.inp).dat.drop c.dat.length, chk := some (addC c p.inp), st := 4 }, true)
    else ({ p with inp := [], dat := p.dat ++ (addC c p.inp).dat.drop c.dat.length, chk := some (addC c p.inp) }, true)
def readR (p : ReS) : ReS × Bool :=
  if p.st = 0 then readHeadR p else if p.st = 1 then readChunksR p else if p.st = 2 then readLengthR p else if p.st = 3 then readCloseR p else (p, false)
def reLoop : Nat → ReS → ReS
  | 0, p => p
  | n + 1, p => if p.ans.isSome then p else if (readR p).2 then reLoop n (readR p).1 else (readR p).1
structure NrR where
  p : ReS
  k : Int
  a : Ans
  s : List UInt8
def nextR (p : ReS) : NrR :=
  match (reLoop (p.inp.length + 2) p).ans with
  | some a => ⟨{ reLoop (p.inp.length + 2) p with ans := none }, 1, a, []⟩
  | none =>
    if (reLoop (p.inp.length + 2) p).dat ≠ [] then ⟨{ reLoop (p.inp.length + 2) p with dat := [] }, 2, ans0, (reLoop (p.inp.length + 2) p).dat⟩
    else ⟨(reFinish (reLoop (p.inp.length + 2) p)).1, (reFinish (reLoop (p.inp.length + 2) p)).2, ans0, []⟩
theorem trimW_le (l : List UInt8) : (trimW l).length ≤ l.length := by
  unfold trimW Lib.trimS Lib.trimLeftS Lib.trimRightS; refine Nat.le_trans (List.dropWhile_sublist _).length_le ?_; rw [List.length_reverse]; refine Nat.le_trans (List.dropWhile_sublist _).length_le ?_; simp
theorem parse_le {l : List UInt8} {f : Fld} (h : parseF l = some f) : f.name.length ≤ l.length ∧ f.value.length ≤ l.length := by
  unfold parseF at h; dsimp only at h; have hc := cut_len l [58]
  split at h
  · cases h; exact ⟨hc.1, Nat.le_trans (trimW_le _) hc.2⟩
  · cases h
def Small (m : Nat) (F : List Fld) : Prop := F.length ≤ 32 ∧ ∀ x ∈ F, x.name.length ≤ m ∧ x.value.length ≤ m
theorem add_small {m : Nat} {F : List Fld} {l : List UInt8} (h : Small m F) (hl : l.length ≤ m) : Small m (addM F l).1 := by
  unfold addM
  split
  · exact h
  · rename_i f hf; have hp := parse_le hf
    split
    · exact h
    · refine ⟨by simp; omega, fun x hx => ?_⟩; rcases List.mem_append.1 hx with hx | hx
      · exact h.2 x hx
      · simp at hx; subst hx; exact ⟨by omega, by omega⟩
theorem loop_small (s st : List UInt8) : ∀ (k : Nat) (F : List Fld) (n : Nat), n ≤ s.length → n ≤ 4096 → Small s.length F → Small s.length (loopM s st k F n).F ∧ (loopM s st k F n).st = st
  | 0, F, n, h, _, hF => ⟨hF, rfl⟩
  | k + 1, F, n, h, h2, hF => by
    have hb := next_bounds h h2; unfold loopM; by_cases h4 : (nextM s n).2.2 ≠ 0
    · rw [if_pos h4]; exact ⟨hF, rfl⟩
    · rw [if_neg h4]; by_cases h5 : (nextM s n).1 = []
      · rw [if_pos h5]; exact ⟨hF, rfl⟩
      · rw [if_neg h5]; have ha := add_small hF hb.2.2.2; by_cases h6 : (addM F (nextM s n).1).2 ≠ 0
        · rw [if_pos h6]; exact ⟨ha, rfl⟩
        · rw [if_neg h6]; exact loop_small s st k _ _ hb.1 hb.2.1 ha
theorem split_small (s : List UInt8) : Small s.length (splitM s).F ∧ (splitM s).st.length ≤ s.length ∧ (splitM s).n ≤ s.length := by
  have hb := next_bounds (s := s) (n := 0) (Nat.zero_le _) (Nat.zero_le _); have h0 : Small s.length [] := ⟨by simp, by simp⟩
  have hr : Small s.length (readM s).F ∧ (readM s).st.length ≤ s.length := by
    unfold readM; by_cases h4 : (nextM s 0).2.2 ≠ 0
    · rw [if_pos h4]; exact ⟨h0, by simp⟩
    · rw [if_neg h4]; by_cases h6 : beginE (nextM s 0).1 ≠ 0
      · rw [if_pos h6]; exact ⟨h0, by simp⟩
      · rw [if_neg h6]; have := loop_small s (nextM s 0).1 4097 [] (nextM s 0).2.1 hb.1 hb.2.1 h0; exact ⟨this.1, by rw [this.2]; exact hb.2.2.2⟩
  refine ⟨?_, ?_, split_n_le s⟩ <;> unfold splitM <;> split
  · exact h0
  · exact hr.1
  · simp
  · exact hr.2
theorem loop_pos (s st : List UInt8) : ∀ (k : Nat) (F : List Fld) (n : Nat), n ≤ s.length → n ≤ 4096 → (loopM s st k F n).e = 0 → n + 1 ≤ (loopM s st k F n).n
  | 0, F, n, h, _, he => by unfold loopM at he; simp at he
  | k + 1, F, n, h, h2, he => by
    have hb := next_bounds h h2; unfold loopM at he ⊢; by_cases h4 : (nextM s n).2.2 ≠ 0
    · rw [if_pos h4] at he; exact absurd he h4
    · rw [if_neg h4] at he ⊢; have hn := hb.2.2.1 (by simpa using h4); by_cases h5 : (nextM s n).1 = []
      · rw [if_pos h5]; exact hn
      · rw [if_neg h5] at he ⊢; by_cases h6 : (addM F (nextM s n).1).2 ≠ 0
        · rw [if_pos h6]; exact hn
        · rw [if_neg h6] at he ⊢; have := loop_pos s st k _ _ hb.1 hb.2.1 he; omega
theorem split_pos (s : List UInt8) : (splitM s).e = 0 → 2 ≤ (splitM s).n := by
  have hb := next_bounds (s := s) (n := 0) (Nat.zero_le _) (Nat.zero_le _)
  have hr : (readM s).e = 0 → 2 ≤ (readM s).n := by
    unfold readM; by_cases h4 : (nextM s 0).2.2 ≠ 0
    · rw [if_pos h4]; intro h; exact absurd h h4
    · rw [if_neg h4]; have := hb.2.2.1 (by simpa using h4); by_cases h6 : beginE (nextM s 0).1 ≠ 0
      · rw [if_pos h6]; intro h; exact absurd h h6
      · rw [if_neg h6]; intro he; have := loop_pos s _ _ _ _ hb.1 hb.2.1 he; omega
  unfold splitM
  split
  · rename_i h; intro h2; exact absurd h2 h
  · exact hr
end Go.Proofs.YtlhnjkekjbbhcaaGreatDoor
