/- Parts of the proof of ErrandAsks, in order. No conditions but those that each theorem states. -/
import Derived.Test.YtlhnjkekjbbhcaaGreatDoorYErrandAsks0
import Derived.Lib.SlBytesConst
import Derived.Lib.LaidTab
import Derived.Lib.ItoaNum
import Derived.Lib.ItoaLen
import Derived.Sort.Grow
import Derived.Test.YtlhnjkekjbbhcaaGreatDoorYErrandAsks15
import Derived.Test.YtlhnjkekjbbhcaaGreatDoorYErrandAsks19
set_option linter.unusedSimpArgs false
set_option linter.unusedVariables false
namespace Go.Proofs.YtlhnjkekjbbhcaaGreatDoor
open Go.RowKit Go.Shelf
def nTE : List UInt8 := [84, 114, 97, 110, 115, 102, 101, 114, 45, 69, 110, 99, 111, 100, 105, 110, 103]
def nCL : List UInt8 := [67, 111, 110, 116, 101, 110, 116, 45, 76, 101, 110, 103, 116, 104]
def nChunked : List UInt8 := [99, 104, 117, 110, 107, 101, 100]
structure Frm where
  n : Int
  ch : Bool
  e : Int
def frameM (L : List Fld) (most : Int) : Frm :=
  if 1 < getN L nTE ∨ 1 < getN L nCL ∨ 1 < getN L nTE + getN L nCL then ⟨0, false, 3⟩
  else if getN L nTE = 1 then (if lowW (getV L nTE) = nChunked then ⟨0, true, 0⟩ else ⟨0, false, 3⟩)
  else if getN L nCL = 0 then ⟨-1, false, 0⟩
  else ⟨undecV (getV L nCL) most, false, if undecE (getV L nCL) most = 14 then 4 else undecE (getV L nCL) most⟩
theorem frm_ret {a c : Int} {b d : Bool} {x y : Int} (h : a = c) (h2 : b = d) (h3 : x = y) : Ending.returned (.tuple #[.int .i64 a, .bool b, .int .i64 x]) = .returned (.tuple #[.int .i64 c, .bool d, .int .i64 y]) := by rw [h, h2, h3]
theorem getV_len {L : List Fld} {n : List UInt8} {m : Nat} (h : ∀ x ∈ L, x.value.length ≤ m) : (getV L n).length ≤ m := by
  unfold getV
  cases hg : getS L n with
  | nil => simp
  | cons f r =>
    have : f ∈ getS L n := by rw [hg]; simp
    exact h f (List.mem_filter.1 this).1
set_option maxRecDepth 100000 in
set_option maxHeartbeats 1000000 in
theorem field_Frame (va : Value) (L : List Fld) (most : Int) (w : World) (ha : Sl Fld.cells 2 w va L) (hg : ∀ x ∈ L, x.name.length ≤ maxLen) (hv : ∀ x ∈ L, x.value.length ≤ maxLen) (_ : L.length ≤ 4611686018427387904) :
    Calls Tryz.prog 115 #[va, .int .i64 most] w fun e w' => e = .returned (.tuple #[.int .i64 (frameM L most).n, .bool (frameM L most).ch, .int .i64 (frameM L most).e]) ∧ Keep [] w w' := by
  have HG1 := Lib.hid (field_Get va L nTE w ha hg (by decide)); have HG2 := Lib.hid (fun w1 (k : Keep [] w w1) => field_Get va L nCL w1 (ha.keep Fld.cells_length (by omega) ha k (by simp) (Nat.le_refl _)) hg (by decide)); have hL := fun w1 => field_low (getV L nTE) w1 (getV_len hv)
  have hU := fun w1 => hexa_Undec (getV L nCL) most w1 (getV_len hv)
  have hF : frameM L most = if 1 < getN L nTE ∨ 1 < getN L nCL ∨ 1 < getN L nTE + getN L nCL then ⟨0, false, 3⟩
    else if getN L nTE = 1 then (if lowW (getV L nTE) = nChunked then ⟨0, true, 0⟩ else ⟨0, false, 3⟩)
    else if getN L nCL = 0 then ⟨-1, false, 0⟩
    else ⟨undecV (getV L nCL) most, false, if undecE (getV L nCL) most = 14 then 4 else undecE (getV L nCL) most⟩ := rfl
  have b1 := getN_le L nTE; have b2 := getN_le L nCL; unfold GetOut at HG1 HG2; generalize frameM L most = f at hF; generalize getV L nTE = tv at hL hF HG1; generalize getV L nCL = cv at hU hF HG2; generalize getN L nTE = tn at hF b1 HG1; generalize getN L nCL = cn at hF b2 HG2; obtain ⟨fn, fc, fe⟩ := f; dsimp only; clear ha hg hv; by_cases h1 : 1 < tn ∨ 1 < cn ∨ 1 < tn + cn
  · rw [if_pos h1] at hF; have HF := Lib.hid hF; clear hF hL hU; by_cases t1 : 1 < tn
    · clear h1; go_enter Tryz.func115, Tryz.ntmps115; go_wp2_with fail; refine HG1.out.mono ?_; rintro e w1 ⟨rfl, hk1⟩; have K1 := Lib.hid hk1; clear hk1; go_wp2_with fail; refine (HG2.out _ K1.out).mono ?_; rintro e w2 ⟨rfl, hk2⟩; have K2 := Lib.hid (K1.out.trans hk2); clear hk2; go_wp2_with fail; go_ret3; exact ⟨frm_ret (by cases HF.out; rfl) (by cases HF.out; rfl) (by cases HF.out; rfl), K2.out⟩
    · by_cases t2 : 1 < cn
      · clear h1; go_enter Tryz.func115, Tryz.ntmps115; go_wp2_with fail; refine HG1.out.mono ?_; rintro e w1 ⟨rfl, hk1⟩; have K1 := Lib.hid hk1; clear hk1; go_wp2_with fail; refine (HG2.out _ K1.out).mono ?_; rintro e w2 ⟨rfl, hk2⟩; have K2 := Lib.hid (K1.out.trans hk2); clear hk2; go_wp2_with fail; go_ret3; exact ⟨frm_ret (by cases HF.out; rfl) (by cases HF.out; rfl) (by cases HF.out; rfl), K2.out⟩
      · have t3 : 1 < tn + cn := by omega
        clear h1; go_enter Tryz.func115, Tryz.ntmps115; go_wp2_with fail; refine HG1.out.mono ?_; rintro e w1 ⟨rfl, hk1⟩; have K1 := Lib.hid hk1; clear hk1; go_wp2_with fail; refine (HG2.out _ K1.out).mono ?_; rintro e w2 ⟨rfl, hk2⟩; have K2 := Lib.hid (K1.out.trans hk2); clear hk2; go_wp2_with fail; go_ret3; exact ⟨frm_ret (by cases HF.out; rfl) (by cases HF.out; rfl) (by cases HF.out; rfl), K2.out⟩
  · rw [if_neg h1] at hF; have t1 : tn ≤ 1 := by omega
    have t2 : cn ≤ 1 := by omega
    have t3 : tn + cn ≤ 1 := by omega
    clear h1; by_cases t4 : tn = 1
    · rw [if_pos t4] at hF; obtain ⟨q1, q2⟩ := int_eq (show ((tn : Nat) : Int) = 1 by omega); have q5 := S_toList (lowW tv); by_cases hc : lowW tv = nChunked
      · rw [if_pos hc] at hF; have q3 : (lowW tv == [99, 104, 117, 110, 107, 101, 100]) = true := by rw [hc]; rfl
        have q4 : (lowW tv != [99, 104, 117, 110, 107, 101, 100]) = false := by rw [hc]; rfl
        have HF := Lib.hid hF; have HL := Lib.hid hL; clear hF hL hU t4 hc; go_enter Tryz.func115, Tryz.ntmps115; go_wp2_with fail; refine HG1.out.mono ?_; rintro e w1 ⟨rfl, hk1⟩; have K1 := Lib.hid hk1; clear hk1; go_wp2_with fail; refine (HG2.out _ K1.out).mono ?_; rintro e w2 ⟨rfl, hk2⟩; have K2 := Lib.hid (K1.out.trans hk2); clear hk2; go_wp2_with fail; refine (HL.out _).mono ?_; rintro e w3 ⟨rfl, hk3⟩; have K3 := Lib.hid (K2.out.trans hk3); clear hk3; go_wp2_with fail; go_ret3; exact ⟨frm_ret (by cases HF.out; rfl) (by cases HF.out; rfl) (by cases HF.out; rfl), K3.out⟩
      · rw [if_neg hc] at hF; have q3 : (lowW tv == [99, 104, 117, 110, 107, 101, 100]) = false := beq_eq_false_iff_ne.2 hc; have q4 : (lowW tv != [99, 104, 117, 110, 107, 101, 100]) = true := bne_iff_ne.2 hc; have HF := Lib.hid hF; have HL := Lib.hid hL; clear hF hL hU t4 hc; go_enter Tryz.func115, Tryz.ntmps115; go_wp2_with fail; refine HG1.out.mono ?_; rintro e w1 ⟨rfl, hk1⟩; have K1 := Lib.hid hk1; clear hk1; go_wp2_with fail; refine (HG2.out _ K1.out).mono ?_; rintro e w2 ⟨rfl, hk2⟩; have K2 := Lib.hid (K1.out.trans hk2); clear hk2; go_wp2_with fail; refine (HL.out _).mono ?_; rintro e w3 ⟨rfl, hk3⟩; have K3 := Lib.hid (K2.out.trans hk3); clear hk3; go_wp2_with fail; go_ret3; exact ⟨frm_ret (by cases HF.out; rfl) (by cases HF.out; rfl) (by cases HF.out; rfl), K3.out⟩
    · rw [if_neg t4] at hF; obtain ⟨q1, q2⟩ := int_ne (show ((tn : Nat) : Int) ≠ 1 by omega); by_cases t5 : cn = 0
      · rw [if_pos t5] at hF; obtain ⟨q3, q4⟩ := int_eq (show ((cn : Nat) : Int) = 0 by omega); have HF := Lib.hid hF; clear hF hL hU t4 t5; go_enter Tryz.func115, Tryz.ntmps115; go_wp2_with fail; refine HG1.out.mono ?_; rintro e w1 ⟨rfl, hk1⟩; have K1 := Lib.hid hk1; clear hk1; go_wp2_with fail; refine (HG2.out _ K1.out).mono ?_; rintro e w2 ⟨rfl, hk2⟩; have K2 := Lib.hid (K1.out.trans hk2); clear hk2; go_wp2_with fail; go_ret3; exact ⟨frm_ret (by cases HF.out; rfl) (by cases HF.out; rfl) (by cases HF.out; rfl), K2.out⟩
      · rw [if_neg t5] at hF; obtain ⟨q3, q4⟩ := int_ne (show ((cn : Nat) : Int) ≠ 0 by omega); generalize undecV cv most = uv at hF hU; generalize undecE cv most = ue at hF hU; have HU := Lib.hid hU; by_cases h14 : ue = 14
        · rw [if_pos h14] at hF; obtain ⟨q5, q6⟩ := int_eq h14; have HF := Lib.hid hF; clear hF hL hU t4 t5 h14; go_enter Tryz.func115, Tryz.ntmps115; go_wp2_with fail; refine HG1.out.mono ?_; rintro e w1 ⟨rfl, hk1⟩; have K1 := Lib.hid hk1; clear hk1; go_wp2_with fail; refine (HG2.out _ K1.out).mono ?_; rintro e w2 ⟨rfl, hk2⟩; have K2 := Lib.hid (K1.out.trans hk2); clear hk2; go_wp2_with fail; refine (HU.out _).mono ?_; rintro e w3 ⟨rfl, hk3⟩; have K3 := Lib.hid (K2.out.trans hk3); clear hk3; go_wp2_with fail; go_ret3; exact ⟨frm_ret (by cases HF.out; rfl) (by cases HF.out; rfl) (by cases HF.out; rfl), K3.out⟩
        · rw [if_neg h14] at hF; obtain ⟨q5, q6⟩ := int_ne h14; have HF := Lib.hid hF; clear hF hL hU t4 t5 h14; go_enter Tryz.func115, Tryz.ntmps115; go_wp2_with fail; refine HG1.out.mono ?_; rintro e w1 ⟨rfl, hk1⟩; have K1 := Lib.hid hk1; clear hk1; go_wp2_with fail; refine (HG2.out _ K1.out).mono ?_; rintro e w2 ⟨rfl, hk2⟩; have K2 := Lib.hid (K1.out.trans hk2); clear hk2; go_wp2_with fail; refine (HU.out _).mono ?_; rintro e w3 ⟨rfl, hk3⟩; have K3 := Lib.hid (K2.out.trans hk3); clear hk3; go_wp2_with fail; go_ret3; exact ⟨frm_ret (by cases HF.out; rfl) (by cases HF.out; rfl) (by cases HF.out; rfl), K3.out⟩
def nConn : List UInt8 := [67, 111, 110, 110, 101, 99, 116, 105, 111, 110]
def nClose : List UInt8 := [99, 108, 111, 115, 101]
def nKeep : List UInt8 := [107, 101, 101, 112, 45, 97, 108, 105, 118, 101]
def closeL : List (List UInt8) → Bool → Bool
  | [], k => !k
  | x :: r, k => if lowW x = nClose then true else closeL r (k || decide (lowW x = nKeep))
def closesM (L : List Fld) (minor : Int) : Bool := closeL (elsM L nConn) (decide (1 ≤ minor))
theorem els_elem {L : List Fld} {n x : List UInt8} {m : Nat} (hg : ∀ f ∈ L, f.value.length ≤ m) (h : x ∈ elsM L n) : x.length ≤ m := by
  unfold elsM at h; obtain ⟨f, hf, hx⟩ := List.mem_flatMap.1 h; have h1 := (List.mem_filter.1 hf).1; have h2 := (List.mem_filter.1 hx).1; exact Nat.le_trans (cutW_elem h2) (hg f h1)
set_option maxRecDepth 100000 in
set_option maxHeartbeats 1000000 in
theorem field_Closes (va : Value) (L : List Fld) (minor : Int) (w : World) (ha : Sl Fld.cells 2 w va L) (hg : ∀ x ∈ L, x.name.length ≤ 1048576 ∧ x.value.length ≤ 1048576) (hl : L.length ≤ 1024) :
    Calls Tryz.prog 117 #[va, .int .i64 minor] w fun e w' => e = .returned (.bool (closesM L minor)) ∧ Keep [] w w' := by
  have hE := field_Elements va L nConn w ha hg (by decide) hl; have hC : closesM L minor = closeL (elsM L nConn) (decide (1 ≤ minor)) := rfl; have hel : ∀ x ∈ elsM L nConn, x.length ≤ 1048576 := fun x hx => els_elem (fun f hf => (hg f hf).2) hx
  generalize elsM L nConn = M at hE hC hel; generalize closesM L minor = res at hC; have HE := Lib.hid hE; have HC := Lib.hid hC; have HEL := Lib.hid hel; have HLW := Lib.hid (fun (x : List UInt8) (h : x.length ≤ 1048576) (w1 : World) => field_low x w1 (show x.length ≤ 9223372036854775807 by omega)); clear hE hC hel ha hg; generalize hdec : decide (1 ≤ minor) = kp0 at HC; have hmin : (decide ((1 : Int) ≤ minor)) = kp0 := hdec; go_enter Tryz.func117, Tryz.ntmps117; go_wp2_with fail; refine HE.out.mono ?_; rintro e w1 ⟨pv, rfl, ho1, hk1⟩; obtain ⟨pa, pc, rfl, hml⟩ := ho1.shape; have hml' : M.length ≤ 9223372036854775807 := hml; have HO := Lib.hid ho1; have K1 := Lib.hid hk1; clear ho1 hk1 hml hdec; go_wp2_with fail; clear hmin
  go_loopg [5, 13] M.length (fun g kv j wr => ∃ (k : Nat) (b : Bool), j = .int .i64 k ∧ kv = .bool b ∧ k ≤ M.length ∧ g = M.length - k ∧ Hid (Own strC 1 w.heap.size 9 wr (.slice pa M.length pc) M) ∧ Hid (Keep [] w wr) ∧ Hid (res = closeL (M.drop k) b))
  case atStart => exact ⟨0, _, rfl, rfl, by omega, by omega, HO, K1, HC⟩
  case round =>
    obtain ⟨k, b, rfl, rfl, hk, rfl, HO, HK, HF⟩ := hrel; by_cases hlt : k < M.length
    · obtain ⟨x, hx⟩ : ∃ x, M[k]? = some x := ⟨_, List.getElem?_eq_getElem hlt⟩
      have HL := Lib.hid (HLW.out x (HEL.out x (List.mem_of_getElem? hx))); obtain ⟨b1, o1, c1, hv1, _, hc1, hx1⟩ := (HO.out.sl strC_length).cell hx; cases hv1; have hc1' : pc ≤ 9223372036854775807 := hc1; have e0 := hx1 0 (by omega); simp only [strC, List.getElem?_cons_zero, Nat.mul_one, Nat.add_zero] at e0; have hF := HF.out; rw [drop_atG hx, closeL] at hF; have ht := S_toList (lowW x); clear hx1 hx HF hc1; by_cases h1 : lowW x = nClose
      · rw [if_pos h1] at hF; have q1 : (lowW x == [99, 108, 111, 115, 101]) = true := by rw [h1]; rfl
        have HF := Lib.hid hF; clear hF h1; go_wp2_with fail; refine (HL.out _).mono ?_; rintro e w2 ⟨rfl, hk2⟩; have K2 := Lib.hid (HK.out.trans hk2); clear hk2; go_wp2_with fail; go_ret; exact ⟨ret_bool HF.out.symm, K2.out⟩
      · rw [if_neg h1] at hF; have q1 : (lowW x == [99, 108, 111, 115, 101]) = false := beq_eq_false_iff_ne.2 h1; by_cases h2 : lowW x = nKeep
        · have q2 : (lowW x == [107, 101, 101, 112, 45, 97, 108, 105, 118, 101]) = true := by rw [h2]; rfl
          have HF : Hid (res = closeL (M.drop (k + 1)) true) := by rw [Hid, hF]; simp [h2]
          clear hF h1 h2; go_wp2_with fail; refine (HL.out _).mono ?_; rintro e w2 ⟨rfl, hk2⟩; have K2 := Lib.hid (HK.out.trans hk2); have O2 := Lib.hid (HO.out.keep0 hk2); clear hk2; go_wp2_with fail
          go_roundg (M.length - (k + 1))
          case measure => omega
          case rel => exact ⟨k + 1, true, by go_num, rfl, by omega, rfl, O2, K2, HF⟩
        · have q2 : (lowW x == [107, 101, 101, 112, 45, 97, 108, 105, 118, 101]) = false := beq_eq_false_iff_ne.2 h2; have HF : Hid (res = closeL (M.drop (k + 1)) b) := by rw [Hid, hF]; simp [h2]
          clear hF h1 h2; go_wp2_with fail; refine (HL.out _).mono ?_; rintro e w2 ⟨rfl, hk2⟩; have K2 := Lib.hid (HK.out.trans hk2); have O2 := Lib.hid (HO.out.keep0 hk2); clear hk2; go_wp2_with fail
          go_roundg (M.length - (k + 1))
          case measure => omega
          case rel => exact ⟨k + 1, b, by go_num, rfl, by omega, rfl, O2, K2, HF⟩
    · have hF := HF.out; rw [List.drop_eq_nil_of_le (by omega), closeL] at hF; have HF2 := Lib.hid hF; clear hF HF; go_wp2_with fail; go_ret; exact ⟨ret_bool HF2.out.symm, HK.out⟩
end Go.Proofs.YtlhnjkekjbbhcaaGreatDoor
namespace Go.Proofs.YtlhnjkekjbbhcaaGreatDoor
open Go.RowKit
structure Req where
  m : List UInt8
  t : List UInt8
  F : List Fld
  cl : Bool
def req0 : Req := ⟨[], [], [], false⟩
def toldE (e long : Int) : Int := if e = 0 ∨ e = 17 then 0 else if e = 4 then long else 400
def nHost : List UInt8 := [72, 111, 115, 116]
structure Hr where
  s : Int
  got : Bool
  n : Nat
  q : Req
  skip : Nat
  ch : Bool
def hr0 (s : Int) : Hr := ⟨s, false, 0, req0, 0, false⟩
def headM (l : List UInt8) : Hr :=
  if (splitM l).e ≠ 0 then hr0 (toldE (splitM l).e 431)
  else if (lnM (splitM l).st).s ≠ 200 then hr0 (lnM (splitM l).st).s
  else if 1 < getN (splitM l).F nHost ∨ (getN (splitM l).F nHost : Int) < (lnM (splitM l).st).v then hr0 400
  else if (frameM (splitM l).F 4096).e ≠ 0 then hr0 (toldE (frameM (splitM l).F 4096).e 413)
  else ⟨0, true, (splitM l).n, ⟨(lnM (splitM l).st).m, (lnM (splitM l).st).t, (splitM l).F, closesM (splitM l).F (lnM (splitM l).st).v⟩, (max (frameM (splitM l).F 4096).n 0).toNat, (frameM (splitM l).F 4096).ch⟩
structure InS where
  inp : List UInt8
  held : Nat
  req : Option Req
  skip : Nat
  chk : Option Ck
  st : Int
def in0 : InS := ⟨[], 0, none, 0, none, 0⟩
def InS.left (p : InS) : Nat := p.inp.length + p.held
def inAdd (p : InS) (s : List UInt8) : InS × Int :=
  if p.st ≠ 0 then (p, 8) else if (16384 : Int) - p.left < s.length then (p, 6) else ({ p with inp := p.inp ++ s }, 0)
structure BdR where
  p : InS
  whole : Bool
  s : Int
def bodyB (p : InS) : BdR :=
  match p.chk with
  | none => ⟨{ p with inp := p.inp.drop (min p.skip p.inp.length), held := p.held + min p.skip p.inp.length, skip := p.skip - min p.skip p.inp.length }, decide (p.skip - min p.skip p.inp.length = 0), 0⟩
  | some c =>
    if (addC c p.inp).err ≠ 0 then ⟨{ p with inp := [], held := p.held + p.inp.length, chk := some (addC c p.inp) }, false, toldE (addC c p.inp).err 413⟩
    else if (addC c p.inp).st ≠ 4 then ⟨{ p with inp := [], held := p.held + p.inp.length, chk := some (addC c p.inp) }, false, 0⟩
    else ⟨{ p with inp := (addC c p.inp).inp, held := p.held + p.inp.length, chk := none }, true, 0⟩
structure NxR where
  p : InS
  q : Req
  s : Int
def tailI (p : InS) (q : Req) : NxR :=
  if (bodyB p).s ≠ 0 then ⟨{ (bodyB p).p with st := (bodyB p).s }, req0, (bodyB p).s⟩
  else if (bodyB p).whole then ⟨{ (bodyB p).p with req := none, held := 0 }, q, 200⟩
  else ⟨(bodyB p).p, req0, 0⟩
def headed (p : InS) (h : Hr) : InS := { p with inp := p.inp.drop h.n, held := h.n, skip := h.skip, chk := if h.ch then some (ck0 4096) else p.chk, req := some h.q }
def nextI (p : InS) : NxR :=
  if p.st ≠ 0 then ⟨p, req0, p.st⟩
  else match p.req with
    | some q => tailI p q
    | none =>
      if (headM p.inp).s ≠ 0 then ⟨{ p with st := (headM p.inp).s }, req0, (headM p.inp).s⟩
      else if (headM p.inp).got then tailI (headed p (headM p.inp)) (headM p.inp).q
      else ⟨p, req0, 0⟩
structure InS.ok (p : InS) : Prop where
  len : p.inp.length + p.held ≤ 16384
  skp : p.skip ≤ 4096
  chk : ∀ c, p.chk = some c → (c.err = 0 → c.ok) ∧ c.most = 4096 ∧ c.inp.length + c.dat.length + 2 ≤ p.held ∧ c.st ≤ 4
  req : p.st = 0 → p.req = none → p.chk = none ∧ p.held = 0
  bad : ∀ c, p.st = 0 → p.chk = some c → c.err = 0
  hld : p.st = 0 → p.req ≠ none → 2 ≤ p.held
end Go.Proofs.YtlhnjkekjbbhcaaGreatDoor
namespace Go.Proofs.YtlhnjkekjbbhcaaGreatDoor
open Go.RowKit Go.Shelf
def reqC (m t : List UInt8) (v : Value) (cl : Bool) : List Value := [.string (S m), .string (S t), v, .bool cl]
def inC (I : InS) (rv cv : Value) : List Value := [.string (S I.inp), .int .i64 (I.held : Nat), rv, .int .i64 (I.skip : Nat), cv, .int .i64 I.st]
def ReqAt (B : Nat) (w : World) (R : List Nat) (rv : Value) (o : Option Req) : Prop :=
  match o with
  | none => rv = .pointer none
  | some q => ∃ b v, rv = .pointer (some ⟨b, 0, none⟩) ∧ b ∈ R ∧ Blk w b 73 (reqC q.m q.t v q.cl) ∧ Own Fld.cells 2 B 89 w v q.F ∧ ∀ g, v.ownBlock = some g → g ∈ R
def ChkAt (B : Nat) (w : World) (p : Nat) (X : List Nat) (cv : Value) (o : Option Ck) : Prop :=
  match o with
  | none => cv = .pointer none
  | some c => ∃ b v, cv = .pointer (some ⟨b, 0, none⟩) ∧ b ≠ p ∧ b ∈ X ∧ Ct B w b [] c v ∧ ∀ g, v.ownBlock = some g → g ∈ X ∧ g ≠ p
structure It (B : Nat) (w : World) (p : Nat) (X R : List Nat) (I : InS) : Prop where
  at' : ∃ rv cv, Blk w p 117 (inC I rv cv) ∧ ChkAt B w p X cv I.chk ∧ ReqAt B w R rv I.req
  mem : p ∈ X
  lo : ∀ x ∈ X, B ≤ x ∧ x < w.heap.size
  ro : ∀ x ∈ R, B ≤ x ∧ x < w.heap.size ∧ x ∉ X
theorem Ct.lt {B b : Nat} {w : World} {p : List UInt8} {c : Ck} {v : Value} (h : Ct B w b p c v) : b < w.heap.size := let ⟨_, h1⟩ := h.cells; h1.lt
theorem ReqAt.keep {B : Nat} {w w' : World} {R S : List Nat} {rv : Value} {o : Option Req} (h : ReqAt B w R rv o) (k : Keep S w w') (hR : ∀ x ∈ R, x ∉ S) : ReqAt B w' R rv o := by
  cases o with
  | none => exact h
  | some q =>
    obtain ⟨b, v, h1, h2, h3, h4, h5⟩ := h; exact ⟨b, v, h1, h2, k.blk h3 (hR b h2), h4.keep k (fun g hg => hR g (h5 g hg)), h5⟩
theorem ChkAt.keep {B p : Nat} {w w' : World} {X S : List Nat} {cv : Value} {o : Option Ck} (h : ChkAt B w p X cv o) (k : Keep S w w') (hX : ∀ x ∈ X, x ≠ p → x ∉ S) : ChkAt B w' p X cv o := by
  cases o with
  | none => exact h
  | some c =>
    obtain ⟨b, v, h1, h2, h3, h4, h5⟩ := h; exact ⟨b, v, h1, h2, h3, h4.keep k (hX b h3 h2) (fun g hg => hX g (h5 g hg).1 (h5 g hg).2), h5⟩
theorem It.keep {B p : Nat} {w w' : World} {X R S : List Nat} {I : InS} (h : It B w p X R I) (k : Keep S w w') (hX : ∀ x ∈ X, x ∉ S) (hR : ∀ x ∈ R, x ∉ S) : It B w' p X R I := by
  obtain ⟨⟨rv, cv, h1, h2, h3⟩, h4, h5, h6⟩ := h; exact ⟨⟨rv, cv, k.blk h1 (hX p h4), h2.keep k (fun x hx _ => hX x hx), h3.keep k hR⟩, h4, fun x hx => ⟨(h5 x hx).1, Nat.lt_of_lt_of_le (h5 x hx).2 k.size⟩, fun x hx => ⟨(h6 x hx).1, Nat.lt_of_lt_of_le (h6 x hx).2.1 k.size, (h6 x hx).2.2⟩⟩
theorem It.keep0 {B p : Nat} {w w' : World} {X R : List Nat} {I : InS} (h : It B w p X R I) (k : Keep [] w w') : It B w' p X R I := h.keep k (by simp) (by simp)
theorem It.lt {B p : Nat} {w : World} {X R : List Nat} {I : InS} (h : It B w p X R I) : p < w.heap.size := (h.lo p h.mem).2
theorem It.base {B p : Nat} {w : World} {X R : List Nat} {I : InS} (h : It B w p X R I) : B ≤ p := (h.lo p h.mem).1
theorem It.set {B p : Nat} {w : World} {X R : List Nat} {I I' : InS} (h : It B w p X R I) (k : Nat) (x : Value) (hc : ∀ rv cv, (inC I rv cv).set k x = inC I' rv cv) (h1 : I'.req = I.req) (h2 : I'.chk = I.chk) : It B (w.setCell ⟨p, k, none⟩ x) p X R I' := by
  obtain ⟨⟨rv, cv, b1, b2, b3⟩, h4, h5, h6⟩ := h; have hk : Keep [p] w (w.setCell ⟨p, k, none⟩ x) := (Keep.refl _ _).setCell _ _ (by simp); refine ⟨⟨rv, cv, ?_, ?_, ?_⟩, h4, fun y hy => ⟨(h5 y hy).1, Nat.lt_of_lt_of_le (h5 y hy).2 hk.size⟩, fun y hy => ⟨(h6 y hy).1, Nat.lt_of_lt_of_le (h6 y hy).2.1 hk.size, (h6 y hy).2.2⟩⟩
  · rw [← hc]; exact b1.set k x
  · rw [h2]; exact b2.keep hk (fun y _ hy => by simpa using hy)
  · rw [h1]; exact b3.keep hk (fun y hy => by simp only [List.mem_singleton]; rintro rfl; exact (h6 _ hy).2.2 h4)
theorem It.at_ {B p : Nat} {w : World} {X R : List Nat} {I : InS} (h : It B w p X R I) : w.cell? ⟨p, 0, none⟩ = some (.string (S I.inp)) ∧ w.cell? ⟨p, 1, none⟩ = some (.int .i64 (I.held : Nat)) ∧ w.cell? ⟨p, 3, none⟩ = some (.int .i64 (I.skip : Nat)) ∧ w.cell? ⟨p, 5, none⟩ = some (.int .i64 I.st) := by
  obtain ⟨⟨rv, cv, b1, _⟩, _⟩ := h; exact ⟨b1.get (k := 0) rfl, b1.get (k := 1) rfl, b1.get (k := 3) rfl, b1.get (k := 5) rfl⟩
theorem It.free {B p : Nat} {w : World} {X R : List Nat} {I : InS} (h : It B w p X R I) (k : Nat) : w.frozen? ⟨p, k, none⟩ = false := let ⟨⟨_, _, b1, _⟩, _, _, _⟩ := h; b1.frozen k
theorem It.keepX {B p : Nat} {w w' : World} {X R : List Nat} {I : InS} (h : It B w p X R I) (k : Keep [p] w w') : Keep X w w' := k.mono (fun x hx _ => by simp at hx; subst hx; exact h.mem)
set_option maxHeartbeats 1000000 in
set_option maxRecDepth 100000 in
theorem inlet_New (B : Nat) (w : World) (hB : B ≤ w.heap.size) :
    Calls Tryz.prog 33 #[] w fun e w' => ∃ p, e = .returned (.pointer (some ⟨p, 0, none⟩)) ∧ w.heap.size ≤ p ∧ It B w' p [p] [] in0 ∧ Keep [] w w' := by
  have H := Lib.hid (Blk.newA w (inC in0 (.pointer none) (.pointer none)).toArray 117); go_enter Tryz.func33, Tryz.ntmps33; go_wp2_with fail; go_ret; exact ⟨w.heap.size, rfl, Nat.le_refl _, ⟨⟨.pointer none, .pointer none, H.out, rfl, rfl⟩, by simp, fun x hx => by simp at hx; subst hx; simp; omega, by simp⟩, (Keep.refl [] w).alloc _⟩
set_option maxHeartbeats 1000000 in
set_option maxRecDepth 100000 in
theorem inlet_Left {B p : Nat} {X R : List Nat} {I : InS} {w : World} (h : It B w p X R I) (hl : I.inp.length + I.held ≤ 1048576) :
    Calls Tryz.prog 38 #[.pointer (some ⟨p, 0, none⟩)] w fun e w' => e = .returned (.int .i64 (I.left : Nat)) ∧ Keep [] w w' := by
  obtain ⟨c0, c1, _, _⟩ := h.at_; have sz := S_size I.inp; have hw := IntWalk.i64_in ((I.inp.length : Int) + (I.held : Int)) (by omega); have HF := Lib.hid (show ((I.inp.length : Int) + (I.held : Int)) = ((I.left : Nat) : Int) by unfold InS.left; omega); clear h; go_enter Tryz.func38, Tryz.ntmps38; go_wp2_with fail
  go_region_with fail
  all_goals
    go_wp2_with fail; go_ret; exact ⟨ret_int HF.out, by repeat (first | exact Keep.refl _ _ | apply Keep.drew)⟩
set_option maxHeartbeats 1000000 in
set_option maxRecDepth 100000 in
theorem inlet_wrong {B p : Nat} {X R : List Nat} {I : InS} {w : World} (h : It B w p X R I) :
    Calls Tryz.prog 70 #[.pointer (some ⟨p, 0, none⟩)] w fun e w' => e = .returned (.int .i64 I.st) ∧ w = w' := by
  obtain ⟨_, _, _, c5⟩ := h.at_; clear h; go_enter Tryz.func70, Tryz.ntmps70; go_wp2_with fail; go_ret; exact ⟨rfl, rfl⟩
set_option maxHeartbeats 1000000 in
set_option maxRecDepth 100000 in
theorem inlet_told (e0 long : Int) (w : World) :
    Calls Tryz.prog 114 #[.int .i64 e0, .int .i64 long] w fun e w' => e = .returned (.int .i64 (toldE e0 long)) ∧ w = w' := by
  have hT : toldE e0 long = if e0 = 0 ∨ e0 = 17 then 0 else if e0 = 4 then long else 400 := rfl
  by_cases h0 : e0 = 0
  · rw [if_pos (.inl h0)] at hT; have HT := Lib.hid hT; have q := (int_eq h0).1; clear h0 hT; go_enter Tryz.func114, Tryz.ntmps114; go_wp2_with fail; go_ret; exact ⟨ret_int HT.out.symm, rfl⟩
  · by_cases h17 : e0 = 17
    · rw [if_pos (.inr h17)] at hT; have HT := Lib.hid hT; subst h17; clear h0 hT; go_enter Tryz.func114, Tryz.ntmps114; go_wp2_with fail; go_ret; exact ⟨ret_int HT.out.symm, rfl⟩
    · rw [if_neg (by omega)] at hT; have q := (int_ne h0).1; have q2 := (int_ne h17).1; by_cases h4 : e0 = 4
      · rw [if_pos h4] at hT; have HT := Lib.hid hT; subst h4; clear h0 h17 hT q q2; go_enter Tryz.func114, Tryz.ntmps114; go_wp2_with fail; go_ret; exact ⟨ret_int HT.out.symm, rfl⟩
      · rw [if_neg h4] at hT; have HT := Lib.hid hT; have q3 := (int_ne h4).1; clear h0 h17 hT h4; go_enter Tryz.func114, Tryz.ntmps114; go_wp2_with fail; go_ret; exact ⟨ret_int HT.out.symm, rfl⟩
set_option maxHeartbeats 2000000 in
set_option maxRecDepth 100000 in
theorem inlet_Add {B p : Nat} {X R : List Nat} {I : InS} {w : World} (s : List UInt8) (h : It B w p X R I) (hl : I.inp.length + I.held ≤ 1048576) (_hs : s.length ≤ 1048576) :
    Calls Tryz.prog 34 #[.pointer (some ⟨p, 0, none⟩), .string (S s)] w fun e w' => e = .returned (.int .i64 (inAdd I s).2) ∧ It B w' p X R (inAdd I s).1 ∧ Keep [p] w w' := by
  obtain ⟨c0, _, _, c5⟩ := h.at_; have f0 := h.free 0; have sz := S_size s; have sz2 := S_size I.inp; have hA : inAdd I s = if I.st ≠ 0 then (I, 8) else if (16384 : Int) - I.left < s.length then (I, 6) else ({ I with inp := I.inp ++ s }, 0) := rfl
  have HL := Lib.hid (inlet_Left h hl); have H := Lib.hid h; have hll : I.left = I.inp.length + I.held := rfl; have hw := IntWalk.i64_in ((16384 : Int) - (I.left : Int)) (by omega); by_cases h0 : I.st = 0
  · rw [if_neg (by simp [h0])] at hA; have q1 := (int_eq h0).2; by_cases h6 : (16384 : Int) - I.left < s.length
    · rw [if_pos h6] at hA; have HA := Lib.hid hA; have q2 : decide ((s.length : Int) > (16384 : Int) - I.left) = true := by simp; omega
      clear hA h h0 hll; go_enter Tryz.func34, Tryz.ntmps34; go_wp2_with fail; refine HL.out.mono ?_; rintro e w1 ⟨rfl, k1⟩; have K1 := Lib.hid k1; clear k1; go_wp2_with fail; go_ret; rw [HA.out]; exact ⟨rfl, H.out.keep0 K1.out, K1.out.mono (by simp)⟩
    · rw [if_neg h6] at hA; have HA := Lib.hid hA; have q2 : decide ((s.length : Int) > (16384 : Int) - I.left) = false := by simp; omega
      have q3 := S_append I.inp s; have hov : ¬ 9223372036854775807 < I.inp.length + s.length := by omega
      clear hA h h0 hll c0 f0; go_enter Tryz.func34, Tryz.ntmps34; go_wp2_with fail; refine HL.out.mono ?_; rintro e w1 ⟨rfl, k1⟩; have K1 := Lib.hid k1; have H1 := Lib.hid (H.out.keep0 k1); obtain ⟨c0, _, _, _⟩ := H1.out.at_; have f0 := H1.out.free 0; clear k1 c5; go_wp2_with fail; go_ret; rw [HA.out]; exact ⟨rfl, H1.out.set 0 (.string (S (I.inp ++ s))) (fun _ _ => rfl) rfl rfl, (K1.out.mono (by simp)).setCell _ _ (by simp)⟩
  · rw [if_pos h0] at hA; have HA := Lib.hid hA; have q1 := (int_ne h0).2; clear hA h h0 hll; go_enter Tryz.func34, Tryz.ntmps34; go_wp2_with fail; go_ret; rw [HA.out]; exact ⟨rfl, H.out, Keep.refl _ _⟩
end Go.Proofs.YtlhnjkekjbbhcaaGreatDoor
