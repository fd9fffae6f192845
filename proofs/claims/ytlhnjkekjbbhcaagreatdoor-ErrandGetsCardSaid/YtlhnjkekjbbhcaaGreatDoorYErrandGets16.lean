/- Parts of the proof of ErrandGets, in order. No conditions but those that each theorem states. -/
import Derived.Test.YtlhnjkekjbbhcaaGreatDoorYErrandGets0
import Derived.Lib.SlBytesConst
import Derived.DeepKeys4
import Derived.Test.YtlhnjkekjbbhcaaGreatDoorYErrandGets15
set_option linter.unusedSimpArgs false
set_option linter.unusedVariables false
namespace Go.Proofs.YtlhnjkekjbbhcaaGreatDoor
open Go.RowKit
def ckW (o : Option Ck) : Nat := match o with | none => 0 | some c => 2 * c.inp.length + c.dat.length
def ReS.wt (P : ReS) : Nat := 2 * P.inp.length + P.dat.length + (if P.st = 1 then ckW P.chk else 0)
theorem wt_of {P : ReS} (h : P.st ≠ 1) : P.wt = 2 * P.inp.length + P.dat.length := by unfold ReS.wt; rw [if_neg h]; rfl
structure ReS.ok (P : ReS) (n : Nat) : Prop where
  wt : P.wt ≤ n
  big : (P.most : Int) ≤ 9223372036854775807
  size : P.size ≤ P.most
  left : (P.left : Int) ≤ 9223372036854775807
  st : P.st ≤ 5
  head : P.st = 0 → P.chk = none ∧ P.ans = none ∧ P.passed ≤ 5
  chk : P.st = 1 → ∃ c, P.chk = some c ∧ (c.most : Int) ≤ 9223372036854775807 ∧ c.err = 0 ∧ c.ok
def ReS.mu (P : ReS) : Nat := if P.st ≤ 3 then P.inp.length + 1 else 0
theorem frame_le (L : List Fld) (m : Nat) : (frameM L m).e = 0 → (frameM L m).n ≤ (m : Int) := by
  unfold frameM
  split
  · intro h; simp at h
  · split
    · split
      · intro _; simp
      · intro h; simp at h
    · split
      · intro _; simp only; omega
      · have hu := undec_range (getV L nCL) m; intro h; simp only at h ⊢; by_cases h0 : undecE (getV L nCL) m = 0
        · exact (hu.1 h0).2
        · rcases (hu.2 h0).2 with h1 | h1 <;> rw [h1] at h <;> simp at h
theorem addC_ok {c : Ck} (h0 : c.err = 0) (hok : c.ok) (s : List UInt8) : (addC c s).most = c.most ∧ (addC c s).inp.length + (addC c s).dat.length ≤ c.inp.length + s.length + c.dat.length ∧ c.dat <+: (addC c s).dat ∧ ((addC c s).err = 0 → (addC c s).ok) := by
  have hr := runF_runs _ _ (add_ok hok s) (Nat.le_refl _); obtain ⟨r1, r2, r3, r4, r5⟩ := runs_ok hr (add_ok hok s); have hne := runs_ne hr; unfold addC; rw [if_neg (by simp [h0])]; generalize runF (c.add s).mu (c.add s) = x at *; obtain ⟨d, e⟩ := x; dsimp only at *; refine ⟨r2, ?_, r5, fun h => ?_⟩
  · have : (c.add s).inp.length = c.inp.length + s.length := by simp [Ck.add]
    have h2 : (c.add s).dat = c.dat := rfl; rw [this, h2] at r4; exact r4
  · by_cases h17 : e = 17
    · exact r1 h17
    · rw [if_neg h17] at h; exact absurd h hne
theorem reNew_ok (hd : Bool) {most : Int} (h : in64 most) : (reNew hd most).ok 0 := by
  unfold in64 at h; refine ⟨by simp [reNew, ReS.wt], by simp [reNew]; omega, by simp [reNew], by simp [reNew], by simp [reNew], fun _ => by simp [reNew], fun hh => by simp [reNew] at hh⟩
theorem reFail_ok {P : ReS} {n : Nat} (h : P.ok n) : (reFail P).ok n := by
  refine ⟨?_, h.big, h.size, h.left, by simp [reFail], fun hh => by simp [reFail] at hh, fun hh => by simp [reFail] at hh⟩; have := h.wt; simp only [reFail, ReS.wt] at this ⊢
  split at this <;> simp <;> omega
theorem fail_ok {P : ReS} {n : Nat} (hw : 2 * P.inp.length + P.dat.length ≤ n) (hb : (P.most : Int) ≤ 9223372036854775807) (hs : P.size ≤ P.most) (hl : (P.left : Int) ≤ 9223372036854775807) : (reFail P).ok n :=
  ⟨by rw [wt_of (show (5 : Nat) ≠ 1 by decide)]; exact hw, hb, hs, hl, Nat.le_refl 5, fun hh => absurd (show (5 : Nat) = 0 from hh) (by decide), fun hh => absurd (show (5 : Nat) = 1 from hh) (by decide)⟩
theorem reAdd_ok {P : ReS} {n : Nat} (h : P.ok n) (s : List UInt8) : (reAdd P s).1.ok (n + 2 * s.length) := by
  have hw := h.wt; unfold reAdd
  split
  · exact ⟨by simp only; omega, h.big, h.size, h.left, h.st, h.head, h.chk⟩
  · split
    · exact ⟨by simp only; omega, h.big, h.size, h.left, h.st, h.head, h.chk⟩
    · refine ⟨?_, h.big, h.size, h.left, h.st, h.head, h.chk⟩; simp only [ReS.wt, List.length_append] at hw ⊢; omega
theorem ok_mono {P : ReS} {n m : Nat} (h : P.ok n) (hm : n ≤ m) : P.ok m := ⟨Nat.le_trans h.wt hm, h.big, h.size, h.left, h.st, h.head, h.chk⟩
theorem reFrame_inp (P : ReS) (a : Ans) : (reFrame P a).p.inp = P.inp ∧ (reFrame P a).p.dat = P.dat ∧ (reFrame P a).p.most = P.most ∧ (reFrame P a).p.size = P.size := by
  unfold reFrame
  split
  · exact ⟨rfl, rfl, rfl, rfl⟩
  · split
    · exact ⟨rfl, rfl, rfl, rfl⟩
    · split
      · exact ⟨rfl, rfl, rfl, rfl⟩
      · split <;> exact ⟨rfl, rfl, rfl, rfl⟩
theorem reFrame_st {P : ReS} {a : Ans} (h : (reFrame P a).ok = true) : 1 ≤ (reFrame P a).p.st ∧ (reFrame P a).p.st ≤ 4 := by
  unfold reFrame at h ⊢
  split
  · simp
  · rename_i h1; rw [if_neg h1] at h
    split
    · rename_i h2; rw [if_pos h2] at h; simp at h
    · split
      · simp
      · split <;> simp
theorem reFrame_left {P : ReS} {a : Ans} {n : Nat} (hP : P.ok n) : ((reFrame P a).p.left : Int) ≤ 9223372036854775807 := by
  have hl := hP.left; have hb := hP.big; unfold reFrame
  split
  · exact hl
  · split
    · exact hl
    · rename_i h2; have hf := frame_le a.F P.most (by simpa using h2)
      split
      · exact hl
      · split
        · exact hl
        · simp only; omega
theorem reFrame_chk {P : ReS} {a : Ans} {n : Nat} (_hP : P.ok n) (h0 : P.st = 0) : (reFrame P a).p.st = 1 → (reFrame P a).p.chk = some (ck0 P.most) := by
  unfold reFrame
  split
  · intro h; simp at h
  · split
    · intro h; simp only at h; omega
    · split
      · intro _; rfl
      · split <;> (intro h; simp at h)
theorem readHead_ok {P : ReS} {n : Nat} (h : P.ok n) (h0 : P.st = 0) : (readHeadR P).1.ok n ∧ ((readHeadR P).2 = true → (readHeadR P).1.mu < P.mu) := by
  have hmu : P.mu = P.inp.length + 1 := by unfold ReS.mu; rw [if_pos (by omega)]
  have hw : 2 * P.inp.length + P.dat.length ≤ n := by have := h.wt; unfold ReS.wt at this; rw [if_neg (by omega)] at this; omega
  have hhd := h.head h0; have hdl : (P.inp.drop (splitM P.inp).n).length = P.inp.length - (splitM P.inp).n := List.length_drop; have hHok : (headP P).ok n := ⟨by unfold ReS.wt headP; simp only; rw [if_neg (by omega), hdl]; omega, h.big, h.size, h.left, h.st, fun _ => hhd, fun hh => absurd (show P.st = 1 from hh) (by omega)⟩
  unfold readHeadR
  split
  · exact ⟨h, fun hh => by simp at hh⟩
  · split
    · exact ⟨reFail_ok h, fun _ => by rw [hmu]; simp [reFail, ReS.mu]⟩
    · rename_i h1 h2
      have he : (splitM P.inp).e = 0 := by
        by_cases hh : (splitM P.inp).e = 0
        · exact hh
        · exact absurd (Or.inl hh) h2
      have hp := split_pos P.inp he; have hn := (split_small P.inp).2.2
      split
      · split
        · exact ⟨fail_ok (by show 2 * (P.inp.drop (splitM P.inp).n).length + P.dat.length ≤ n; rw [hdl]; omega) hHok.big hHok.size hHok.left, fun _ => by rw [hmu]; simp [reFail, ReS.mu]⟩
        · rename_i h4; refine ⟨⟨hHok.wt, hHok.big, hHok.size, hHok.left, hHok.st, fun _ => ⟨hhd.1, hhd.2.1, by show P.passed + 1 ≤ 5; omega⟩, hHok.chk⟩, fun _ => ?_⟩; rw [hmu]; simp only [ReS.mu, headP, hdl, h0]; simp; omega
      · split
        · rename_i h5; obtain ⟨s1, s2⟩ := reFrame_st h5; obtain ⟨i1, i2, i3, i4⟩ := reFrame_inp (headP P) (headA P); have hc := reFrame_chk (a := headA P) hHok (show (headP P).st = 0 from h0); have hll : (headP P).inp.length = P.inp.length - (splitM P.inp).n := hdl; refine ⟨⟨?_, ?_, ?_, reFrame_left hHok, ?_, ?_, ?_⟩, fun _ => ?_⟩
          · have := hHok.wt; unfold ReS.wt at this ⊢; simp only; rw [i1, i2]; rw [if_neg (show ¬ (headP P).st = 1 by show ¬ P.st = 1; omega)] at this
            split
            · rename_i h6; rw [hc h6]; simp only [ckW, ck0, List.length_nil]; omega
            · omega
          · simp only; rw [i3]; exact hHok.big
          · simp only; rw [i3, i4]; exact hHok.size
          · simp only; omega
          · intro hh; simp only at hh; omega
          · intro hh; refine ⟨_, hc hh, ?_, rfl, ?_⟩
            · have := hHok.big; simp only [ck0]; omega
            · simp [Ck.ok, ck0]
          · rw [hmu]; simp only [ReS.mu]; rw [i1, hll]
            split <;> omega
        · exact ⟨reFail_ok hHok, fun _ => by rw [hmu]; simp [reFail, ReS.mu]⟩
theorem readChunks_ok {P : ReS} {n : Nat} (h : P.ok n) (h1 : P.st = 1) : (readChunksR P).1.ok n ∧ ((readChunksR P).2 = true → (readChunksR P).1.mu < P.mu) := by
  have hmu : P.mu = P.inp.length + 1 := by unfold ReS.mu; rw [if_pos (by omega)]
  obtain ⟨c, hc, cb, ce, co⟩ := h.chk h1; have hw : 2 * P.inp.length + P.dat.length + (2 * c.inp.length + c.dat.length) ≤ n := by have := h.wt; unfold ReS.wt at this; rw [if_pos h1, hc] at this; exact this
  obtain ⟨a1, a2, a3, a4⟩ := addC_ok ce co P.inp; have hpre := a3.length_le; have hdrop : ((addC c P.inp).dat.drop c.dat.length).length = (addC c P.inp).dat.length - c.dat.length := List.length_drop; unfold readChunksR; rw [hc]; dsimp only; generalize addC c P.inp = d at *
  split
  · exact ⟨h, fun hh => by simp at hh⟩
  · rename_i h0
    split
    · exact ⟨fail_ok (by simp [hdrop]; omega) h.big h.size h.left, fun _ => by rw [hmu]; simp [reFail, ReS.mu]⟩
    · rename_i h2
      split
      · exact ⟨⟨by simp only [ReS.wt]; rw [if_neg (by omega)]; simp [hdrop]; omega, h.big, h.size, h.left, by simp, fun hh => by simp at hh, fun hh => by simp at hh⟩, fun _ => by rw [hmu]; simp [ReS.mu]⟩
      · refine ⟨⟨by simp only [ReS.wt]; rw [if_pos h1]; simp [hdrop, ckW]; omega, h.big, h.size, h.left, h.st, fun hh => by simp only at hh; omega, fun _ => ⟨d, rfl, by rw [a1]; exact cb, by simpa using h2, a4 (by simpa using h2)⟩⟩, fun _ => ?_⟩; have hl : 0 < P.inp.length := List.length_pos_iff.2 h0; rw [hmu]; simp only [ReS.mu, h1]; simp; omega
theorem readLength_ok {P : ReS} {n : Nat} (h : P.ok n) (h2 : P.st = 2) : (readLengthR P).1.ok n ∧ ((readLengthR P).2 = true → (readLengthR P).1.mu < P.mu) := by
  have hmu : P.mu = P.inp.length + 1 := by unfold ReS.mu; rw [if_pos (by omega)]
  have hw : 2 * P.inp.length + P.dat.length ≤ n := by have := h.wt; unfold ReS.wt at this; rw [if_neg (by omega)] at this; omega
  have hl := h.left; unfold readLengthR
  split
  · exact ⟨⟨by simp only [ReS.wt]; rw [if_neg (by omega)]; simp; omega, h.big, h.size, by simp, by simp, fun hh => by simp at hh, fun hh => by simp at hh⟩, fun _ => by rw [hmu]; simp [ReS.mu]⟩
  · refine ⟨⟨by simp only [ReS.wt]; rw [if_neg (by omega)]; simp; omega, h.big, h.size, by simp only; omega, h.st, fun hh => by simp only at hh; omega, fun hh => by simp only at hh; omega⟩, fun hh => ?_⟩; simp only [decide_eq_true_eq] at hh; rw [hmu]; simp only [ReS.mu, h2, List.length_drop]; simp; omega
theorem readClose_ok {P : ReS} {n : Nat} (h : P.ok n) (h2 : P.st = 3) : (readCloseR P).1.ok n ∧ ((readCloseR P).2 = true → (readCloseR P).1.mu < P.mu) := by
  have hmu : P.mu = P.inp.length + 1 := by unfold ReS.mu; rw [if_pos (by omega)]
  have hw : 2 * P.inp.length + P.dat.length ≤ n := by have := h.wt; unfold ReS.wt at this; rw [if_neg (by omega)] at this; omega
  have hs := h.size; have hC : (closeP P).ok n := ⟨by rw [wt_of (show (closeP P).st ≠ 1 from (by omega : P.st ≠ 1))]; simp only [closeP]; simp; omega, h.big, by simp only [closeP]; omega, h.left, h.st, fun hh => by simp only [closeP] at hh; omega, fun hh => by simp only [closeP] at hh; omega⟩
  unfold readCloseR
  split
  · exact ⟨reFail_ok hC, fun _ => by rw [hmu]; simp [reFail, ReS.mu]⟩
  · split
    · refine ⟨⟨?_, hC.big, hC.size, hC.left, by simp, fun hh => by simp at hh, fun hh => by simp at hh⟩, fun _ => by rw [hmu]; simp [ReS.mu]⟩; have := hC.wt; simp only [ReS.wt] at this ⊢; rw [if_neg (by omega)]; omega
    · refine ⟨hC, fun hh => ?_⟩; simp only [decide_eq_true_eq] at hh; rw [hmu]; simp only [ReS.mu, closeP, h2, List.length_drop]; simp; omega
theorem read_ok {P : ReS} {n : Nat} (h : P.ok n) : (readR P).1.ok n ∧ ((readR P).2 = true → (readR P).1.mu < P.mu) := by
  unfold readR
  split
  · rename_i h0; exact readHead_ok h h0
  · split
    · rename_i h1; exact readChunks_ok h h1
    · split
      · rename_i h1; exact readLength_ok h h1
      · split
        · rename_i h1; exact readClose_ok h h1
        · exact ⟨h, fun hh => by simp at hh⟩
theorem reLoop_fuel {n : Nat} : ∀ (i j : Nat) (P : ReS), P.ok n → P.mu < i → P.mu < j → reLoop i P = reLoop j P
  | 0, _, _, _, h, _ => absurd h (by omega)
  | _ + 1, 0, _, _, _, h => absurd h (by omega)
  | i + 1, j + 1, P, hP, hi, hj => by
    unfold reLoop
    split
    · rfl
    · split
      · rename_i h2; have := read_ok hP; have := this.2 h2; exact reLoop_fuel i j _ (read_ok hP).1 (by omega) (by omega)
      · rfl
def reEnd (P : ReS) : ReS := reLoop (P.inp.length + 2) P
theorem mu_lt (P : ReS) : P.mu < P.inp.length + 2 := by unfold ReS.mu; split <;> omega
theorem reEnd_some {P : ReS} (h : P.ans.isSome = true) : reEnd P = P := by unfold reEnd reLoop; rw [if_pos h]
theorem reEnd_stop {P : ReS} (h : P.ans = none) (h2 : (readR P).2 = false) : reEnd P = (readR P).1 := by unfold reEnd reLoop; rw [if_neg (by simp [h]), if_neg (by simp [h2])]
theorem reEnd_more {P : ReS} {n : Nat} (hP : P.ok n) (h : P.ans = none) (h2 : (readR P).2 = true) : reEnd P = reEnd (readR P).1 := by
  have hr := read_ok hP; have hlt := hr.2 h2; have hm := mu_lt P; have e1 : reEnd P = reLoop (P.inp.length + 1) (readR P).1 := by unfold reEnd; rw [reLoop, if_neg (by simp [h]), if_pos h2]
  rw [e1]; exact reLoop_fuel _ _ _ hr.1 (by omega) (mu_lt _)
theorem reLoop_ok {n : Nat} : ∀ (i : Nat) (P : ReS), P.ok n → (reLoop i P).ok n
  | 0, P, h => h
  | i + 1, P, h => by
    unfold reLoop
    split
    · exact h
    · split
      · exact reLoop_ok i _ (read_ok h).1
      · exact (read_ok h).1
theorem reEnd_ok {P : ReS} {n : Nat} (h : P.ok n) : (reEnd P).ok n := reLoop_ok _ P h
theorem reFinish_ok {P : ReS} {n : Nat} (h : P.ok n) : (reFinish P).1.ok n := by
  unfold reFinish
  split
  · exact ⟨h.wt, h.big, h.size, h.left, h.st, h.head, h.chk⟩
  · split
    · exact reFail_ok h
    · exact h
theorem nextR_eq (P : ReS) : nextR P = match (reEnd P).ans with
  | some a => ⟨{ reEnd P with ans := none }, 1, a, []⟩
  | none => if (reEnd P).dat ≠ [] then ⟨{ reEnd P with dat := [] }, 2, ans0, (reEnd P).dat⟩ else ⟨(reFinish (reEnd P)).1, (reFinish (reEnd P)).2, ans0, []⟩ := rfl
theorem nextR_ok {P : ReS} {n : Nat} (h : P.ok n) : (nextR P).p.ok n := by
  have hE := reEnd_ok h; rw [nextR_eq]; generalize reEnd P = Q at *
  split
  · exact ⟨hE.wt, hE.big, hE.size, hE.left, hE.st, fun hh => ⟨(hE.head hh).1, rfl, (hE.head hh).2.2⟩, hE.chk⟩
  · split
    · refine ⟨?_, hE.big, hE.size, hE.left, hE.st, hE.head, hE.chk⟩; have := hE.wt; simp only [ReS.wt, List.length_nil] at this ⊢; omega
    · exact reFinish_ok hE
end Go.Proofs.YtlhnjkekjbbhcaaGreatDoor
namespace Go.Proofs.YtlhnjkekjbbhcaaGreatDoor
open Go.RowKit Go.Shelf
def q1 : List UInt8 := [98, 121, 116, 101, 115, 61, 50, 45, 52]
def q2 : List UInt8 := [98, 121, 116, 101, 115, 61, 45, 51]
def q3 : List UInt8 := [98, 121, 116, 101, 115, 61, 49, 48, 45]
def q4 : List UInt8 := [98, 121, 116, 101, 115, 61, 49, 45, 50, 44, 52, 45, 53]
def digL : List UInt8 := [48, 49, 50, 51, 52, 53, 54, 55, 56, 57, 97, 98, 99, 100, 101, 102]
def hexD (r : Nat) : UInt8 := digL.getD r 0
def hexP (n : Nat) : List UInt8 := if _ : 0 < n then hexP (n / 16) ++ [hexD (n % 16)] else []
termination_by n
decreasing_by omega
def hexL (n : Nat) : List UInt8 := hexP (n / 16) ++ [hexD (n % 16)]
theorem hexP_pos {n : Nat} (h : 0 < n) : hexP n = hexP (n / 16) ++ [hexD (n % 16)] := by rw [hexP, dif_pos h]
theorem hexL_pos {n : Nat} (h : 0 < n) : hexP n = hexL n := hexP_pos h
theorem hexP_zero : hexP 0 = [] := by rw [hexP, dif_neg (by omega)]
theorem hex_cut16 {r : Nat} (h : r < 16) : (⟨#[48, 49, 50, 51, 52, 53, 54, 55, 56, 57, 97, 98, 99, 100, 101, 102]⟩ : ByteArray).extract r (r + 1) = S [hexD r] := by
  have : ∀ r : Fin 16, (⟨#[48, 49, 50, 51, 52, 53, 54, 55, 56, 57, 97, 98, 99, 100, 101, 102]⟩ : ByteArray).extract r.1 (r.1 + 1) = S [hexD r.1] := by decide +kernel
  exact this ⟨r, h⟩
theorem hexP_len : ∀ (k n : Nat), n < 16 ^ k → (hexP n).length ≤ k
  | 0, n, h => by
    have : n = 0 := by simpa using h
    subst this; rw [hexP_zero]; simp
  | k + 1, n, h => by
    rcases Nat.eq_zero_or_pos n with rfl | hn
    · rw [hexP_zero]; simp
    · have := hexP_len k (n / 16) (by rw [Nat.pow_succ] at h; omega); rw [hexP_pos hn, List.length_append]; simp; omega
theorem hexL_len {n : Nat} (h : n < 9223372036854775808) : (hexL n).length ≤ 16 := by
  have := hexP_len 15 (n / 16) (by have : (16 : Nat) ^ 15 = 1152921504606846976 := by decide
                                   omega)
  unfold hexL; rw [List.length_append]; simp; omega
end Go.Proofs.YtlhnjkekjbbhcaaGreatDoor
namespace Go.Proofs.YtlhnjkekjbbhcaaGreatDoor
open Go.RowKit
def wrL (k : Nat) (s : List UInt8) : List UInt8 :=
  if _h : s = [] then [] else hexL (min (k + 1) s.length) ++ crlfC ++ (s.take (k + 1) ++ crlfC) ++ wrL k (s.drop (k + 1))
termination_by s.length
decreasing_by
  cases s with
  | nil => exact absurd rfl _h
  | cons => simp; omega
def endC : List UInt8 := [48, 13, 10, 13, 10]
theorem wrL_nil (k : Nat) : wrL k [] = [] := by rw [wrL, dif_pos rfl]
theorem wrL_cons (k : Nat) {s : List UInt8} (h : s ≠ []) : wrL k s = hexL (min (k + 1) s.length) ++ crlfC ++ (s.take (k + 1) ++ crlfC) ++ wrL k (s.drop (k + 1)) := by rw [wrL, dif_neg h]
theorem len_pos {s : List UInt8} (h : s ≠ []) : 0 < s.length := by cases s with | nil => exact absurd rfl h | cons => simp
theorem wrL_len (k : Nat) : ∀ (n : Nat) (s : List UInt8), s.length ≤ n → s.length ≤ 1048576 → (wrL k s).length ≤ 21 * s.length
  | n, s, hn, h => by
    by_cases h0 : s = []
    · subst h0; rw [wrL_nil]; simp
    · have hp := len_pos h0
      match n, hn with
      | 0, hn => omega
      | n + 1, hn =>
        have hd : (s.drop (k + 1)).length = s.length - (k + 1) := List.length_drop; have ih := wrL_len k n (s.drop (k + 1)) (by omega) (by omega); have hx := hexL_len (n := min (k + 1) s.length) (by omega); have ht : (s.take (k + 1)).length = min (k + 1) s.length := List.length_take; rw [wrL_cons k h0]; simp only [List.length_append, ht, crlfC, List.length_cons, List.length_nil]; omega
theorem hexD_ok {r : Nat} (h : r < 16) : digOk (hexD r) = true ∧ digV (hexD r) = (r : Int) ∧ hexD r ≠ 10 := by
  have : ∀ r : Fin 16, digOk (hexD r.1) = true ∧ digV (hexD r.1) = ((r.1 : Nat) : Int) ∧ hexD r.1 ≠ 10 := by decide +kernel
  exact this ⟨r, h⟩
theorem hexP_ok (n : Nat) : (hexP n).all digOk = true ∧ hexN (hexP n) 0 = (n : Int) ∧ (10 : UInt8) ∉ hexP n := by
  induction n using Nat.strongRecOn with
  | _ n ih =>
    rcases Nat.eq_zero_or_pos n with rfl | hn
    · rw [hexP_zero]; exact ⟨rfl, rfl, by simp⟩
    · obtain ⟨h1, h2, h3⟩ := ih (n / 16) (by omega); obtain ⟨d1, d2, d3⟩ := hexD_ok (r := n % 16) (Nat.mod_lt _ (by omega)); rw [hexP_pos hn]; refine ⟨by rw [List.all_append, h1]; simp [d1], ?_, ?_⟩
      · unfold hexN at h2 ⊢; rw [List.foldl_append, h2]; simp only [List.foldl_cons, List.foldl_nil]; rw [d2]; omega
      · simp only [List.mem_append, List.mem_singleton, not_or]; exact ⟨h3, fun h => d3 h.symm⟩
theorem hexL_ok (n : Nat) : (hexL n).all digOk = true ∧ hexN (hexL n) 0 = (n : Int) ∧ (10 : UInt8) ∉ hexL n := by
  rcases Nat.eq_zero_or_pos n with rfl | hn
  · have : hexL 0 = [48] := by unfold hexL; rw [show 0 / 16 = 0 from rfl, hexP_zero]; rfl
    rw [this]; decide
  · rw [← hexL_pos hn]; exact hexP_ok n
theorem hexL_ne (n : Nat) : hexL n ≠ [] := by unfold hexL; simp
theorem num_hex (n : Nat) (m : Int) (hn : n ≤ 1048576) : numE (hexL n) m = (if m < n then 4 else 0) ∧ ((n : Int) ≤ m → numV (hexL n) m = n) := by
  obtain ⟨h1, h2, _⟩ := hexL_ok n; have h3 := hexL_len (n := n) (by omega); have hne := hexL_ne n
  have hr : numRest (hexL n) = [] := by
    rw [numRest_at (k := (hexL n).length) (Nat.le_refl _) (by rw [List.take_length]; exact h1) (fun b hb => by have := (List.getElem?_eq_some_iff.1 hb).1; omega), List.drop_length]
  have ht : numT (hexL n) = hexL n := by rw [numT_at (k := (hexL n).length) (Nat.le_refl _) (by rw [hr, List.drop_length]), List.take_length]
  have hok : hexOk (hexL n) = true := by
    unfold hexOk; rw [h1, decide_eq_true h3]
    cases hx : hexL n with
    | nil => exact absurd hx hne
    | cons => rfl
  obtain ⟨b1, b2⟩ := bound_fold (hexL n) m; rw [h2] at b1 b2
  have hu : unhexE (hexL n) m = if m < (n : Int) then 14 else 0 := by
    unfold unhexE; rw [hok, if_pos rfl, b2]; by_cases hm : m < (n : Int)
    · rw [if_pos hm, if_pos (show (4611686018427387904 : Int) < (n : Int) ∨ m < (n : Int) from Or.inr hm)]
    · rw [if_neg hm, if_neg (by omega)]
  have hv : (n : Int) ≤ m → unhexV (hexL n) m = (n : Int) := fun hm => by
    unfold unhexV; rw [hok, if_pos rfl, b1, if_neg (by omega)]
  have hro : restOk [] = true := rfl; unfold numE numV; rw [hr, ht, hro, if_pos rfl, hu]; refine ⟨?_, hv⟩; by_cases hm : m < (n : Int)
  · rw [if_pos hm, if_pos rfl, if_pos hm]
  · rw [if_neg hm, if_neg (by decide), if_neg hm]
theorem ln_first {t rest : List UInt8} (ht : (10 : UInt8) ∉ t) (hl : t.length ≤ 254) : lnC (t ++ crlfC ++ rest) = ⟨t, 0, rest⟩ := by
  have hg : ∀ j, j < t.length → (t ++ crlfC ++ rest)[j]? = t[j]? := fun j hj => by
    rw [List.append_assoc, List.getElem?_append_left hj]
  have e1 : (t ++ crlfC ++ rest)[t.length]? = some 13 := by rw [List.append_assoc, List.getElem?_append_right (Nat.le_refl _), Nat.sub_self]; rfl
  have e2 : (t ++ crlfC ++ rest)[t.length + 1]? = some 10 := by rw [List.append_assoc, List.getElem?_append_right (by omega), show t.length + 1 - t.length = 1 by omega]; rfl
  have hi : Lib.indexByte ((t ++ crlfC ++ rest).take 256) 10 = ((t.length + 1 : Nat) : Int) := by
    refine indexByte_at ?_ (fun j hj => ?_)
    · rw [List.getElem?_take, if_pos (by omega)]; exact e2
    · rw [List.getElem?_take, if_pos (by omega)]; rcases Nat.lt_or_ge j t.length with h | h
      · rw [hg j h]; intro hh; exact ht (List.mem_of_getElem? hh)
      · rw [show j = t.length by omega, e1]; decide
  have hl2 : (t ++ crlfC ++ rest).take (t.length + 1 + 1) = t ++ crlfC := by
    rw [List.take_append_of_le_length (by simp [crlfC])]; exact List.take_of_length_le (by simp [crlfC])
  have hd : (t ++ crlfC ++ rest).drop (t.length + 1 + 1) = rest := by
    have : t.length + 1 + 1 = (t ++ crlfC).length := by simp [crlfC]
    rw [this, List.drop_left]
  have hs : Lib.hasSuffix (t ++ crlfC) crlfC = true := by unfold Lib.hasSuffix; rw [List.isSuffixOf_iff_suffix]; exact List.suffix_append _ _
  rw [line_at hi, hl2, hd, if_pos hs]
  have : Lib.trimSuffix (t ++ crlfC) crlfC = t := by
    unfold Lib.trimSuffix; rw [if_pos hs, List.length_append, show t.length + crlfC.length - crlfC.length = t.length by omega, List.take_left]
  rw [this]
theorem runs_more' {c c1 d : Ck} {e : Int} (h : stepM c = (c1, 0)) (hr : Runs c1 d e) : Runs c d e := .more (by rw [h]) (by rw [h]; exact hr)
theorem runs_stop' {c d : Ck} {e : Int} (h : stepM c = (d, e)) (he : e ≠ 0) : Runs c d e := by
  have := Runs.stop (c := c) (by rw [h]; exact he); rw [h] at this; exact this
theorem begin_hex {lf most : Nat} {D rest : List UInt8} {er : Int} {n : Nat} (hn : n ≤ 1048576) (hm : D.length + n ≤ most) :
    stepM ⟨0, lf, most, 0, hexL n ++ crlfC ++ rest, D, er⟩ = (⟨if n = 0 then 3 else 1, n, most, 0, rest, D, er⟩, 0) := by
  have hl := ln_first (t := hexL n) (rest := rest) (hexL_ok n).2.2 (by have := hexL_len (n := n) (by omega); omega); obtain ⟨n1, n2⟩ := num_hex n ((most : Int) - D.length) hn; rw [if_neg (by omega)] at n1; have n2 := n2 (by omega); rw [step0 rfl]; unfold beginM; dsimp only; rw [hl]; dsimp only; rw [if_neg (by simp), n1, n2, if_neg (by simp)]; congr 2; by_cases h : n = 0
  · rw [if_pos h, if_pos (by omega)]
  · rw [if_neg h, if_neg (by omega)]
theorem data_hex {most : Nat} {D t rest : List UInt8} {er : Int} {n : Nat} (hn : t.length = n) :
    stepM ⟨1, n, most, 0, t ++ rest, D, er⟩ = (⟨2, 0, most, 0, rest, D ++ t, er⟩, 0) := by
  subst hn; rw [step1 rfl, data_eq _ t.length (by show min t.length (t ++ rest).length = _; simp), if_neg (by show ¬ 0 < t.length - t.length; omega)]; show (({ st := 2, left := t.length - t.length, most := most, flds := 0, inp := (t ++ rest).drop t.length, dat := D ++ (t ++ rest).take t.length, err := er } : Ck), (0 : Int)) = _; rw [List.drop_left, List.take_left, Nat.sub_self]
theorem close_hex {lf most : Nat} {D rest : List UInt8} {er : Int} : stepM ⟨2, lf, most, 0, crlfC ++ rest, D, er⟩ = (⟨0, lf, most, 0, rest, D, er⟩, 0) := by
  rw [step2 rfl]; unfold closeM; have h1 : (crlfC ++ rest).take 2 = crlfC := rfl; have h2 : crlfC.take (crlfC ++ rest).length = crlfC := List.take_of_length_le (by simp); have h3 : (crlfC ++ rest).drop 2 = rest := rfl; dsimp only; rw [h1, h2, h3, if_neg (by simp), if_neg (by simp [crlfC])]
theorem runs_end {lf most : Nat} {D more : List UInt8} {er : Int} (hm : D.length ≤ most) : Runs ⟨0, lf, most, 0, endC ++ more, D, er⟩ ⟨4, 0, most, 0, more, D, er⟩ 17 := by
  have h48 : hexL 0 = [48] := by unfold hexL; rw [show 0 / 16 = 0 from rfl, hexP_zero]; rfl
  have hb := begin_hex (lf := lf) (most := most) (D := D) (rest := crlfC ++ more) (er := er) (n := 0) (by omega) (by omega); rw [h48] at hb; refine runs_more' (c1 := ⟨3, 0, most, 0, crlfC ++ more, D, er⟩) hb ?_; have hl := ln_first (t := []) (rest := more) (by simp) (by simp); rw [List.nil_append] at hl
  have ht : stepM ⟨3, 0, most, 0, crlfC ++ more, D, er⟩ = (⟨4, 0, most, 0, more, D, er⟩, 0) := by
    rw [step3 rfl]; unfold trailM; dsimp only; rw [hl]; dsimp only; rw [if_neg (by simp), if_pos rfl]
  exact runs_more' ht (runs_stop' (step4 rfl) (by decide))
theorem runs_chunk {lf k most : Nat} {s D R : List UInt8} {er : Int} {d : Ck} {e : Int} (h0 : s ≠ []) (hl : s.length ≤ 1048576) (hm : D.length + min (k + 1) s.length ≤ most)
    (hr : Runs ⟨0, 0, most, 0, wrL k (s.drop (k + 1)) ++ R, D ++ s.take (k + 1), er⟩ d e) : Runs ⟨0, lf, most, 0, wrL k s ++ R, D, er⟩ d e := by
  have hp := len_pos h0; have ht : (s.take (k + 1)).length = min (k + 1) s.length := List.length_take; rw [wrL_cons k h0]; have hb := begin_hex (lf := lf) (most := most) (D := D) (rest := s.take (k + 1) ++ (crlfC ++ (wrL k (s.drop (k + 1)) ++ R))) (er := er) (n := min (k + 1) s.length) (by omega) hm; rw [if_neg (by omega)] at hb; refine runs_more' (c1 := ⟨1, min (k + 1) s.length, most, 0, s.take (k + 1) ++ (crlfC ++ (wrL k (s.drop (k + 1)) ++ R)), D, er⟩) ?_ (runs_more' (data_hex ht) (runs_more' close_hex hr)); rw [← hb]; simp only [List.append_assoc]
theorem runs_write (k most : Nat) (more : List UInt8) (er : Int) : ∀ (n : Nat) (s D : List UInt8) (lf : Nat), s.length ≤ n → s.length ≤ 1048576 → D.length + s.length ≤ most →
    Runs ⟨0, lf, most, 0, wrL k s ++ (endC ++ more), D, er⟩ ⟨4, 0, most, 0, more, D ++ s, er⟩ 17
  | n, s, D, lf, hn, hl, hm => by
    by_cases h0 : s = []
    · subst h0; rw [wrL_nil, List.append_nil, List.nil_append]; exact runs_end (by simp at hm; exact hm)
    · have hp := len_pos h0
      match n, hn with
      | 0, hn => omega
      | n + 1, hn =>
        have hd : (s.drop (k + 1)).length = s.length - (k + 1) := List.length_drop; have ht : (s.take (k + 1)).length = min (k + 1) s.length := List.length_take; refine runs_chunk h0 hl (by omega) ?_; have := runs_write k most more er n (s.drop (k + 1)) (D ++ s.take (k + 1)) 0 (by omega) (by omega) (by rw [List.length_append]; omega); rw [List.append_assoc, List.take_append_drop] at this; exact this
theorem addC_of_runs {c d : Ck} {s : List UInt8} {e : Int} (h0 : c.err = 0) (hok : c.ok) (hr : Runs (c.add s) d e) : addC c s = { d with err := if e = 17 then 0 else e } := by
  have h := addC_R (c := c) (s := s) (fun _ => hok); unfold AddR at h; rw [if_neg (by simp [h0])] at h; obtain ⟨d', e', hr', hc⟩ := h; obtain ⟨rfl, rfl⟩ := runs_det hr hr'; exact hc
def wrT (k : Nat) (s : List UInt8) : List UInt8 := wrL k s ++ endC
theorem wrT_pos (k : Nat) (s : List UInt8) : 5 ≤ (wrT k s).length := by unfold wrT; simp [endC]
theorem addC_cases {c : Ck} (s : List UInt8) (h0 : c.err = 0) (hk : c.ok) : ∃ d e, Runs (c.add s) d e ∧ addC c s = { d with err := if e = 17 then 0 else e } ∧ d.err = 0 ∧ e ≠ 0 := by
  have hr := addC_R (c := c) (s := s) (fun _ => hk); unfold AddR at hr; rw [if_neg (by simp [h0])] at hr; obtain ⟨d, e, hr, hc⟩ := hr; exact ⟨d, e, hr, hc, by rw [(runs_ok hr (add_ok hk s)).2.2.1]; exact h0, runs_ne hr⟩
theorem add_add (c : Ck) (s t : List UInt8) : (c.add s).add t = c.add (s ++ t) := by simp [Ck.add]
theorem addC_bad_app {c : Ck} (s t : List UInt8) (h0 : c.err = 0) (hk : c.ok) (he : (addC c s).err ≠ 0) : (addC c (s ++ t)).err = (addC c s).err := by
  obtain ⟨d, e, hr, hc, hd, hn⟩ := addC_cases s h0 hk; have h17 : e ≠ 17 := by rintro rfl; rw [hc] at he; exact he rfl
  have ha := (runs_app hr t).1 h17; rw [add_add] at ha; rw [addC_of_runs h0 hk ha, hc]
theorem addC_ok_app {c : Ck} (s t : List UInt8) (h0 : c.err = 0) (hk : c.ok) (he : (addC c s).err = 0) : addC c (s ++ t) = addC (addC c s) t := by
  obtain ⟨d, e, hr, hc, hd, hn⟩ := addC_cases s h0 hk
  have h17 : e = 17 := by
    rw [hc] at he; simp only at he
    split at he
    · assumption
    · exact absurd he hn
  subst h17; have hcd : addC c s = d := by rw [hc, if_pos rfl, ← hd]
  have hkd := (runs_ok hr (add_ok hk s)).1 rfl; obtain ⟨d2, e2, hr2, hc2, _, _⟩ := addC_cases t hd hkd; have ha := (runs_app hr t).2 rfl d2 e2 hr2; rw [add_add] at ha; rw [addC_of_runs h0 hk ha, hcd, hc2]
end Go.Proofs.YtlhnjkekjbbhcaaGreatDoor
