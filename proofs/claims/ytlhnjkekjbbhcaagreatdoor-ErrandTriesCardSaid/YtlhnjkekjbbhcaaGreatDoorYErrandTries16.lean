/- Parts of the proof of ErrandTries, in order. No conditions but those that each theorem states. -/
import Derived.Test.YtlhnjkekjbbhcaaGreatDoorYErrandTries0
import Derived.Lib.SlBytesConst
import Derived.Lib.LaidTab
import Derived.Lib.ItoaNum
import Derived.Lib.ItoaLen
import Derived.Sort.Grow
import Derived.Test.YtlhnjkekjbbhcaaGreatDoorYErrandTries15
set_option linter.unusedSimpArgs false
set_option linter.unusedVariables false
namespace Go.Proofs.YtlhnjkekjbbhcaaGreatDoor
open Go.RowKit
def ckW (o : Option Ck) : Nat := match o with | none => 0 | some c => 2 * c.inp.length + c.dat.length
def ReS.wt (P : ReS) : Nat := 2 * P.inp.length + P.dat.length + (if P.st = 1 then ckW P.chk else 0)
theorem wt_of {P : ReS} (h : P.st ≠ 1) : P.wt = 2 * P.inp.length + P.dat.length := by unfold ReS.wt; rw [if_neg h]; rfl
structure ReS.ok (P : ReS) (n : Nat) : Prop where
  wt : P.wt ≤ n
  big : (P.most : Int) ≤ 9223372036854775807
  size : P.size ≤ P.most
  left : (P.left : Int) ≤ 9223372036854775807
  st : P.st ≤ 5
  head : P.st = 0 → P.chk = none ∧ P.ans = none ∧ P.passed ≤ 5
  chk : P.st = 1 → ∃ c, P.chk = some c ∧ (c.most : Int) ≤ 9223372036854775807 ∧ c.err = 0 ∧ c.ok
def ReS.mu (P : ReS) : Nat := if P.st ≤ 3 then P.inp.length + 1 else 0
theorem frame_le (L : List Fld) (m : Nat) : (frameM L m).e = 0 → (frameM L m).n ≤ (m : Int) := by
  unfold frameM
  split
  · intro h; simp at h
  · split
    · split
      · intro _; simp
      · intro h; simp at h
    · split
      · intro _; simp only; omega
      · have hu := undec_range (getV L nCL) m; intro h; simp only at h ⊢; by_cases h0 : undecE (getV L nCL) m = 0
        · exact (hu.1 h0).2
        · rcases (hu.2 h0).2 with h1 | h1 <;> rw [h1] at h <;> simp at h
theorem addC_ok {c : Ck} (h0 : c.err = 0) (hok : c.ok) (s : List UInt8) : (addC c s).most = c.most ∧ (addC c s).inp.length + (addC c s).dat.length ≤ c.inp.length + s.length + c.dat.length ∧ c.dat <+: (addC c s).dat ∧ ((addC c s).err = 0 → (addC c s).ok) := by
  have hr := runF_runs _ _ (add_ok hok s) (Nat.le_refl _); obtain ⟨r1, r2, r3, r4, r5⟩ := runs_ok hr (add_ok hok s); have hne := runs_ne hr; unfold addC; rw [if_neg (by simp [h0])]; generalize runF (c.add s).mu (c.add s) = x at *; obtain ⟨d, e⟩ := x; dsimp only at *; refine ⟨r2, ?_, r5, fun h => ?_⟩
  · have : (c.add s).inp.length = c.inp.length + s.length := by simp [Ck.add]
    have h2 : (c.add s).dat = c.dat := rfl; rw [this, h2] at r4; exact r4
  · by_cases h17 : e = 17
    · exact r1 h17
    · rw [if_neg h17] at h; exact absurd h hne
theorem reNew_ok (hd : Bool) {most : Int} (h : in64 most) : (reNew hd most).ok 0 := by
  unfold in64 at h; refine ⟨by simp [reNew, ReS.wt], by simp [reNew]; omega, by simp [reNew], by simp [reNew], by simp [reNew], fun _ => by simp [reNew], fun hh => by simp [reNew] at hh⟩
theorem reFail_ok {P : ReS} {n : Nat} (h : P.ok n) : (reFail P).ok n := by
  refine ⟨?_, h.big, h.size, h.left, by simp [reFail], fun hh => by simp [reFail] at hh, fun hh => by simp [reFail] at hh⟩; have := h.wt; simp only [reFail, ReS.wt] at this ⊢
  split at this <;> simp <;> omega
theorem fail_ok {P : ReS} {n : Nat} (hw : 2 * P.inp.length + P.dat.length ≤ n) (hb : (P.most : Int) ≤ 9223372036854775807) (hs : P.size ≤ P.most) (hl : (P.left : Int) ≤ 9223372036854775807) : (reFail P).ok n :=
  ⟨by rw [wt_of (show (5 : Nat) ≠ 1 by decide)]; exact hw, hb, hs, hl, Nat.le_refl 5, fun hh => absurd (show (5 : Nat) = 0 from hh) (by decide), fun hh => absurd (show (5 : Nat) = 1 from hh) (by decide)⟩
theorem reAdd_ok {P : ReS} {n : Nat} (h : P.ok n) (s : List UInt8) : (reAdd P s).1.ok (n + 2 * s.length) := by
  have hw := h.wt; unfold reAdd
  split
  · exact ⟨by simp only; omega, h.big, h.size, h.left, h.st, h.head, h.chk⟩
  · split
    · exact ⟨by simp only; omega, h.big, h.size, h.left, h.st, h.head, h.chk⟩
    · refine ⟨?_, h.big, h.size, h.left, h.st, h.head, h.chk⟩; simp only [ReS.wt, List.length_append] at hw ⊢; omega
theorem ok_mono {P : ReS} {n m : Nat} (h : P.ok n) (hm : n ≤ m) : P.ok m := ⟨Nat.le_trans h.wt hm, h.big, h.size, h.left, h.st, h.head, h.chk⟩
theorem reFrame_inp (P : ReS) (a : Ans) : (reFrame P a).p.inp = P.inp ∧ (reFrame P a).p.dat = P.dat ∧ (reFrame P a).p.most = P.most ∧ (reFrame P a).p.size = P.size := by
  unfold reFrame
  split
  · exact ⟨rfl, rfl, rfl, rfl⟩
  · split
    · exact ⟨rfl, rfl, rfl, rfl⟩
    · split
      · exact ⟨rfl, rfl, rfl, rfl⟩
      · split <;> exact ⟨rfl, rfl, rfl, rfl⟩
theorem reFrame_st {P : ReS} {a : Ans} (h : (reFrame P a).ok = true) : 1 ≤ (reFrame P a).p.st ∧ (reFrame P a).p.st ≤ 4 := by
  unfold reFrame at h ⊢
  split
  · simp
  · rename_i h1; rw [if_neg h1] at h
    split
    · rename_i h2; rw [if_pos h2] at h; simp at h
    · split
      · simp
      · split <;> simp
theorem reFrame_left {P : ReS} {a : Ans} {n : Nat} (hP : P.ok n) : ((reFrame P a).p.left : Int) ≤ 9223372036854775807 := by
  have hl := hP.left; have hb := hP.big; unfold reFrame
  split
  · exact hl
  · split
    · exact hl
    · rename_i h2; have hf := frame_le a.F P.most (by simpa using h2)
      split
      · exact hl
      · split
        · exact hl
        · simp only; omega
theorem reFrame_chk {P : ReS} {a : Ans} {n : Nat} (_hP : P.ok n) (h0 : P.st = 0) : (reFrame P a).p.st = 1 → (reFrame P a).p.chk = some (ck0 P.most) := by
  unfold reFrame
  split
  · intro h; simp at h
  · split
    · intro h; simp only at h; omega
    · split
      · intro _; rfl
      · split <;> (intro h; simp at h)
theorem readHead_ok {P : ReS} {n : Nat} (h : P.ok n) (h0 : P.st = 0) : (readHeadR P).1.ok n ∧ ((readHeadR P).2 = true → (readHeadR P).1.mu < P.mu) := by
  have hmu : P.mu = P.inp.length + 1 := by unfold ReS.mu; rw [if_pos (by omega)]
  have hw : 2 * P.inp.length + P.dat.length ≤ n := by have := h.wt; unfold ReS.wt at this; rw [if_neg (by omega)] at this; omega
  have hhd := h.head h0; have hdl : (P.inp.drop (splitM P.inp).n).length = P.inp.length - (splitM P.inp).n := List.length_drop; have hHok : (headP P).ok n := ⟨by unfold ReS.wt headP; simp only; rw [if_neg (by omega), hdl]; omega, h.big, h.size, h.left, h.st, fun _ => hhd, fun hh => absurd (show P.st = 1 from hh) (by omega)⟩
  unfold readHeadR
  split
  · exact ⟨h, fun hh => by simp at hh⟩
  · split
    · exact ⟨reFail_ok h, fun _ => by rw [hmu]; simp [reFail, ReS.mu]⟩
    · rename_i h1 h2
      have he : (splitM P.inp).e = 0 := by
        by_cases hh : (splitM P.inp).e = 0
        · exact hh
        · exact absurd (Or.inl hh) h2
      have hp := split_pos P.inp he; have hn := (split_small P.inp).2.2
      split
      · split
        · exact ⟨fail_ok (by show 2 * (P.inp.drop (splitM P.inp).n).length + P.dat.length ≤ n; rw [hdl]; omega) hHok.big hHok.size hHok.left, fun _ => by rw [hmu]; simp [reFail, ReS.mu]⟩
        · rename_i h4; refine ⟨⟨hHok.wt, hHok.big, hHok.size, hHok.left, hHok.st, fun _ => ⟨hhd.1, hhd.2.1, by show P.passed + 1 ≤ 5; omega⟩, hHok.chk⟩, fun _ => ?_⟩; rw [hmu]; simp only [ReS.mu, headP, hdl, h0]; simp; omega
      · split
        · rename_i h5; obtain ⟨s1, s2⟩ := reFrame_st h5; obtain ⟨i1, i2, i3, i4⟩ := reFrame_inp (headP P) (headA P); have hc := reFrame_chk (a := headA P) hHok (show (headP P).st = 0 from h0); have hll : (headP P).inp.length = P.inp.length - (splitM P.inp).n := hdl; refine ⟨⟨?_, ?_, ?_, reFrame_left hHok, ?_, ?_, ?_⟩, fun _ => ?_⟩
          · have := hHok.wt; unfold ReS.wt at this ⊢; simp only; rw [i1, i2]; rw [if_neg (show ¬ (headP P).st = 1 by show ¬ P.st = 1; omega)] at this
            split
            · rename_i h6; rw [hc h6]; simp only [ckW, ck0, List.length_nil]; omega
            · omega
          · simp only; rw [i3]; exact hHok.big
          · simp only; rw [i3, i4]; exact hHok.size
          · simp only; omega
          · intro hh; simp only at hh; omega
          · intro hh; refine ⟨_, hc hh, ?_, rfl, ?_⟩
            · have := hHok.big; simp only [ck0]; omega
            · simp [Ck.ok, ck0]
          · rw [hmu]; simp only [ReS.mu]; rw [i1, hll]
            split <;> omega
        · exact ⟨reFail_ok hHok, fun _ => by rw [hmu]; simp [reFail, ReS.mu]⟩
theorem readChunks_ok {P : ReS} {n : Nat} (h : P.ok n) (h1 : P.st = 1) : (readChunksR P).1.ok n ∧ ((readChunksR P).2 = true → (readChunksR P).1.mu < P.mu) := by
  have hmu : P.mu = P.inp.length + 1 := by unfold ReS.mu; rw [if_pos (by omega)]
  obtain ⟨c, hc, cb, ce, co⟩ := h.chk h1; have hw : 2 * P.inp.length + P.dat.length + (2 * c.inp.length + c.dat.length) ≤ n := by have := h.wt; unfold ReS.wt at this; rw [if_pos h1, hc] at this; exact this
  obtain ⟨a1, a2, a3, a4⟩ := addC_ok ce co P.inp; have hpre := a3.length_le; have hdrop : ((addC c P.inp).dat.drop c.dat.length).length = (addC c P.inp).dat.length - c.dat.length := List.length_drop; unfold readChunksR; rw [hc]; dsimp only; generalize addC c P.inp = d at *
  split
  · exact ⟨h, fun hh => by simp at hh⟩
  · rename_i h0
    split
    · exact ⟨fail_ok (by simp [hdrop]; omega) h.big h.size h.left, fun _ => by rw [hmu]; simp [reFail, ReS.mu]⟩
    · rename_i h2
      split
      · exact ⟨⟨by simp only [ReS.wt]; rw [if_neg (by omega)]; simp [hdrop]; omega, h.big, h.size, h.left, by simp, fun hh => by simp at hh, fun hh => by simp at hh⟩, fun _ => by rw [hmu]; simp [ReS.mu]⟩
      · refine ⟨⟨by simp only [ReS.wt]; rw [if_pos h1]; simp [hdrop, ckW]; omega, h.big, h.size, h.left, h.st, fun hh => by simp only at hh; omega, fun _ => ⟨d, rfl, by rw [a1]; exact cb, by simpa using h2, a4 (by simpa using h2)⟩⟩, fun _ => ?_⟩; have hl : 0 < P.inp.length := List.length_pos_iff.2 h0; rw [hmu]; simp only [ReS.mu, h1]; simp; omega
theorem readLength_ok {P : ReS} {n : Nat} (h : P.ok n) (h2 : P.st = 2) : (readLengthR P).1.ok n ∧ ((readLengthR P).2 = true → (readLengthR P).1.mu < P.mu) := by
  have hmu : P.mu = P.inp.length + 1 := by unfold ReS.mu; rw [if_pos (by omega)]
  have hw : 2 * P.inp.length + P.dat.length ≤ n := by have := h.wt; unfold ReS.wt at this; rw [if_neg (by omega)] at this; omega
  have hl := h.left; unfold readLengthR
  split
  · exact ⟨⟨by simp only [ReS.wt]; rw [if_neg (by omega)]; simp; omega, h.big, h.size, by simp, by simp, fun hh => by simp at hh, fun hh => by simp at hh⟩, fun _ => by rw [hmu]; simp [ReS.mu]⟩
  · refine ⟨⟨by simp only [ReS.wt]; rw [if_neg (by omega)]; simp; omega, h.big, h.size, by simp only; omega, h.st, fun hh => by simp only at hh; omega, fun hh => by simp only at hh; omega⟩, fun hh => ?_⟩; simp only [decide_eq_true_eq] at hh; rw [hmu]; simp only [ReS.mu, h2, List.length_drop]; simp; omega
theorem readClose_ok {P : ReS} {n : Nat} (h : P.ok n) (h2 : P.st = 3) : (readCloseR P).1.ok n ∧ ((readCloseR P).2 = true → (readCloseR P).1.mu < P.mu) := by
  have hmu : P.mu = P.inp.length + 1 := by unfold ReS.mu; rw [if_pos (by omega)]
  have hw : 2 * P.inp.length + P.dat.length ≤ n := by have := h.wt; unfold ReS.wt at this; rw [if_neg (by omega)] at this; omega
  have hs := h.size; have hC : (closeP P).ok n := ⟨by rw [wt_of (show (closeP P).st ≠ 1 from (by omega : P.st ≠ 1))]; simp only [closeP]; simp; omega, h.big, by simp only [closeP]; omega, h.left, h.st, fun hh => by simp only [closeP] at hh; omega, fun hh => by simp only [closeP] at hh; omega⟩
  unfold readCloseR
  split
  · exact ⟨reFail_ok hC, fun _ => by rw [hmu]; simp [reFail, ReS.mu]⟩
  · split
    · refine ⟨⟨?_, hC.big, hC.size, hC.left, by simp, fun hh => by simp at hh, fun hh => by simp at hh⟩, fun _ => by rw [hmu]; simp [ReS.mu]⟩; have := hC.wt; simp only [ReS.wt] at this ⊢; rw [if_neg (by omega)]; omega
    · refine ⟨hC, fun hh => ?_⟩; simp only [decide_eq_true_eq] at hh; rw [hmu]; simp only [ReS.mu, closeP, h2, List.length_drop]; simp; omega
theorem read_ok {P : ReS} {n : Nat} (h : P.ok n) : (readR P).1.ok n ∧ ((readR P).2 = true → (readR P).1.mu < P.mu) := by
  unfold readR
  split
  · rename_i h0; exact readHead_ok h h0
  · split
    · rename_i h1; exact readChunks_ok h h1
    · split
      · rename_i h1; exact readLength_ok h h1
      · split
        · rename_i h1; exact readClose_ok h h1
        · exact ⟨h, fun hh => by simp at hh⟩
theorem reLoop_fuel {n : Nat} : ∀ (i j : Nat) (P : ReS), P.ok n → P.mu < i → P.mu < j → reLoop i P = reLoop j P
  | 0, _, _, _, h, _ => absurd h (by omega)
  | _ + 1, 0, _, _, _, h => absurd h (by omega)
  | i + 1, j + 1, P, hP, hi, hj => by
    unfold reLoop
    split
    · rfl
    · split
      · rename_i h2; have := read_ok hP; have := this.2 h2; exact reLoop_fuel i j _ (read_ok hP).1 (by omega) (by omega)
      · rfl
def reEnd (P : ReS) : ReS := reLoop (P.inp.length + 2) P
theorem mu_lt (P : ReS) : P.mu < P.inp.length + 2 := by unfold ReS.mu; split <;> omega
theorem reEnd_some {P : ReS} (h : P.ans.isSome = true) : reEnd P = P := by unfold reEnd reLoop; rw [if_pos h]
theorem reEnd_stop {P : ReS} (h : P.ans = none) (h2 : (readR P).2 = false) : reEnd P = (readR P).1 := by unfold reEnd reLoop; rw [if_neg (by simp [h]), if_neg (by simp [h2])]
theorem reEnd_more {P : ReS} {n : Nat} (hP : P.ok n) (h : P.ans = none) (h2 : (readR P).2 = true) : reEnd P = reEnd (readR P).1 := by
  have hr := read_ok hP; have hlt := hr.2 h2; have hm := mu_lt P; have e1 : reEnd P = reLoop (P.inp.length + 1) (readR P).1 := by unfold reEnd; rw [reLoop, if_neg (by simp [h]), if_pos h2]
  rw [e1]; exact reLoop_fuel _ _ _ hr.1 (by omega) (mu_lt _)
theorem reLoop_ok {n : Nat} : ∀ (i : Nat) (P : ReS), P.ok n → (reLoop i P).ok n
  | 0, P, h => h
  | i + 1, P, h => by
    unfold reLoop
    split
    · exact h
    · split
      · exact reLoop_ok i _ (read_ok h).1
      · exact (read_ok h).1
theorem reEnd_ok {P : ReS} {n : Nat} (h : P.ok n) : (reEnd P).ok n := reLoop_ok _ P h
theorem reFinish_ok {P : ReS} {n : Nat} (h : P.ok n) : (reFinish P).1.ok n := by
  unfold reFinish
  split
  · exact ⟨h.wt, h.big, h.size, h.left, h.st, h.head, h.chk⟩
  · split
    · exact reFail_ok h
    · exact h
theorem nextR_eq (P : ReS) : nextR P = match (reEnd P).ans with
  | some a => ⟨{ reEnd P with ans := none }, 1, a, []⟩
  | none => if (reEnd P).dat ≠ [] then ⟨{ reEnd P with dat := [] }, 2, ans0, (reEnd P).dat⟩ else ⟨(reFinish (reEnd P)).1, (reFinish (reEnd P)).2, ans0, []⟩ := rfl
theorem nextR_ok {P : ReS} {n : Nat} (h : P.ok n) : (nextR P).p.ok n := by
  have hE := reEnd_ok h; rw [nextR_eq]; generalize reEnd P = Q at *
  split
  · exact ⟨hE.wt, hE.big, hE.size, hE.left, hE.st, fun hh => ⟨(hE.head hh).1, rfl, (hE.head hh).2.2⟩, hE.chk⟩
  · split
    · refine ⟨?_, hE.big, hE.size, hE.left, hE.st, hE.head, hE.chk⟩; have := hE.wt; simp only [ReS.wt, List.length_nil] at this ⊢; omega
    · exact reFinish_ok hE
end Go.Proofs.YtlhnjkekjbbhcaaGreatDoor
