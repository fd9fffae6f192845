/- Parts of the proof of ErrandGets, in order. No conditions but those that each theorem states. -/
import Derived.Test.YtlhnjkekjbbhcaaGreatDoorYErrandGets0
import Derived.Lib.SlBytesConst
import Derived.DeepKeys4
import Derived.Test.YtlhnjkekjbbhcaaGreatDoorYErrandGets17
set_option linter.unusedSimpArgs false
set_option linter.unusedVariables false
namespace Go.Proofs.YtlhnjkekjbbhcaaGreatDoor
open Go.RowKit
def ReS.with' (P : ReS) (a : Option Ans) (d : List UInt8) : ReS := { P with ans := a, dat := d }
theorem length_with (P : ReS) (a : Option Ans) (d : List UInt8) : readLengthR (P.with' a (d ++ P.dat)) = ((readLengthR P).1.with' a (d ++ (readLengthR P).1.dat), (readLengthR P).2) := by
  rw [lengthR_eq, lengthR_eq P]; show (if P.left - min P.left P.inp.length = 0 then (lenA (P.with' a (d ++ P.dat)) (min P.left P.inp.length), true) else (lenB (P.with' a (d ++ P.dat)) (min P.left P.inp.length), decide (0 < min P.left P.inp.length))) = _; have e1 : lenA (P.with' a (d ++ P.dat)) (min P.left P.inp.length) = (lenA P (min P.left P.inp.length)).with' a (d ++ (lenA P (min P.left P.inp.length)).dat) := by unfold lenA ReS.with'; simp
  have e2 : lenB (P.with' a (d ++ P.dat)) (min P.left P.inp.length) = (lenB P (min P.left P.inp.length)).with' a (d ++ (lenB P (min P.left P.inp.length)).dat) := by unfold lenB ReS.with'; simp
  rw [e1, e2]
  split <;> rfl
theorem close_with (P : ReS) (a : Option Ans) (d : List UInt8) : readCloseR (P.with' a (d ++ P.dat)) = ((readCloseR P).1.with' a (d ++ (readCloseR P).1.dat), (readCloseR P).2) := by
  have c1 : closeP (P.with' a (d ++ P.dat)) = (closeP P).with' a (d ++ (closeP P).dat) := by unfold closeP ReS.with'; simp
  unfold readCloseR; rw [c1]; show (if (closeP P).inp ≠ [] then (reFail ((closeP P).with' a (d ++ (closeP P).dat)), true) else if P.shut then ({ (closeP P).with' a (d ++ (closeP P).dat) with st := 4 }, true) else ((closeP P).with' a (d ++ (closeP P).dat), decide (0 < min (P.most - P.size) P.inp.length))) = _
  split
  · rfl
  · split <;> rfl
theorem chunks_with (P : ReS) (a : Option Ans) (d : List UInt8) : readChunksR (P.with' a (d ++ P.dat)) = ((readChunksR P).1.with' a (d ++ (readChunksR P).1.dat), (readChunksR P).2) := by
  have hc : (P.with' a (d ++ P.dat)).chk = P.chk := rfl; have hi : (P.with' a (d ++ P.dat)).inp = P.inp := rfl
  cases hk : P.chk with
  | none => unfold readChunksR; rw [hc, hk]
  | some c =>
    by_cases h0 : P.inp = []
    · unfold readChunksR; rw [hc, hk]; dsimp only; rw [hi, if_pos h0, if_pos h0]
    · rw [chunksR_eq (hc.trans hk) (by rw [hi]; exact h0), chunksR_eq hk h0, hi]; have e1 : ∀ y, chA (P.with' a (d ++ P.dat)) c y = (chA P c y).with' a (d ++ (chA P c y).dat) := fun y => by unfold chA reFail ReS.with'; simp
      have e2 : ∀ y, chB (P.with' a (d ++ P.dat)) c y = (chB P c y).with' a (d ++ (chB P c y).dat) := fun y => by unfold chB ReS.with'; simp
      have e3 : ∀ y, chC (P.with' a (d ++ P.dat)) c y = (chC P c y).with' a (d ++ (chC P c y).dat) := fun y => by unfold chC ReS.with'; simp
      rw [e1, e2, e3]
      split
      · rfl
      · split <;> rfl
theorem read_with {P : ReS} (h : P.st ≠ 0) (a : Option Ans) (d : List UInt8) : readR (P.with' a (d ++ P.dat)) = ((readR P).1.with' a (d ++ (readR P).1.dat), (readR P).2) := by
  unfold readR; have hst : (P.with' a (d ++ P.dat)).st = P.st := rfl; rw [hst, if_neg h, if_neg h]
  split
  · exact chunks_with P a d
  · split
    · exact length_with P a d
    · split
      · exact close_with P a d
      · rfl
theorem read_st0 {P : ReS} (h : P.st ≠ 0) : (readR P).1.st ≠ 0 := by
  unfold readR; rw [if_neg h]
  split
  · unfold readChunksR
    split
    · exact h
    · split
      · exact h
      · split
        · exact fun hh => absurd (show (5 : Nat) = 0 from hh) (by decide)
        · split
          · exact fun hh => absurd (show (4 : Nat) = 0 from hh) (by decide)
          · exact h
  · split
    · unfold readLengthR
      split
      · exact fun hh => absurd (show (4 : Nat) = 0 from hh) (by decide)
      · exact h
    · split
      · unfold readCloseR
        split
        · exact fun hh => absurd (show (5 : Nat) = 0 from hh) (by decide)
        · split
          · exact fun hh => absurd (show (4 : Nat) = 0 from hh) (by decide)
          · exact h
      · exact h
theorem read_ans {P : ReS} (h : P.st ≠ 0) : (readR P).1.ans = P.ans := by
  unfold readR; rw [if_neg h]
  split
  · unfold readChunksR
    split
    · rfl
    · split
      · rfl
      · split
        · rfl
        · split <;> rfl
  · split
    · unfold readLengthR
      split <;> rfl
    · split
      · unfold readCloseR
        split
        · rfl
        · split <;> rfl
      · rfl
theorem with_ok {P : ReS} {n : Nat} (h : P.ok n) (h0 : P.st ≠ 0) (a : Option Ans) (d : List UInt8) : (P.with' a d).ok (n + d.length) := by
  refine ⟨?_, h.big, h.size, h.left, h.st, fun hh => absurd hh h0, h.chk⟩; have hw := h.wt; by_cases h1 : P.st = 1
  · have e1 : (P.with' a d).wt = 2 * P.inp.length + d.length + ckW P.chk := by unfold ReS.wt; rw [if_pos (show (P.with' a d).st = 1 from h1)]; rfl
    have e2 : P.wt = 2 * P.inp.length + P.dat.length + ckW P.chk := by unfold ReS.wt; rw [if_pos h1]
    omega
  · have e1 : (P.with' a d).wt = 2 * P.inp.length + d.length := wt_of (P := P.with' a d) h1; have e2 := wt_of h1; omega
theorem all_with {P : ReS} {n : Nat} (h : P.ok n) (h0 : P.st ≠ 0) (a : Option Ans) (d : List UInt8) : reAll (P.with' a (d ++ P.dat)) = (reAll P).with' a (d ++ (reAll P).dat) := by
  refine re_ind (n := n) (C := fun P => P.st ≠ 0 → reAll (P.with' a (d ++ P.dat)) = (reAll P).with' a (d ++ (reAll P).dat)) ?_ ?_ P h h0
  · intro P _ h2 h0; have hw := read_with h0 a d; rw [reAll_stop h2, reAll_stop (by rw [hw]; exact h2)]
  · intro P hP h2 ih h0; have hw := read_with h0 a d; have hok := with_ok hP h0 a (d ++ P.dat); rw [reAll_read hok, hw, reAll_read hP]; exact ih (read_st0 h0)
theorem all_st0 {P : ReS} {n : Nat} (h : P.ok n) (h0 : P.st ≠ 0) : (reAll P).st ≠ 0 ∧ (reAll P).ans = P.ans := by
  refine re_ind (n := n) (C := fun P => P.st ≠ 0 → (reAll P).st ≠ 0 ∧ (reAll P).ans = P.ans) ?_ ?_ P h h0
  · intro P _ h2 h0; rw [reAll_stop h2]; exact ⟨h0, rfl⟩
  · intro P hP h2 ih h0; rw [reAll_read hP]; have := ih (read_st0 h0); exact ⟨this.1, this.2.trans (read_ans h0)⟩
theorem head_step {P : ReS} (h0 : P.st = 0) (ha : P.ans = none) (h2 : (readR P).2 = true) : (readR P).1.dat = P.dat ∧ ((readR P).1.st = 0 ∧ (readR P).1.ans = none ∨ (readR P).1.st = 5 ∧ (readR P).1.ans = none ∨ ∃ a, (readR P).1.ans = some a ∧ (readR P).1.st ≠ 0 ∧ 200 ≤ a.st) := by
  have e1 : readR P = readHeadR P := by unfold readR; rw [if_pos h0]
  rw [e1] at h2 ⊢; unfold readHeadR at h2 ⊢
  split
  · rename_i h1; rw [if_pos h1] at h2; simp at h2
  · split
    · exact ⟨rfl, .inr (.inl ⟨rfl, ha⟩)⟩
    · split
      · split
        · exact ⟨rfl, .inr (.inl ⟨rfl, ha⟩)⟩
        · exact ⟨rfl, .inl ⟨h0, ha⟩⟩
      · rename_i h3
        split
        · rename_i h4; have hs := reFrame_st h4; refine ⟨(reFrame_inp (headP P) (headA P)).2.1, .inr (.inr ⟨_, rfl, ?_, ?_⟩)⟩
          · show (reFrame (headP P) (headA P)).p.st ≠ 0; omega
          · have hx : (reFrame (headP P) (headA P)).a.st = (headA P).st := by
              unfold reFrame
              split
              · rfl
              · split
                · rfl
                · split
                  · rfl
                  · split <;> rfl
            rw [hx]; show 200 ≤ (slM (splitM P.inp).st).n; omega
        · exact ⟨rfl, .inr (.inl ⟨rfl, ha⟩)⟩
theorem end_cases {P : ReS} {n : Nat} (h : P.ok n) (ha : P.ans = none) :
    (reEnd P = reAll P ∧ (reAll P).ans = none) ∨ (∃ a, (reEnd P).ans = some a ∧ 200 ≤ a.st ∧ (reEnd P).st ≠ 0 ∧ P.st = 0 ∧ (reEnd P).dat = P.dat ∧ reAll P = reAll (reEnd P)) := by
  refine re_ind (n := n) (C := fun P => P.ans = none → (reEnd P = reAll P ∧ (reAll P).ans = none) ∨ (∃ a, (reEnd P).ans = some a ∧ 200 ≤ a.st ∧ (reEnd P).st ≠ 0 ∧ P.st = 0 ∧ (reEnd P).dat = P.dat ∧ reAll P = reAll (reEnd P))) ?_ ?_ P h ha
  · intro P _ h2 ha; have hf := read_false h2; exact .inl ⟨by rw [reEnd_stop ha h2, reAll_stop h2, hf], by rw [reAll_stop h2]; exact ha⟩
  · intro P hP h2 ih ha; rw [reEnd_more hP ha h2, reAll_read hP]; by_cases h0 : P.st = 0
    · obtain ⟨hd, hx⟩ := head_step h0 ha h2; rcases hx with ⟨x1, x2⟩ | ⟨x1, x2⟩ | ⟨a, x1, x2, x3⟩
      · rcases ih x2 with hh | ⟨a, y1, y2, y3, y4, y5, y6⟩
        · exact .inl hh
        · exact .inr ⟨a, y1, y2, y3, h0, y5.trans hd, y6⟩
      · rcases ih x2 with hh | ⟨a, y1, y2, y3, y4, y5, y6⟩
        · exact .inl hh
        · exact absurd (x1.symm.trans y4) (by decide)
      · right; have he : reEnd (readR P).1 = (readR P).1 := reEnd_some (by rw [x1]; rfl); rw [he]; exact ⟨a, x1, x3, x2, h0, hd, rfl⟩
    · have x2 : (readR P).1.ans = none := (read_ans h0).trans ha; rcases ih x2 with hh | ⟨a, y1, y2, y3, y4, y5, y6⟩
      · exact .inl hh
      · exact absurd y4 (read_st0 h0)
structure CmR where
  p : ReS
  a : Ans
  d : List UInt8
  k : Int
def comeR : Nat → ReS → Ans → List UInt8 → CmR
  | 0, p, a, d => ⟨p, a, d, -1⟩
  | n + 1, p, a, d => if (nextR p).k = 1 then comeR n (nextR p).p (nextR p).a d else if (nextR p).k = 2 then comeR n (nextR p).p a (d ++ (nextR p).s) else ⟨(nextR p).p, a, d, (nextR p).k⟩
theorem end_all {P : ReS} {n : Nat} (h : P.ok n) (h0 : P.st ≠ 0) (ha : P.ans = none) : reEnd P = reAll P := by
  rcases end_cases h ha with hh | ⟨_, _, _, _, h4, _⟩
  · exact hh.1
  · exact absurd h4 h0
theorem finish_k (P : ReS) : (reFinish P).2 = 3 ∨ (reFinish P).2 = 4 ∨ (reFinish P).2 = 0 := by
  unfold reFinish
  split
  · exact .inl rfl
  · split
    · exact .inr (.inl rfl)
    · exact .inr (.inr rfl)
theorem fin_with (P : ReS) (a : Option Ans) (d : List UInt8) : (reFinish (P.with' a d)).2 = (reFinish P).2 := by
  have e1 : (P.with' a d).st = P.st := rfl; have e2 : (P.with' a d).shut = P.shut := rfl; unfold reFinish; rw [e1, e2]
  split
  · rfl
  · split <;> rfl
theorem come_rest {Q : ReS} {n : Nat} (h : Q.ok n) (hq : (readR Q).2 = false) (ha : Q.ans = none) (i : Nat) (a : Ans) (d : List UInt8) : comeR (i + 2) Q a d = ⟨(reFinish (Q.with' none [])).1, a, d ++ Q.dat, (reFinish Q).2⟩ := by
  have he : reEnd Q = Q := by rw [reEnd_stop ha hq, read_false hq]
  by_cases hd : Q.dat = []
  · have hn : nextR Q = ⟨(reFinish Q).1, (reFinish Q).2, ans0, []⟩ := by rw [nextR_eq, he, ha]; simp [hd]
    have hw : Q.with' none [] = Q := by unfold ReS.with'; cases Q; simp at ha hd; simp [ha, hd]
    have hk := finish_k Q; unfold comeR; rw [hn, hw, hd, List.append_nil]; dsimp only; rw [if_neg (by omega), if_neg (by omega)]
  · have hn : nextR Q = ⟨Q.with' none [], 2, ans0, Q.dat⟩ := by
      rw [nextR_eq, he, ha]; simp only [ne_eq, hd, not_false_eq_true, if_true]; congr 1; unfold ReS.with'
      cases Q; simp at ha; simp [ha]
    have hw : (readR (Q.with' none [])).2 = false := by
      by_cases h0 : Q.st = 0
      · have e1 : readR Q = readHeadR Q := by unfold readR; rw [if_pos h0]
        have e2 : readR (Q.with' none []) = readHeadR (Q.with' none []) := by unfold readR; rw [if_pos (by exact h0)]
        rw [e1] at hq; rw [e2]
        have h17 : (splitM Q.inp).e = 17 := by
          by_cases hh : (splitM Q.inp).e = 17
          · exact hh
          · exfalso; unfold readHeadR at hq; rw [if_neg hh] at hq
            split at hq
            · simp at hq
            · split at hq
              · split at hq <;> simp at hq
              · split at hq <;> simp at hq
        unfold readHeadR; rw [if_pos (show (splitM (Q.with' none []).inp).e = 17 from h17)]
      · have := read_with (P := Q.with' none []) (by exact h0) none Q.dat; have e2 : (Q.with' none []).with' none (Q.dat ++ (Q.with' none []).dat) = Q := by unfold ReS.with'; cases Q; simp at ha; simp [ha]
        rw [e2] at this; rw [this] at hq; exact hq
    have he2 : reEnd (Q.with' none []) = Q.with' none [] := by rw [reEnd_stop rfl hw, read_false hw]
    have hn2 : nextR (Q.with' none []) = ⟨(reFinish (Q.with' none [])).1, (reFinish (Q.with' none [])).2, ans0, []⟩ := by
      rw [nextR_eq, he2]; show (if ([] : List UInt8) ≠ [] then _ else _) = _; rw [if_neg (by simp)]
    have hk := finish_k (Q.with' none []); have hf := fin_with Q none []; unfold comeR; rw [hn]; dsimp only; rw [if_neg (by decide), if_pos rfl]; unfold comeR; rw [hn2]; dsimp only; rw [if_neg (by omega), if_neg (by omega), hf]
theorem come_all {P : ReS} {n : Nat} (h : P.ok n) (ha : P.ans = none) (hd : P.dat = []) (i : Nat) (a : Ans) (d : List UInt8) :
    comeR (i + 3) P a d = ⟨(reFinish ((reAll P).with' none [])).1, (reAll P).ans.getD a, d ++ (reAll P).dat, (reFinish (reAll P)).2⟩ := by
  have hAok := reAll_ok h; have hAq := reAll_end h; rcases end_cases h ha with ⟨he, hn⟩ | ⟨b, h1, h2, h3, h4, h5, h6⟩
  · have hc := come_rest hAok hAq hn (i + 1) a d; rw [hn]
    have hne : nextR P = nextR (reAll P) := by
      have e2 : reEnd (reAll P) = reAll P := by rw [reEnd_stop hn hAq, read_false hAq]
      rw [nextR_eq, nextR_eq, he, e2]
    have : comeR (i + 3) P a d = comeR (i + 3) (reAll P) a d := by unfold comeR; rw [hne]
    rw [this, hc]; rfl
  · have hE := reEnd_ok h
    have hn : nextR P = ⟨(reEnd P).with' none (reEnd P).dat, 1, b, []⟩ := by
      rw [nextR_eq, h1]; rfl
    have hok : ((reEnd P).with' none (reEnd P).dat).ok n := ⟨hE.wt, hE.big, hE.size, hE.left, hE.st, fun hh => absurd hh h3, hE.chk⟩
    have h5' : (reEnd P).dat = [] := h5.trans hd
    have hall : reAll ((reEnd P).with' none (reEnd P).dat) = (reAll P).with' none (reAll P).dat := by
      have := all_with hE h3 none []; rw [List.nil_append, List.nil_append] at this; rw [this, h6]
    have hAa : (reAll P).ans = some b := by rw [h6, (all_st0 hE h3).2, h1]
    have hst0 : ((reEnd P).with' none (reEnd P).dat).st ≠ 0 := h3; have heq : reEnd ((reEnd P).with' none (reEnd P).dat) = reAll ((reEnd P).with' none (reEnd P).dat) := end_all hok hst0 rfl; have hQok := reAll_ok hok; have hQq := reAll_end hok; have hQa : (reAll ((reEnd P).with' none (reEnd P).dat)).ans = none := by rw [hall]; rfl
    have hc := come_rest hQok hQq hQa i b d
    have hne : nextR ((reEnd P).with' none (reEnd P).dat) = nextR (reAll ((reEnd P).with' none (reEnd P).dat)) := by
      have e2 : reEnd (reAll ((reEnd P).with' none (reEnd P).dat)) = reAll ((reEnd P).with' none (reEnd P).dat) := by rw [reEnd_stop hQa hQq, read_false hQq]
      rw [nextR_eq, nextR_eq, heq, e2]
    have hcc : comeR (i + 2) ((reEnd P).with' none (reEnd P).dat) b d = comeR (i + 2) (reAll ((reEnd P).with' none (reEnd P).dat)) b d := by unfold comeR; rw [hne]
    have h0 : comeR (i + 3) P a d = comeR (i + 2) ((reEnd P).with' none (reEnd P).dat) b d := by
      rw [comeR, hn]; dsimp only; rw [if_pos rfl]
    rw [h0, hcc, hc, hall, hAa, fin_with]; rfl
structure Seen (N : ReS) (l : List UInt8) (P : ReS) (a : Option Ans) (d : List UInt8) : Prop where
  all : reAll (N.add l) = P.with' a d
  quiet : (readR P).2 = false
  bare : P.ans = none ∧ P.dat = []
  sh : P.shut = false
  st : P.st ≤ 3
  first : P.st = 0 → a = none ∧ d = []
  ok : P.ok (2 * l.length)
  big : ∀ x, a = some x → 200 ≤ x.st
theorem bare_ok {P : ReS} {n : Nat} (h : P.ok n) : (P.with' none []).ok n := by
  refine ⟨?_, h.big, h.size, h.left, h.st, fun hh => ⟨(h.head hh).1, rfl, (h.head hh).2.2⟩, h.chk⟩; have hw := h.wt; by_cases h1 : P.st = 1
  · have e1 : (P.with' none []).wt = 2 * P.inp.length + 0 + ckW P.chk := by unfold ReS.wt; rw [if_pos (show (P.with' none []).st = 1 from h1)]; rfl
    have e2 : P.wt = 2 * P.inp.length + P.dat.length + ckW P.chk := by unfold ReS.wt; rw [if_pos h1]
    omega
  · have e1 : (P.with' none []).wt = 2 * P.inp.length + 0 := wt_of (P := P.with' none []) h1; have e2 := wt_of h1; omega
theorem all_dat0 {P : ReS} {n : Nat} (h : P.ok n) (ha : P.ans = none) (h0 : (reAll P).st = 0) : (reAll P).dat = P.dat ∧ (reAll P).ans = none := by
  refine re_ind (n := n) (C := fun P => P.ans = none → (reAll P).st = 0 → (reAll P).dat = P.dat ∧ (reAll P).ans = none) ?_ ?_ P h ha h0
  · intro P _ h2 ha _; rw [reAll_stop h2]; exact ⟨rfl, ha⟩
  · intro P hP h2 ih ha h0; rw [reAll_read hP] at h0 ⊢; by_cases hs : P.st = 0
    · obtain ⟨hd, hx⟩ := head_step hs ha h2; rcases hx with ⟨x1, x2⟩ | ⟨x1, x2⟩ | ⟨a, x1, x2, x3⟩
      · have := ih x2 h0; exact ⟨this.1.trans hd, this.2⟩
      · exact absurd h0 (all_st0 (read_ok hP).1 (by omega)).1
      · exact absurd h0 (all_st0 (read_ok hP).1 x2).1
    · exact absurd h0 (all_st0 (read_ok hP).1 (read_st0 hs)).1
theorem all_big {P : ReS} {n : Nat} (h : P.ok n) (ha : P.ans = none) {x : Ans} (hx : (reAll P).ans = some x) : 200 ≤ x.st := by
  rcases end_cases h ha with ⟨_, h2⟩ | ⟨a, h1, h2, h3, _, _, h6⟩
  · rw [hx] at h2; cases h2
  · rw [h6, (all_st0 (reEnd_ok h) h3).2, h1] at hx; cases hx; exact h2
theorem seen0 {N : ReS} (hN : ∃ hd most, N = reNew hd most ∧ in64 most) : Seen N [] N none [] := by
  obtain ⟨hd, most, rfl, hm⟩ := hN
  have hq : (readR (reNew hd most)).2 = false := by
    unfold readR; rw [if_pos (show (reNew hd most).st = 0 from rfl)]; unfold readHeadR; rw [if_pos (show (splitM (reNew hd most).inp).e = 17 from by show (splitM []).e = 17; kernel_rfl)]
  exact ⟨by rw [reAll_stop (by exact hq)]; rfl, hq, ⟨rfl, rfl⟩, rfl, by show 0 ≤ 3; omega, fun _ => ⟨rfl, rfl⟩, ok_mono (reNew_ok hd hm) (by omega), fun x hx => by cases hx⟩
theorem fin_0 {P : ReS} (hs : P.shut = false) (h5 : P.st ≤ 5) : ((reFinish P).2 = 0 ↔ P.st ≤ 3) ∧ ((reFinish P).2 = 0 → (reFinish P).1 = P) := by
  unfold reFinish
  split
  · rename_i h; exact ⟨⟨fun hh => absurd (show (3 : Int) = 0 from hh) (by decide), fun hh => by omega⟩, fun hh => absurd (show (3 : Int) = 0 from hh) (by decide)⟩
  · split
    · rename_i h1 h2; have : P.st = 5 := by simpa [hs] using h2
      exact ⟨⟨fun hh => absurd (show (4 : Int) = 0 from hh) (by decide), fun hh => by omega⟩, fun hh => absurd (show (4 : Int) = 0 from hh) (by decide)⟩
    · rename_i h1 h2; have : P.st ≠ 5 := by simpa [hs] using h2
      exact ⟨⟨fun _ => by omega, fun _ => rfl⟩, fun _ => rfl⟩
theorem fin_eq {P Q : ReS} (h : P.st = Q.st) (hs : P.shut = Q.shut) : (reFinish P).2 = (reFinish Q).2 := by
  unfold reFinish; rw [h, hs]
  split
  · rfl
  · split <;> rfl
theorem told_parts {P Q : ReS} (h : ToldEq P Q) : P.st = Q.st ∧ P.dat = Q.dat ∧ P.ans = Q.ans := by
  rcases h with rfl | ⟨_, h2, h3, h4, _⟩
  · exact ⟨rfl, rfl, rfl⟩
  · exact ⟨h2, h3, h4⟩
theorem seen_step {N P : ReS} {l : List UInt8} {a : Option Ans} {d : List UInt8} (hN : ∃ hd most, N = reNew hd most ∧ in64 most) (h : Seen N l P a d) (s : List UInt8) :
    ToldEq (reAll (N.add (l ++ s))) ((reAll (P.add s)).with' (a.or (reAll (P.add s)).ans) (d ++ (reAll (P.add s)).dat)) ∧ (a ≠ none → (reAll (P.add s)).ans = none) ∧ (∀ x, (reAll (P.add s)).ans = some x → 200 ≤ x.st) ∧ (reAll (P.add s)).shut = false ∧ (reAll (P.add s)).ok (2 * (l ++ s).length) ∧
    ((reAll (P.add s)).st ≤ 3 → Seen N (l ++ s) ((reAll (P.add s)).with' none []) (a.or (reAll (P.add s)).ans) (d ++ (reAll (P.add s)).dat)) := by
  have hNok : (N.add l).ok (2 * l.length) := by obtain ⟨hd, most, rfl, hm⟩ := hN; exact ok_mono (add_okR (reNew_ok hd hm) l) (by omega)
  have hNsh : (N.add l).shut = false := by obtain ⟨hd, most, rfl, hm⟩ := hN; rfl
  have hPok := add_okR h.ok s; have hlen : (l ++ s).length = l.length + s.length := by simp
  have hBok : (reAll (P.add s)).ok (2 * (l ++ s).length) := ok_mono (reAll_ok hPok) (by omega); have hBsh : (reAll (P.add s)).shut = false := (reAll_shut hPok).trans h.sh; have hPa : (P.add s).ans = none := h.bare.1; have hadd : N.add (l ++ s) = (N.add l).add s := by unfold ReS.add; simp
  have hlaw := reAll_add hNok hNsh s; rw [← hadd, h.all] at hlaw
  have hcore : reAll ((P.with' a d).add s) = (reAll (P.add s)).with' (a.or (reAll (P.add s)).ans) (d ++ (reAll (P.add s)).dat) ∧ (a ≠ none → (reAll (P.add s)).ans = none) := by
    by_cases h0 : P.st = 0
    · obtain ⟨rfl, rfl⟩ := h.first h0; have e1 : P.with' none [] = P := by have hb := h.bare; unfold ReS.with'; cases P; simp at hb; simp [hb.1, hb.2]
      rw [e1]; refine ⟨?_, fun hh => absurd rfl hh⟩; show _ = (reAll (P.add s)).with' (reAll (P.add s)).ans (reAll (P.add s)).dat
      rfl
    · have hs0 : (P.add s).st ≠ 0 := h0
      have e2 : (P.with' a d).add s = (P.add s).with' a (d ++ (P.add s).dat) := by
        show _ = (P.add s).with' a (d ++ P.dat)
        rw [h.bare.2, List.append_nil]; rfl
      have e3 : (reAll (P.add s)).ans = none := (all_st0 hPok hs0).2.trans hPa; rw [e2, all_with hPok hs0, e3, Option.or_none]; exact ⟨rfl, fun _ => rfl⟩
  have hbig : ∀ x, (reAll (P.add s)).ans = some x → 200 ≤ x.st := fun x hx => all_big hPok hPa hx
  rw [hcore.1] at hlaw; refine ⟨hlaw, hcore.2, hbig, hBsh, hBok, fun h3 => ⟨?_, ?_, ⟨rfl, rfl⟩, hBsh, h3, ?_, ?_, ?_⟩⟩
  · rcases hlaw with hh | ⟨hh, hh2, _⟩
    · rw [hh]; rfl
    · have : (reAll (N.add (l ++ s))).st = (reAll (P.add s)).st := hh2; omega
  · have hq := reAll_end hPok; generalize hB : reAll (P.add s) = B at hq ⊢; by_cases h0 : B.st = 0
    · have e1 : readR B = readHeadR B := by unfold readR; rw [if_pos h0]
      have e2 : readR (B.with' none []) = readHeadR (B.with' none []) := by unfold readR; rw [if_pos (by exact h0)]
      rw [e1] at hq; rw [e2]
      have h17 : (splitM B.inp).e = 17 := by
        by_cases hh : (splitM B.inp).e = 17
        · exact hh
        · exfalso; unfold readHeadR at hq; rw [if_neg hh] at hq
          split at hq
          · simp at hq
          · split at hq
            · split at hq <;> simp at hq
            · split at hq <;> simp at hq
      unfold readHeadR; rw [if_pos (show (splitM (B.with' none []).inp).e = 17 from h17)]
    · have := read_with (P := B.with' none []) (by exact h0) B.ans B.dat; have e2 : (B.with' none []).with' B.ans (B.dat ++ (B.with' none []).dat) = B := by unfold ReS.with'; cases B; simp
      rw [e2] at this; rw [this] at hq; exact hq
  · intro h0; have h0' : (reAll (P.add s)).st = 0 := h0; obtain ⟨x1, x2⟩ := all_dat0 hPok hPa h0'
    have hp0 : P.st = 0 := by
      by_cases hh : P.st = 0
      · exact hh
      · exact absurd h0' (all_st0 hPok hh).1
    obtain ⟨rfl, rfl⟩ := h.first hp0; rw [x2, x1]; exact ⟨rfl, by show [] ++ P.dat = []; rw [h.bare.2]; rfl⟩
  · exact bare_ok hBok
  · intro x hx
    cases ha : a with
    | none => rw [ha] at hx; exact hbig x hx
    | some y => rw [ha] at hx; cases hx; exact h.big _ ha
theorem seen_end {N : ReS} {l : List UInt8} (hN : ∃ hd most, N = reNew hd most ∧ in64 most) (h : ¬ (reAll (N.add l)).st ≤ 3) (s : List UInt8) : (reAll (N.add (l ++ s))).st = (reAll (N.add l)).st ∧ (reAll (N.add (l ++ s))).dat = (reAll (N.add l)).dat ∧ (reAll (N.add (l ++ s))).ans = (reAll (N.add l)).ans := by
  have hNok : (N.add l).ok (2 * l.length) := by obtain ⟨hd, most, rfl, hm⟩ := hN; exact ok_mono (add_okR (reNew_ok hd hm) l) (by omega)
  have hNsh : (N.add l).shut = false := by obtain ⟨hd, most, rfl, hm⟩ := hN; rfl
  have hadd : N.add (l ++ s) = (N.add l).add s := by unfold ReS.add; simp
  have hlaw := reAll_add hNok hNsh s; rw [← hadd, reAll5 (P := (reAll (N.add l)).add s) (by show 4 ≤ (reAll (N.add l)).st; omega)] at hlaw; have := told_parts hlaw; exact this
def pickA (y z : Ans) : Ans := if z.st ≠ 0 then z else y
theorem pick_or {a b : Option Ans} (ha : a ≠ none → b = none) (hb : ∀ x, b = some x → 200 ≤ x.st) : (a.or b).getD ans0 = pickA (a.getD ans0) (b.getD ans0) := by
  unfold pickA
  cases b with
  | none => rw [Option.or_none]; rw [if_neg (by simp [ans0])]
  | some x =>
    have h1 := hb x rfl
    have h2 : a = none := by
      cases a with
      | none => rfl
      | some y => exact absurd (ha (by simp)) (by simp)
    rw [h2, if_pos (by simp; omega)]; rfl
def ToldR (N : ReS) (l : List UInt8) (a : Option Ans) (d : List UInt8) (k : Int) : Prop := (reAll (N.add l)).ans = a ∧ (reAll (N.add l)).dat = d ∧ (reFinish (reAll (N.add l))).2 = k
theorem new_shut {N : ReS} (hN : ∃ hd most, N = reNew hd most ∧ in64 most) (l : List UInt8) : (reAll (N.add l)).shut = false := by
  obtain ⟨hd, most, rfl, hm⟩ := hN; exact reAll_shut (n := 0 + 2 * l.length) (add_okR (reNew_ok hd hm) l)
theorem cut_round {N P : ReS} {l : List UInt8} {a : Option Ans} {f : List UInt8} (hN : ∃ hd most, N = reNew hd most ∧ in64 most) (hS : Seen N l P a f) (t : List UInt8) (hl : l.length + t.length ≤ 16384) :
    ∃ Pz w d kz a', reAdd P t = (P.add t, 0) ∧ comeR 9 (P.add t) ans0 [] = ⟨Pz, w, d, kz⟩ ∧ pickA (a.getD ans0) w = a'.getD ans0 ∧ (a = none → w = a'.getD ans0) ∧ ToldR N (l ++ t) a' (f ++ d) kz ∧ (kz = 0 → Seen N (l ++ t) Pz a' (f ++ d)) ∧ (kz ≠ 0 → ∀ rest, ToldR N (l ++ t ++ rest) a' (f ++ d) kz) := by
  obtain ⟨s1, s2, s3, s4, s5, s6⟩ := seen_step hN hS t; have hPok := add_okR hS.ok t; have hc := come_all hPok (show (P.add t).ans = none from hS.bare.1) (show (P.add t).dat = [] from hS.bare.2) 6 ans0 []; have hst5 := s5.st; obtain ⟨p1, p2, p3⟩ := told_parts s1; have hB := fin_0 s4 hst5; have hB' := fin_0 (P := (reAll (P.add t)).with' none []) s4 hst5; have hfw := fin_with (reAll (P.add t)) none []
  have hk : (reFinish (reAll (N.add (l ++ t)))).2 = (reFinish (reAll (P.add t))).2 := by
    rw [fin_eq (Q := (reAll (P.add t)).with' (a.or (reAll (P.add t)).ans) (f ++ (reAll (P.add t)).dat)) p1 ((new_shut hN _).trans s4.symm), fin_with]
  have hT : ToldR N (l ++ t) (a.or (reAll (P.add t)).ans) (f ++ (reAll (P.add t)).dat) (reFinish (reAll (P.add t))).2 := ⟨p3, p2, hk⟩
  refine ⟨_, _, _, _, a.or (reAll (P.add t)).ans, ?_, hc, (pick_or s2 s3).symm, fun ha => by rw [ha]; rfl, by rw [List.nil_append]; exact hT, fun h0 => ?_, fun h0 rest => ?_⟩
  · have hw := hS.ok.wt; have hlen : 2 * P.inp.length + P.dat.length ≤ 2 * l.length := by unfold ReS.wt at hw; omega
    have hst := hS.st; unfold reAdd; rw [if_neg (by rw [hS.bare.2] at hlen ⊢; simp at hlen ⊢; omega), if_neg (by simp [hS.sh]; omega)]; rfl
  · rw [List.nil_append, hB'.2 (by rw [hfw]; exact h0)]; exact s6 (hB.1.1 h0)
  · rw [List.nil_append]
    have h3 : ¬ (reAll (N.add (l ++ t))).st ≤ 3 := by
      rw [p1]; exact fun hh => h0 (hB.1.2 hh)
    obtain ⟨e1, e2, e3⟩ := seen_end hN h3 rest; exact ⟨e3.trans hT.1, e2.trans hT.2.1, (fin_eq e1 ((new_shut hN _).trans (new_shut hN _).symm)).trans hT.2.2⟩
end Go.Proofs.YtlhnjkekjbbhcaaGreatDoor
