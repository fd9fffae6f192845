/- Parts of the proof of ErrandGets, in order. No conditions but those that each theorem states. -/
import Derived.Test.YtlhnjkekjbbhcaaGreatDoorYErrandGets0
import Derived.Lib.SlBytesConst
import Derived.DeepKeys4
import Derived.Test.YtlhnjkekjbbhcaaGreatDoorYErrandGets16
set_option linter.unusedSimpArgs false
set_option linter.unusedVariables false
namespace Go.Proofs.YtlhnjkekjbbhcaaGreatDoor
open Go.RowKit
def ReS.add (P : ReS) (t : List UInt8) : ReS := { P with inp := P.inp ++ t }
def reRun : Nat → ReS → ReS
  | 0, p => p
  | n + 1, p => if (readR p).2 then reRun n (readR p).1 else (readR p).1
def reAll (P : ReS) : ReS := reRun (P.inp.length + 2) P
theorem read_shut (P : ReS) : (readR P).1.shut = P.shut := by
  unfold readR
  split
  · unfold readHeadR
    have hf : ∀ a, (reFrame (headP P) a).p.shut = P.shut := fun a => by
      unfold reFrame
      split
      · rfl
      · split
        · rfl
        · split
          · rfl
          · split <;> rfl
    split
    · rfl
    · split
      · rfl
      · split
        · split <;> rfl
        · split
          · exact hf _
          · rfl
  · split
    · unfold readChunksR
      split
      · rfl
      · split
        · rfl
        · split
          · rfl
          · split <;> rfl
    · split
      · unfold readLengthR
        split <;> rfl
      · split
        · unfold readCloseR
          split
          · rfl
          · split <;> rfl
        · rfl
theorem length_same (P : ReS) : ({ P with dat := P.dat ++ P.inp.take 0, inp := P.inp.drop 0, left := P.left - 0 } : ReS) = P := by cases P; simp
theorem close_same {P : ReS} (h : min (P.most - P.size) P.inp.length = 0) : closeP P = P := by unfold closeP; rw [h]; cases P; simp
theorem read_false {P : ReS} (h : (readR P).2 = false) : (readR P).1 = P := by
  unfold readR at h ⊢
  split
  · rename_i h0; rw [if_pos h0] at h; unfold readHeadR at h ⊢
    split
    · rfl
    · rename_i h1; rw [if_neg h1] at h
      split
      · rename_i h2; rw [if_pos h2] at h; simp at h
      · rename_i h2; rw [if_neg h2] at h
        split
        · rename_i h3; rw [if_pos h3] at h
          split at h <;> simp at h
        · rename_i h3; rw [if_neg h3] at h
          split at h <;> simp at h
  · rename_i h0; rw [if_neg h0] at h
    split
    · rename_i h1; rw [if_pos h1] at h; unfold readChunksR at h ⊢
      split
      · rfl
      · rename_i c hc; rw [hc] at h; dsimp only at h
        split
        · rfl
        · rename_i h2; rw [if_neg h2] at h
          split at h
          · simp at h
          · split at h <;> simp at h
    · rename_i h1; rw [if_neg h1] at h
      split
      · rename_i h2; rw [if_pos h2] at h; unfold readLengthR at h ⊢
        split
        · rename_i h3; rw [if_pos h3] at h; simp at h
        · rename_i h3; rw [if_neg h3] at h; have h4 : min P.left P.inp.length = 0 := by simpa using h
          rw [h4]; exact length_same P
      · rename_i h2; rw [if_neg h2] at h
        split
        · rename_i h3; rw [if_pos h3] at h; unfold readCloseR at h ⊢
          split
          · rename_i h4; rw [if_pos h4] at h; simp at h
          · rename_i h4; rw [if_neg h4] at h
            split
            · rename_i h5; rw [if_pos h5] at h; simp at h
            · rename_i h5; rw [if_neg h5] at h; exact close_same (by simpa using h)
        · rfl
theorem reRun_fuel {n : Nat} : ∀ (i j : Nat) (P : ReS), P.ok n → P.mu < i → P.mu < j → reRun i P = reRun j P
  | 0, _, _, _, h, _ => absurd h (by omega)
  | _ + 1, 0, _, _, _, h => absurd h (by omega)
  | i + 1, j + 1, P, hP, hi, hj => by
    unfold reRun
    split
    · rename_i h2; have := (read_ok hP).2 h2; exact reRun_fuel i j _ (read_ok hP).1 (by omega) (by omega)
    · rfl
theorem reAll_read {P : ReS} {n : Nat} (hP : P.ok n) : reAll P = reAll (readR P).1 := by
  have hm := mu_lt P
  cases h2 : (readR P).2 with
  | false => rw [read_false h2]
  | true =>
    have hr := read_ok hP; have hlt := hr.2 h2; have e1 : reAll P = reRun (P.inp.length + 1) (readR P).1 := by unfold reAll; rw [reRun, if_pos h2]
    rw [e1]; exact reRun_fuel _ _ _ hr.1 (by omega) (mu_lt _)
theorem reAll_stop {P : ReS} (h : (readR P).2 = false) : reAll P = P := by
  unfold reAll; rw [reRun, if_neg (by simp [h])]; exact read_false h
theorem reRun_ok {n : Nat} : ∀ (i : Nat) (P : ReS), P.ok n → (reRun i P).ok n
  | 0, P, h => h
  | i + 1, P, h => by
    unfold reRun
    split
    · exact reRun_ok i _ (read_ok h).1
    · exact (read_ok h).1
theorem reAll_ok {P : ReS} {n : Nat} (h : P.ok n) : (reAll P).ok n := reRun_ok _ P h
theorem re_ind {n : Nat} {C : ReS → Prop} (hs : ∀ P, P.ok n → (readR P).2 = false → C P) (hm : ∀ P, P.ok n → (readR P).2 = true → C (readR P).1 → C P) : ∀ P, P.ok n → C P := by
  have : ∀ (m : Nat) (P : ReS), P.ok n → P.mu ≤ m → C P := by
    intro m
    induction m with
    | zero =>
      intro P hP h0
      cases h2 : (readR P).2 with
      | false => exact hs P hP h2
      | true => have := (read_ok hP).2 h2; omega
    | succ m ih =>
      intro P hP h0
      cases h2 : (readR P).2 with
      | false => exact hs P hP h2
      | true => have := (read_ok hP).2 h2; exact hm P hP h2 (ih _ (read_ok hP).1 (by omega))
  exact fun P hP => this P.mu P hP (Nat.le_refl _)
theorem reAll_end {P : ReS} {n : Nat} (h : P.ok n) : (readR (reAll P)).2 = false := by
  refine re_ind (n := n) (C := fun P => (readR (reAll P)).2 = false) ?_ ?_ P h
  · intro P _ h2; rw [reAll_stop h2]; exact h2
  · intro P hP _ ih; rw [reAll_read hP]; exact ih
theorem reAll_shut {P : ReS} {n : Nat} (h : P.ok n) : (reAll P).shut = P.shut := by
  refine re_ind (n := n) (C := fun P => (reAll P).shut = P.shut) ?_ ?_ P h
  · intro P _ h2; rw [reAll_stop h2]
  · intro P hP _ ih; rw [reAll_read hP, ih, read_shut]
theorem add_wt (P : ReS) (t : List UInt8) : (P.add t).wt = P.wt + 2 * t.length := by
  have e : (P.add t).inp.length = P.inp.length + t.length := by simp [ReS.add]
  by_cases h1 : P.st = 1
  · have a : (P.add t).wt = 2 * (P.add t).inp.length + P.dat.length + ckW P.chk := by unfold ReS.wt; rw [if_pos (show (P.add t).st = 1 from h1)]; rfl
    have b : P.wt = 2 * P.inp.length + P.dat.length + ckW P.chk := by unfold ReS.wt; rw [if_pos h1]
    omega
  · have a : (P.add t).wt = 2 * (P.add t).inp.length + P.dat.length := wt_of (P := P.add t) h1; have b := wt_of h1; omega
theorem add_okR {P : ReS} {n : Nat} (h : P.ok n) (t : List UInt8) : (P.add t).ok (n + 2 * t.length) :=
  ⟨by rw [add_wt]; have := h.wt; omega, h.big, h.size, h.left, h.st, h.head, h.chk⟩
def Tl2 (a b : ReS) : Prop := 4 ≤ a.st ∧ a.st = b.st ∧ a.dat = b.dat ∧ a.ans = b.ans ∧ (a.st = 4 → a.inp = b.inp)
def ToldEq (a b : ReS) : Prop := a = b ∨ Tl2 a b
theorem ToldEq.refl (a : ReS) : ToldEq a a := .inl rfl
theorem ToldEq.trans {a b c : ReS} (h : ToldEq a b) (k : ToldEq b c) : ToldEq a c := by
  rcases h with rfl | ⟨h1, h2, h3, h4, h5⟩
  · exact k
  · rcases k with rfl | ⟨k1, k2, k3, k4, k5⟩
    · exact .inr ⟨h1, h2, h3, h4, h5⟩
    · exact .inr ⟨h1, h2.trans k2, h3.trans k3, h4.trans k4, fun h => (h5 h).trans (k5 (by omega))⟩
theorem read5 {P : ReS} (h : 4 ≤ P.st) : readR P = (P, false) := by unfold readR; rw [if_neg (by omega), if_neg (by omega), if_neg (by omega), if_neg (by omega)]
theorem reAll5 {P : ReS} (h : 4 ≤ P.st) : reAll P = P := reAll_stop (by rw [read5 h])
theorem reFrame_add (P : ReS) (a : Ans) (t : List UInt8) : reFrame (P.add t) a = ⟨(reFrame P a).p.add t, (reFrame P a).a, (reFrame P a).ok⟩ := by
  unfold reFrame; simp only [show (P.add t).head = P.head from rfl, show (P.add t).most = P.most from rfl]
  split
  · rfl
  · split
    · rfl
    · split
      · rfl
      · split <;> rfl
theorem headR_add {P : ReS} (h : (readHeadR P).2 = true) (t : List UInt8) : readHeadR (P.add t) = ((readHeadR P).1.add t, true) := by
  have h1 : (splitM P.inp).e ≠ 17 := by
    intro hh; unfold readHeadR at h; rw [if_pos hh] at h; simp at h
  have hs : splitM (P.add t).inp = splitM P.inp := (split_append P.inp t).resolve_left h1; have hn := (split_small P.inp).2.2; have hP : headP (P.add t) = (headP P).add t := by unfold headP ReS.add; rw [show splitM (P.inp ++ t) = splitM P.inp from hs, List.drop_append_of_le_length hn]
  have hA : headA (P.add t) = headA P := by unfold headA; rw [hs]
  unfold readHeadR; rw [hs, hP, hA, reFrame_add]; simp only [show (P.add t).passed = P.passed from rfl, if_neg h1]
  split
  · rfl
  · split
    · split <;> rfl
    · split <;> rfl
theorem take_more (a b : List UInt8) (m : Nat) : (a ++ b).take (a.length + m) = a ++ b.take m := by rw [List.take_append, List.take_of_length_le (l := a) (by omega)]; congr 2; omega
theorem drop_more (a b : List UInt8) (m : Nat) : (a ++ b).drop (a.length + m) = b.drop m := by rw [List.drop_append, List.drop_of_length_le (l := a) (by omega)]; simp
def lenA (P : ReS) (n : Nat) : ReS := { P with dat := P.dat ++ P.inp.take n, inp := P.inp.drop n, left := 0, st := 4 }
def lenB (P : ReS) (n : Nat) : ReS := { P with dat := P.dat ++ P.inp.take n, inp := P.inp.drop n, left := P.left - n }
theorem lengthR_eq (P : ReS) : readLengthR P = if P.left - min P.left P.inp.length = 0 then (lenA P (min P.left P.inp.length), true) else (lenB P (min P.left P.inp.length), decide (0 < min P.left P.inp.length)) := rfl
theorem lengthR_add {P : ReS} (t : List UInt8) : (readLengthR (P.add t)).1 = (readLengthR P).1.add t ∨ (P.st = 2 → (readR ((readLengthR P).1.add t)).1 = (readLengthR (P.add t)).1) := by
  have hl : (P.add t).left = P.left := rfl; have hi : (P.add t).inp = P.inp ++ t := rfl; have hd : (P.add t).dat = P.dat := rfl; rw [lengthR_eq, lengthR_eq P, hl, hi, List.length_append]; by_cases h : P.left ≤ P.inp.length
  · left; rw [show min P.left P.inp.length = P.left by omega, show min P.left (P.inp.length + t.length) = P.left by omega, if_pos (by omega), if_pos (by omega)]; unfold lenA; rw [hi, hd, List.take_append_of_le_length h, List.drop_append_of_le_length h]; rfl
  · right; intro h2; rw [show min P.left P.inp.length = P.inp.length by omega, show min P.left (P.inp.length + t.length) = P.inp.length + min (P.left - P.inp.length) t.length by omega, if_neg (by omega : ¬ P.left - P.inp.length = 0)]; have hE : lenB P P.inp.length = { P with dat := P.dat ++ P.inp, inp := [], left := P.left - P.inp.length } := by unfold lenB; rw [List.take_length, List.drop_length]
    generalize hQ : ReS.add (lenB P P.inp.length) t = Q; have q1 : Q.st = 2 := by rw [← hQ, hE]; exact h2
    have q2 : Q.left = P.left - P.inp.length := by rw [← hQ, hE]; rfl
    have q3 : Q.inp = t := by rw [← hQ, hE]; rfl
    have q4 : readR Q = readLengthR Q := by unfold readR; rw [if_neg (by omega), if_neg (by omega), if_pos q1]
    rw [show (readR Q).1 = (readLengthR Q).1 by rw [q4], lengthR_eq, q2, q3]
    have a1 : lenA Q (min (P.left - P.inp.length) t.length) = lenA (P.add t) (P.inp.length + min (P.left - P.inp.length) t.length) := by
      unfold lenA; rw [hi, take_more, drop_more, ← hQ, hE]; simp [ReS.add]
    have a2 : lenB Q (min (P.left - P.inp.length) t.length) = lenB (P.add t) (P.inp.length + min (P.left - P.inp.length) t.length) := by
      unfold lenB; rw [hi, take_more, drop_more, ← hQ, hE]; simp [ReS.add, Nat.sub_add_eq]
    rw [a1, a2, show P.left - (P.inp.length + min (P.left - P.inp.length) t.length) = P.left - P.inp.length - min (P.left - P.inp.length) t.length by omega]
    split <;> rfl
theorem closeR_add {P : ReS} (hsh : P.shut = false) (hsz : P.size ≤ P.most) (t : List UInt8) : (readCloseR (P.add t)).1 = (readCloseR P).1.add t ∨ (P.st = 3 → (readR ((readCloseR P).1.add t)).1 = (readCloseR (P.add t)).1) := by
  have hi : (P.add t).inp = P.inp ++ t := rfl; have hs2 : (P.add t).shut = false := hsh
  have hC : ∀ Q : ReS, Q.shut = false → readCloseR Q = if (closeP Q).inp ≠ [] then (reFail (closeP Q), true) else (closeP Q, decide (0 < min (Q.most - Q.size) Q.inp.length)) := fun Q hq => by
    unfold readCloseR
    split
    · rfl
    · rw [if_neg (by simp [hq])]
  by_cases h : P.most - P.size < P.inp.length
  · left; have e1 : min (P.most - P.size) P.inp.length = P.most - P.size := by omega
    have e2 : min ((P.add t).most - (P.add t).size) (P.add t).inp.length = P.most - P.size := by
      rw [hi, List.length_append]; show min (P.most - P.size) (P.inp.length + t.length) = _; omega
    have c1 : closeP (P.add t) = (closeP P).add t := by
      unfold closeP; rw [e1, e2, hi, List.take_append_of_le_length (by omega), List.drop_append_of_le_length (by omega)]; rfl
    have n1 : (closeP P).inp ≠ [] := by
      intro hh; have := congrArg List.length hh; unfold closeP at this; rw [e1] at this; simp at this; omega
    rw [hC P hsh, hC _ hs2, c1, if_pos n1, if_pos (show ((closeP P).add t).inp ≠ [] from fun hh => n1 (List.append_eq_nil_iff.1 hh).1)]; rfl
  · right; intro h3; have e1 : min (P.most - P.size) P.inp.length = P.inp.length := by omega
    have c0 : closeP P = { P with dat := P.dat ++ P.inp, size := P.size + P.inp.length, inp := [] } := by unfold closeP; rw [e1, List.take_length, List.drop_length]
    have hE : (readCloseR P).1 = { P with dat := P.dat ++ P.inp, size := P.size + P.inp.length, inp := [] } := by
      rw [hC P hsh, c0, if_neg (by simp)]
    generalize hQ : ReS.add (readCloseR P).1 t = Q; have q1 : Q.st = 3 := by rw [← hQ, hE]; exact h3
    have q0 : Q.shut = false := by rw [← hQ, hE]; exact hsh
    have q3 : Q.inp = t := by rw [← hQ, hE]; rfl
    have q5 : Q.most - Q.size = P.most - P.size - P.inp.length := by rw [← hQ, hE]; show P.most - (P.size + P.inp.length) = _; omega
    have c1 : closeP Q = closeP (P.add t) := by
      unfold closeP; rw [q5, q3, hi, List.length_append]; show _ = ({ P.add t with dat := P.dat ++ (P.inp ++ t).take (min (P.most - P.size) (P.inp.length + t.length)), size := P.size + min (P.most - P.size) (P.inp.length + t.length), inp := (P.inp ++ t).drop (min (P.most - P.size) (P.inp.length + t.length)) } : ReS); rw [show min (P.most - P.size) (P.inp.length + t.length) = P.inp.length + min (P.most - P.size - P.inp.length) t.length by omega, take_more, drop_more, ← hQ, hE]; simp [ReS.add, Nat.add_assoc]
    have q4 : readR Q = readCloseR Q := by unfold readR; rw [if_neg (by omega), if_neg (by omega), if_neg (by omega), if_pos q1]
    rw [q4, hC Q q0, hC _ hs2, c1]
    split <;> rfl
theorem addC_bad_dat {c : Ck} (s t : List UInt8) (h0 : c.err = 0) (hk : c.ok) (he : (addC c s).err ≠ 0) : (addC c (s ++ t)).dat = (addC c s).dat := by
  obtain ⟨d, e, hr, hc, hd, hn⟩ := addC_cases s h0 hk; have h17 : e ≠ 17 := by rintro rfl; rw [hc] at he; exact he rfl
  have ha := (runs_app hr t).1 h17; rw [add_add] at ha; rw [addC_of_runs h0 hk ha, hc]; rfl
theorem addC_end_eq {d : Ck} (t : List UInt8) (h0 : d.err = 0) (hk : d.ok) (h4 : d.st = 4) : addC d t = d.add t := by
  have hr : Runs (d.add t) (d.add t) 17 := runs_stop' (step4 h4) (by decide); rw [addC_of_runs h0 hk hr, if_pos rfl]; have : (d.add t).err = 0 := h0; generalize d.add t = y at this ⊢; cases y; simp only at this; subst this; rfl
def chA (P : ReS) (c d : Ck) : ReS := reFail { P with inp := [], dat := P.dat ++ d.dat.drop c.dat.length, chk := some d }
def chB (P : ReS) (c d : Ck) : ReS := { P with inp := d.inp, dat := P.dat ++ d.dat.drop c.dat.length, chk := some d, st := 4 }
def chC (P : ReS) (c d : Ck) : ReS := { P with inp := [], dat := P.dat ++ d.dat.drop c.dat.length, chk := some d }
theorem chunksR_eq {Q : ReS} {c : Ck} (hq : Q.chk = some c) (hi : Q.inp ≠ []) : readChunksR Q = if (addC c Q.inp).err ≠ 0 then (chA Q c (addC c Q.inp), true) else if (addC c Q.inp).st = 4 then (chB Q c (addC c Q.inp), true) else (chC Q c (addC c Q.inp), true) := by
  unfold readChunksR; rw [hq]; dsimp only; rw [if_neg hi]; rfl
theorem chunksR_add {P : ReS} {n : Nat} (h : P.ok n) (h1 : P.st = 1) (hr : (readChunksR P).2 = true) (t : List UInt8) :
    (readChunksR (P.add t)).1 = (readChunksR P).1.add t ∨ (readR ((readChunksR P).1.add t)).1 = (readChunksR (P.add t)).1 ∨ Tl2 (readChunksR (P.add t)).1 ((readChunksR P).1.add t) := by
  obtain ⟨c, hc, cb, ce, co⟩ := h.chk h1
  have h0 : P.inp ≠ [] := by
    intro hh; unfold readChunksR at hr; rw [hc] at hr; simp [hh] at hr
  obtain ⟨a1, a2, a3, a4⟩ := addC_ok ce co P.inp; have hadd : (P.add t).inp = P.inp ++ t := rfl; have h0t : (P.add t).inp ≠ [] := by rw [hadd]; intro hh; exact h0 (List.append_eq_nil_iff.1 hh).1
  have hct : (P.add t).chk = some c := hc; rw [chunksR_eq hc h0, chunksR_eq hct h0t, hadd]; by_cases he : (addC c P.inp).err = 0
  · have e1 := addC_ok_app P.inp t ce co he; by_cases h4 : (addC c P.inp).st = 4
    · right; right
      have e2 := addC_end_eq t he (a4 he) h4; rw [e1, e2, if_neg (show ¬ (addC c P.inp).err ≠ 0 by simp [he]), if_pos h4, if_neg (show ¬ ((addC c P.inp).add t).err ≠ 0 from fun hh => hh he), if_pos (show ((addC c P.inp).add t).st = 4 from h4)]; exact ⟨Nat.le_refl 4, rfl, rfl, rfl, fun _ => rfl⟩
    · rw [if_neg (show ¬ (addC c P.inp).err ≠ 0 by simp [he]), if_neg h4]; by_cases ht : t = []
      · left; subst ht; rw [List.append_nil, if_neg (show ¬ (addC c P.inp).err ≠ 0 by simp [he]), if_neg h4]; unfold chC ReS.add; simp
      · right; left
        generalize hQ : (chC P c (addC c P.inp)).add t = Q; have q1 : Q.st = 1 := by rw [← hQ]; exact h1
        have q2 : Q.chk = some (addC c P.inp) := by rw [← hQ]; rfl
        have q3 : Q.inp = t := by rw [← hQ]; rfl
        have q4 : readR Q = readChunksR Q := by unfold readR; rw [if_neg (by omega), if_pos q1]
        have q5 : Q.dat = P.dat ++ (addC c P.inp).dat.drop c.dat.length := by rw [← hQ]; rfl
        rw [q4, chunksR_eq q2 (by rw [q3]; exact ht), q3, e1]; have hpre : c.dat.length ≤ (addC c P.inp).dat.length := a3.length_le; obtain ⟨b1, b2, b3, b4⟩ := addC_ok he (a4 he) t
        have hd : P.dat ++ (addC c P.inp).dat.drop c.dat.length ++ (addC (addC c P.inp) t).dat.drop (addC c P.inp).dat.length = P.dat ++ (addC (addC c P.inp) t).dat.drop c.dat.length := by
          obtain ⟨r, hr2⟩ := b3; rw [← hr2, List.drop_left, List.drop_append_of_le_length hpre, List.append_assoc]
        have x1 : chA Q (addC c P.inp) (addC (addC c P.inp) t) = chA (P.add t) c (addC (addC c P.inp) t) := by unfold chA; rw [q5, hd, ← hQ]; rfl
        have x2 : chB Q (addC c P.inp) (addC (addC c P.inp) t) = chB (P.add t) c (addC (addC c P.inp) t) := by unfold chB; rw [q5, hd, ← hQ]; rfl
        have x3 : chC Q (addC c P.inp) (addC (addC c P.inp) t) = chC (P.add t) c (addC (addC c P.inp) t) := by unfold chC; rw [q5, hd, ← hQ]; rfl
        rw [x1, x2, x3]
  · right; right
    have e1 := addC_bad_app P.inp t ce co he; have e2 := addC_bad_dat P.inp t ce co he; rw [if_pos he, if_pos (by rw [e1]; exact he)]; refine ⟨by show 4 ≤ 5; decide, rfl, ?_, rfl, fun hh => absurd (show (5 : Nat) = 4 from hh) (by decide)⟩; show P.dat ++ _ = P.dat ++ _; rw [e2]
theorem step_add {P : ReS} {n : Nat} (h : P.ok n) (hsh : P.shut = false) (hr : (readR P).2 = true) (t : List UInt8) : ToldEq (reAll (P.add t)) (reAll ((readR P).1.add t)) := by
  have ho := add_okR h t; have hro := add_okR (read_ok h).1 t
  have key : (readR (P.add t)).1 = (readR P).1.add t ∨ (readR ((readR P).1.add t)).1 = (readR (P.add t)).1 ∨ Tl2 (readR (P.add t)).1 ((readR P).1.add t) := by
    by_cases h0 : P.st = 0
    · left; have e1 : readR P = readHeadR P := by unfold readR; rw [if_pos h0]
      have e2 : readR (P.add t) = readHeadR (P.add t) := by unfold readR; rw [if_pos (by exact h0)]
      rw [e1] at hr; rw [e2, e1, headR_add hr t]
    by_cases h1 : P.st = 1
    · have e1 : readR P = readChunksR P := by unfold readR; rw [if_neg h0, if_pos h1]
      have e2 : readR (P.add t) = readChunksR (P.add t) := by unfold readR; rw [if_neg (by exact h0), if_pos (by exact h1)]
      rw [e1] at hr ⊢; rw [e2]; exact chunksR_add h h1 hr t
    by_cases h2 : P.st = 2
    · have e1 : readR P = readLengthR P := by unfold readR; rw [if_neg h0, if_neg h1, if_pos h2]
      have e2 : readR (P.add t) = readLengthR (P.add t) := by unfold readR; rw [if_neg (by exact h0), if_neg (by exact h1), if_pos (by exact h2)]
      rw [e1, e2]; rcases lengthR_add (P := P) t with hh | hh
      · exact .inl hh
      · exact .inr (.inl (hh h2))
    by_cases h3 : P.st = 3
    · have e1 : readR P = readCloseR P := by unfold readR; rw [if_neg h0, if_neg h1, if_neg h2, if_pos h3]
      have e2 : readR (P.add t) = readCloseR (P.add t) := by unfold readR; rw [if_neg (by exact h0), if_neg (by exact h1), if_neg (by exact h2), if_pos (by exact h3)]
      rw [e1, e2]; rcases closeR_add (P := P) hsh h.size t with hh | hh
      · exact .inl hh
      · exact .inr (.inl (hh h3))
    · rw [read5 (by omega)] at hr; simp at hr
  rcases key with hk | hk | hk
  · rw [reAll_read ho, hk]; exact ToldEq.refl _
  · rw [reAll_read ho, reAll_read hro, hk]; exact ToldEq.refl _
  · rw [reAll_read ho, reAll5 (P := (readR (P.add t)).1) hk.1, reAll5 (P := (readR P).1.add t) (by have := hk.1; have := hk.2.1; omega)]; exact .inr hk
theorem reAll_add {P : ReS} {n : Nat} (h : P.ok n) (hsh : P.shut = false) (t : List UInt8) : ToldEq (reAll (P.add t)) (reAll ((reAll P).add t)) := by
  refine re_ind (n := n) (C := fun P => P.shut = false → ToldEq (reAll (P.add t)) (reAll ((reAll P).add t))) ?_ ?_ P h hsh
  · intro P _ h2 _; rw [reAll_stop h2]; exact ToldEq.refl _
  · intro P hP h2 ih hs; rw [reAll_read hP]; exact (step_add hP hs h2 t).trans (ih (by rw [read_shut]; exact hs))
end Go.Proofs.YtlhnjkekjbbhcaaGreatDoor
