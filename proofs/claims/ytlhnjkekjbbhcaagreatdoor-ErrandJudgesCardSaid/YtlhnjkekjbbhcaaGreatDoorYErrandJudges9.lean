/- Parts of the proof of ErrandJudges, in order. No conditions but those that each theorem states. -/
import Derived.Test.YtlhnjkekjbbhcaaGreatDoorYErrandJudges0
import Derived.Lib.SlBytesConst
import Derived.Lib.LaidTab
import Derived.Lib.ItoaNum
import Derived.Lib.ItoaLen
import Derived.Sort.Grow
import Derived.Laws.BitsAllLaws
import Derived.Test.YtlhnjkekjbbhcaaGreatDoorYErrandJudges8
namespace Go.Proofs.YtlhnjkekjbbhcaaGreatDoor
open Go.RowKit
def readChunksR (p : ReS) : ReS × Bool :=
  match p.chk with
  | none => (p, false)
  | some c =>
    if p.inp = [] then (p, false)
    else if (addC c p.inp).err ≠ 0 then (reFail { p with inp := [], dat := p.dat ++ (addC c p.inp).dat.drop c.dat.length, chk := some (addC c p.inp) }, true)
    else if (addC c p.inp).st = 4 then ({ p with inp := (addC c p.inp).inp, dat := p.dat ++ (addC c p.inp).dat.drop c.dat.length, chk := some (addC c p.inp), st := 4 }, true)
    else ({ p with inp := [], dat := p.dat ++ (addC c p.inp).dat.drop c.dat.length, chk := some (addC c p.inp) }, true)
def readR (p : ReS) : ReS × Bool :=
  if p.st = 0 then readHeadR p else if p.st = 1 then readChunksR p else if p.st = 2 then readLengthR p else if p.st = 3 then readCloseR p else (p, false)
def reLoop : Nat → ReS → ReS
  | 0, p => p
  | n + 1, p => if p.ans.isSome then p else if (readR p).2 then reLoop n (readR p).1 else (readR p).1
structure NrR where
  p : ReS
  k : Int
  a : Ans
  s : List UInt8
def nextR (p : ReS) : NrR :=
  match (reLoop (p.inp.length + 2) p).ans with
  | some a => ⟨{ reLoop (p.inp.length + 2) p with ans := none }, 1, a, []⟩
  | none =>
    if (reLoop (p.inp.length + 2) p).dat ≠ [] then ⟨{ reLoop (p.inp.length + 2) p with dat := [] }, 2, ans0, (reLoop (p.inp.length + 2) p).dat⟩
    else ⟨(reFinish (reLoop (p.inp.length + 2) p)).1, (reFinish (reLoop (p.inp.length + 2) p)).2, ans0, []⟩
theorem trimW_le (l : List UInt8) : (trimW l).length ≤ l.length := by
  unfold trimW Lib.trimS Lib.trimLeftS Lib.trimRightS; refine Nat.le_trans (List.dropWhile_sublist _).length_le ?_; rw [List.length_reverse]; refine Nat.le_trans (List.dropWhile_sublist _).length_le ?_; simp
theorem parse_le {l : List UInt8} {f : Fld} (h : parseF l = some f) : f.name.length ≤ l.length ∧ f.value.length ≤ l.length := by
  unfold parseF at h; dsimp only at h; have hc := cut_len l [58]
  split at h
  · cases h; exact ⟨hc.1, Nat.le_trans (trimW_le _) hc.2⟩
  · cases h
def Small (m : Nat) (F : List Fld) : Prop := F.length ≤ 32 ∧ ∀ x ∈ F, x.name.length ≤ m ∧ x.value.length ≤ m
theorem add_small {m : Nat} {F : List Fld} {l : List UInt8} (h : Small m F) (hl : l.length ≤ m) : Small m (addM F l).1 := by
  unfold addM
  split
  · exact h
  · rename_i f hf; have hp := parse_le hf
    split
    · exact h
    · refine ⟨by simp; omega, fun x hx => ?_⟩; rcases List.mem_append.1 hx with hx | hx
      · exact h.2 x hx
      · simp at hx; subst hx; exact ⟨by omega, by omega⟩
theorem loop_small (s st : List UInt8) : ∀ (k : Nat) (F : List Fld) (n : Nat), n ≤ s.length → n ≤ 4096 → Small s.length F → Small s.length (loopM s st k F n).F ∧ (loopM s st k F n).st = st
  | 0, F, n, h, _, hF => ⟨hF, rfl⟩
  | k + 1, F, n, h, h2, hF => by
    have hb := next_bounds h h2; unfold loopM; by_cases h4 : (nextM s n).2.2 ≠ 0
    · rw [if_pos h4]; exact ⟨hF, rfl⟩
    · rw [if_neg h4]; by_cases h5 : (nextM s n).1 = []
      · rw [if_pos h5]; exact ⟨hF, rfl⟩
      · rw [if_neg h5]; have ha := add_small hF hb.2.2.2; by_cases h6 : (addM F (nextM s n).1).2 ≠ 0
        · rw [if_pos h6]; exact ⟨ha, rfl⟩
        · rw [if_neg h6]; exact loop_small s st k _ _ hb.1 hb.2.1 ha
theorem split_small (s : List UInt8) : Small s.length (splitM s).F ∧ (splitM s).st.length ≤ s.length ∧ (splitM s).n ≤ s.length := by
  have hb := next_bounds (s := s) (n := 0) (Nat.zero_le _) (Nat.zero_le _); have h0 : Small s.length [] := ⟨by simp, by simp⟩
  have hr : Small s.length (readM s).F ∧ (readM s).st.length ≤ s.length := by
    unfold readM; by_cases h4 : (nextM s 0).2.2 ≠ 0
    · rw [if_pos h4]; exact ⟨h0, by simp⟩
    · rw [if_neg h4]; by_cases h6 : beginE (nextM s 0).1 ≠ 0
      · rw [if_pos h6]; exact ⟨h0, by simp⟩
      · rw [if_neg h6]; have := loop_small s (nextM s 0).1 4097 [] (nextM s 0).2.1 hb.1 hb.2.1 h0; exact ⟨this.1, by rw [this.2]; exact hb.2.2.2⟩
  refine ⟨?_, ?_, split_n_le s⟩ <;> unfold splitM <;> split
  · exact h0
  · exact hr.1
  · simp
  · exact hr.2
theorem loop_pos (s st : List UInt8) : ∀ (k : Nat) (F : List Fld) (n : Nat), n ≤ s.length → n ≤ 4096 → (loopM s st k F n).e = 0 → n + 1 ≤ (loopM s st k F n).n
  | 0, F, n, h, _, he => by unfold loopM at he; simp at he
  | k + 1, F, n, h, h2, he => by
    have hb := next_bounds h h2; unfold loopM at he ⊢; by_cases h4 : (nextM s n).2.2 ≠ 0
    · rw [if_pos h4] at he; exact absurd he h4
    · rw [if_neg h4] at he ⊢; have hn := hb.2.2.1 (by simpa using h4); by_cases h5 : (nextM s n).1 = []
      · rw [if_pos h5]; exact hn
      · rw [if_neg h5] at he ⊢; by_cases h6 : (addM F (nextM s n).1).2 ≠ 0
        · rw [if_pos h6]; exact hn
        · rw [if_neg h6] at he ⊢; have := loop_pos s st k _ _ hb.1 hb.2.1 he; omega
theorem split_pos (s : List UInt8) : (splitM s).e = 0 → 2 ≤ (splitM s).n := by
  have hb := next_bounds (s := s) (n := 0) (Nat.zero_le _) (Nat.zero_le _)
  have hr : (readM s).e = 0 → 2 ≤ (readM s).n := by
    unfold readM; by_cases h4 : (nextM s 0).2.2 ≠ 0
    · rw [if_pos h4]; intro h; exact absurd h h4
    · rw [if_neg h4]; have := hb.2.2.1 (by simpa using h4); by_cases h6 : beginE (nextM s 0).1 ≠ 0
      · rw [if_pos h6]; intro h; exact absurd h h6
      · rw [if_neg h6]; intro he; have := loop_pos s _ _ _ _ hb.1 hb.2.1 he; omega
  unfold splitM
  split
  · rename_i h; intro h2; exact absurd h2 h
  · exact hr
def ckW (o : Option Ck) : Nat := match o with | none => 0 | some c => 2 * c.inp.length + c.dat.length
def ReS.wt (P : ReS) : Nat := 2 * P.inp.length + P.dat.length + (if P.st = 1 then ckW P.chk else 0)
theorem wt_of {P : ReS} (h : P.st ≠ 1) : P.wt = 2 * P.inp.length + P.dat.length := by unfold ReS.wt; rw [if_neg h]; rfl
structure ReS.ok (P : ReS) (n : Nat) : Prop where
  wt : P.wt ≤ n
  big : (P.most : Int) ≤ 9223372036854775807
  size : P.size ≤ P.most
  left : (P.left : Int) ≤ 9223372036854775807
  st : P.st ≤ 5
  head : P.st = 0 → P.chk = none ∧ P.ans = none ∧ P.passed ≤ 5
  chk : P.st = 1 → ∃ c, P.chk = some c ∧ (c.most : Int) ≤ 9223372036854775807 ∧ c.err = 0 ∧ c.ok
def ReS.mu (P : ReS) : Nat := if P.st ≤ 3 then P.inp.length + 1 else 0
theorem frame_le (L : List Fld) (m : Nat) : (frameM L m).e = 0 → (frameM L m).n ≤ (m : Int) := by
  unfold frameM
  split
  · intro h; simp at h
  · split
    · split
      · intro _; simp
      · intro h; simp at h
    · split
      · intro _; simp only; omega
      · have hu := undec_range (getV L nCL) m; intro h; simp only at h ⊢; by_cases h0 : undecE (getV L nCL) m = 0
        · exact (hu.1 h0).2
        · rcases (hu.2 h0).2 with h1 | h1 <;> rw [h1] at h <;> simp at h
theorem addC_ok {c : Ck} (h0 : c.err = 0) (hok : c.ok) (s : List UInt8) : (addC c s).most = c.most ∧ (addC c s).inp.length + (addC c s).dat.length ≤ c.inp.length + s.length + c.dat.length ∧ c.dat <+: (addC c s).dat ∧ ((addC c s).err = 0 → (addC c s).ok) := by
  have hr := runF_runs _ _ (add_ok hok s) (Nat.le_refl _); obtain ⟨r1, r2, r3, r4, r5⟩ := runs_ok hr (add_ok hok s); have hne := runs_ne hr; unfold addC; rw [if_neg (by simp [h0])]; generalize runF (c.add s).mu (c.add s) = x at *; obtain ⟨d, e⟩ := x; dsimp only at *; refine ⟨r2, ?_, r5, fun h => ?_⟩
  · have : (c.add s).inp.length = c.inp.length + s.length := by simp [Ck.add]
    have h2 : (c.add s).dat = c.dat := rfl; rw [this, h2] at r4; exact r4
  · by_cases h17 : e = 17
    · exact r1 h17
    · rw [if_neg h17] at h; exact absurd h hne
theorem reNew_ok (hd : Bool) {most : Int} (h : in64 most) : (reNew hd most).ok 0 := by
  unfold in64 at h; refine ⟨by simp [reNew, ReS.wt], by simp [reNew]; omega, by simp [reNew], by simp [reNew], by simp [reNew], fun _ => by simp [reNew], fun hh => by simp [reNew] at hh⟩
theorem reFail_ok {P : ReS} {n : Nat} (h : P.ok n) : (reFail P).ok n := by
  refine ⟨?_, h.big, h.size, h.left, by simp [reFail], fun hh => by simp [reFail] at hh, fun hh => by simp [reFail] at hh⟩; have := h.wt; simp only [reFail, ReS.wt] at this ⊢
  split at this <;> simp <;> omega
theorem fail_ok {P : ReS} {n : Nat} (hw : 2 * P.inp.length + P.dat.length ≤ n) (hb : (P.most : Int) ≤ 9223372036854775807) (hs : P.size ≤ P.most) (hl : (P.left : Int) ≤ 9223372036854775807) : (reFail P).ok n :=
  ⟨by rw [wt_of (show (5 : Nat) ≠ 1 by decide)]; exact hw, hb, hs, hl, Nat.le_refl 5, fun hh => absurd (show (5 : Nat) = 0 from hh) (by decide), fun hh => absurd (show (5 : Nat) = 1 from hh) (by decide)⟩
theorem reAdd_ok {P : ReS} {n : Nat} (h : P.ok n) (s : List UInt8) : (reAdd P s).1.ok (n + 2 * s.length) := by
  have hw := h.wt; unfold reAdd
  split
  · exact ⟨by simp only; omega, h.big, h.size, h.left, h.st, h.head, h.chk⟩
  · split
    · exact ⟨by simp only; omega, h.big, h.size, h.left, h.st, h.head, h.chk⟩
    · refine ⟨?_, h.big, h.size, h.left, h.st, h.head, h.chk⟩; simp only [ReS.wt, List.length_append] at hw ⊢; omega
theorem ok_mono {P : ReS} {n m : Nat} (h : P.ok n) (hm : n ≤ m) : P.ok m := ⟨Nat.le_trans h.wt hm, h.big, h.size, h.left, h.st, h.head, h.chk⟩
theorem reFrame_inp (P : ReS) (a : Ans) : (reFrame P a).p.inp = P.inp ∧ (reFrame P a).p.dat = P.dat ∧ (reFrame P a).p.most = P.most ∧ (reFrame P a).p.size = P.size := by
  unfold reFrame
  split
  · exact ⟨rfl, rfl, rfl, rfl⟩
  · split
    · exact ⟨rfl, rfl, rfl, rfl⟩
    · split
      · exact ⟨rfl, rfl, rfl, rfl⟩
      · split <;> exact ⟨rfl, rfl, rfl, rfl⟩
theorem reFrame_st {P : ReS} {a : Ans} (h : (reFrame P a).ok = true) : 1 ≤ (reFrame P a).p.st ∧ (reFrame P a).p.st ≤ 4 := by
  unfold reFrame at h ⊢
  split
  · simp
  · rename_i h1; rw [if_neg h1] at h
    split
    · rename_i h2; rw [if_pos h2] at h; simp at h
    · split
      · simp
      · split <;> simp
theorem reFrame_left {P : ReS} {a : Ans} {n : Nat} (hP : P.ok n) : ((reFrame P a).p.left : Int) ≤ 9223372036854775807 := by
  have hl := hP.left; have hb := hP.big; unfold reFrame
  split
  · exact hl
  · split
    · exact hl
    · rename_i h2; have hf := frame_le a.F P.most (by simpa using h2)
      split
      · exact hl
      · split
        · exact hl
        · simp only; omega
theorem reFrame_chk {P : ReS} {a : Ans} {n : Nat} (_hP : P.ok n) (h0 : P.st = 0) : (reFrame P a).p.st = 1 → (reFrame P a).p.chk = some (ck0 P.most) := by
  unfold reFrame
  split
  · intro h; simp at h
  · split
    · intro h; simp only at h; omega
    · split
      · intro _; rfl
      · split <;> (intro h; simp at h)
theorem readHead_ok {P : ReS} {n : Nat} (h : P.ok n) (h0 : P.st = 0) : (readHeadR P).1.ok n ∧ ((readHeadR P).2 = true → (readHeadR P).1.mu < P.mu) := by
  have hmu : P.mu = P.inp.length + 1 := by unfold ReS.mu; rw [if_pos (by omega)]
  have hw : 2 * P.inp.length + P.dat.length ≤ n := by have := h.wt; unfold ReS.wt at this; rw [if_neg (by omega)] at this; omega
  have hhd := h.head h0; have hdl : (P.inp.drop (splitM P.inp).n).length = P.inp.length - (splitM P.inp).n := List.length_drop; have hHok : (headP P).ok n := ⟨by unfold ReS.wt headP; simp only; rw [if_neg (by omega), hdl]; omega, h.big, h.size, h.left, h.st, fun _ => hhd, fun hh => absurd (show P.st = 1 from hh) (by omega)⟩
  unfold readHeadR
  split
  · exact ⟨h, fun hh => by simp at hh⟩
  · split
    · exact ⟨reFail_ok h, fun _ => by rw [hmu]; simp [reFail, ReS.mu]⟩
    · rename_i h1 h2
      have he : (splitM P.inp).e = 0 := by
        by_cases hh : (splitM P.inp).e = 0
        · exact hh
        · exact absurd (Or.inl hh) h2
      have hp := split_pos P.inp he; have hn := (split_small P.inp).2.2
      split
      · split
        · exact ⟨fail_ok (by show 2 * (P.inp.drop (splitM P.inp).n).length + P.dat.length ≤ n; rw [hdl]; omega) hHok.big hHok.size hHok.left, fun _ => by rw [hmu]; simp [reFail, ReS.mu]⟩
        · rename_i h4; refine ⟨⟨hHok.wt, hHok.big, hHok.size, hHok.left, hHok.st, fun _ => ⟨hhd.1, hhd.2.1, by show P.passed + 1 ≤ 5; omega⟩, hHok.chk⟩, fun _ => ?_⟩; rw [hmu]; simp only [ReS.mu, headP, hdl, h0]; simp; omega
      · split
        · rename_i h5; obtain ⟨s1, s2⟩ := reFrame_st h5; obtain ⟨i1, i2, i3, i4⟩ := reFrame_inp (headP P) (headA P); have hc := reFrame_chk (a := headA P) hHok (show (headP P).st = 0 from h0); have hll : (headP P).inp.length = P.inp.length - (splitM P.inp).n := hdl; refine ⟨⟨?_, ?_, ?_, reFrame_left hHok, ?_, ?_, ?_⟩, fun _ => ?_⟩
          · have := hHok.wt; unfold ReS.wt at this ⊢; simp only; rw [i1, i2]; rw [if_neg (show ¬ (headP P).st = 1 by show ¬ P.st = 1; omega)] at this
            split
            · rename_i h6; rw [hc h6]; simp only [ckW, ck0, List.length_nil]; omega
            · omega
          · simp only; rw [i3]; exact hHok.big
          · simp only; rw [i3, i4]; exact hHok.size
          · simp only; omega
          · intro hh; simp only at hh; omega
          · intro hh; refine ⟨_, hc hh, ?_, rfl, ?_⟩
            · have := hHok.big; simp only [ck0]; omega
            · simp [Ck.ok, ck0]
          · rw [hmu]; simp only [ReS.mu]; rw [i1, hll]
            split <;> omega
        · exact ⟨reFail_ok hHok, fun _ => by rw [hmu]; simp [reFail, ReS.mu]⟩
theorem readChunks_ok {P : ReS} {n : Nat} (h : P.ok n) (h1 : P.st = 1) : (readChunksR P).1.ok n ∧ ((readChunksR P).2 = true → (readChunksR P).1.mu < P.mu) := by
  have hmu : P.mu = P.inp.length + 1 := by unfold ReS.mu; rw [if_pos (by omega)]
  obtain ⟨c, hc, cb, ce, co⟩ := h.chk h1; have hw : 2 * P.inp.length + P.dat.length + (2 * c.inp.length + c.dat.length) ≤ n := by have := h.wt; unfold ReS.wt at this; rw [if_pos h1, hc] at this; exact this
  obtain ⟨a1, a2, a3, a4⟩ := addC_ok ce co P.inp; have hpre := a3.length_le; have hdrop : ((addC c P.inp).dat.drop c.dat.length).length = (addC c P.inp).dat.length - c.dat.length := List.length_drop; unfold readChunksR; rw [hc]; dsimp only; generalize addC c P.inp = d at *
  split
  · exact ⟨h, fun hh => by simp at hh⟩
  · rename_i h0
    split
    · exact ⟨fail_ok (by simp [hdrop]; omega) h.big h.size h.left, fun _ => by rw [hmu]; simp [reFail, ReS.mu]⟩
    · rename_i h2
      split
      · exact ⟨⟨by simp only [ReS.wt]; rw [if_neg (by omega)]; simp [hdrop]; omega, h.big, h.size, h.left, by simp, fun hh => by simp at hh, fun hh => by simp at hh⟩, fun _ => by rw [hmu]; simp [ReS.mu]⟩
      · refine ⟨⟨by simp only [ReS.wt]; rw [if_pos h1]; simp [hdrop, ckW]; omega, h.big, h.size, h.left, h.st, fun hh => by simp only at hh; omega, fun _ => ⟨d, rfl, by rw [a1]; exact cb, by simpa using h2, a4 (by simpa using h2)⟩⟩, fun _ => ?_⟩; have hl : 0 < P.inp.length := List.length_pos_iff.2 h0; rw [hmu]; simp only [ReS.mu, h1]; simp; omega
theorem readLength_ok {P : ReS} {n : Nat} (h : P.ok n) (h2 : P.st = 2) : (readLengthR P).1.ok n ∧ ((readLengthR P).2 = true → (readLengthR P).1.mu < P.mu) := by
  have hmu : P.mu = P.inp.length + 1 := by unfold ReS.mu; rw [if_pos (by omega)]
  have hw : 2 * P.inp.length + P.dat.length ≤ n := by have := h.wt; unfold ReS.wt at this; rw [if_neg (by omega)] at this; omega
  have hl := h.left; unfold readLengthR
  split
  · exact ⟨⟨by simp only [ReS.wt]; rw [if_neg (by omega)]; simp; omega, h.big, h.size, by simp, by simp, fun hh => by simp at hh, fun hh => by simp at hh⟩, fun _ => by rw [hmu]; simp [ReS.mu]⟩
  · refine ⟨⟨by simp only [ReS.wt]; rw [if_neg (by omega)]; simp; omega, h.big, h.size, by simp only; omega, h.st, fun hh => by simp only at hh; omega, fun hh => by simp only at hh; omega⟩, fun hh => ?_⟩; simp only [decide_eq_true_eq] at hh; rw [hmu]; simp only [ReS.mu, h2, List.length_drop]; simp; omega
theorem readClose_ok {P : ReS} {n : Nat} (h : P.ok n) (h2 : P.st = 3) : (readCloseR P).1.ok n ∧ ((readCloseR P).2 = true → (readCloseR P).1.mu < P.mu) := by
  have hmu : P.mu = P.inp.length + 1 := by unfold ReS.mu; rw [if_pos (by omega)]
  have hw : 2 * P.inp.length + P.dat.length ≤ n := by have := h.wt; unfold ReS.wt at this; rw [if_neg (by omega)] at this; omega
  have hs := h.size; have hC : (closeP P).ok n := ⟨by rw [wt_of (show (closeP P).st ≠ 1 from (by omega : P.st ≠ 1))]; simp only [closeP]; simp; omega, h.big, by simp only [closeP]; omega, h.left, h.st, fun hh => by simp only [closeP] at hh; omega, fun hh => by simp only [closeP] at hh; omega⟩
  unfold readCloseR
  split
  · exact ⟨reFail_ok hC, fun _ => by rw [hmu]; simp [reFail, ReS.mu]⟩
  · split
    · refine ⟨⟨?_, hC.big, hC.size, hC.left, by simp, fun hh => by simp at hh, fun hh => by simp at hh⟩, fun _ => by rw [hmu]; simp [ReS.mu]⟩; have := hC.wt; simp only [ReS.wt] at this ⊢; rw [if_neg (by omega)]; omega
    · refine ⟨hC, fun hh => ?_⟩; simp only [decide_eq_true_eq] at hh; rw [hmu]; simp only [ReS.mu, closeP, h2, List.length_drop]; simp; omega
theorem read_ok {P : ReS} {n : Nat} (h : P.ok n) : (readR P).1.ok n ∧ ((readR P).2 = true → (readR P).1.mu < P.mu) := by
  unfold readR
  split
  · rename_i h0; exact readHead_ok h h0
  · split
    · rename_i h1; exact readChunks_ok h h1
    · split
      · rename_i h1; exact readLength_ok h h1
      · split
        · rename_i h1; exact readClose_ok h h1
        · exact ⟨h, fun hh => by simp at hh⟩
theorem reLoop_fuel {n : Nat} : ∀ (i j : Nat) (P : ReS), P.ok n → P.mu < i → P.mu < j → reLoop i P = reLoop j P
  | 0, _, _, _, h, _ => absurd h (by omega)
  | _ + 1, 0, _, _, _, h => absurd h (by omega)
  | i + 1, j + 1, P, hP, hi, hj => by
    unfold reLoop
    split
    · rfl
    · split
      · rename_i h2; have := read_ok hP; have := this.2 h2; exact reLoop_fuel i j _ (read_ok hP).1 (by omega) (by omega)
      · rfl
def reEnd (P : ReS) : ReS := reLoop (P.inp.length + 2) P
theorem mu_lt (P : ReS) : P.mu < P.inp.length + 2 := by unfold ReS.mu; split <;> omega
theorem reEnd_some {P : ReS} (h : P.ans.isSome = true) : reEnd P = P := by unfold reEnd reLoop; rw [if_pos h]
theorem reEnd_stop {P : ReS} (h : P.ans = none) (h2 : (readR P).2 = false) : reEnd P = (readR P).1 := by unfold reEnd reLoop; rw [if_neg (by simp [h]), if_neg (by simp [h2])]
theorem reEnd_more {P : ReS} {n : Nat} (hP : P.ok n) (h : P.ans = none) (h2 : (readR P).2 = true) : reEnd P = reEnd (readR P).1 := by
  have hr := read_ok hP; have hlt := hr.2 h2; have hm := mu_lt P; have e1 : reEnd P = reLoop (P.inp.length + 1) (readR P).1 := by unfold reEnd; rw [reLoop, if_neg (by simp [h]), if_pos h2]
  rw [e1]; exact reLoop_fuel _ _ _ hr.1 (by omega) (mu_lt _)
theorem reLoop_ok {n : Nat} : ∀ (i : Nat) (P : ReS), P.ok n → (reLoop i P).ok n
  | 0, P, h => h
  | i + 1, P, h => by
    unfold reLoop
    split
    · exact h
    · split
      · exact reLoop_ok i _ (read_ok h).1
      · exact (read_ok h).1
theorem reEnd_ok {P : ReS} {n : Nat} (h : P.ok n) : (reEnd P).ok n := reLoop_ok _ P h
theorem reFinish_ok {P : ReS} {n : Nat} (h : P.ok n) : (reFinish P).1.ok n := by
  unfold reFinish
  split
  · exact ⟨h.wt, h.big, h.size, h.left, h.st, h.head, h.chk⟩
  · split
    · exact reFail_ok h
    · exact h
theorem nextR_eq (P : ReS) : nextR P = match (reEnd P).ans with
  | some a => ⟨{ reEnd P with ans := none }, 1, a, []⟩
  | none => if (reEnd P).dat ≠ [] then ⟨{ reEnd P with dat := [] }, 2, ans0, (reEnd P).dat⟩ else ⟨(reFinish (reEnd P)).1, (reFinish (reEnd P)).2, ans0, []⟩ := rfl
theorem nextR_ok {P : ReS} {n : Nat} (h : P.ok n) : (nextR P).p.ok n := by
  have hE := reEnd_ok h; rw [nextR_eq]; generalize reEnd P = Q at *
  split
  · exact ⟨hE.wt, hE.big, hE.size, hE.left, hE.st, fun hh => ⟨(hE.head hh).1, rfl, (hE.head hh).2.2⟩, hE.chk⟩
  · split
    · refine ⟨?_, hE.big, hE.size, hE.left, hE.st, hE.head, hE.chk⟩; have := hE.wt; simp only [ReS.wt, List.length_nil] at this ⊢; omega
    · exact reFinish_ok hE
def fNan (b : Nat) : Bool := FloatKind.f64.format.order b b != some .eq
def fInfN (b : Nat) : Bool := FloatKind.f64.format.order (Op.negFloat .f64 b) 9218868437227405311 == some .gt
def fInfP (b : Nat) : Bool := FloatKind.f64.format.order b 9218868437227405311 == some .gt
def fNeg (b : Nat) : Bool := FloatKind.f64.format.order b 0 == some .lt
def fPos (b : Nat) : Bool := FloatKind.f64.format.order b 0 == some .gt
def fZero (b : Nat) : Bool := FloatKind.f64.format.order b 0 == some .eq
def fSign (b : Nat) : Bool := decide (wrap64 (b : Int) < 0)
def fAbs (b : Nat) : Nat := (bits BinOp.andNot IntKind.u64 (b : Int) 9223372036854775808).toNat
def fInf0 (b : Nat) : Bool := FloatKind.f64.format.order (fAbs b) 9218868437227405311 == some .gt
def fCopy (a s : Nat) : Nat := (bits BinOp.or IntKind.u64 (bits BinOp.andNot IntKind.u64 (a : Int) 9223372036854775808) (bits BinOp.and IntKind.u64 (s : Int) 9223372036854775808)).toNat
def fMul (a b : Nat) : Nat := (FloatKind.f64.format.mul a b).getD 0
def fTiny (b : Nat) : Bool := FloatKind.f64.format.order (fAbs b) 4503599627370496 == some .lt
def clsM (b : Nat) : Int := if fNan b then 1 else if fInfN b then 2 else if fInfP b then 7 else if fNeg b then 3 else if fPos b then 6 else if fSign b then 4 else 5
def goodSp (b : Nat) : Bool := decide (4 ≤ clsM b)
def fLess (a b : Nat) : Bool := if clsM a = clsM b then FloatKind.f64.format.order a b == some .lt else decide (clsM a < clsM b)
def withinM (age : Int) (b : Nat) : Bool := goodSp b && (decide (0 ≤ age) && (FloatKind.f64.format.order (floatOfInt .f64 age) b == some .lt))
def expM (f : Nat) (n k : Int) : Int := wrap64 (n + k + wrap64 (bits BinOp.and IntKind.i64 (wrap64 ((f : Int) / 4503599627370496)) 2047 - 1023))
def pieceM (f : Nat) (y : Int) : Nat := (bits BinOp.or IntKind.u64 (bits BinOp.andNot IntKind.u64 (f : Int) 9218868437227405312) ((y + 1023) * 4503599627370496)).toNat
def normM (b : Nat) : Nat := if fTiny b then fMul b 4841369599423283200 else b
def normK (b : Nat) : Int := if fTiny b then -52 else 0
def ldexpM (b : Nat) (n : Int) : Nat :=
  if fInf0 b then b
  else if expM (normM b) n (normK b) < -1075 then fCopy 0 (normM b)
  else if 1023 < expM (normM b) n (normK b) then (if fNeg (normM b) then 18442240474082181120 else 9218868437227405312)
  else if expM (normM b) n (normK b) < -1022 then fMul 4368491638549381120 (pieceM (normM b) (expM (normM b) n (normK b) + 53))
  else fMul 4607182418800017408 (pieceM (normM b) (expM (normM b) n (normK b)))
def clampM (y : Nat) : Nat := if fLess y 0 then 0 else if fLess 4697254411347427328 y then 4697254411347427328 else y
def ceilM (z : Nat) : Nat := FloatKind.f64.encode ((FloatKind.f64.decode z).integral .up)
def intM (z : Nat) : Int := (floatToIntVal .f64 z .i64).getD 0
def waitM (b : Nat) (try_ : Int) : Int := if goodSp b = false ∨ try_ < 1 ∨ fZero b = true then 0 else intM (ceilM (clampM (ldexpM b (min try_ 60 - 1))))
def isNum (b : Nat) : Prop := ∃ s m p, FloatKind.f64.format.read b = .number s m p
theorem nan_of_read {b : Nat} {s : Bool} {t : Nat} (h : FloatKind.f64.format.read b = .nan s t) : fNan b = true := by
  unfold fNan Ieee.Format.order; rw [h]; rfl
theorem cmp_self (a : Int) : compare a a = .eq := by simp [compare, compareOfLessAndEq]
theorem nan_of_num {b : Nat} (h : isNum b) : fNan b = false := by
  obtain ⟨s, m, p, h⟩ := h; unfold fNan Ieee.Format.order; rw [h]; simp only [Ieee.Datum.order, cmp_self]; rfl
theorem nan_of_inf {b : Nat} {s : Bool} (h : FloatKind.f64.format.read b = .infinity s) : fNan b = false := by
  unfold fNan Ieee.Format.order; rw [h]; cases s <;> rfl
theorem sW : FloatKind.f64.format.signWeight = 9223372036854775808 := rfl
theorem bN : FloatKind.f64.format.binade = 4503599627370496 := rfl
theorem iR : FloatKind.f64.format.infRung = 9218868437227405312 := rfl
theorem lP : FloatKind.f64.format.leastPlace = -1074 := rfl
theorem read_eq (b : Nat) : FloatKind.f64.format.read b = (if b % 9223372036854775808 < 4503599627370496 then .number (b / 9223372036854775808 % 2 == 1) (b % 9223372036854775808) (-1074)
    else if b % 9223372036854775808 < 9218868437227405312 then .number (b / 9223372036854775808 % 2 == 1) (4503599627370496 + b % 9223372036854775808 % 4503599627370496) (-1074 + (b % 9223372036854775808 / 4503599627370496 - 1 : Nat))
    else if b % 9223372036854775808 = 9218868437227405312 then .infinity (b / 9223372036854775808 % 2 == 1) else .nan (b / 9223372036854775808 % 2 == 1) (b % 9223372036854775808 - 9218868437227405312)) := rfl
theorem num_of_lt {b : Nat} (h : b % 9223372036854775808 < 9218868437227405312) : isNum b := by
  unfold isNum; rw [read_eq]; by_cases h1 : b % 9223372036854775808 < 4503599627370496
  · rw [if_pos h1]; exact ⟨_, _, _, rfl⟩
  · rw [if_neg h1, if_pos h]; exact ⟨_, _, _, rfl⟩
theorem notNan_iff (b : Nat) : fNan b = false ↔ b % 9223372036854775808 ≤ 9218868437227405312 := by
  constructor
  · intro h; have hr := read_eq b
    split at hr
    · omega
    · split at hr
      · omega
      · split at hr
        · omega
        · rw [nan_of_read hr] at h; cases h
  · intro h; by_cases h1 : b % 9223372036854775808 < 9218868437227405312
    · exact nan_of_num (num_of_lt h1)
    · have hr := read_eq b; rw [if_neg (by omega), if_neg h1, if_pos (by omega)] at hr; exact nan_of_inf hr
theorem word_notNan (s : Bool) {r : Nat} (h : r ≤ 9218868437227405312) : fNan (FloatKind.f64.format.word s r) = false := by
  rw [notNan_iff]; unfold Ieee.Format.word; rw [sW]; cases s <;> simp <;> omega
theorem nearest_notNan (s : Bool) (m : Nat) (p : Int) : fNan (FloatKind.f64.format.nearest s m p) = false := by
  unfold Ieee.Format.nearest
  split
  · exact word_notNan s (by omega)
  · exact word_notNan s (by rw [iR]; omega)
theorem mul_num {a b : Nat} (ha : isNum a) (hb : isNum b) : FloatKind.f64.format.mul a b = some (fMul a b) ∧ fNan (fMul a b) = false ∧ fMul a b < 18446744073709551616 := by
  obtain ⟨s, m, p, ha⟩ := ha; obtain ⟨t, n, q, hb⟩ := hb
  have h : FloatKind.f64.format.mul a b = some (FloatKind.f64.format.nearest (s ^^ t) (m * n) (p + q)) := by
    unfold Ieee.Format.mul; rw [ha, hb]; rfl
  have hl := Ieee.Format.mul_lt _ h; unfold fMul; rw [h]; exact ⟨rfl, nearest_notNan _ _ _, hl⟩
theorem and_not (a : Nat) (ha : a < 18446744073709551616) : bits BinOp.andNot IntKind.u64 (a : Int) 9223372036854775808 = ((a % 9223372036854775808 : Nat) : Int) := by
  have := u64_andNot_nat a 9223372036854775808 ha (by omega); rw [show ((9223372036854775808 : Nat) : Int) = 9223372036854775808 from rfl] at this; rw [this]; congr 1; exact Nat.and_two_pow_sub_one_eq_mod a 63
theorem fAbs_eq {b : Nat} (h : b < 18446744073709551616) : fAbs b = b % 9223372036854775808 := by unfold fAbs; rw [and_not b h]; exact Int.toNat_natCast _
theorem num_of {b : Nat} (hb : b < 18446744073709551616) (h1 : fNan b = false) (h2 : fInf0 b = false) : isNum b := by
  have hle := (notNan_iff b).1 h1; by_cases he : b % 9223372036854775808 = 9218868437227405312
  · exfalso; unfold fInf0 at h2; rw [fAbs_eq hb, he] at h2; exact absurd h2 (by decide)
  · exact num_of_lt (by omega)
theorem piece_num {f : Nat} (hf : f < 18446744073709551616) {y : Int} (h1 : 1 ≤ y + 1023) (h2 : y + 1023 ≤ 2046) : isNum (pieceM f y) := by
  obtain ⟨e, he⟩ : ∃ e : Nat, y + 1023 = e := ⟨(y + 1023).toNat, by omega⟩
  have hA := u64_andNot_nat f 9218868437227405312 hf (by omega); have hA2 : f &&& (18446744073709551615 - 9218868437227405312) < 18446744073709551616 := Nat.lt_of_le_of_lt Nat.and_le_left hf; have hO := u64_or_nat (f &&& (18446744073709551615 - 9218868437227405312)) (e * 4503599627370496) hA2 (by omega)
  have hp : pieceM f y = (f &&& (18446744073709551615 - 9218868437227405312)) ||| e * 4503599627370496 := by
    unfold pieceM; rw [he]; rw [show ((9218868437227405312 : Nat) : Int) = 9218868437227405312 from rfl] at hA; rw [hA, show (e : Int) * 4503599627370496 = ((e * 4503599627370496 : Nat) : Int) by omega, hO]; exact Int.toNat_natCast _
  apply num_of_lt; rw [hp]
  have hq : ((f &&& (18446744073709551615 - 9218868437227405312)) ||| e * 4503599627370496) / 4503599627370496 % 2048 = e := by
    rw [show (4503599627370496 : Nat) = 2 ^ 52 from rfl, show (2048 : Nat) = 2 ^ 11 from rfl, ← Nat.shiftRight_eq_div_pow]; apply Nat.eq_of_testBit_eq; intro i; rw [Nat.testBit_mod_two_pow, Nat.testBit_shiftRight, Nat.testBit_or, Nat.testBit_and, Nat.testBit_mul_two_pow]; by_cases hi : i < 11
    · have hm : (18446744073709551615 - 9218868437227405312).testBit (52 + i) = false := by
        have : ∀ j : Fin 11, (18446744073709551615 - 9218868437227405312).testBit (52 + j.val) = false := by decide +kernel
        exact this ⟨i, hi⟩
      rw [hm]; simp [hi]
    · have : e.testBit i = false := Nat.testBit_lt_two_pow (Nat.lt_of_lt_of_le (show e < 2 ^ 11 by omega) (Nat.pow_le_pow_right (by omega) (by omega))); rw [this]; simp [hi]
  omega
theorem sq_pow (L d : Nat) (h : L + d = 52) : (2 : Nat) ^ d * 2 ^ L = 4503599627370496 := by
  rw [← Nat.pow_add, show d + L = 52 by omega]
theorem near_a {c : Nat} (h0 : 0 < c) (h : c ≤ 1048576) : c.log2 ≤ 20 ∧ 4503599627370496 ≤ c * 2 ^ (52 - c.log2) ∧ c * 2 ^ (52 - c.log2) < 9007199254740992 := by
  have hl1 := Nat.log2_self_le (show c ≠ 0 by omega); have hl2 := @Nat.lt_log2_self c
  have hL : c.log2 ≤ 20 := by
    have : c < 2 ^ 21 := by omega
    have := (Nat.log2_lt (show c ≠ 0 by omega)).2 this; omega
  have hs := sq_pow c.log2 (52 - c.log2) (by omega); refine ⟨hL, ?_, ?_⟩
  · rw [← hs, Nat.mul_comm]; exact Nat.mul_le_mul_right _ hl1
  · have h3 : c * 2 ^ (52 - c.log2) < 2 ^ (c.log2 + 1) * 2 ^ (52 - c.log2) := Nat.mul_lt_mul_of_pos_right hl2 (Nat.pow_pos (by omega))
    have e : 2 ^ (c.log2 + 1) * 2 ^ (52 - c.log2) = 9007199254740992 := by
      rw [Nat.pow_succ, Nat.mul_assoc, Nat.mul_comm 2, ← Nat.mul_assoc, Nat.mul_comm (2 ^ c.log2), hs]
    rw [e] at h3; exact h3
def nearF (c : Nat) : Nat := FloatKind.f64.format.nearest false c 0
theorem word_false (r : Nat) : FloatKind.f64.format.word false r = r := rfl
theorem near_b {c q : Nat} {L : Nat} (h0 : 0 < c) (hl : c.log2 = L) (hL : L ≤ 20) (hq : 2 ^ (52 - L) = q) (hhi : c * q < 9007199254740992) : nearF c = (L + 1022) * 4503599627370496 + c * q := by
  unfold nearF Ieee.Format.nearest; rw [if_neg (by omega)]; have hf : (FloatKind.f64.format.fractionBits : Int) = 52 := rfl; have hlast : max ((0 : Int) + (L : Nat) - 52) (-1074) = (L : Nat) - 52 := by omega
  rw [lP, bN, iR, hf, hl]; simp only [hlast]; have e1 : ((0 : Int) - ((L : Nat) - 52)).toNat = 52 - L := by omega
  have e2 : (((L : Nat) : Int) - 52 - 0).toNat = 0 := by omega
  have e3 : (((L : Nat) : Int) - 52 - -1074).toNat = L + 1022 := by omega
  rw [e1, e2, e3, Nat.shiftLeft_eq, hq, word_false]; unfold Ieee.Toward.cut; simp only [Nat.zero_min, Nat.shiftLeft_zero, Nat.div_one, Nat.mod_one, Nat.mul_zero, Nat.not_lt_zero, decide_false, Bool.false_or]; have h1 : ((1 : Nat) == 0 && c * q % 2 == 1) = false := by simp
  rw [h1]; have h2 : Bool.toNat false = 0 := rfl; rw [h2]; clear h1 h2 e1 e2 e3 hlast hf hq hl h0; generalize c * q = z at *; omega
theorem round_trip {c : Nat} (h : c ≤ 1048576) : floatToIntVal .f64 (FloatKind.f64.encode (.number false c 0)) .i64 = some ((c : Nat) : Int) := by
  by_cases h0 : c = 0
  · subst h0; rfl
  obtain ⟨hL, h1, h2⟩ := near_a (show 0 < c by omega) h; obtain ⟨L, hl⟩ : ∃ L, c.log2 = L := ⟨_, rfl⟩
  obtain ⟨q, hq⟩ : ∃ q, 2 ^ (52 - L) = q := ⟨_, rfl⟩
  rw [hl] at hL h1 h2; rw [hq] at h1 h2; have hn := near_b (show 0 < c by omega) hl hL hq h2; have hen : FloatKind.f64.encode (.number false c 0) = (L + 1022) * 4503599627370496 + c * q := hn
  have hr : FloatKind.f64.decode ((L + 1022) * 4503599627370496 + c * q) = .number false (c * q) (L - 52) := by
    show FloatKind.f64.format.read _ = _; rw [read_eq]; have e1 : ((L + 1022) * 4503599627370496 + c * q) % 9223372036854775808 = (L + 1022) * 4503599627370496 + c * q := Nat.mod_eq_of_lt (by omega); have e2 : ((L + 1022) * 4503599627370496 + c * q) / 9223372036854775808 = 0 := Nat.div_eq_of_lt (by omega); rw [e1, e2, if_neg (by omega), if_pos (by omega)]; have e3 : ((L + 1022) * 4503599627370496 + c * q) % 4503599627370496 = c * q - 4503599627370496 := by omega
    have e4 : ((L + 1022) * 4503599627370496 + c * q) / 4503599627370496 = L + 1023 := by omega
    rw [e3, e4, show 4503599627370496 + (c * q - 4503599627370496) = c * q by omega]; have e5 : (-1074 : Int) + (L + 1023 - 1 : Nat) = L - 52 := by omega
    rw [e5]; rfl
  have hi : (Ieee.Datum.number false (c * q) ((L : Int) - 52)).toInt .zero = some (c : Int) := by
    unfold Ieee.Datum.toInt Ieee.Datum.integral Ieee.Toward.cut; have e1 : ((L : Int) - 52).toNat = 0 := by omega
    have e2 : (-((L : Int) - 52)).toNat = 52 - L := by omega
    simp only [e1, e2, Nat.shiftLeft_zero]
    have hlg : 52 - L ≤ (c * q).log2 + 2 := by
      have : 52 ≤ (c * q).log2 := (Nat.le_log2 (by omega)).2 (by omega); omega
    rw [Nat.min_eq_left hlg, Nat.shiftLeft_eq, Nat.one_mul, hq]; have hq0 : 0 < q := by rw [← hq]; exact Nat.pow_pos (by omega)
    rw [Nat.mul_div_cancel _ hq0]; simp [Ieee.signed]
  unfold floatToIntVal; rw [hen, hr, hi]; simp only; rw [if_pos ⟨by show (-9223372036854775808 : Int) ≤ _; omega, by show _ ≤ (9223372036854775807 : Int); omega⟩]
theorem cut_up_le {n d K : Nat} (h : n ≤ K * 2 ^ d) (hK : 1 ≤ K) : Ieee.Toward.up.cut false n d ≤ K := by
  unfold Ieee.Toward.cut
  have key : ∀ g : Nat, 0 < g → n ≤ K * g → n / g + ((!false && n % g != 0).toNat) ≤ K := fun g hg hn => by
    have h1 : n / g ≤ K := Nat.div_le_of_le_mul (by rw [Nat.mul_comm]; exact hn); by_cases h2 : n % g = 0
    · simp [h2]; exact h1
    · have h3 : n / g < K := by
        rcases Nat.lt_or_ge (n / g) K with h4 | h4
        · exact h4
        · have h5 : n / g = K := by omega
          have h6 := Nat.div_add_mod n g; rw [h5, Nat.mul_comm] at h6; omega
      have h7 := Bool.toNat_le (!false && n % g != 0); omega
  have hmin : (1 <<< min d (n.log2 + 2)) = 2 ^ min d (n.log2 + 2) := by rw [Nat.shiftLeft_eq, Nat.one_mul]
  simp only [hmin]; refine key _ (Nat.pow_pos (by omega)) ?_; rcases Nat.le_total d (n.log2 + 2) with hd | hd
  · rw [Nat.min_eq_left hd]; exact h
  · rw [Nat.min_eq_right hd]; by_cases h0 : n = 0
    · omega
    · have h1 := @Nat.lt_log2_self n; have h2 : n < 2 ^ (n.log2 + 2) := Nat.lt_of_lt_of_le h1 (Nat.pow_le_pow_right (by omega) (by omega)); have h3 : 1 * 2 ^ (n.log2 + 2) ≤ K * 2 ^ (n.log2 + 2) := Nat.mul_le_mul_right _ hK; omega
def okZ (z : Nat) : Prop := ∃ m p, FloatKind.f64.format.read z = .number false m p ∧ m <<< p.toNat ≤ 1048576 * 2 ^ (-p).toNat
theorem okZ_ceil {z : Nat} (h : okZ z) : ∃ c : Nat, c ≤ 1048576 ∧ floatToIntVal .f64 (ceilM z) .i64 = some ((c : Nat) : Int) := by
  obtain ⟨m, p, hr, hle⟩ := h; refine ⟨Ieee.Toward.up.cut false (m <<< p.toNat) (-p).toNat, cut_up_le hle (by omega), ?_⟩
  have : ceilM z = FloatKind.f64.encode (.number false (Ieee.Toward.up.cut false (m <<< p.toNat) (-p).toNat) 0) := by
    unfold ceilM; rw [show FloatKind.f64.decode z = .number false m p from hr]; rfl
  rw [this]; exact round_trip (cut_up_le hle (by omega))
theorem cls_0 : clsM 0 = 5 := by decide +kernel
theorem cls_mx : clsM 4697254411347427328 = 6 := by decide +kernel
theorem cls_cases (y : Nat) : (clsM y = 1 ∧ fNan y = true) ∨ clsM y = 2 ∨ clsM y = 3 ∨ clsM y = 4 ∨ clsM y = 7 ∨ (clsM y = 6 ∧ fPos y = true) ∨ (clsM y = 5 ∧ fNeg y = false ∧ fPos y = false ∧ fSign y = false) := by
  unfold clsM; cases fNan y <;> cases fInfN y <;> cases fInfP y <;> cases fNeg y <;> cases fPos y <;> cases fSign y <;> simp
theorem read_0 : FloatKind.f64.format.read 0 = .number false 0 (-1074) := by decide +kernel
theorem read_mx : FloatKind.f64.format.read 4697254411347427328 = .number false 4503599627370496 (-32) := by decide +kernel
theorem sign_of {y : Nat} {s : Bool} {m : Nat} {p : Int} (hy : y < 18446744073709551616) (h : fSign y = false) (hr : FloatKind.f64.format.read y = .number s m p) : s = false := by
  have h1 : ¬ wrap64 (y : Int) < 0 := by simpa [fSign] using h
  have h2 : y < 9223372036854775808 := by
    rcases Nat.lt_or_ge y 9223372036854775808 with h3 | h3
    · exact h3
    · exfalso; apply h1; unfold wrap64; omega
  rw [read_eq] at hr; have hz : (y / 9223372036854775808 % 2 == 1) = false := by rw [Nat.div_eq_of_lt h2]; rfl
  rw [hz] at hr
  split at hr
  · cases hr; rfl
  · split at hr
    · cases hr; rfl
    · split at hr <;> cases hr
theorem clamp_ok {y : Nat} (hy : y < 18446744073709551616) (hn : fNan y = false) : okZ (clampM y) := by
  unfold clampM; by_cases h0 : fLess y 0 = true
  · rw [if_pos h0]; exact ⟨0, -1074, read_0, by rw [Nat.zero_shiftLeft]; exact Nat.zero_le _⟩
  · rw [if_neg h0]; by_cases h1 : fLess 4697254411347427328 y = true
    · rw [if_pos h1]; exact ⟨_, _, read_mx, by decide +kernel⟩
    · rw [if_neg h1]; unfold fLess at h0 h1; rw [cls_0] at h0; rw [cls_mx] at h1; rcases cls_cases y with ⟨_, h⟩ | h | h | h | h | ⟨h, hp⟩ | ⟨h, hg, hp, hs⟩
      · rw [hn] at h; cases h
      · rw [h] at h0; simp at h0
      · rw [h] at h0; simp at h0
      · rw [h] at h0; simp at h0
      · rw [h] at h1; simp at h1
      · rw [h, if_pos rfl] at h1; unfold fPos Ieee.Format.order at hp; unfold Ieee.Format.order at h1; rw [read_0] at hp; rw [read_mx] at h1
        cases hr : FloatKind.f64.format.read y with
        | nan s t => rw [nan_of_read hr] at hn; cases hn
        | infinity s =>
          rw [hr] at hp h1; cases s
          · simp [Ieee.Datum.order] at h1
          · simp [Ieee.Datum.order] at hp
        | number s m p =>
          rw [hr] at hp h1
          have hsf : s = false := by
            cases s
            · rfl
            · exfalso; simp only [Ieee.Datum.order, Ieee.signed, compare, compareOfLessAndEq, Nat.shiftLeft_eq] at hp; simp only [Bool.false_eq_true, if_false, if_true, Nat.zero_mul] at hp; generalize m * 2 ^ (p - min p (-1074)).toNat = q at hp; by_cases hz : q = 0
              · subst hz; simp at hp
              · rw [if_pos (by omega)] at hp; simp at hp
          subst hsf; refine ⟨m, p, hr, ?_⟩; simp only [Ieee.Datum.order, Ieee.signed, compare, compareOfLessAndEq, Nat.shiftLeft_eq] at h1
          have h2 : ¬ (4503599627370496 * 2 ^ (-32 - min (-32) p).toNat < m * 2 ^ (p - min (-32) p).toNat) := by
            intro h3; apply h1; simp only [Bool.false_eq_true, if_false]; rw [if_pos (by exact_mod_cast h3)]; rfl
          rw [Nat.shiftLeft_eq]; by_cases c1 : 0 ≤ p
          · have e1 : (-32 - min (-32) p).toNat = 0 := by omega
            have e2 : (p - min (-32) p).toNat = p.toNat + 32 := by omega
            have e3 : (-p).toNat = 0 := by omega
            rw [e1, e2, Nat.pow_add] at h2; rw [e3]; generalize 2 ^ p.toNat = q at *; rw [← Nat.mul_assoc] at h2; generalize m * q = z at *; omega
          · have e0 : p.toNat = 0 := by omega
            rw [e0, Nat.pow_zero, Nat.mul_one]; by_cases c2 : -32 ≤ p
            · have e1 : (-32 - min (-32) p).toNat = 0 := by omega
              obtain ⟨d, hd⟩ : ∃ d, (-p).toNat = d := ⟨_, rfl⟩
              have e2 : (p - min (-32) p).toNat = 32 - d := by omega
              rw [e1, e2] at h2; rw [hd]; have e4 : (2 : Nat) ^ d * 2 ^ (32 - d) = 4294967296 := by rw [← Nat.pow_add, show d + (32 - d) = 32 by omega]
              have h5 : m * 2 ^ (32 - d) ≤ 1048576 * 2 ^ d * 2 ^ (32 - d) := by rw [Nat.mul_assoc, e4]; omega
              exact Nat.le_of_mul_le_mul_right h5 (Nat.pow_pos (by omega))
            · obtain ⟨d, hd⟩ : ∃ d, (-32 - min (-32) p).toNat = d := ⟨_, rfl⟩
              have e2 : (p - min (-32) p).toNat = 0 := by omega
              have e3 : (-p).toNat = 32 + d := by omega
              rw [hd, e2] at h2; rw [e3, Nat.pow_add]; generalize 2 ^ d = q at *; omega
      · cases hr : FloatKind.f64.format.read y with
        | nan s t => rw [nan_of_read hr] at hn; cases hn
        | infinity s =>
          unfold fPos Ieee.Format.order at hp; unfold fNeg Ieee.Format.order at hg; rw [read_0, hr] at hp hg; cases s
          · simp [Ieee.Datum.order] at hp
          · simp [Ieee.Datum.order] at hg
        | number s m p =>
          have hsf := sign_of hy hs hr; subst hsf; unfold fPos Ieee.Format.order at hp; rw [read_0, hr] at hp
          have hm : m = 0 := by
            simp only [Ieee.Datum.order, Ieee.signed, compare, compareOfLessAndEq, Nat.shiftLeft_eq] at hp; simp only [Bool.false_eq_true, if_false, Nat.zero_mul] at hp; by_cases hz : m = 0
            · exact hz
            · exfalso; have hpow : 0 < m * 2 ^ (p - min p (-1074)).toNat := Nat.mul_pos (by omega) (Nat.pow_pos (by omega)); rw [if_neg (by omega), if_neg (by omega)] at hp; simp at hp
          subst hm; exact ⟨0, p, hr, by rw [Nat.zero_shiftLeft]; exact Nat.zero_le _⟩
theorem norm_lt {b : Nat} (hb : b < 18446744073709551616) (hn : isNum b) : normM b < 18446744073709551616 := by
  unfold normM
  split
  · exact (mul_num hn (num_of_lt (by decide))).2.2
  · exact hb
theorem copy_0 {f : Nat} (hf : f < 18446744073709551616) : fNan (fCopy 0 f) = false ∧ fCopy 0 f < 18446744073709551616 := by
  have hA := u64_and_nat f 9223372036854775808 hf (by omega); have hle : f &&& 9223372036854775808 ≤ 9223372036854775808 := Nat.and_le_right; have hO := u64_or_nat 0 (f &&& 9223372036854775808) (by omega) (by omega); have h0 : bits BinOp.andNot IntKind.u64 ((0 : Nat) : Int) 9223372036854775808 = ((0 : Nat) : Int) := and_not 0 (by omega)
  have e : fCopy 0 f = f &&& 9223372036854775808 := by
    unfold fCopy; rw [h0]; rw [show ((9223372036854775808 : Nat) : Int) = 9223372036854775808 from rfl] at hA; rw [hA, hO, Nat.zero_or]; exact Int.toNat_natCast _
  have hm : (f &&& 9223372036854775808) % 9223372036854775808 = 0 := by
    rw [show (9223372036854775808 : Nat) = 2 ^ 63 from rfl]; apply Nat.eq_of_testBit_eq; intro i; rw [Nat.testBit_mod_two_pow, Nat.testBit_and, Nat.testBit_two_pow]; simp; omega
  rw [e]; exact ⟨(notNan_iff _).2 (by omega), by omega⟩
theorem ldexp_ok {b : Nat} (hb : b < 18446744073709551616) (hn : fNan b = false) (n : Int) : fNan (ldexpM b n) = false ∧ ldexpM b n < 18446744073709551616 := by
  unfold ldexpM
  split
  · exact ⟨hn, hb⟩
  · rename_i hi; have hN := num_of hb hn (by simpa using hi); have hf := norm_lt hb hN
    split
    · exact copy_0 hf
    · split
      · split <;> exact ⟨by decide +kernel, by decide⟩
      · split
        · have := mul_num (a := 4368491638549381120) (num_of_lt (by decide)) (piece_num hf (y := expM (normM b) n (normK b) + 53) (by omega) (by omega)); exact this.2
        · have := mul_num (a := 4607182418800017408) (num_of_lt (by decide)) (piece_num hf (y := expM (normM b) n (normK b)) (by omega) (by omega)); exact this.2
theorem good_notNan {b : Nat} (h : goodSp b = true) : fNan b = false := by
  cases hn : fNan b
  · rfl
  · unfold goodSp clsM at h; rw [hn] at h; simp at h
theorem wait_int {b : Nat} {n : Int} (hb : b < 18446744073709551616) (hn : fNan b = false) : floatToIntVal .f64 (ceilM (clampM (ldexpM b n))) .i64 = some (intM (ceilM (clampM (ldexpM b n)))) ∧ 0 ≤ intM (ceilM (clampM (ldexpM b n))) ∧ intM (ceilM (clampM (ldexpM b n))) ≤ 1048576 := by
  obtain ⟨h1, h2⟩ := ldexp_ok hb hn n; obtain ⟨c, hc, he⟩ := okZ_ceil (clamp_ok h2 h1); unfold intM; rw [he]; exact ⟨rfl, by simp; omega⟩
theorem wait_ok {b : Nat} {t : Int} (hb : b < 18446744073709551616) : 0 ≤ waitM b t ∧ waitM b t ≤ 1048576 := by
  unfold waitM
  split
  · omega
  · rename_i h
    have hg : goodSp b = true := by
      cases hh : goodSp b
      · exact absurd (.inl hh) h
      · rfl
    exact (wait_int hb (good_notNan hg)).2
structure Cf where
  host : List UInt8
  gu : Int
  ca : Int
  fl : Int
  bu : Int
  re : Int
  st : Int
  ttl : Nat
  mt : Nat
  ms : Nat
  tm : Nat
  bo : Nat
  pr : Nat
structure ErS where
  rep : Option ReS
  began : Int
  last : Int
  head : Ans
  body : Bool
  data : List UInt8
  taken : Int
  size : Int
  reuse : Bool
  key : Ky
  cfg : Cf
  known : Tk
  state : Int
  unt : Int
  res : Rs
  tries : Int
  misses : Int
  silent : Int
  heard : Int
def erNew (k : Ky) (c : Cf) (t : Tk) : ErS := ⟨none, 0, 0, ans0, false, [], 0, 0, false, k, c, t, 1, 0, rs0, 0, 0, 0, 0⟩
def rsOf (s : Int) : Rs := ⟨s, zeroD, [], 0, 0⟩
def erBegin (E : ErS) (now : Int) : ErS := { E with rep := some (reNew (decide (E.key.kind ≠ 2)) 1048576), began := now, last := now, head := ans0, body := false, data := [], taken := 0, size := 0, reuse := false, state := 2, tries := E.tries + 1 }
def erFin (E : ErS) (r : Rs) : ErS := { E with state := 3, res := r }
def erMiss (E : ErS) (s now : Int) : ErS :=
  if E.cfg.re < E.tries then erFin { E with misses := E.misses + 1 } (rsOf s)
  else { E with misses := E.misses + 1, state := 1, unt := now + waitM E.cfg.bo E.tries }
def erClean (E : ErS) (P : ReS) : Bool := decide ((nextR P).k = 3) && (decide (reRest (nextR P).p = []) && !E.head.cl)
def erHead (E : ErS) (P : ReS) (a : Ans) (now : Int) : ErS :=
  if judgeV E.key a = 3 then { E with rep := some P, head := a, body := true }
  else if judgeV E.key a = 2 then erMiss { E with rep := some P, head := a, heard := E.heard + 1 } 502 now
  else if noBody a.st (decide (E.key.kind ≠ 2)) = true then erFin { E with rep := some (nextR P).p, head := a, heard := E.heard + 1, reuse := erClean { E with head := a } P } (judgeR E.key E.known a E.began)
  else erFin { E with rep := some P, head := a, heard := E.heard + 1, reuse := false } (judgeR E.key E.known a E.began)
def erEnd (E : ErS) (P : ReS) : ErS :=
  erFin { E with rep := some P, heard := E.heard + 1, reuse := decide (reRest P = []) && !E.head.cl } ⟨200, E.key.dig, typM E.head.F, E.size, E.began⟩
def erOne (E : ErS) (r : NrR) (now : Int) : ErS :=
  if r.k = 1 then erHead E r.p r.a now
  else if r.k = 2 then { E with rep := some r.p, data := E.data ++ r.s, size := E.size + (r.s.length : Nat) }
  else if r.k = 3 then erEnd E r.p
  else if r.k = 4 then erMiss { E with rep := some r.p, silent := E.silent + 1 } 502 now
  else { E with rep := some r.p }
def erTake : Nat → ErS → Int → Option ErS
  | 0, _, _ => none
  | n + 1, E, now =>
    if E.state ≠ 2 then some E else
    match E.rep with
    | none => none
    | some P => if 1 ≤ (nextR P).k ∧ (nextR P).k ≤ 4 then erTake n (erOne E (nextR P) now) now else some (erOne E (nextR P) now)
def erHearL : Nat → ErS → List UInt8 → Int → Option (ErS × List UInt8)
  | 0, _, _, _ => none
  | n + 1, E, s, now =>
    if s = [] ∨ E.state ≠ 2 then some (E, s) else
    match E.rep with
    | none => none
    | some P => match erTake 5 { E with rep := some (reAdd P (s.take 4096)).1 } now with
      | none => none
      | some F => erHearL n F (s.drop 4096) now
def erShut (E : ErS) (now : Int) (cut : Bool) : Option ErS :=
  if cut = true ∧ E.state = 2 then (match E.rep with | none => none | some P => erTake 5 { E with rep := some (reShut P) } now) else some E
def erHear (E : ErS) (s : List UInt8) (cut : Bool) (now : Int) : Option ErS :=
  if E.state ≠ 2 then some E else
  match erHearL (s.length + 1) { E with last := if s = [] then E.last else now } s now with
  | none => none
  | some (F, t) => match erShut F now cut with
    | none => none
    | some G => some { G with reuse := G.reuse && decide (t = []) }
def erTook (E : ErS) : ErS := { E with data := [], taken := E.taken + (E.data.length : Nat) }
def sepN (w : List UInt8) : Nat := match w with
  | [] => 0
  | b :: r => if b = 47 then 0 else ((b :: r).takeWhile (· == b)).length
def sepOk (w : List UInt8) : Bool := match w with
  | [] => false
  | b :: _ => decide (b = 46 ∧ sepN w = 1) || decide (b = 95 ∧ (sepN w = 1 ∨ sepN w = 2)) || decide (b = 45 ∧ 1 ≤ sepN w)
def partD : Nat → List UInt8 → Bool
  | 0, _ => false
  | k + 1, s => if (wordR s).length = s.length then false else if wordR s = [] then true
    else if sepOk (wordR s) then partD k ((wordR s).drop (sepN (wordR s))) else false
def lowD (b : UInt8) : Bool := decide (97 ≤ b.toNat ∧ b.toNat ≤ 122) || decide (48 ≤ b.toNat ∧ b.toNat ≤ 57)
theorem low_letters (b : UInt8) : lettersB.contains b = lowD b := by
  refine all_u8 (p := fun b => lettersB.contains b = lowD b) ?_ b; decide +kernel
theorem partM_stuck {k : Nat} {s : List UInt8} (h : ∀ c, s[0]? = some c → lettersB.contains c = false) : partM k s = false ∧ partD k s = false := by
  have hw : wordR s = s := by
    unfold wordR Lib.trimLeftS
    cases s with
    | nil => rfl
    | cons c r => rw [List.dropWhile_cons, if_neg (by rw [h c rfl]; simp)]
  cases k with
  | zero => exact ⟨rfl, rfl⟩
  | succ k =>
    unfold partM partD; rw [hw, if_pos rfl, if_pos rfl]; exact ⟨rfl, rfl⟩
theorem takeWhile_len {p : UInt8 → Bool} : ∀ (w : List UInt8) (n : Nat), n ≤ w.length → (∀ j c, j < n → w[j]? = some c → p c = true) → (∀ c, w[n]? = some c → p c = false) → (w.takeWhile p).length = n
  | [], n, hn, _, _ => by simp at hn; simp [hn]
  | b :: r, 0, _, _, h2 => by rw [List.takeWhile_cons, if_neg (by rw [h2 b rfl]; simp)]; rfl
  | b :: r, n + 1, hn, h1, h2 => by
    rw [List.takeWhile_cons, if_pos (h1 0 b (by omega) rfl), List.length_cons, takeWhile_len r n (by simpa using hn) (fun j c hj hc => h1 (j + 1) c (by omega) (by simpa using hc)) (fun c hc => h2 c (by simpa using hc))]
theorem takeWhile_facts (p : UInt8 → Bool) : ∀ w : List UInt8, (∀ (j : Nat) b, j < (w.takeWhile p).length → w[j]? = some b → p b = true) ∧ (∀ b, w[(w.takeWhile p).length]? = some b → p b = false)
  | [] => ⟨fun j b h _ => by simp at h, fun b h => by simp at h⟩
  | x :: r => by
    have ih := takeWhile_facts p r; rw [List.takeWhile_cons]
    split
    · rename_i hx; refine ⟨fun j b hj hb => ?_, fun b hb => ih.2 b (by simpa using hb)⟩
      cases j with
      | zero => simp at hb; subst hb; exact hx
      | succ j => exact ih.1 j b (by simpa using hj) (by simpa using hb)
    · rename_i hx; exact ⟨fun j b hj _ => by simp at hj, fun b hb => by simp at hb; subst hb; simpa using hx⟩
theorem seps_split (w : List UInt8) : ∃ n, n ≤ w.length ∧ (∀ (j : Nat) c, j < n → w[j]? = some c → sepsB.contains c = true) ∧ (∀ c, w[n]? = some c → sepsB.contains c = false) ∧ sepR w = w.drop n ∧ w.take (w.length - (sepR w).length) = w.take n := by
  have hf := takeWhile_facts sepsB.contains w; have hle : (w.takeWhile sepsB.contains).length ≤ w.length := (List.takeWhile_sublist _).length_le; have h := Lib.trimLeftS_drop w sepsB (w.takeWhile sepsB.contains).length hle hf.1 hf.2; refine ⟨(w.takeWhile sepsB.contains).length, hle, hf.1, hf.2, h, ?_⟩; unfold sepR; rw [h, List.length_drop]; congr 1; omega
theorem dropWhile_nil_iff {p : UInt8 → Bool} : ∀ l : List UInt8, l.dropWhile p = [] ↔ ∀ c ∈ l, p c = true
  | [] => by simp
  | x :: r => by
    rw [List.dropWhile_cons]
    split
    · rename_i h; rw [dropWhile_nil_iff r]; simp [h]
    · rename_i h; simp [h]
theorem all_eq_rep {l : List UInt8} {b : UInt8} (h : ∀ c ∈ l, c = b) : l = List.replicate l.length b := List.eq_replicate_iff.2 ⟨rfl, h⟩
theorem trim_dashes {l : List UInt8} : (Lib.trimS l [45]).isEmpty = l.all (· == 45) := by
  rw [Bool.eq_iff_iff, List.isEmpty_iff]; constructor
  · intro h; have h0 : Lib.trimRightS l [45] = [] ∨ True := Or.inr trivial; rw [List.all_eq_true]; intro c hc; unfold Lib.trimS Lib.trimLeftS at h; have h1 := (dropWhile_nil_iff _).1 h
    have h2 : Lib.trimRightS l [45] = [] := by
      unfold Lib.trimRightS at h1 ⊢
      cases hd : l.reverse.dropWhile ([45].contains ·) with
      | nil => rfl
      | cons x r =>
        have h3 := List.head?_dropWhile_not ([45].contains ·) l.reverse; rw [hd] at h3; have h4 := h1 x (by rw [hd]; simp); simp at h3 h4; exact absurd h4 h3
    unfold Lib.trimRightS at h2; have h5 := (dropWhile_nil_iff _).1 (List.reverse_eq_nil_iff.1 h2) c (by simpa using hc); simpa using h5
  · intro h; rw [List.all_eq_true] at h
    have h1 : Lib.trimRightS l [45] = [] := by
      unfold Lib.trimRightS; rw [(dropWhile_nil_iff _).2 (fun c hc => by have := h c (by simpa using hc); simpa using this)]; rfl
    unfold Lib.trimS; rw [h1]; rfl
theorem sep_one (l : List UInt8) : isSepM l = true ↔ ∃ b n, l = List.replicate n b ∧ (b = 46 ∧ n = 1 ∨ b = 95 ∧ (n = 1 ∨ n = 2) ∨ b = 45 ∧ 1 ≤ n) := by
  unfold isSepM; rw [trim_dashes]; constructor
  · intro h; simp only [Bool.or_eq_true, Bool.and_eq_true, beq_iff_eq, Bool.not_eq_true', List.isEmpty_eq_false_iff, List.all_eq_true] at h; rcases h with ((h | h) | h) | ⟨h1, h2⟩
    · exact ⟨46, 1, h, .inl ⟨rfl, rfl⟩⟩
    · exact ⟨95, 1, h, .inr (.inl ⟨rfl, .inl rfl⟩)⟩
    · exact ⟨95, 2, h, .inr (.inl ⟨rfl, .inr rfl⟩)⟩
    · exact ⟨45, l.length, all_eq_rep h2, .inr (.inr ⟨rfl, List.length_pos_iff.2 h1⟩)⟩
  · rintro ⟨b, n, rfl, ⟨rfl, rfl⟩ | ⟨rfl, rfl | rfl⟩ | ⟨rfl, hn⟩⟩
    · rfl
    · rfl
    · rfl
    · have : (List.replicate n (45 : UInt8)).all (· == 45) = true := by simp
      rw [this]
      cases n with
      | zero => omega
      | succ n => simp
theorem sepN_at {w : List UInt8} {b : UInt8} (hb : w[0]? = some b) {n : Nat} (hn : n ≤ w.length) (h1 : ∀ (j : Nat) c, j < n → w[j]? = some c → c = b) (h2 : ∀ c, w[n]? = some c → c ≠ b ∨ b = 47) (h3 : b = 47 → n = 0) : sepN w = n := by
  cases w with
  | nil => simp at hb
  | cons x r =>
    simp at hb; subst hb; show (if x = 47 then 0 else _) = n; by_cases h47 : x = 47
    · rw [if_pos h47, h3 h47]
    · rw [if_neg h47]
      exact takeWhile_len _ _ hn (fun j c hj hc => by simp [h1 j c hj hc]) (fun c hc => by
        rcases h2 c hc with h | h
        · simpa using h
        · exact absurd h h47)
theorem sep_seps {b : UInt8} (h : b = 46 ∨ b = 95 ∨ b = 45) : sepsB.contains b = true ∧ b ≠ 47 ∧ lettersB.contains b = false := by
  rcases h with rfl | rfl | rfl <;> decide
theorem seps_low {b : UInt8} (h : sepsB.contains b = true) : lettersB.contains b = false := by
  have : b = 46 ∨ b = 95 ∨ b = 45 := by simpa [sepsB] using h
  exact (sep_seps this).2.2
theorem part_same : ∀ (k : Nat) (s : List UInt8), partD k s = partM k s
  | 0, _ => rfl
  | k + 1, s => by
    unfold partD partM; by_cases h1 : (wordR s).length = s.length
    · rw [if_pos h1, if_pos h1]
    rw [if_neg h1, if_neg h1]; by_cases h2 : wordR s = []
    · rw [if_pos h2, if_pos h2]
    rw [if_neg h2, if_neg h2]; generalize hw : wordR s = w at *; obtain ⟨n, hn, hs1, hs2, hd, ht⟩ := seps_split w; rw [ht, hd]
    obtain ⟨b, hb⟩ : ∃ b, w[0]? = some b := by
      cases w with
      | nil => exact absurd rfl h2
      | cons x r => exact ⟨x, rfl⟩
    cases hsp : isSepM (w.take n) with
    | true =>
      obtain ⟨c, m, he, hc⟩ := (sep_one _).1 hsp
      have hm : m = n := by
        have := congrArg List.length he; rw [List.length_take, List.length_replicate] at this; omega
      subst hm
      have hm1 : 1 ≤ m := by
        rcases hc with ⟨_, h⟩ | ⟨_, h⟩ | ⟨_, h⟩ <;> omega
      have hcb : c = b := by
        have h3 : (w.take m)[0]? = some b := by rw [List.getElem?_take, if_pos (by omega)]; exact hb
        rw [he, List.getElem?_replicate, if_pos (by omega)] at h3; simpa using h3
      subst hcb
      have hc3 : c = 46 ∨ c = 95 ∨ c = 45 := by
        rcases hc with h | h | h
        · exact .inl h.1
        · exact .inr (.inl h.1)
        · exact .inr (.inr h.1)
      have hN : sepN w = m := sepN_at hb hn (fun j d hj hd => by
        have h3 : (w.take m)[j]? = some d := by rw [List.getElem?_take, if_pos hj]; exact hd
        rw [he, List.getElem?_replicate, if_pos hj] at h3
        simpa using h3.symm) (fun d hd => Or.inl (fun h => by
          subst h; have := hs2 d hd; rw [(sep_seps hc3).1] at this; cases this)) (fun h => absurd h (sep_seps hc3).2.1)
      have hok : sepOk w = true := by
        cases w with
        | nil => simp at hb
        | cons x r =>
          simp at hb; subst hb; unfold sepOk; rw [hN]; simp only [Bool.or_eq_true, decide_eq_true_eq]; rcases hc with h | h | h
          · exact .inl (.inl h)
          · exact .inl (.inr h)
          · exact .inr h
      rw [if_pos hok, if_pos rfl, hN]; exact part_same k _
    | false =>
      by_cases hok : sepOk w = true
      · rw [if_pos hok]; show _ = false
        -- a part of the separators: the next round finds no word
        have hNle : sepN w ≤ w.length ∧ (∀ (j : Nat) c, j < sepN w → w[j]? = some c → c = b) ∧ (b = 46 ∧ sepN w = 1 ∨ b = 95 ∧ (sepN w = 1 ∨ sepN w = 2) ∨ b = 45 ∧ 1 ≤ sepN w) := by
          cases w with
          | nil => simp at hb
          | cons x r =>
            simp at hb; subst hb; unfold sepOk at hok; simp only [Bool.or_eq_true, decide_eq_true_eq] at hok; have h47 : x ≠ 47 := by rintro rfl; rcases hok with (h | h) | h <;> exact absurd h.1 (by decide)
            have hN : sepN (x :: r) = ((x :: r).takeWhile (· == x)).length := by show (if x = 47 then 0 else _) = _; rw [if_neg h47]
            refine ⟨?_, ?_, by rcases hok with (h | h) | h; exact .inl h; exact .inr (.inl h); exact .inr (.inr h)⟩
            · rw [hN]; exact (List.takeWhile_sublist _).length_le
            · intro j c hj hc; rw [hN] at hj; have := (takeWhile_facts (· == x) (x :: r)).1 j c hj hc; simpa using this
        obtain ⟨hle, hsame, hkind⟩ := hNle
        have hb3 : b = 46 ∨ b = 95 ∨ b = 45 := by
          rcases hkind with h | h | h
          · exact .inl h.1
          · exact .inr (.inl h.1)
          · exact .inr (.inr h.1)
        have hNn : sepN w ≤ n := by
          rcases Nat.lt_or_ge n (sepN w) with h | h
          · exfalso; obtain ⟨c, hc⟩ : ∃ c, w[n]? = some c := ⟨_, List.getElem?_eq_getElem (by omega)⟩
            have h4 := hs2 c hc; rw [hsame n c h hc, (sep_seps hb3).1] at h4; cases h4
          · exact h
        have hlt : sepN w < n := by
          rcases Nat.lt_or_ge (sepN w) n with h | h
          · exact h
          · exfalso; have he : sepN w = n := by omega
            rw [he] at hsame hkind
            have h5 : isSepM (w.take n) = true := (sep_one _).2 ⟨b, n, by
              have h6 := all_eq_rep (l := w.take n) (b := b) (fun c hc => by
                obtain ⟨j, hj⟩ := List.mem_iff_getElem?.1 hc; rw [List.getElem?_take] at hj
                split at hj
                · rename_i hjn; exact hsame j c hjn hj
                · cases hj)
              rw [List.length_take, Nat.min_eq_left hn] at h6
              exact h6, hkind⟩
            rw [hsp] at h5; cases h5
        exact (partM_stuck (fun c hc => by
          rw [List.getElem?_drop, Nat.add_zero] at hc
          exact seps_low (hs1 _ c hlt hc))).2
      · rw [if_neg hok]; rfl
end Go.Proofs.YtlhnjkekjbbhcaaGreatDoor
