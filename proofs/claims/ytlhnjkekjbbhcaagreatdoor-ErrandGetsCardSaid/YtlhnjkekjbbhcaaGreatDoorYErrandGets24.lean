/- Parts of the proof of ErrandGets, in order. No conditions but those that each theorem states. -/
import Derived.Test.YtlhnjkekjbbhcaaGreatDoorYErrandGets0
import Derived.Lib.SlBytesConst
import Derived.DeepKeys4
import Derived.Test.YtlhnjkekjbbhcaaGreatDoorYErrandGets23
set_option linter.unusedSimpArgs false
set_option linter.unusedVariables false
namespace Go.Proofs.YtlhnjkekjbbhcaaGreatDoor
open Go.RowKit
theorem ereFrame_F (P : ReS) (a : Ans) : (reFrame P a).a.F = a.F := by
  unfold reFrame
  split
  · rfl
  · split
    · rfl
    · split
      · rfl
      · split <;> rfl
theorem readHead_ans {P : ReS} {n : Nat} (hi : P.inp.length ≤ n) (ha : P.ans = none) : ∀ a, (readHeadR P).1.ans = some a → Small n a.F := by
  have hs := (split_small P.inp).1; have hs' : Small n (splitM P.inp).F := ⟨hs.1, fun x hx => ⟨Nat.le_trans (hs.2 x hx).1 hi, Nat.le_trans (hs.2 x hx).2 hi⟩⟩
  intro a; unfold readHeadR
  split
  · intro h; rw [ha] at h; cases h
  · split
    · intro h; simp only [reFail] at h; rw [ha] at h; cases h
    · split
      · split
        · intro h; simp only [reFail, headP] at h; rw [ha] at h; cases h
        · intro h; simp only [headP] at h; rw [ha] at h; cases h
      · split
        · intro h; simp only [Option.some.injEq] at h; subst h; rw [ereFrame_F]; exact hs'
        · intro h; simp only [reFail, headP] at h; rw [ha] at h; cases h
theorem eread_ans {P : ReS} {n : Nat} (h : P.ok n) (ha : P.ans = none) : ∀ a, (readR P).1.ans = some a → Small n a.F := by
  have hw := h.wt; unfold ReS.wt at hw; unfold readR
  split
  · exact readHead_ans (by omega) ha
  · split
    · unfold readChunksR
      split
      · intro a hh; rw [ha] at hh; cases hh
      · split
        · intro a hh; rw [ha] at hh; cases hh
        · split
          · intro a hh; simp only [reFail] at hh; rw [ha] at hh; cases hh
          · split
            · intro a hh; simp only at hh; rw [ha] at hh; cases hh
            · intro a hh; simp only at hh; rw [ha] at hh; cases hh
    · split
      · unfold readLengthR
        split
        · intro a hh; simp only at hh; rw [ha] at hh; cases hh
        · intro a hh; simp only at hh; rw [ha] at hh; cases hh
      · split
        · unfold readCloseR
          split
          · intro a hh; simp only [reFail, closeP] at hh; rw [ha] at hh; cases hh
          · split
            · intro a hh; simp only [closeP] at hh; rw [ha] at hh; cases hh
            · intro a hh; simp only [closeP] at hh; rw [ha] at hh; cases hh
        · intro a hh; rw [ha] at hh; cases hh
theorem loop_ans {n : Nat} : ∀ (i : Nat) (P : ReS), P.ok n → P.ans = none → ∀ a, (reLoop i P).ans = some a → Small n a.F
  | 0, P, _, ha, a, h => by unfold reLoop at h; rw [ha] at h; cases h
  | i + 1, P, hP, ha, a, h => by
    unfold reLoop at h; rw [if_neg (by simp [ha])] at h
    split at h
    · cases hx : (readR P).1.ans with
      | none => exact loop_ans i _ (read_ok hP).1 hx a h
      | some y =>
        have hl : reLoop i (readR P).1 = (readR P).1 := by
          cases i with
          | zero => rfl
          | succ i => unfold reLoop; rw [if_pos (by simp [hx])]
        rw [hl] at h; exact eread_ans hP ha a h
    · exact eread_ans hP ha a h
theorem next_small {P : ReS} {n : Nat} (h : P.ok n) (ha : P.ans = none) : Small n (nextR P).a.F := by
  have hl := loop_ans (P.inp.length + 2) P h ha; rw [nextR_eq]; unfold reEnd
  split
  · rename_i a hh; exact hl a hh
  · split
    · exact ⟨Nat.zero_le _, fun x hx => by cases hx⟩
    · exact ⟨Nat.zero_le _, fun x hx => by cases hx⟩
theorem next_ans (P : ReS) : (nextR P).p.ans = none := by
  rw [nextR_eq]
  split
  · rfl
  · rename_i hh
    split
    · exact hh
    · unfold reFinish
      split
      · exact hh
      · split
        · exact hh
        · exact hh
theorem next_s {Q : ReS} {n : Nat} (h : Q.ok n) : (nextR Q).s.length ≤ n := by
  have hE := (reEnd_ok h).wt; have h2 : (reEnd Q).dat.length ≤ n := by unfold ReS.wt at hE; omega
  rw [nextR_eq]
  split
  · simp
  · split
    · exact h2
    · simp
def ErS.told (E : ErS) : Prop := ∀ P, E.rep = some P → P.ans = none
def cntOf (m s h : Int) (d : Nat) (z : Int) (b c : Nat) : Prop := (0 ≤ m ∧ m ≤ c) ∧ (0 ≤ s ∧ s ≤ c) ∧ (0 ≤ h ∧ h ≤ c) ∧ d ≤ c * 400000 ∧ (0 ≤ z ∧ z ≤ c * 400000) ∧ b < 18446744073709551616
theorem cntOf.up {m s h m' s' h' : Int} {d d' : Nat} {z z' : Int} {b c : Nat} (H : cntOf m s h d z b c) (hm : m ≤ m' ∧ m' ≤ m + 1) (hs : s ≤ s' ∧ s' ≤ s + 1) (hh : h ≤ h' ∧ h' ≤ h + 1) (hd : d' ≤ d + 400000) (hz : z ≤ z' ∧ z' ≤ z + 400000) : cntOf m' s' h' d' z' b (c + 1) := by
  obtain ⟨h1, h2, h3, h4, h5, h6⟩ := H; refine ⟨⟨?_, ?_⟩, ⟨?_, ?_⟩, ⟨?_, ?_⟩, ?_, ⟨?_, ?_⟩, h6⟩ <;> omega
def ErS.cnt (E : ErS) (c : Nat) : Prop := cntOf E.misses E.silent E.heard E.data.length E.size E.cfg.bo c
theorem cntOf.mono1 {m s h : Int} {d : Nat} {z : Int} {b c : Nat} (H : cntOf m s h d z b c) : cntOf m s h d z b (c + 1) :=
  H.up ⟨Int.le_refl _, by omega⟩ ⟨Int.le_refl _, by omega⟩ ⟨Int.le_refl _, by omega⟩ (by omega) ⟨Int.le_refl _, by omega⟩
theorem cntOf.mono {m s h : Int} {d : Nat} {z : Int} {b c : Nat} (H : cntOf m s h d z b c) : ∀ k : Nat, cntOf m s h d z b (c + k)
  | 0 => H
  | k + 1 => (H.mono k).mono1
theorem ErS.cnt.mono {E : ErS} {c d : Nat} (h : E.cnt c) (hd : c ≤ d) : E.cnt d := by
  obtain ⟨k, rfl⟩ := Nat.exists_eq_add_of_le hd; exact cntOf.mono h k
theorem miss_cnt {E : ErS} {m s h : Int} {d : Nat} {z : Int} {c : Nat} (H : cntOf m s h d z E.cfg.bo c) (hm : E.misses = m) (hs : s ≤ E.silent ∧ E.silent ≤ s + 1) (hh : h ≤ E.heard ∧ E.heard ≤ h + 1) (hd : E.data.length = d) (hz : E.size = z) (st now : Int) : (erMiss E st now).cnt (c + 1) := by
  have key : cntOf (E.misses + 1) E.silent E.heard E.data.length E.size E.cfg.bo (c + 1) := by
    rw [hm, hd, hz]; exact H.up ⟨by omega, Int.le_refl _⟩ hs hh (by omega) ⟨Int.le_refl _, by omega⟩
  unfold erMiss
  split <;> exact key
theorem miss_rep (E : ErS) (s now : Int) : (erMiss E s now).rep = E.rep := by unfold erMiss; split <;> rfl
theorem one_cnt {E : ErS} {c : Nat} (h : E.cnt c) (r : NrR) (hr : r.s.length ≤ 400000) (now : Int) : (erOne E r now).cnt (c + 1) := by
  have H : cntOf E.misses E.silent E.heard E.data.length E.size E.cfg.bo c := h; have same : ∀ x : Int, x ≤ x ∧ x ≤ x + 1 := fun x => ⟨Int.le_refl _, by omega⟩
  have more : ∀ x : Int, x ≤ x + 1 ∧ x + 1 ≤ x + 1 := fun x => ⟨by omega, Int.le_refl _⟩
  have samez : ∀ x : Int, x ≤ x ∧ x ≤ x + 400000 := fun x => ⟨Int.le_refl _, by omega⟩
  have k0 : cntOf E.misses E.silent E.heard E.data.length E.size E.cfg.bo (c + 1) := H.up (same _) (same _) (same _) (by omega) (samez _); have k1 : cntOf E.misses E.silent (E.heard + 1) E.data.length E.size E.cfg.bo (c + 1) := H.up (same _) (same _) (more _) (by omega) (samez _); unfold erOne
  split
  · unfold erHead
    split
    · exact k0
    · split
      · exact miss_cnt (E := { E with rep := some r.p, head := r.a, heard := E.heard + 1 }) H rfl (same _) (more _) rfl rfl _ _
      · split
        · exact k1
        · exact k1
  · split
    · have k2 : cntOf E.misses E.silent E.heard (E.data ++ r.s).length (E.size + (r.s.length : Nat)) E.cfg.bo (c + 1) := H.up (same _) (same _) (same _) (by rw [List.length_append]; omega) ⟨by omega, by omega⟩; exact k2
    · split
      · exact k1
      · split
        · exact miss_cnt (E := { E with rep := some r.p, silent := E.silent + 1 }) H rfl (more _) (same _) rfl rfl _ _
        · exact k0
theorem one_told (E : ErS) (P : ReS) (now : Int) : (erOne E (nextR P) now).told := by
  have hp := next_ans P; intro Q hQ; unfold erOne at hQ
  split at hQ
  · unfold erHead at hQ
    split at hQ
    · cases hQ; exact hp
    · split at hQ
      · rw [miss_rep] at hQ; cases hQ; exact hp
      · split at hQ
        · cases hQ; exact next_ans _
        · cases hQ; exact hp
  · split at hQ
    · cases hQ; exact hp
    · split at hQ
      · cases hQ; exact hp
      · split at hQ
        · rw [miss_rep] at hQ; cases hQ; exact hp
        · cases hQ; exact hp
def ErS.okR (E : ErS) (n : Nat) : Prop := ∀ P, E.rep = some P → P.ok n
theorem one_okR {E : ErS} {P : ReS} {n : Nat} (h : P.ok n) (now : Int) : (erOne E (nextR P) now).okR n := by
  have hp := nextR_ok h; intro Q hQ; unfold erOne at hQ
  split at hQ
  · unfold erHead at hQ
    split at hQ
    · cases hQ; exact hp
    · split at hQ
      · rw [miss_rep] at hQ; cases hQ; exact hp
      · split at hQ
        · cases hQ; exact nextR_ok hp
        · cases hQ; exact hp
  · split at hQ
    · cases hQ; exact hp
    · split at hQ
      · cases hQ; exact hp
      · split at hQ
        · rw [miss_rep] at hQ; cases hQ; exact hp
        · cases hQ; exact hp
theorem took {n : Nat} (hn : n ≤ 400000) (now : Int) : ∀ (N c : Nat) (E R : ErS), erTake N E now = some R → E.okR n → E.told → E.cnt c → R.okR n ∧ R.told ∧ R.cnt (c + N)
  | 0, c, E, R, h, _, _, _ => by simp [erTake] at h
  | N + 1, c, E, R, h, ho, ht, hc => by
    unfold erTake at h
    split at h
    · cases h; exact ⟨ho, ht, hc.mono (by omega)⟩
    · cases hP : E.rep with
      | none => rw [hP] at h; cases h
      | some P =>
        rw [hP] at h; simp only at h; have h1 := one_okR (E := E) (ho P hP) now; have h2 := one_told E P now; have h3 := one_cnt hc (nextR P) (Nat.le_trans (next_s (ho P hP)) hn) now
        split at h
        · have h4 := took hn now N (c + 1) _ R h h1 h2 h3; exact ⟨h4.1, h4.2.1, h4.2.2.mono (by omega)⟩
        · cases h; exact ⟨h1, h2, h3.mono (by omega)⟩
theorem hear_no {E R : ErS} {s : List UInt8} {cut : Bool} {now : Int} (h : E.state ≠ 2) (hE : erHear E s cut now = some R) : E = R := by
  unfold erHear at hE; rw [if_pos h] at hE; exact Option.some.inj hE
def erHeard (E : ErS) (s : List UInt8) (now : Int) : ErS := { E with last := if s = [] then E.last else now }
theorem hear_yes {E R : ErS} {s : List UInt8} {cut : Bool} {now : Int} (h : E.state = 2) (hE : erHear E s cut now = some R) : ∃ F t G, erHearL (s.length + 1) (erHeard E s now) s now = some (F, t) ∧ erShut F now cut = some G ∧ R = { G with reuse := G.reuse && decide (t = []) } := by
  unfold erHear at hE; rw [if_neg (by simp [h])] at hE; unfold erHeard
  cases hL : erHearL (s.length + 1) { E with last := if s = [] then E.last else now } s now with
  | none => rw [hL] at hE; cases hE
  | some x =>
    obtain ⟨F, t⟩ := x; rw [hL] at hE; simp only at hE
    cases hS : erShut F now cut with
    | none => rw [hS] at hE; cases hE
    | some G =>
      rw [hS] at hE; simp only at hE; exact ⟨F, t, G, rfl, hS, (Option.some.inj hE).symm⟩
theorem hearL_stop {N : Nat} {E F : ErS} {s t : List UInt8} {now : Int} (h : s = [] ∨ E.state ≠ 2) (hE : erHearL N E s now = some (F, t)) : E = F ∧ s = t := by
  cases N with
  | zero => simp [erHearL] at hE
  | succ N =>
    unfold erHearL at hE; rw [if_pos h] at hE; have := Option.some.inj hE; exact ⟨congrArg Prod.fst this, congrArg Prod.snd this⟩
theorem hearL_more {N : Nat} {E F : ErS} {s t : List UInt8} {now : Int} (hs : s ≠ []) (h : E.state = 2) (hE : erHearL N E s now = some (F, t)) : ∃ m P G, N = m + 1 ∧ E.rep = some P ∧ erTake 5 { E with rep := some (reAdd P (s.take 4096)).1 } now = some G ∧ erHearL m G (s.drop 4096) now = some (F, t) := by
  cases N with
  | zero => simp [erHearL] at hE
  | succ N =>
    unfold erHearL at hE; rw [if_neg (by rintro (h1 | h1); exact hs h1; exact h1 h)] at hE
    cases hP : E.rep with
    | none => rw [hP] at hE; cases hE
    | some P =>
      rw [hP] at hE; simp only at hE
      cases hT : erTake 5 { E with rep := some (reAdd P (s.take 4096)).1 } now with
      | none => rw [hT] at hE; cases hE
      | some G =>
        rw [hT] at hE; exact ⟨N, P, G, rfl, rfl, hT, hE⟩
theorem shut_no {F G : ErS} {now : Int} {cut : Bool} (h : ¬ (cut = true ∧ F.state = 2)) (hS : erShut F now cut = some G) : F = G := by
  unfold erShut at hS; rw [if_neg h] at hS; exact Option.some.inj hS
theorem shut_yes {F G : ErS} {now : Int} {cut : Bool} (h : cut = true ∧ F.state = 2) (hS : erShut F now cut = some G) : ∃ P, F.rep = some P ∧ erTake 5 { F with rep := some (reShut P) } now = some G := by
  unfold erShut at hS; rw [if_pos h] at hS
  cases hP : F.rep with
  | none => rw [hP] at hS; cases hS
  | some P => rw [hP] at hS; exact ⟨P, rfl, hS⟩
theorem take_min (s : List UInt8) : s.take (min s.length 4096) = s.take 4096 ∧ s.drop (min s.length 4096) = s.drop 4096 := by
  rcases Nat.le_total s.length 4096 with h | h
  · rw [Nat.min_eq_left h, List.take_length, List.drop_length, List.take_of_length_le h, List.drop_of_length_le h]; exact ⟨rfl, rfl⟩
  · rw [Nat.min_eq_right h]; exact ⟨rfl, rfl⟩
theorem stop_with {Q : ReS} (hq : (readR Q).2 = false) (ha : Q.ans = none) : (readR (Q.with' none [])).2 = false := by
  by_cases h0 : Q.st = 0
  · have e1 : readR Q = readHeadR Q := by unfold readR; rw [if_pos h0]
    have e2 : readR (Q.with' none []) = readHeadR (Q.with' none []) := by unfold readR; rw [if_pos (by exact h0)]
    rw [e1] at hq; rw [e2]
    have h17 : (splitM Q.inp).e = 17 := by
      by_cases hh : (splitM Q.inp).e = 17
      · exact hh
      · exfalso; unfold readHeadR at hq; rw [if_neg hh] at hq
        split at hq
        · simp at hq
        · split at hq
          · split at hq <;> simp at hq
          · split at hq <;> simp at hq
    unfold readHeadR; rw [if_pos (show (splitM (Q.with' none []).inp).e = 17 from h17)]
  · have := read_with (P := Q.with' none []) (by exact h0) none Q.dat; have e2 : (Q.with' none []).with' none (Q.dat ++ (Q.with' none []).dat) = Q := by unfold ReS.with'; cases Q; simp at ha; simp [ha]
    rw [e2] at this; rw [this] at hq; exact hq
def Told (Q : ReS) : Prop := (readR Q).2 = false ∧ Q.ans = none ∧ Q.dat = []
theorem fin_k {Q : ReS} : (reFinish Q).2 = 3 ∨ (reFinish Q).2 = 4 ∨ ((reFinish Q).2 = 0 ∧ Q.shut = false) := by
  unfold reFinish
  split
  · exact .inl rfl
  · split
    · exact .inr (.inl rfl)
    · rename_i h; simp only [Bool.or_eq_true, beq_iff_eq, not_or, Bool.not_eq_true] at h; exact .inr (.inr ⟨rfl, h.2⟩)
theorem told_end {Q : ReS} (h : Told Q) : (nextR Q).k = 3 ∨ (nextR Q).k = 4 ∨ ((nextR Q).k = 0 ∧ Q.shut = false) := by
  obtain ⟨hq, ha, hd⟩ := h; have he : reEnd Q = Q := by rw [reEnd_stop ha hq, read_false hq]
  have hn : nextR Q = ⟨(reFinish Q).1, (reFinish Q).2, ans0, []⟩ := by rw [nextR_eq, he, ha]; simp [hd]
  rw [hn]; exact fin_k
theorem next_ways {P : ReS} {n : Nat} (h : P.ok n) (ha : P.ans = none) :
    ((nextR P).k = 1 ∧ P.st = 0 ∧ (nextR P).p.st ≠ 0 ∧ (nextR P).p.shut = P.shut) ∨ ((nextR P).k = 2 ∧ Told (nextR P).p ∧ (nextR P).p.shut = P.shut) ∨ ((nextR P).k = 3 ∨ (nextR P).k = 4 ∨ ((nextR P).k = 0 ∧ P.shut = false)) := by
  have hE := reEnd_ok h; rcases end_cases h ha with ⟨he, hn⟩ | ⟨a, h1, _, h3, h4, _, h6⟩
  · have hs : (reEnd P).shut = P.shut := by rw [he]; exact reAll_shut h
    have hq : (readR (reEnd P)).2 = false := by rw [he]; exact reAll_end h
    have hn' : (reEnd P).ans = none := by rw [he]; exact hn
    by_cases hd : (reEnd P).dat = []
    · have hx : nextR P = ⟨(reFinish (reEnd P)).1, (reFinish (reEnd P)).2, ans0, []⟩ := by rw [nextR_eq, hn']; simp [hd]
      rw [hx]; have := fin_k (Q := reEnd P); rw [hs] at this; exact .inr (.inr this)
    · have hx : nextR P = ⟨(reEnd P).with' none [], 2, ans0, (reEnd P).dat⟩ := by
        rw [nextR_eq, hn']; simp only [ne_eq, hd, not_false_eq_true, if_true]; congr 1; unfold ReS.with'
        rw [← hn']
      rw [hx]; exact .inr (.inl ⟨rfl, ⟨stop_with hq hn', rfl, rfl⟩, hs⟩)
  · have hx : nextR P = ⟨{ reEnd P with ans := none }, 1, a, []⟩ := by rw [nextR_eq, h1]
    rw [hx]; have hs : (reEnd P).shut = P.shut := by rw [← reAll_shut h, h6, reAll_shut hE]
    exact .inl ⟨rfl, h4, h3, hs⟩
theorem miss_state (E : ErS) (s now : Int) : (erMiss E s now).state ≠ 2 := by
  unfold erMiss
  split
  · exact (by decide : (3 : Int) ≠ 2)
  · exact (by decide : (1 : Int) ≠ 2)
def ErS.live (E : ErS) : Prop := E.state = 2 → ∃ P, E.rep = some P
theorem one_live (E : ErS) (r : NrR) (now : Int) : (erOne E r now).live := by
  intro h; unfold erOne at h ⊢
  split
  · rename_i h1; rw [if_pos h1] at h; unfold erHead at h ⊢
    split
    · exact ⟨_, rfl⟩
    · rename_i h3; rw [if_neg h3] at h
      split
      · rename_i h2; rw [if_pos h2] at h; exact absurd h (miss_state _ _ _)
      · rename_i h2; rw [if_neg h2] at h
        split
        · exact ⟨_, rfl⟩
        · exact ⟨_, rfl⟩
  · rename_i h1; rw [if_neg h1] at h
    split
    · exact ⟨_, rfl⟩
    · rename_i h2; rw [if_neg h2] at h
      split
      · exact ⟨_, rfl⟩
      · rename_i h3; rw [if_neg h3] at h
        split
        · rename_i h4; rw [if_pos h4] at h; exact absurd h (miss_state _ _ _)
        · exact ⟨_, rfl⟩
theorem one_rep {E : ErS} {r : NrR} {now : Int} (h : (erOne E r now).state = 2) : (erOne E r now).rep = some r.p := by
  unfold erOne at h ⊢
  split
  · rename_i h1; rw [if_pos h1] at h; unfold erHead at h ⊢
    split
    · rfl
    · rename_i h3; rw [if_neg h3] at h
      split
      · rename_i h2; rw [if_pos h2] at h; exact absurd h (miss_state _ _ _)
      · rename_i h2; rw [if_neg h2] at h; exfalso
        split at h
        · exact absurd h (by decide : (3 : Int) ≠ 2)
        · exact absurd h (by decide : (3 : Int) ≠ 2)
  · rename_i h1; rw [if_neg h1] at h
    split
    · rfl
    · rename_i h2; rw [if_neg h2] at h
      split
      · rename_i h3; rw [if_pos h3] at h; exact absurd h (by decide : (3 : Int) ≠ 2)
      · rename_i h3; rw [if_neg h3] at h
        split
        · rename_i h4; rw [if_pos h4] at h; exact absurd h (miss_state _ _ _)
        · rfl
theorem one_ended {E : ErS} {r : NrR} {now : Int} (h : r.k = 3 ∨ r.k = 4) : (erOne E r now).state ≠ 2 := by
  unfold erOne; rcases h with h | h
  · rw [if_neg (by omega), if_neg (by omega), if_pos h]; exact (by decide : (3 : Int) ≠ 2)
  · rw [if_neg (by omega), if_neg (by omega), if_neg (by omega), if_pos h]; exact miss_state _ _ _
theorem take_out {E : ErS} (h : E.state ≠ 2) (m : Nat) (now : Int) : erTake (m + 1) E now = some E := by unfold erTake; rw [if_pos h]
theorem take_on {E : ErS} {P : ReS} (h : E.state = 2) (hP : E.rep = some P) (m : Nat) (now : Int) : erTake (m + 1) E now = if 1 ≤ (nextR P).k ∧ (nextR P).k ≤ 4 then erTake m (erOne E (nextR P) now) now else some (erOne E (nextR P) now) := by
  conv => lhs; unfold erTake
  rw [if_neg (by simp [h]), hP]
theorem take_end {E : ErS} {P : ReS} (h : E.state = 2) (hP : E.rep = some P) (m : Nat) (now : Int) (hk : (nextR P).k = 3 ∨ (nextR P).k = 4 ∨ ((nextR P).k = 0 ∧ P.shut = false)) : ∃ R, erTake (m + 2) E now = some R ∧ (R.state = 2 → P.shut = false) := by
  rw [take_on h hP]; rcases hk with hk | hk | ⟨hk, hs⟩
  · rw [if_pos (by omega), take_out (one_ended (.inl hk))]; exact ⟨_, rfl, fun hh => absurd hh (one_ended (.inl hk))⟩
  · rw [if_pos (by omega), take_out (one_ended (.inr hk))]; exact ⟨_, rfl, fun hh => absurd hh (one_ended (.inr hk))⟩
  · rw [if_neg (by omega)]; exact ⟨_, rfl, fun _ => hs⟩
theorem take_two {E : ErS} {P : ReS} {n : Nat} (h : P.ok n) (ha : P.ans = none) (h0 : P.st ≠ 0) (hP : E.rep = some P) (m : Nat) (now : Int) : ∃ R, erTake (m + 3) E now = some R ∧ (R.state = 2 → P.shut = false) := by
  by_cases h2 : E.state = 2
  · rcases next_ways h ha with ⟨_, hh, _⟩ | ⟨hk, ht, hs⟩ | hk
    · exact absurd hh h0
    · rw [take_on h2 hP, if_pos (by omega)]; by_cases h2' : (erOne E (nextR P) now).state = 2
      · obtain ⟨R, hR, hx⟩ := take_end h2' (one_rep h2') m now (told_end ht); exact ⟨R, hR, fun hh => hs ▸ hx hh⟩
      · rw [take_out h2']; exact ⟨_, rfl, fun hh => absurd hh h2'⟩
    · exact take_end h2 hP (m + 1) now hk
  · rw [take_out h2]; exact ⟨_, rfl, fun hh => absurd hh h2⟩
theorem take_some {E : ErS} {P : ReS} {n : Nat} (h : P.ok n) (ha : P.ans = none) (hP : E.rep = some P) (now : Int) : ∃ R, erTake 5 E now = some R ∧ (R.state = 2 → P.shut = false) := by
  by_cases h2 : E.state = 2
  · rcases next_ways h ha with ⟨hk, _, h0, hs⟩ | ⟨hk, ht, hs⟩ | hk
    · rw [take_on (m := 4) h2 hP, if_pos (by omega)]; by_cases h2' : (erOne E (nextR P) now).state = 2
      · obtain ⟨R, hR, hx⟩ := take_two (nextR_ok h) (next_ans P) h0 (one_rep h2') 1 now; exact ⟨R, hR, fun hh => hs ▸ hx hh⟩
      · rw [take_out h2']; exact ⟨_, rfl, fun hh => absurd hh h2'⟩
    · rw [take_on (m := 4) h2 hP, if_pos (by omega)]; by_cases h2' : (erOne E (nextR P) now).state = 2
      · obtain ⟨R, hR, hx⟩ := take_end h2' (one_rep h2') 2 now (told_end ht); exact ⟨R, hR, fun hh => hs ▸ hx hh⟩
      · rw [take_out h2']; exact ⟨_, rfl, fun hh => absurd hh h2'⟩
    · exact take_end h2 hP 3 now hk
  · rw [take_out h2]; exact ⟨_, rfl, fun hh => absurd hh h2⟩
theorem take_live {R : ErS} {now : Int} : ∀ (N : Nat) (E : ErS), erTake N E now = some R → E.live → R.live
  | 0, _, h, _ => by simp [erTake] at h
  | N + 1, E, h, hl => by
    by_cases h2 : E.state = 2
    · obtain ⟨P, hP⟩ := hl h2; rw [take_on h2 hP] at h
      split at h
      · exact take_live N _ h (one_live _ _ _)
      · obtain rfl := Option.some.inj h; exact one_live _ _ _
    · rw [take_out h2] at h; obtain rfl := Option.some.inj h; exact hl
theorem radd_ans {P : ReS} (h : P.ans = none) (s : List UInt8) : (reAdd P s).1.ans = none := by
  unfold reAdd
  split
  · exact h
  · split
    · exact h
    · exact h
theorem hearL_some (now : Int) : ∀ (N n c : Nat) (E : ErS) (s : List UInt8), s.length < N → n + 2 * s.length ≤ 400000 → E.okR n → E.told → E.cnt c → E.live →
    ∃ F t, erHearL N E s now = some (F, t) ∧ F.okR (n + 2 * s.length) ∧ F.told ∧ F.cnt (c + 5 * s.length) ∧ F.live
  | 0, _, _, _, _, h, _, _, _, _, _ => absurd h (Nat.not_lt_zero _)
  | N + 1, n, c, E, s, hN, hn, ho, ht, hc, hl => by
    by_cases hx : s = [] ∨ E.state ≠ 2
    · unfold erHearL; rw [if_pos hx]; exact ⟨E, s, rfl, fun P hP => ok_mono (ho P hP) (by omega), ht, hc.mono (by omega), hl⟩
    · have hs : s ≠ [] := fun hh => hx (.inl hh)
      have h2 : E.state = 2 := Classical.byContradiction fun hh => hx (.inr hh)
      obtain ⟨P, hP⟩ := hl h2; have hpos : 0 < s.length := List.length_pos_iff.2 hs; have hlt : (s.take 4096).length ≤ s.length := by rw [List.length_take]; omega
      have hsum : (s.take 4096).length + (s.drop 4096).length = s.length := by rw [← List.length_append, List.take_append_drop]
      have hdl : (s.drop 4096).length < s.length := by rw [List.length_drop]; omega
      have hok1 : (reAdd P (s.take 4096)).1.ok (n + 2 * (s.take 4096).length) := reAdd_ok (ho P hP) _; have ha1 : (reAdd P (s.take 4096)).1.ans = none := radd_ans (ht P hP) _; obtain ⟨G, hG, _⟩ := take_some (E := { E with rep := some (reAdd P (s.take 4096)).1 }) hok1 ha1 rfl now; obtain ⟨g1, g2, g3⟩ := took (n := n + 2 * (s.take 4096).length) (by omega) now 5 c _ G hG (fun Q hQ => by cases hQ; exact hok1) (fun Q hQ => by cases hQ; exact ha1) hc; have g4 := take_live 5 _ hG (fun _ => ⟨_, rfl⟩); obtain ⟨F, t, f1, f2, f3, f4, f5⟩ := hearL_some now N (n + 2 * (s.take 4096).length) (c + 5) G (s.drop 4096) (by omega) (by omega) g1 g2 g3 g4; refine ⟨F, t, ?_, fun Q hQ => ok_mono (f2 Q hQ) (by omega), f3, f4.mono (by omega), f5⟩; unfold erHearL; rw [if_neg hx, hP]; simp only [hG]; exact f1
theorem hear_some {E : ErS} {n c : Nat} (s : List UInt8) (cut : Bool) (now : Int) (hn : n + 2 * s.length ≤ 400000) (ho : E.okR n) (ht : E.told) (hc : E.cnt c) (hl : E.live) :
    ∃ R, erHear E s cut now = some R ∧ R.okR (n + 2 * s.length) ∧ R.told ∧ R.cnt (c + 5 * (s.length + 1)) ∧ R.live ∧ (cut = true → R.state ≠ 2) := by
  by_cases h2 : E.state = 2
  · obtain ⟨F, t, f1, f2, f3, f4, f5⟩ := hearL_some now (s.length + 1) n c { E with last := if s = [] then E.last else now } s (Nat.lt_succ_self _) hn ho ht hc hl; by_cases hcut : cut = true ∧ F.state = 2
    · obtain ⟨P, hP⟩ := f5 hcut.2; have hok1 : (reShut P).ok (n + 2 * s.length) := ⟨(f2 P hP).wt, (f2 P hP).big, (f2 P hP).size, (f2 P hP).left, (f2 P hP).st, (f2 P hP).head, (f2 P hP).chk⟩
      obtain ⟨G, hG, hsh⟩ := take_some (E := { F with rep := some (reShut P) }) hok1 (f3 P hP) rfl now; obtain ⟨g1, g2, g3⟩ := took (n := n + 2 * s.length) hn now 5 _ _ G hG (fun Q hQ => by cases hQ; exact hok1) (fun Q hQ => by cases hQ; exact f3 P hP) f4; have g4 := take_live 5 _ hG (fun _ => ⟨_, rfl⟩); refine ⟨{ G with reuse := G.reuse && decide (t = []) }, ?_, g1, g2, g3.mono (by omega), g4, fun _ hh => absurd (hsh hh) (by exact Bool.noConfusion)⟩; unfold erHear; rw [if_neg (by simp [h2]), f1]; simp only; have : erShut F now cut = some G := by unfold erShut; rw [if_pos hcut, hP]; exact hG
      rw [this]
    · refine ⟨{ F with reuse := F.reuse && decide (t = []) }, ?_, f2, f3, f4.mono (by omega), f5, fun hh h => hcut ⟨hh, h⟩⟩; unfold erHear; rw [if_neg (by simp [h2]), f1]; simp only; have : erShut F now cut = some F := by unfold erShut; rw [if_neg hcut]
      rw [this]
  · refine ⟨E, ?_, fun P hP => ok_mono (ho P hP) (by omega), ht, hc.mono (by omega), hl, fun _ => h2⟩; unfold erHear; rw [if_pos h2]
end Go.Proofs.YtlhnjkekjbbhcaaGreatDoor
