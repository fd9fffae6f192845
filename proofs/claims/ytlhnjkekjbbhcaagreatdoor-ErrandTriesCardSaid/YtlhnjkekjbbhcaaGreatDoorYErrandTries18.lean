/- Parts of the proof of ErrandTries, in order. No conditions but those that each theorem states. -/
import Derived.Test.YtlhnjkekjbbhcaaGreatDoorYErrandTries0
import Derived.Lib.SlBytesConst
import Derived.Lib.LaidTab
import Derived.Lib.ItoaNum
import Derived.Lib.ItoaLen
import Derived.Sort.Grow
import Derived.DeepKeys4
import Derived.Test.YtlhnjkekjbbhcaaGreatDoorYErrandTries17
set_option linter.unusedSimpArgs false
set_option linter.unusedVariables false
namespace Go.Proofs.YtlhnjkekjbbhcaaGreatDoor
open Go.RowKit
theorem ereFrame_F (P : ReS) (a : Ans) : (reFrame P a).a.F = a.F := by
  unfold reFrame
  split
  · rfl
  · split
    · rfl
    · split
      · rfl
      · split <;> rfl
theorem readHead_ans {P : ReS} {n : Nat} (hi : P.inp.length ≤ n) (ha : P.ans = none) : ∀ a, (readHeadR P).1.ans = some a → Small n a.F := by
  have hs := (split_small P.inp).1; have hs' : Small n (splitM P.inp).F := ⟨hs.1, fun x hx => ⟨Nat.le_trans (hs.2 x hx).1 hi, Nat.le_trans (hs.2 x hx).2 hi⟩⟩
  intro a; unfold readHeadR
  split
  · intro h; rw [ha] at h; cases h
  · split
    · intro h; simp only [reFail] at h; rw [ha] at h; cases h
    · split
      · split
        · intro h; simp only [reFail, headP] at h; rw [ha] at h; cases h
        · intro h; simp only [headP] at h; rw [ha] at h; cases h
      · split
        · intro h; simp only [Option.some.injEq] at h; subst h; rw [ereFrame_F]; exact hs'
        · intro h; simp only [reFail, headP] at h; rw [ha] at h; cases h
theorem eread_ans {P : ReS} {n : Nat} (h : P.ok n) (ha : P.ans = none) : ∀ a, (readR P).1.ans = some a → Small n a.F := by
  have hw := h.wt; unfold ReS.wt at hw; unfold readR
  split
  · exact readHead_ans (by omega) ha
  · split
    · unfold readChunksR
      split
      · intro a hh; rw [ha] at hh; cases hh
      · split
        · intro a hh; rw [ha] at hh; cases hh
        · split
          · intro a hh; simp only [reFail] at hh; rw [ha] at hh; cases hh
          · split
            · intro a hh; simp only at hh; rw [ha] at hh; cases hh
            · intro a hh; simp only at hh; rw [ha] at hh; cases hh
    · split
      · unfold readLengthR
        split
        · intro a hh; simp only at hh; rw [ha] at hh; cases hh
        · intro a hh; simp only at hh; rw [ha] at hh; cases hh
      · split
        · unfold readCloseR
          split
          · intro a hh; simp only [reFail, closeP] at hh; rw [ha] at hh; cases hh
          · split
            · intro a hh; simp only [closeP] at hh; rw [ha] at hh; cases hh
            · intro a hh; simp only [closeP] at hh; rw [ha] at hh; cases hh
        · intro a hh; rw [ha] at hh; cases hh
theorem loop_ans {n : Nat} : ∀ (i : Nat) (P : ReS), P.ok n → P.ans = none → ∀ a, (reLoop i P).ans = some a → Small n a.F
  | 0, P, _, ha, a, h => by unfold reLoop at h; rw [ha] at h; cases h
  | i + 1, P, hP, ha, a, h => by
    unfold reLoop at h; rw [if_neg (by simp [ha])] at h
    split at h
    · cases hx : (readR P).1.ans with
      | none => exact loop_ans i _ (read_ok hP).1 hx a h
      | some y =>
        have hl : reLoop i (readR P).1 = (readR P).1 := by
          cases i with
          | zero => rfl
          | succ i => unfold reLoop; rw [if_pos (by simp [hx])]
        rw [hl] at h; exact eread_ans hP ha a h
    · exact eread_ans hP ha a h
theorem next_small {P : ReS} {n : Nat} (h : P.ok n) (ha : P.ans = none) : Small n (nextR P).a.F := by
  have hl := loop_ans (P.inp.length + 2) P h ha; rw [nextR_eq]; unfold reEnd
  split
  · rename_i a hh; exact hl a hh
  · split
    · exact ⟨Nat.zero_le _, fun x hx => by cases hx⟩
    · exact ⟨Nat.zero_le _, fun x hx => by cases hx⟩
theorem next_ans (P : ReS) : (nextR P).p.ans = none := by
  rw [nextR_eq]
  split
  · rfl
  · rename_i hh
    split
    · exact hh
    · unfold reFinish
      split
      · exact hh
      · split
        · exact hh
        · exact hh
theorem next_s {Q : ReS} {n : Nat} (h : Q.ok n) : (nextR Q).s.length ≤ n := by
  have hE := (reEnd_ok h).wt; have h2 : (reEnd Q).dat.length ≤ n := by unfold ReS.wt at hE; omega
  rw [nextR_eq]
  split
  · simp
  · split
    · exact h2
    · simp
def ErS.told (E : ErS) : Prop := ∀ P, E.rep = some P → P.ans = none
def cntOf (m s h : Int) (d : Nat) (z : Int) (b c : Nat) : Prop := (0 ≤ m ∧ m ≤ c) ∧ (0 ≤ s ∧ s ≤ c) ∧ (0 ≤ h ∧ h ≤ c) ∧ d ≤ c * 400000 ∧ (0 ≤ z ∧ z ≤ c * 400000) ∧ b < 18446744073709551616
theorem cntOf.up {m s h m' s' h' : Int} {d d' : Nat} {z z' : Int} {b c : Nat} (H : cntOf m s h d z b c) (hm : m ≤ m' ∧ m' ≤ m + 1) (hs : s ≤ s' ∧ s' ≤ s + 1) (hh : h ≤ h' ∧ h' ≤ h + 1) (hd : d' ≤ d + 400000) (hz : z ≤ z' ∧ z' ≤ z + 400000) : cntOf m' s' h' d' z' b (c + 1) := by
  obtain ⟨h1, h2, h3, h4, h5, h6⟩ := H; refine ⟨⟨?_, ?_⟩, ⟨?_, ?_⟩, ⟨?_, ?_⟩, ?_, ⟨?_, ?_⟩, h6⟩ <;> omega
def ErS.cnt (E : ErS) (c : Nat) : Prop := cntOf E.misses E.silent E.heard E.data.length E.size E.cfg.bo c
theorem cntOf.mono1 {m s h : Int} {d : Nat} {z : Int} {b c : Nat} (H : cntOf m s h d z b c) : cntOf m s h d z b (c + 1) :=
  H.up ⟨Int.le_refl _, by omega⟩ ⟨Int.le_refl _, by omega⟩ ⟨Int.le_refl _, by omega⟩ (by omega) ⟨Int.le_refl _, by omega⟩
theorem cntOf.mono {m s h : Int} {d : Nat} {z : Int} {b c : Nat} (H : cntOf m s h d z b c) : ∀ k : Nat, cntOf m s h d z b (c + k)
  | 0 => H
  | k + 1 => (H.mono k).mono1
theorem ErS.cnt.mono {E : ErS} {c d : Nat} (h : E.cnt c) (hd : c ≤ d) : E.cnt d := by
  obtain ⟨k, rfl⟩ := Nat.exists_eq_add_of_le hd; exact cntOf.mono h k
theorem miss_cnt {E : ErS} {m s h : Int} {d : Nat} {z : Int} {c : Nat} (H : cntOf m s h d z E.cfg.bo c) (hm : E.misses = m) (hs : s ≤ E.silent ∧ E.silent ≤ s + 1) (hh : h ≤ E.heard ∧ E.heard ≤ h + 1) (hd : E.data.length = d) (hz : E.size = z) (st now : Int) : (erMiss E st now).cnt (c + 1) := by
  have key : cntOf (E.misses + 1) E.silent E.heard E.data.length E.size E.cfg.bo (c + 1) := by
    rw [hm, hd, hz]; exact H.up ⟨by omega, Int.le_refl _⟩ hs hh (by omega) ⟨Int.le_refl _, by omega⟩
  unfold erMiss
  split <;> exact key
theorem miss_rep (E : ErS) (s now : Int) : (erMiss E s now).rep = E.rep := by unfold erMiss; split <;> rfl
theorem one_cnt {E : ErS} {c : Nat} (h : E.cnt c) (r : NrR) (hr : r.s.length ≤ 400000) (now : Int) : (erOne E r now).cnt (c + 1) := by
  have H : cntOf E.misses E.silent E.heard E.data.length E.size E.cfg.bo c := h; have same : ∀ x : Int, x ≤ x ∧ x ≤ x + 1 := fun x => ⟨Int.le_refl _, by omega⟩
  have more : ∀ x : Int, x ≤ x + 1 ∧ x + 1 ≤ x + 1 := fun x => ⟨by omega, Int.le_refl _⟩
  have samez : ∀ x : Int, x ≤ x ∧ x ≤ x + 400000 := fun x => ⟨Int.le_refl _, by omega⟩
  have k0 : cntOf E.misses E.silent E.heard E.data.length E.size E.cfg.bo (c + 1) := H.up (same _) (same _) (same _) (by omega) (samez _); have k1 : cntOf E.misses E.silent (E.heard + 1) E.data.length E.size E.cfg.bo (c + 1) := H.up (same _) (same _) (more _) (by omega) (samez _); unfold erOne
  split
  · unfold erHead
    split
    · exact k0
    · split
      · exact miss_cnt (E := { E with rep := some r.p, head := r.a, heard := E.heard + 1 }) H rfl (same _) (more _) rfl rfl _ _
      · split
        · exact k1
        · exact k1
  · split
    · have k2 : cntOf E.misses E.silent E.heard (E.data ++ r.s).length (E.size + (r.s.length : Nat)) E.cfg.bo (c + 1) := H.up (same _) (same _) (same _) (by rw [List.length_append]; omega) ⟨by omega, by omega⟩; exact k2
    · split
      · exact k1
      · split
        · exact miss_cnt (E := { E with rep := some r.p, silent := E.silent + 1 }) H rfl (more _) (same _) rfl rfl _ _
        · exact k0
theorem one_told (E : ErS) (P : ReS) (now : Int) : (erOne E (nextR P) now).told := by
  have hp := next_ans P; intro Q hQ; unfold erOne at hQ
  split at hQ
  · unfold erHead at hQ
    split at hQ
    · cases hQ; exact hp
    · split at hQ
      · rw [miss_rep] at hQ; cases hQ; exact hp
      · split at hQ
        · cases hQ; exact next_ans _
        · cases hQ; exact hp
  · split at hQ
    · cases hQ; exact hp
    · split at hQ
      · cases hQ; exact hp
      · split at hQ
        · rw [miss_rep] at hQ; cases hQ; exact hp
        · cases hQ; exact hp
def ErS.okR (E : ErS) (n : Nat) : Prop := ∀ P, E.rep = some P → P.ok n
theorem one_okR {E : ErS} {P : ReS} {n : Nat} (h : P.ok n) (now : Int) : (erOne E (nextR P) now).okR n := by
  have hp := nextR_ok h; intro Q hQ; unfold erOne at hQ
  split at hQ
  · unfold erHead at hQ
    split at hQ
    · cases hQ; exact hp
    · split at hQ
      · rw [miss_rep] at hQ; cases hQ; exact hp
      · split at hQ
        · cases hQ; exact nextR_ok hp
        · cases hQ; exact hp
  · split at hQ
    · cases hQ; exact hp
    · split at hQ
      · cases hQ; exact hp
      · split at hQ
        · rw [miss_rep] at hQ; cases hQ; exact hp
        · cases hQ; exact hp
theorem took {n : Nat} (hn : n ≤ 400000) (now : Int) : ∀ (N c : Nat) (E R : ErS), erTake N E now = some R → E.okR n → E.told → E.cnt c → R.okR n ∧ R.told ∧ R.cnt (c + N)
  | 0, c, E, R, h, _, _, _ => by simp [erTake] at h
  | N + 1, c, E, R, h, ho, ht, hc => by
    unfold erTake at h
    split at h
    · cases h; exact ⟨ho, ht, hc.mono (by omega)⟩
    · cases hP : E.rep with
      | none => rw [hP] at h; cases h
      | some P =>
        rw [hP] at h; simp only at h; have h1 := one_okR (E := E) (ho P hP) now; have h2 := one_told E P now; have h3 := one_cnt hc (nextR P) (Nat.le_trans (next_s (ho P hP)) hn) now
        split at h
        · have h4 := took hn now N (c + 1) _ R h h1 h2 h3; exact ⟨h4.1, h4.2.1, h4.2.2.mono (by omega)⟩
        · cases h; exact ⟨h1, h2, h3.mono (by omega)⟩
theorem hear_no {E R : ErS} {s : List UInt8} {cut : Bool} {now : Int} (h : E.state ≠ 2) (hE : erHear E s cut now = some R) : E = R := by
  unfold erHear at hE; rw [if_pos h] at hE; exact Option.some.inj hE
def erHeard (E : ErS) (s : List UInt8) (now : Int) : ErS := { E with last := if s = [] then E.last else now }
theorem hear_yes {E R : ErS} {s : List UInt8} {cut : Bool} {now : Int} (h : E.state = 2) (hE : erHear E s cut now = some R) : ∃ F t G, erHearL (s.length + 1) (erHeard E s now) s now = some (F, t) ∧ erShut F now cut = some G ∧ R = { G with reuse := G.reuse && decide (t = []) } := by
  unfold erHear at hE; rw [if_neg (by simp [h])] at hE; unfold erHeard
  cases hL : erHearL (s.length + 1) { E with last := if s = [] then E.last else now } s now with
  | none => rw [hL] at hE; cases hE
  | some x =>
    obtain ⟨F, t⟩ := x; rw [hL] at hE; simp only at hE
    cases hS : erShut F now cut with
    | none => rw [hS] at hE; cases hE
    | some G =>
      rw [hS] at hE; simp only at hE; exact ⟨F, t, G, rfl, hS, (Option.some.inj hE).symm⟩
theorem hearL_stop {N : Nat} {E F : ErS} {s t : List UInt8} {now : Int} (h : s = [] ∨ E.state ≠ 2) (hE : erHearL N E s now = some (F, t)) : E = F ∧ s = t := by
  cases N with
  | zero => simp [erHearL] at hE
  | succ N =>
    unfold erHearL at hE; rw [if_pos h] at hE; have := Option.some.inj hE; exact ⟨congrArg Prod.fst this, congrArg Prod.snd this⟩
theorem hearL_more {N : Nat} {E F : ErS} {s t : List UInt8} {now : Int} (hs : s ≠ []) (h : E.state = 2) (hE : erHearL N E s now = some (F, t)) : ∃ m P G, N = m + 1 ∧ E.rep = some P ∧ erTake 5 { E with rep := some (reAdd P (s.take 4096)).1 } now = some G ∧ erHearL m G (s.drop 4096) now = some (F, t) := by
  cases N with
  | zero => simp [erHearL] at hE
  | succ N =>
    unfold erHearL at hE; rw [if_neg (by rintro (h1 | h1); exact hs h1; exact h1 h)] at hE
    cases hP : E.rep with
    | none => rw [hP] at hE; cases hE
    | some P =>
      rw [hP] at hE; simp only at hE
      cases hT : erTake 5 { E with rep := some (reAdd P (s.take 4096)).1 } now with
      | none => rw [hT] at hE; cases hE
      | some G =>
        rw [hT] at hE; exact ⟨N, P, G, rfl, rfl, hT, hE⟩
theorem shut_no {F G : ErS} {now : Int} {cut : Bool} (h : ¬ (cut = true ∧ F.state = 2)) (hS : erShut F now cut = some G) : F = G := by
  unfold erShut at hS; rw [if_neg h] at hS; exact Option.some.inj hS
theorem shut_yes {F G : ErS} {now : Int} {cut : Bool} (h : cut = true ∧ F.state = 2) (hS : erShut F now cut = some G) : ∃ P, F.rep = some P ∧ erTake 5 { F with rep := some (reShut P) } now = some G := by
  unfold erShut at hS; rw [if_pos h] at hS
  cases hP : F.rep with
  | none => rw [hP] at hS; cases hS
  | some P => rw [hP] at hS; exact ⟨P, rfl, hS⟩
theorem take_min (s : List UInt8) : s.take (min s.length 4096) = s.take 4096 ∧ s.drop (min s.length 4096) = s.drop 4096 := by
  rcases Nat.le_total s.length 4096 with h | h
  · rw [Nat.min_eq_left h, List.take_length, List.drop_length, List.take_of_length_le h, List.drop_of_length_le h]; exact ⟨rfl, rfl⟩
  · rw [Nat.min_eq_right h]; exact ⟨rfl, rfl⟩
end Go.Proofs.YtlhnjkekjbbhcaaGreatDoor
namespace Go.Proofs.YtlhnjkekjbbhcaaGreatDoor
open Go.RowKit Go.Shelf
def q1 : List UInt8 := [98, 121, 116, 101, 115, 61, 50, 45, 52]
def q2 : List UInt8 := [98, 121, 116, 101, 115, 61, 45, 51]
def q3 : List UInt8 := [98, 121, 116, 101, 115, 61, 49, 48, 45]
def q4 : List UInt8 := [98, 121, 116, 101, 115, 61, 49, 45, 50, 44, 52, 45, 53]
end Go.Proofs.YtlhnjkekjbbhcaaGreatDoor
namespace Go.Proofs.YtlhnjkekjbbhcaaGreatDoor
open Go.RowKit
def reRun : Nat → ReS → ReS
  | 0, p => p
  | n + 1, p => if (readR p).2 then reRun n (readR p).1 else (readR p).1
def reAll (P : ReS) : ReS := reRun (P.inp.length + 2) P
theorem read_shut (P : ReS) : (readR P).1.shut = P.shut := by
  unfold readR
  split
  · unfold readHeadR
    have hf : ∀ a, (reFrame (headP P) a).p.shut = P.shut := fun a => by
      unfold reFrame
      split
      · rfl
      · split
        · rfl
        · split
          · rfl
          · split <;> rfl
    split
    · rfl
    · split
      · rfl
      · split
        · split <;> rfl
        · split
          · exact hf _
          · rfl
  · split
    · unfold readChunksR
      split
      · rfl
      · split
        · rfl
        · split
          · rfl
          · split <;> rfl
    · split
      · unfold readLengthR
        split <;> rfl
      · split
        · unfold readCloseR
          split
          · rfl
          · split <;> rfl
        · rfl
theorem length_same (P : ReS) : ({ P with dat := P.dat ++ P.inp.take 0, inp := P.inp.drop 0, left := P.left - 0 } : ReS) = P := by cases P; simp
theorem close_same {P : ReS} (h : min (P.most - P.size) P.inp.length = 0) : closeP P = P := by unfold closeP; rw [h]; cases P; simp
theorem read_false {P : ReS} (h : (readR P).2 = false) : (readR P).1 = P := by
  unfold readR at h ⊢
  split
  · rename_i h0; rw [if_pos h0] at h; unfold readHeadR at h ⊢
    split
    · rfl
    · rename_i h1; rw [if_neg h1] at h
      split
      · rename_i h2; rw [if_pos h2] at h; simp at h
      · rename_i h2; rw [if_neg h2] at h
        split
        · rename_i h3; rw [if_pos h3] at h
          split at h <;> simp at h
        · rename_i h3; rw [if_neg h3] at h
          split at h <;> simp at h
  · rename_i h0; rw [if_neg h0] at h
    split
    · rename_i h1; rw [if_pos h1] at h; unfold readChunksR at h ⊢
      split
      · rfl
      · rename_i c hc; rw [hc] at h; dsimp only at h
        split
        · rfl
        · rename_i h2; rw [if_neg h2] at h
          split at h
          · simp at h
          · split at h <;> simp at h
    · rename_i h1; rw [if_neg h1] at h
      split
      · rename_i h2; rw [if_pos h2] at h; unfold readLengthR at h ⊢
        split
        · rename_i h3; rw [if_pos h3] at h; simp at h
        · rename_i h3; rw [if_neg h3] at h; have h4 : min P.left P.inp.length = 0 := by simpa using h
          rw [h4]; exact length_same P
      · rename_i h2; rw [if_neg h2] at h
        split
        · rename_i h3; rw [if_pos h3] at h; unfold readCloseR at h ⊢
          split
          · rename_i h4; rw [if_pos h4] at h; simp at h
          · rename_i h4; rw [if_neg h4] at h
            split
            · rename_i h5; rw [if_pos h5] at h; simp at h
            · rename_i h5; rw [if_neg h5] at h; exact close_same (by simpa using h)
        · rfl
theorem reRun_fuel {n : Nat} : ∀ (i j : Nat) (P : ReS), P.ok n → P.mu < i → P.mu < j → reRun i P = reRun j P
  | 0, _, _, _, h, _ => absurd h (by omega)
  | _ + 1, 0, _, _, _, h => absurd h (by omega)
  | i + 1, j + 1, P, hP, hi, hj => by
    unfold reRun
    split
    · rename_i h2; have := (read_ok hP).2 h2; exact reRun_fuel i j _ (read_ok hP).1 (by omega) (by omega)
    · rfl
theorem reAll_read {P : ReS} {n : Nat} (hP : P.ok n) : reAll P = reAll (readR P).1 := by
  have hm := mu_lt P
  cases h2 : (readR P).2 with
  | false => rw [read_false h2]
  | true =>
    have hr := read_ok hP; have hlt := hr.2 h2; have e1 : reAll P = reRun (P.inp.length + 1) (readR P).1 := by unfold reAll; rw [reRun, if_pos h2]
    rw [e1]; exact reRun_fuel _ _ _ hr.1 (by omega) (mu_lt _)
theorem reAll_stop {P : ReS} (h : (readR P).2 = false) : reAll P = P := by
  unfold reAll; rw [reRun, if_neg (by simp [h])]; exact read_false h
theorem re_ind {n : Nat} {C : ReS → Prop} (hs : ∀ P, P.ok n → (readR P).2 = false → C P) (hm : ∀ P, P.ok n → (readR P).2 = true → C (readR P).1 → C P) : ∀ P, P.ok n → C P := by
  have : ∀ (m : Nat) (P : ReS), P.ok n → P.mu ≤ m → C P := by
    intro m
    induction m with
    | zero =>
      intro P hP h0
      cases h2 : (readR P).2 with
      | false => exact hs P hP h2
      | true => have := (read_ok hP).2 h2; omega
    | succ m ih =>
      intro P hP h0
      cases h2 : (readR P).2 with
      | false => exact hs P hP h2
      | true => have := (read_ok hP).2 h2; exact hm P hP h2 (ih _ (read_ok hP).1 (by omega))
  exact fun P hP => this P.mu P hP (Nat.le_refl _)
theorem reAll_end {P : ReS} {n : Nat} (h : P.ok n) : (readR (reAll P)).2 = false := by
  refine re_ind (n := n) (C := fun P => (readR (reAll P)).2 = false) ?_ ?_ P h
  · intro P _ h2; rw [reAll_stop h2]; exact h2
  · intro P hP _ ih; rw [reAll_read hP]; exact ih
theorem reAll_shut {P : ReS} {n : Nat} (h : P.ok n) : (reAll P).shut = P.shut := by
  refine re_ind (n := n) (C := fun P => (reAll P).shut = P.shut) ?_ ?_ P h
  · intro P _ h2; rw [reAll_stop h2]
  · intro P hP _ ih; rw [reAll_read hP, ih, read_shut]
theorem read5 {P : ReS} (h : 4 ≤ P.st) : readR P = (P, false) := by unfold readR; rw [if_neg (by omega), if_neg (by omega), if_neg (by omega), if_neg (by omega)]
def lenA (P : ReS) (n : Nat) : ReS := { P with dat := P.dat ++ P.inp.take n, inp := P.inp.drop n, left := 0, st := 4 }
def lenB (P : ReS) (n : Nat) : ReS := { P with dat := P.dat ++ P.inp.take n, inp := P.inp.drop n, left := P.left - n }
theorem lengthR_eq (P : ReS) : readLengthR P = if P.left - min P.left P.inp.length = 0 then (lenA P (min P.left P.inp.length), true) else (lenB P (min P.left P.inp.length), decide (0 < min P.left P.inp.length)) := rfl
def chA (P : ReS) (c d : Ck) : ReS := reFail { P with inp := [], dat := P.dat ++ d.dat.drop c.dat.length, chk := some d }
def chB (P : ReS) (c d : Ck) : ReS := { P with inp := d.inp, dat := P.dat ++ d.dat.drop c.dat.length, chk := some d, st := 4 }
def chC (P : ReS) (c d : Ck) : ReS := { P with inp := [], dat := P.dat ++ d.dat.drop c.dat.length, chk := some d }
theorem chunksR_eq {Q : ReS} {c : Ck} (hq : Q.chk = some c) (hi : Q.inp ≠ []) : readChunksR Q = if (addC c Q.inp).err ≠ 0 then (chA Q c (addC c Q.inp), true) else if (addC c Q.inp).st = 4 then (chB Q c (addC c Q.inp), true) else (chC Q c (addC c Q.inp), true) := by
  unfold readChunksR; rw [hq]; dsimp only; rw [if_neg hi]; rfl
def ReS.with' (P : ReS) (a : Option Ans) (d : List UInt8) : ReS := { P with ans := a, dat := d }
theorem length_with (P : ReS) (a : Option Ans) (d : List UInt8) : readLengthR (P.with' a (d ++ P.dat)) = ((readLengthR P).1.with' a (d ++ (readLengthR P).1.dat), (readLengthR P).2) := by
  rw [lengthR_eq, lengthR_eq P]; show (if P.left - min P.left P.inp.length = 0 then (lenA (P.with' a (d ++ P.dat)) (min P.left P.inp.length), true) else (lenB (P.with' a (d ++ P.dat)) (min P.left P.inp.length), decide (0 < min P.left P.inp.length))) = _; have e1 : lenA (P.with' a (d ++ P.dat)) (min P.left P.inp.length) = (lenA P (min P.left P.inp.length)).with' a (d ++ (lenA P (min P.left P.inp.length)).dat) := by unfold lenA ReS.with'; simp
  have e2 : lenB (P.with' a (d ++ P.dat)) (min P.left P.inp.length) = (lenB P (min P.left P.inp.length)).with' a (d ++ (lenB P (min P.left P.inp.length)).dat) := by unfold lenB ReS.with'; simp
  rw [e1, e2]
  split <;> rfl
theorem close_with (P : ReS) (a : Option Ans) (d : List UInt8) : readCloseR (P.with' a (d ++ P.dat)) = ((readCloseR P).1.with' a (d ++ (readCloseR P).1.dat), (readCloseR P).2) := by
  have c1 : closeP (P.with' a (d ++ P.dat)) = (closeP P).with' a (d ++ (closeP P).dat) := by unfold closeP ReS.with'; simp
  unfold readCloseR; rw [c1]; show (if (closeP P).inp ≠ [] then (reFail ((closeP P).with' a (d ++ (closeP P).dat)), true) else if P.shut then ({ (closeP P).with' a (d ++ (closeP P).dat) with st := 4 }, true) else ((closeP P).with' a (d ++ (closeP P).dat), decide (0 < min (P.most - P.size) P.inp.length))) = _
  split
  · rfl
  · split <;> rfl
theorem chunks_with (P : ReS) (a : Option Ans) (d : List UInt8) : readChunksR (P.with' a (d ++ P.dat)) = ((readChunksR P).1.with' a (d ++ (readChunksR P).1.dat), (readChunksR P).2) := by
  have hc : (P.with' a (d ++ P.dat)).chk = P.chk := rfl; have hi : (P.with' a (d ++ P.dat)).inp = P.inp := rfl
  cases hk : P.chk with
  | none => unfold readChunksR; rw [hc, hk]
  | some c =>
    by_cases h0 : P.inp = []
    · unfold readChunksR; rw [hc, hk]; dsimp only; rw [hi, if_pos h0, if_pos h0]
    · rw [chunksR_eq (hc.trans hk) (by rw [hi]; exact h0), chunksR_eq hk h0, hi]; have e1 : ∀ y, chA (P.with' a (d ++ P.dat)) c y = (chA P c y).with' a (d ++ (chA P c y).dat) := fun y => by unfold chA reFail ReS.with'; simp
      have e2 : ∀ y, chB (P.with' a (d ++ P.dat)) c y = (chB P c y).with' a (d ++ (chB P c y).dat) := fun y => by unfold chB ReS.with'; simp
      have e3 : ∀ y, chC (P.with' a (d ++ P.dat)) c y = (chC P c y).with' a (d ++ (chC P c y).dat) := fun y => by unfold chC ReS.with'; simp
      rw [e1, e2, e3]
      split
      · rfl
      · split <;> rfl
theorem read_with {P : ReS} (h : P.st ≠ 0) (a : Option Ans) (d : List UInt8) : readR (P.with' a (d ++ P.dat)) = ((readR P).1.with' a (d ++ (readR P).1.dat), (readR P).2) := by
  unfold readR; have hst : (P.with' a (d ++ P.dat)).st = P.st := rfl; rw [hst, if_neg h, if_neg h]
  split
  · exact chunks_with P a d
  · split
    · exact length_with P a d
    · split
      · exact close_with P a d
      · rfl
theorem read_st0 {P : ReS} (h : P.st ≠ 0) : (readR P).1.st ≠ 0 := by
  unfold readR; rw [if_neg h]
  split
  · unfold readChunksR
    split
    · exact h
    · split
      · exact h
      · split
        · exact fun hh => absurd (show (5 : Nat) = 0 from hh) (by decide)
        · split
          · exact fun hh => absurd (show (4 : Nat) = 0 from hh) (by decide)
          · exact h
  · split
    · unfold readLengthR
      split
      · exact fun hh => absurd (show (4 : Nat) = 0 from hh) (by decide)
      · exact h
    · split
      · unfold readCloseR
        split
        · exact fun hh => absurd (show (5 : Nat) = 0 from hh) (by decide)
        · split
          · exact fun hh => absurd (show (4 : Nat) = 0 from hh) (by decide)
          · exact h
      · exact h
theorem read_ans {P : ReS} (h : P.st ≠ 0) : (readR P).1.ans = P.ans := by
  unfold readR; rw [if_neg h]
  split
  · unfold readChunksR
    split
    · rfl
    · split
      · rfl
      · split
        · rfl
        · split <;> rfl
  · split
    · unfold readLengthR
      split <;> rfl
    · split
      · unfold readCloseR
        split
        · rfl
        · split <;> rfl
      · rfl
theorem head_step {P : ReS} (h0 : P.st = 0) (ha : P.ans = none) (h2 : (readR P).2 = true) : (readR P).1.dat = P.dat ∧ ((readR P).1.st = 0 ∧ (readR P).1.ans = none ∨ (readR P).1.st = 5 ∧ (readR P).1.ans = none ∨ ∃ a, (readR P).1.ans = some a ∧ (readR P).1.st ≠ 0 ∧ 200 ≤ a.st) := by
  have e1 : readR P = readHeadR P := by unfold readR; rw [if_pos h0]
  rw [e1] at h2 ⊢; unfold readHeadR at h2 ⊢
  split
  · rename_i h1; rw [if_pos h1] at h2; simp at h2
  · split
    · exact ⟨rfl, .inr (.inl ⟨rfl, ha⟩)⟩
    · split
      · split
        · exact ⟨rfl, .inr (.inl ⟨rfl, ha⟩)⟩
        · exact ⟨rfl, .inl ⟨h0, ha⟩⟩
      · rename_i h3
        split
        · rename_i h4; have hs := reFrame_st h4; refine ⟨(reFrame_inp (headP P) (headA P)).2.1, .inr (.inr ⟨_, rfl, ?_, ?_⟩)⟩
          · show (reFrame (headP P) (headA P)).p.st ≠ 0; omega
          · have hx : (reFrame (headP P) (headA P)).a.st = (headA P).st := by
              unfold reFrame
              split
              · rfl
              · split
                · rfl
                · split
                  · rfl
                  · split <;> rfl
            rw [hx]; show 200 ≤ (slM (splitM P.inp).st).n; omega
        · exact ⟨rfl, .inr (.inl ⟨rfl, ha⟩)⟩
theorem end_cases {P : ReS} {n : Nat} (h : P.ok n) (ha : P.ans = none) :
    (reEnd P = reAll P ∧ (reAll P).ans = none) ∨ (∃ a, (reEnd P).ans = some a ∧ 200 ≤ a.st ∧ (reEnd P).st ≠ 0 ∧ P.st = 0 ∧ (reEnd P).dat = P.dat ∧ reAll P = reAll (reEnd P)) := by
  refine re_ind (n := n) (C := fun P => P.ans = none → (reEnd P = reAll P ∧ (reAll P).ans = none) ∨ (∃ a, (reEnd P).ans = some a ∧ 200 ≤ a.st ∧ (reEnd P).st ≠ 0 ∧ P.st = 0 ∧ (reEnd P).dat = P.dat ∧ reAll P = reAll (reEnd P))) ?_ ?_ P h ha
  · intro P _ h2 ha; have hf := read_false h2; exact .inl ⟨by rw [reEnd_stop ha h2, reAll_stop h2, hf], by rw [reAll_stop h2]; exact ha⟩
  · intro P hP h2 ih ha; rw [reEnd_more hP ha h2, reAll_read hP]; by_cases h0 : P.st = 0
    · obtain ⟨hd, hx⟩ := head_step h0 ha h2; rcases hx with ⟨x1, x2⟩ | ⟨x1, x2⟩ | ⟨a, x1, x2, x3⟩
      · rcases ih x2 with hh | ⟨a, y1, y2, y3, y4, y5, y6⟩
        · exact .inl hh
        · exact .inr ⟨a, y1, y2, y3, h0, y5.trans hd, y6⟩
      · rcases ih x2 with hh | ⟨a, y1, y2, y3, y4, y5, y6⟩
        · exact .inl hh
        · exact absurd (x1.symm.trans y4) (by decide)
      · right; have he : reEnd (readR P).1 = (readR P).1 := reEnd_some (by rw [x1]; rfl); rw [he]; exact ⟨a, x1, x3, x2, h0, hd, rfl⟩
    · have x2 : (readR P).1.ans = none := (read_ans h0).trans ha; rcases ih x2 with hh | ⟨a, y1, y2, y3, y4, y5, y6⟩
      · exact .inl hh
      · exact absurd y4 (read_st0 h0)
theorem finish_k (P : ReS) : (reFinish P).2 = 3 ∨ (reFinish P).2 = 4 ∨ (reFinish P).2 = 0 := by
  unfold reFinish
  split
  · exact .inl rfl
  · split
    · exact .inr (.inl rfl)
    · exact .inr (.inr rfl)
end Go.Proofs.YtlhnjkekjbbhcaaGreatDoor
