/- Parts of the proof of ErrandTries, in order. No conditions but those that each theorem states. -/
import Derived.Test.YtlhnjkekjbbhcaaGreatDoorYErrandTries0
import Derived.Lib.SlBytesConst
import Derived.Lib.LaidTab
import Derived.Lib.ItoaNum
import Derived.Lib.ItoaLen
import Derived.Sort.Grow
import Derived.DeepKeys4
import Derived.Test.YtlhnjkekjbbhcaaGreatDoorYErrandTries18
set_option linter.unusedSimpArgs false
set_option linter.unusedVariables false
namespace Go.Proofs.YtlhnjkekjbbhcaaGreatDoor
open Go.RowKit
theorem stop_with {Q : ReS} (hq : (readR Q).2 = false) (ha : Q.ans = none) : (readR (Q.with' none [])).2 = false := by
  by_cases h0 : Q.st = 0
  · have e1 : readR Q = readHeadR Q := by unfold readR; rw [if_pos h0]
    have e2 : readR (Q.with' none []) = readHeadR (Q.with' none []) := by unfold readR; rw [if_pos (by exact h0)]
    rw [e1] at hq; rw [e2]
    have h17 : (splitM Q.inp).e = 17 := by
      by_cases hh : (splitM Q.inp).e = 17
      · exact hh
      · exfalso; unfold readHeadR at hq; rw [if_neg hh] at hq
        split at hq
        · simp at hq
        · split at hq
          · split at hq <;> simp at hq
          · split at hq <;> simp at hq
    unfold readHeadR; rw [if_pos (show (splitM (Q.with' none []).inp).e = 17 from h17)]
  · have := read_with (P := Q.with' none []) (by exact h0) none Q.dat; have e2 : (Q.with' none []).with' none (Q.dat ++ (Q.with' none []).dat) = Q := by unfold ReS.with'; cases Q; simp at ha; simp [ha]
    rw [e2] at this; rw [this] at hq; exact hq
def Told (Q : ReS) : Prop := (readR Q).2 = false ∧ Q.ans = none ∧ Q.dat = []
theorem fin_k {Q : ReS} : (reFinish Q).2 = 3 ∨ (reFinish Q).2 = 4 ∨ ((reFinish Q).2 = 0 ∧ Q.shut = false) := by
  unfold reFinish
  split
  · exact .inl rfl
  · split
    · exact .inr (.inl rfl)
    · rename_i h; simp only [Bool.or_eq_true, beq_iff_eq, not_or, Bool.not_eq_true] at h; exact .inr (.inr ⟨rfl, h.2⟩)
theorem told_end {Q : ReS} (h : Told Q) : (nextR Q).k = 3 ∨ (nextR Q).k = 4 ∨ ((nextR Q).k = 0 ∧ Q.shut = false) := by
  obtain ⟨hq, ha, hd⟩ := h; have he : reEnd Q = Q := by rw [reEnd_stop ha hq, read_false hq]
  have hn : nextR Q = ⟨(reFinish Q).1, (reFinish Q).2, ans0, []⟩ := by rw [nextR_eq, he, ha]; simp [hd]
  rw [hn]; exact fin_k
theorem next_ways {P : ReS} {n : Nat} (h : P.ok n) (ha : P.ans = none) :
    ((nextR P).k = 1 ∧ P.st = 0 ∧ (nextR P).p.st ≠ 0 ∧ (nextR P).p.shut = P.shut) ∨ ((nextR P).k = 2 ∧ Told (nextR P).p ∧ (nextR P).p.shut = P.shut) ∨ ((nextR P).k = 3 ∨ (nextR P).k = 4 ∨ ((nextR P).k = 0 ∧ P.shut = false)) := by
  have hE := reEnd_ok h; rcases end_cases h ha with ⟨he, hn⟩ | ⟨a, h1, _, h3, h4, _, h6⟩
  · have hs : (reEnd P).shut = P.shut := by rw [he]; exact reAll_shut h
    have hq : (readR (reEnd P)).2 = false := by rw [he]; exact reAll_end h
    have hn' : (reEnd P).ans = none := by rw [he]; exact hn
    by_cases hd : (reEnd P).dat = []
    · have hx : nextR P = ⟨(reFinish (reEnd P)).1, (reFinish (reEnd P)).2, ans0, []⟩ := by rw [nextR_eq, hn']; simp [hd]
      rw [hx]; have := fin_k (Q := reEnd P); rw [hs] at this; exact .inr (.inr this)
    · have hx : nextR P = ⟨(reEnd P).with' none [], 2, ans0, (reEnd P).dat⟩ := by
        rw [nextR_eq, hn']; simp only [ne_eq, hd, not_false_eq_true, if_true]; congr 1; unfold ReS.with'
        rw [← hn']
      rw [hx]; exact .inr (.inl ⟨rfl, ⟨stop_with hq hn', rfl, rfl⟩, hs⟩)
  · have hx : nextR P = ⟨{ reEnd P with ans := none }, 1, a, []⟩ := by rw [nextR_eq, h1]
    rw [hx]; have hs : (reEnd P).shut = P.shut := by rw [← reAll_shut h, h6, reAll_shut hE]
    exact .inl ⟨rfl, h4, h3, hs⟩
theorem miss_state (E : ErS) (s now : Int) : (erMiss E s now).state ≠ 2 := by
  unfold erMiss
  split
  · exact (by decide : (3 : Int) ≠ 2)
  · exact (by decide : (1 : Int) ≠ 2)
def ErS.live (E : ErS) : Prop := E.state = 2 → ∃ P, E.rep = some P
theorem one_live (E : ErS) (r : NrR) (now : Int) : (erOne E r now).live := by
  intro h; unfold erOne at h ⊢
  split
  · rename_i h1; rw [if_pos h1] at h; unfold erHead at h ⊢
    split
    · exact ⟨_, rfl⟩
    · rename_i h3; rw [if_neg h3] at h
      split
      · rename_i h2; rw [if_pos h2] at h; exact absurd h (miss_state _ _ _)
      · rename_i h2; rw [if_neg h2] at h
        split
        · exact ⟨_, rfl⟩
        · exact ⟨_, rfl⟩
  · rename_i h1; rw [if_neg h1] at h
    split
    · exact ⟨_, rfl⟩
    · rename_i h2; rw [if_neg h2] at h
      split
      · exact ⟨_, rfl⟩
      · rename_i h3; rw [if_neg h3] at h
        split
        · rename_i h4; rw [if_pos h4] at h; exact absurd h (miss_state _ _ _)
        · exact ⟨_, rfl⟩
theorem one_rep {E : ErS} {r : NrR} {now : Int} (h : (erOne E r now).state = 2) : (erOne E r now).rep = some r.p := by
  unfold erOne at h ⊢
  split
  · rename_i h1; rw [if_pos h1] at h; unfold erHead at h ⊢
    split
    · rfl
    · rename_i h3; rw [if_neg h3] at h
      split
      · rename_i h2; rw [if_pos h2] at h; exact absurd h (miss_state _ _ _)
      · rename_i h2; rw [if_neg h2] at h; exfalso
        split at h
        · exact absurd h (by decide : (3 : Int) ≠ 2)
        · exact absurd h (by decide : (3 : Int) ≠ 2)
  · rename_i h1; rw [if_neg h1] at h
    split
    · rfl
    · rename_i h2; rw [if_neg h2] at h
      split
      · rename_i h3; rw [if_pos h3] at h; exact absurd h (by decide : (3 : Int) ≠ 2)
      · rename_i h3; rw [if_neg h3] at h
        split
        · rename_i h4; rw [if_pos h4] at h; exact absurd h (miss_state _ _ _)
        · rfl
theorem one_ended {E : ErS} {r : NrR} {now : Int} (h : r.k = 3 ∨ r.k = 4) : (erOne E r now).state ≠ 2 := by
  unfold erOne; rcases h with h | h
  · rw [if_neg (by omega), if_neg (by omega), if_pos h]; exact (by decide : (3 : Int) ≠ 2)
  · rw [if_neg (by omega), if_neg (by omega), if_neg (by omega), if_pos h]; exact miss_state _ _ _
theorem take_out {E : ErS} (h : E.state ≠ 2) (m : Nat) (now : Int) : erTake (m + 1) E now = some E := by unfold erTake; rw [if_pos h]
theorem take_on {E : ErS} {P : ReS} (h : E.state = 2) (hP : E.rep = some P) (m : Nat) (now : Int) : erTake (m + 1) E now = if 1 ≤ (nextR P).k ∧ (nextR P).k ≤ 4 then erTake m (erOne E (nextR P) now) now else some (erOne E (nextR P) now) := by
  conv => lhs; unfold erTake
  rw [if_neg (by simp [h]), hP]
theorem take_end {E : ErS} {P : ReS} (h : E.state = 2) (hP : E.rep = some P) (m : Nat) (now : Int) (hk : (nextR P).k = 3 ∨ (nextR P).k = 4 ∨ ((nextR P).k = 0 ∧ P.shut = false)) : ∃ R, erTake (m + 2) E now = some R ∧ (R.state = 2 → P.shut = false) := by
  rw [take_on h hP]; rcases hk with hk | hk | ⟨hk, hs⟩
  · rw [if_pos (by omega), take_out (one_ended (.inl hk))]; exact ⟨_, rfl, fun hh => absurd hh (one_ended (.inl hk))⟩
  · rw [if_pos (by omega), take_out (one_ended (.inr hk))]; exact ⟨_, rfl, fun hh => absurd hh (one_ended (.inr hk))⟩
  · rw [if_neg (by omega)]; exact ⟨_, rfl, fun _ => hs⟩
theorem take_two {E : ErS} {P : ReS} {n : Nat} (h : P.ok n) (ha : P.ans = none) (h0 : P.st ≠ 0) (hP : E.rep = some P) (m : Nat) (now : Int) : ∃ R, erTake (m + 3) E now = some R ∧ (R.state = 2 → P.shut = false) := by
  by_cases h2 : E.state = 2
  · rcases next_ways h ha with ⟨_, hh, _⟩ | ⟨hk, ht, hs⟩ | hk
    · exact absurd hh h0
    · rw [take_on h2 hP, if_pos (by omega)]; by_cases h2' : (erOne E (nextR P) now).state = 2
      · obtain ⟨R, hR, hx⟩ := take_end h2' (one_rep h2') m now (told_end ht); exact ⟨R, hR, fun hh => hs ▸ hx hh⟩
      · rw [take_out h2']; exact ⟨_, rfl, fun hh => absurd hh h2'⟩
    · exact take_end h2 hP (m + 1) now hk
  · rw [take_out h2]; exact ⟨_, rfl, fun hh => absurd hh h2⟩
theorem take_some {E : ErS} {P : ReS} {n : Nat} (h : P.ok n) (ha : P.ans = none) (hP : E.rep = some P) (now : Int) : ∃ R, erTake 5 E now = some R ∧ (R.state = 2 → P.shut = false) := by
  by_cases h2 : E.state = 2
  · rcases next_ways h ha with ⟨hk, _, h0, hs⟩ | ⟨hk, ht, hs⟩ | hk
    · rw [take_on (m := 4) h2 hP, if_pos (by omega)]; by_cases h2' : (erOne E (nextR P) now).state = 2
      · obtain ⟨R, hR, hx⟩ := take_two (nextR_ok h) (next_ans P) h0 (one_rep h2') 1 now; exact ⟨R, hR, fun hh => hs ▸ hx hh⟩
      · rw [take_out h2']; exact ⟨_, rfl, fun hh => absurd hh h2'⟩
    · rw [take_on (m := 4) h2 hP, if_pos (by omega)]; by_cases h2' : (erOne E (nextR P) now).state = 2
      · obtain ⟨R, hR, hx⟩ := take_end h2' (one_rep h2') 2 now (told_end ht); exact ⟨R, hR, fun hh => hs ▸ hx hh⟩
      · rw [take_out h2']; exact ⟨_, rfl, fun hh => absurd hh h2'⟩
    · exact take_end h2 hP 3 now hk
  · rw [take_out h2]; exact ⟨_, rfl, fun hh => absurd hh h2⟩
theorem take_live {R : ErS} {now : Int} : ∀ (N : Nat) (E : ErS), erTake N E now = some R → E.live → R.live
  | 0, _, h, _ => by simp [erTake] at h
  | N + 1, E, h, hl => by
    by_cases h2 : E.state = 2
    · obtain ⟨P, hP⟩ := hl h2; rw [take_on h2 hP] at h
      split at h
      · exact take_live N _ h (one_live _ _ _)
      · obtain rfl := Option.some.inj h; exact one_live _ _ _
    · rw [take_out h2] at h; obtain rfl := Option.some.inj h; exact hl
theorem radd_ans {P : ReS} (h : P.ans = none) (s : List UInt8) : (reAdd P s).1.ans = none := by
  unfold reAdd
  split
  · exact h
  · split
    · exact h
    · exact h
theorem hearL_some (now : Int) : ∀ (N n c : Nat) (E : ErS) (s : List UInt8), s.length < N → n + 2 * s.length ≤ 400000 → E.okR n → E.told → E.cnt c → E.live →
    ∃ F t, erHearL N E s now = some (F, t) ∧ F.okR (n + 2 * s.length) ∧ F.told ∧ F.cnt (c + 5 * s.length) ∧ F.live
  | 0, _, _, _, _, h, _, _, _, _, _ => absurd h (Nat.not_lt_zero _)
  | N + 1, n, c, E, s, hN, hn, ho, ht, hc, hl => by
    by_cases hx : s = [] ∨ E.state ≠ 2
    · unfold erHearL; rw [if_pos hx]; exact ⟨E, s, rfl, fun P hP => ok_mono (ho P hP) (by omega), ht, hc.mono (by omega), hl⟩
    · have hs : s ≠ [] := fun hh => hx (.inl hh)
      have h2 : E.state = 2 := Classical.byContradiction fun hh => hx (.inr hh)
      obtain ⟨P, hP⟩ := hl h2; have hpos : 0 < s.length := List.length_pos_iff.2 hs; have hlt : (s.take 4096).length ≤ s.length := by rw [List.length_take]; omega
      have hsum : (s.take 4096).length + (s.drop 4096).length = s.length := by rw [← List.length_append, List.take_append_drop]
      have hdl : (s.drop 4096).length < s.length := by rw [List.length_drop]; omega
      have hok1 : (reAdd P (s.take 4096)).1.ok (n + 2 * (s.take 4096).length) := reAdd_ok (ho P hP) _; have ha1 : (reAdd P (s.take 4096)).1.ans = none := radd_ans (ht P hP) _; obtain ⟨G, hG, _⟩ := take_some (E := { E with rep := some (reAdd P (s.take 4096)).1 }) hok1 ha1 rfl now; obtain ⟨g1, g2, g3⟩ := took (n := n + 2 * (s.take 4096).length) (by omega) now 5 c _ G hG (fun Q hQ => by cases hQ; exact hok1) (fun Q hQ => by cases hQ; exact ha1) hc; have g4 := take_live 5 _ hG (fun _ => ⟨_, rfl⟩); obtain ⟨F, t, f1, f2, f3, f4, f5⟩ := hearL_some now N (n + 2 * (s.take 4096).length) (c + 5) G (s.drop 4096) (by omega) (by omega) g1 g2 g3 g4; refine ⟨F, t, ?_, fun Q hQ => ok_mono (f2 Q hQ) (by omega), f3, f4.mono (by omega), f5⟩; unfold erHearL; rw [if_neg hx, hP]; simp only [hG]; exact f1
theorem hear_some {E : ErS} {n c : Nat} (s : List UInt8) (cut : Bool) (now : Int) (hn : n + 2 * s.length ≤ 400000) (ho : E.okR n) (ht : E.told) (hc : E.cnt c) (hl : E.live) :
    ∃ R, erHear E s cut now = some R ∧ R.okR (n + 2 * s.length) ∧ R.told ∧ R.cnt (c + 5 * (s.length + 1)) ∧ R.live ∧ (cut = true → R.state ≠ 2) := by
  by_cases h2 : E.state = 2
  · obtain ⟨F, t, f1, f2, f3, f4, f5⟩ := hearL_some now (s.length + 1) n c { E with last := if s = [] then E.last else now } s (Nat.lt_succ_self _) hn ho ht hc hl; by_cases hcut : cut = true ∧ F.state = 2
    · obtain ⟨P, hP⟩ := f5 hcut.2; have hok1 : (reShut P).ok (n + 2 * s.length) := ⟨(f2 P hP).wt, (f2 P hP).big, (f2 P hP).size, (f2 P hP).left, (f2 P hP).st, (f2 P hP).head, (f2 P hP).chk⟩
      obtain ⟨G, hG, hsh⟩ := take_some (E := { F with rep := some (reShut P) }) hok1 (f3 P hP) rfl now; obtain ⟨g1, g2, g3⟩ := took (n := n + 2 * s.length) hn now 5 _ _ G hG (fun Q hQ => by cases hQ; exact hok1) (fun Q hQ => by cases hQ; exact f3 P hP) f4; have g4 := take_live 5 _ hG (fun _ => ⟨_, rfl⟩); refine ⟨{ G with reuse := G.reuse && decide (t = []) }, ?_, g1, g2, g3.mono (by omega), g4, fun _ hh => absurd (hsh hh) (by exact Bool.noConfusion)⟩; unfold erHear; rw [if_neg (by simp [h2]), f1]; simp only; have : erShut F now cut = some G := by unfold erShut; rw [if_pos hcut, hP]; exact hG
      rw [this]
    · refine ⟨{ F with reuse := F.reuse && decide (t = []) }, ?_, f2, f3, f4.mono (by omega), f5, fun hh h => hcut ⟨hh, h⟩⟩; unfold erHear; rw [if_neg (by simp [h2]), f1]; simp only; have : erShut F now cut = some F := by unfold erShut; rw [if_neg hcut]
      rw [this]
  · refine ⟨E, ?_, fun P hP => ok_mono (ho P hP) (by omega), ht, hc.mono (by omega), hl, fun _ => h2⟩; unfold erHear; rw [if_pos h2]
end Go.Proofs.YtlhnjkekjbbhcaaGreatDoor
