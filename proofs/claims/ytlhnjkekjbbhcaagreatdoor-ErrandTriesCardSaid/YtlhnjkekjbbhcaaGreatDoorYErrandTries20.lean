/- Parts of the proof of ErrandTries, in order. No conditions but those that each theorem states. -/
import Derived.Test.YtlhnjkekjbbhcaaGreatDoorYErrandTries0
import Derived.Lib.SlBytesConst
import Derived.Lib.LaidTab
import Derived.Lib.ItoaNum
import Derived.Lib.ItoaLen
import Derived.Sort.Grow
import Derived.DeepKeys4
import Derived.Test.YtlhnjkekjbbhcaaGreatDoorYErrandTries19
set_option linter.unusedSimpArgs false
set_option linter.unusedVariables false
namespace Go.Proofs.YtlhnjkekjbbhcaaGreatDoor
open Go.RowKit
structure Tinv (k : Ky) (c : Cf) (t : Tk) (E : ErS) : Prop where
  key : E.key = k
  cfg : E.cfg = c
  known : E.known = t
  pos : 0 ≤ E.misses ∧ 0 ≤ E.silent ∧ 0 ≤ E.heard ∧ E.silent ≤ E.misses
  way : (E.state = 1 ∧ E.res = rs0 ∧ E.misses = E.tries ∧ E.silent + E.heard ≤ E.tries ∧ E.tries ≤ c.re) ∨
    (E.state = 2 ∧ E.res = rs0 ∧ E.misses + 1 = E.tries ∧ E.silent + E.heard ≤ E.misses ∧ E.tries ≤ c.re + 1) ∨
    (E.state = 3 ∧ E.res.status ≠ 0 ∧ E.misses ≤ E.tries ∧ E.silent + E.heard ≤ E.tries ∧ E.tries ≤ c.re + 1)
section
variable {k : Ky} {c : Cf} {t : Tk} {E R : ErS}
theorem tinv_new (k : Ky) (c : Cf) (t : Tk) (h : 0 ≤ c.re) : Tinv k c t (erNew k c t) :=
  ⟨rfl, rfl, rfl, ⟨Int.le_refl 0, Int.le_refl 0, Int.le_refl 0, Int.le_refl 0⟩, .inl ⟨rfl, rfl, rfl, Int.le_refl 0, h⟩⟩
theorem tinv_begin (h : Tinv k c t E) (h1 : E.state = 1) (now : Int) : Tinv k c t (erBegin E now) := by
  obtain ⟨a, b, d, e, w⟩ := h; refine ⟨a, b, d, e, .inr (.inl ?_)⟩; rcases w with ⟨_, w2, w3, w4, w5⟩ | ⟨w1, _⟩ | ⟨w1, _⟩
  · refine ⟨rfl, w2, ?_, ?_, ?_⟩
    · show E.misses + 1 = E.tries + 1; omega
    · show E.silent + E.heard ≤ E.misses; omega
    · show E.tries + 1 ≤ c.re + 1; omega
  · omega
  · omega
theorem tinv_fin {r : Rs} (hk : E.key = k) (hc : E.cfg = c) (ht : E.known = t) (p : 0 ≤ E.misses ∧ 0 ≤ E.silent ∧ 0 ≤ E.heard ∧ E.silent ≤ E.misses) (hm : E.misses ≤ E.tries) (hs : E.silent + E.heard ≤ E.tries) (hr : E.tries ≤ c.re + 1) (h0 : r.status ≠ 0) : Tinv k c t (erFin E r) :=
  ⟨hk, hc, ht, p, .inr (.inr ⟨rfl, h0, hm, hs, hr⟩)⟩
theorem tinv_miss {s : Int} (hs : s ≠ 0) (hk : E.key = k) (hc : E.cfg = c) (ht : E.known = t) (hr : E.res = rs0) (p : 0 ≤ E.misses ∧ 0 ≤ E.silent ∧ 0 ≤ E.heard) (h1 : E.silent ≤ E.misses + 1) (h2 : E.misses + 1 = E.tries) (h3 : E.silent + E.heard ≤ E.tries) (h4 : E.tries ≤ c.re + 1) (now : Int) : Tinv k c t (erMiss E s now) := by
  unfold erMiss; have hp : 0 ≤ E.misses + 1 ∧ 0 ≤ E.silent ∧ 0 ≤ E.heard ∧ E.silent ≤ E.misses + 1 := by omega
  split
  · exact tinv_fin (E := { E with misses := E.misses + 1 }) hk hc ht hp (by show E.misses + 1 ≤ E.tries; omega) h3 h4 hs
  · rename_i hn; rw [hc] at hn; exact ⟨hk, hc, ht, hp, .inl ⟨rfl, hr, h2, h3, by show E.tries ≤ c.re; omega⟩⟩
theorem found_st (k : Ky) (a : Ans) (x : Int) : (foundM k a x).status ≠ 0 := by
  unfold foundM
  repeat' split
  all_goals first | exact (by decide : (200 : Int) ≠ 0) | exact (by decide : (502 : Int) ≠ 0)
theorem judge_st {k : Ky} {a : Ans} {x : Int} (t : Tk) (h3 : judgeV k a ≠ 3) (h2 : judgeV k a ≠ 2) : (judgeR k t a x).status ≠ 0 := by
  unfold judgeV at h3 h2; unfold judgeR; by_cases h4 : a.st = 404
  · rw [if_pos h4]; exact (by decide : (404 : Int) ≠ 0)
  · rw [if_neg h4] at h3 h2 ⊢; by_cases h5 : a.st = 429 ∨ (500 ≤ a.st ∧ a.st ≤ 599)
    · rw [if_pos h5] at h2; exact absurd rfl h2
    · rw [if_neg h5] at h3 h2 ⊢; by_cases h6 : a.st = 200
      · rw [if_pos h6]; by_cases h7 : k.kind = 2
        · rw [if_pos ⟨h6, h7⟩] at h3; exact absurd rfl h3
        · rw [if_neg h7]; exact found_st _ _ _
      · rw [if_neg h6]
        split
        · exact (by decide : (304 : Int) ≠ 0)
        · exact (by decide : (502 : Int) ≠ 0)
theorem tinv_busy (h : Tinv k c t E) (h2 : E.state = 2) : E.res = rs0 ∧ E.misses + 1 = E.tries ∧ E.silent + E.heard ≤ E.misses ∧ E.tries ≤ c.re + 1 := by
  rcases h.way with ⟨w, _⟩ | ⟨_, w⟩ | ⟨w, _⟩
  · omega
  · exact w
  · omega
theorem tinv_keep (h : Tinv k c t E) (hk : R.key = E.key) (hc : R.cfg = E.cfg) (ht : R.known = E.known) (hm : R.misses = E.misses) (hs : R.silent = E.silent) (hh : R.heard = E.heard) (hst : R.state = E.state) (hr : R.res = E.res) (htr : R.tries = E.tries) : Tinv k c t R :=
  ⟨hk.trans h.key, hc.trans h.cfg, ht.trans h.known, by rw [hm, hs, hh]; exact h.pos, by rw [hm, hs, hh, hst, hr, htr]; exact h.way⟩
theorem tinv_one (h : Tinv k c t E) (h2 : E.state = 2) (r : NrR) (now : Int) : Tinv k c t (erOne E r now) := by
  obtain ⟨b1, b2, b3, b4⟩ := tinv_busy h h2; obtain ⟨p1, p2, p3, p4⟩ := h.pos; unfold erOne
  split
  · unfold erHead
    split
    · exact tinv_keep h rfl rfl rfl rfl rfl rfl rfl rfl rfl
    · rename_i j3
      split
      · exact tinv_miss (E := { E with rep := some r.p, head := r.a, heard := E.heard + 1 }) (by decide) h.key h.cfg h.known b1 ⟨p1, p2, by show 0 ≤ E.heard + 1; omega⟩ (by show E.silent ≤ E.misses + 1; omega) b2 (by show E.silent + (E.heard + 1) ≤ E.tries; omega) b4 now
      · rename_i j2; have hj := judge_st (x := E.began) E.known j3 j2
        split
        · exact tinv_fin (E := { E with rep := some (nextR r.p).p, head := r.a, heard := E.heard + 1, reuse := erClean { E with head := r.a } r.p }) h.key h.cfg h.known ⟨p1, p2, by show 0 ≤ E.heard + 1; omega, p4⟩ (by show E.misses ≤ E.tries; omega) (by show E.silent + (E.heard + 1) ≤ E.tries; omega) b4 hj
        · exact tinv_fin (E := { E with rep := some r.p, head := r.a, heard := E.heard + 1, reuse := false }) h.key h.cfg h.known ⟨p1, p2, by show 0 ≤ E.heard + 1; omega, p4⟩ (by show E.misses ≤ E.tries; omega) (by show E.silent + (E.heard + 1) ≤ E.tries; omega) b4 hj
  · split
    · exact tinv_keep h rfl rfl rfl rfl rfl rfl rfl rfl rfl
    · split
      · unfold erEnd; exact tinv_fin (E := { E with rep := some r.p, heard := E.heard + 1, reuse := decide (reRest r.p = []) && !E.head.cl }) h.key h.cfg h.known ⟨p1, p2, by show 0 ≤ E.heard + 1; omega, p4⟩ (by show E.misses ≤ E.tries; omega) (by show E.silent + (E.heard + 1) ≤ E.tries; omega) b4 (by exact (by decide : (200 : Int) ≠ 0))
      · split
        · exact tinv_miss (E := { E with rep := some r.p, silent := E.silent + 1 }) (by decide) h.key h.cfg h.known b1 ⟨p1, by show 0 ≤ E.silent + 1; omega, p3⟩ (by show E.silent + 1 ≤ E.misses + 1; omega) b2 (by show E.silent + 1 + E.heard ≤ E.tries; omega) b4 now
        · exact tinv_keep h rfl rfl rfl rfl rfl rfl rfl rfl rfl
theorem tinv_take {now : Int} : ∀ (N : Nat) (E : ErS), erTake N E now = some R → Tinv k c t E → Tinv k c t R
  | 0, _, h, _ => by simp [erTake] at h
  | N + 1, E, h, hT => by
    by_cases h2 : E.state = 2
    · cases hP : E.rep with
      | none =>
        unfold erTake at h; rw [if_neg (by simp [h2]), hP] at h; cases h
      | some P =>
        rw [take_on h2 hP] at h
        split at h
        · exact tinv_take N _ h (tinv_one hT h2 _ _)
        · obtain rfl := Option.some.inj h; exact tinv_one hT h2 _ _
    · rw [take_out h2] at h; obtain rfl := Option.some.inj h; exact hT
theorem tinv_hearL {now : Int} : ∀ (N : Nat) (E : ErS) (s : List UInt8) (F : ErS) (u : List UInt8), erHearL N E s now = some (F, u) → Tinv k c t E → Tinv k c t F
  | 0, _, _, _, _, h, _ => by simp [erHearL] at h
  | N + 1, E, s, F, u, h, hT => by
    by_cases hx : s = [] ∨ E.state ≠ 2
    · obtain ⟨rfl, _⟩ := hearL_stop hx h; exact hT
    · obtain ⟨m, P, G, hm, hP, hG, hr⟩ := hearL_more (fun hh => hx (.inl hh)) (Classical.byContradiction fun hh => hx (.inr hh)) h; obtain rfl : N = m := by omega
      exact tinv_hearL N G _ F u hr (tinv_take 5 _ hG (tinv_keep hT rfl rfl rfl rfl rfl rfl rfl rfl rfl))
theorem tinv_hear {s : List UInt8} {cut : Bool} {now : Int} (h : erHear E s cut now = some R) (hT : Tinv k c t E) : Tinv k c t R := by
  by_cases h2 : E.state = 2
  · obtain ⟨F, u, G, hF, hG, rfl⟩ := hear_yes h2 h; have h1 : Tinv k c t F := tinv_hearL _ _ _ _ _ hF (tinv_keep hT rfl rfl rfl rfl rfl rfl rfl rfl rfl)
    have h3 : Tinv k c t G := by
      by_cases hc : cut = true ∧ F.state = 2
      · obtain ⟨P, _, hS⟩ := shut_yes hc hG; exact tinv_take 5 _ hS (tinv_keep h1 rfl rfl rfl rfl rfl rfl rfl rfl rfl)
      · exact shut_no hc hG ▸ h1
    exact tinv_keep h3 rfl rfl rfl rfl rfl rfl rfl rfl rfl
  · exact hear_no h2 h ▸ hT
theorem tinv_tick (h : Tinv k c t E) (now : Int) : Tinv k c t (erTick E now) := by
  unfold erTick
  split
  · rename_i hh; obtain ⟨b1, b2, b3, b4⟩ := tinv_busy h hh.1; obtain ⟨p1, p2, p3, p4⟩ := h.pos; exact tinv_miss (E := { E with silent := E.silent + 1 }) (by decide) h.key h.cfg h.known b1 ⟨p1, by show 0 ≤ E.silent + 1; omega, p3⟩ (by show E.silent + 1 ≤ E.misses + 1; omega) b2 (by show E.silent + 1 + E.heard ≤ E.tries; omega) b4 now
  · exact h
theorem tinv_took (h : Tinv k c t E) : Tinv k c t (erTook E) := tinv_keep h rfl rfl rfl rfl rfl rfl rfl rfl rfl
def Pre0 (P : ReS) : Prop := P.dat = [] ∧ (P.st = 0 ∨ P.st = 5)
theorem end_pre {P : ReS} {n : Nat} (h : P.ok n) (ha : P.ans = none) (hp : Pre0 P) : (∃ a, (reEnd P).ans = some a) ∨ ((reEnd P).ans = none ∧ Pre0 (reEnd P)) := by
  refine re_ind (n := n) (C := fun P => P.ans = none → Pre0 P → (∃ a, (reEnd P).ans = some a) ∨ ((reEnd P).ans = none ∧ Pre0 (reEnd P))) ?_ ?_ P h ha hp
  · intro P _ h2 ha hp; rw [reEnd_stop ha h2, read_false h2]; exact .inr ⟨ha, hp⟩
  · intro P hP h2 ih ha hp; rw [reEnd_more hP ha h2]; rcases hp.2 with h0 | h5
    · obtain ⟨hd, hx⟩ := head_step h0 ha h2; rcases hx with ⟨x1, x2⟩ | ⟨x1, x2⟩ | ⟨a, x1, _, _⟩
      · exact ih x2 ⟨hd.trans hp.1, .inl x1⟩
      · exact ih x2 ⟨hd.trans hp.1, .inr x1⟩
      · rw [reEnd_some (by rw [x1]; rfl)]; exact .inl ⟨a, x1⟩
    · rw [read5 (by omega)] at h2; cases h2
theorem next_pre {P : ReS} {n : Nat} (h : P.ok n) (ha : P.ans = none) (hp : Pre0 P) : (nextR P).k = 1 ∨ ((nextR P).k ≠ 1 ∧ (nextR P).k ≠ 2 ∧ Pre0 (nextR P).p) := by
  rcases end_pre h ha hp with ⟨a, h1⟩ | ⟨h1, h2⟩
  · exact .inl (by rw [nextR_eq, h1])
  · have hx : nextR P = ⟨(reFinish (reEnd P)).1, (reFinish (reEnd P)).2, ans0, []⟩ := by rw [nextR_eq, h1]; simp [h2.1]
    rw [hx]; refine .inr ⟨?_, ?_, ?_⟩
    · have := finish_k (reEnd P); show (reFinish (reEnd P)).2 ≠ 1; omega
    · have := finish_k (reEnd P); show (reFinish (reEnd P)).2 ≠ 2; omega
    · show Pre0 (reFinish (reEnd P)).1; unfold reFinish
      split
      · exact h2
      · split
        · exact ⟨h2.1, .inr rfl⟩
        · exact h2
def Dinv (E : ErS) : Prop := E.key.kind ≠ 2 → E.data = [] ∧ (E.state = 2 → ∀ P, E.rep = some P → Pre0 P)
theorem miss_kd (E : ErS) (s now : Int) : (erMiss E s now).key = E.key ∧ (erMiss E s now).data = E.data := by unfold erMiss; split <;> exact ⟨rfl, rfl⟩
theorem one_kd (E : ErS) (r : NrR) (now : Int) : (erOne E r now).key = E.key ∧ (r.k ≠ 2 → (erOne E r now).data = E.data) := by
  unfold erOne
  split
  · unfold erHead
    split
    · exact ⟨rfl, fun _ => rfl⟩
    · split
      · exact ⟨(miss_kd _ _ _).1, fun _ => (miss_kd _ _ _).2⟩
      · split <;> exact ⟨rfl, fun _ => rfl⟩
  · split
    · rename_i h2; exact ⟨rfl, fun h => absurd h2 h⟩
    · split
      · exact ⟨rfl, fun _ => rfl⟩
      · split
        · exact ⟨(miss_kd _ _ _).1, fun _ => (miss_kd _ _ _).2⟩
        · exact ⟨rfl, fun _ => rfl⟩
theorem judge_kind {k : Ky} {a : Ans} (h : judgeV k a = 3) : k.kind = 2 := by
  unfold judgeV at h
  split at h
  · omega
  · split at h
    · omega
    · split at h
      · rename_i hh; exact hh.2
      · omega
theorem head_out {E : ErS} {P : ReS} {a : Ans} {now : Int} (h : E.key.kind ≠ 2) : (erHead E P a now).state ≠ 2 := by
  unfold erHead; rw [if_neg (fun hh => h (judge_kind hh))]
  split
  · exact miss_state _ _ _
  · split <;> exact (by decide : (3 : Int) ≠ 2)
theorem dinv_one {n : Nat} {P : ReS} (h : Dinv E) (h2 : E.state = 2) (hP : E.rep = some P) (ho : P.ok n) (ha : P.ans = none) (now : Int) : Dinv (erOne E (nextR P) now) := by
  intro hk; have hx := one_kd E (nextR P) now; rw [hx.1] at hk; obtain ⟨hd, hp⟩ := h hk; rcases next_pre ho ha (hp h2 P hP) with h1 | ⟨n1, n2, hpre⟩
  · refine ⟨(hx.2 (by omega)).trans hd, fun hs => ?_⟩; exfalso; unfold erOne at hs; rw [if_pos h1] at hs; exact head_out hk hs
  · refine ⟨(hx.2 n2).trans hd, fun hs Q hQ => ?_⟩; rw [one_rep hs] at hQ; exact Option.some.inj hQ ▸ hpre
theorem dinv_take {n : Nat} (hn : n ≤ 400000) {now : Int} : ∀ (N : Nat) (E : ErS), erTake N E now = some R → E.okR n → E.told → Dinv E → Dinv R
  | 0, _, h, _, _, _ => by simp [erTake] at h
  | N + 1, E, h, ho, ht, hD => by
    by_cases h2 : E.state = 2
    · cases hP : E.rep with
      | none =>
        unfold erTake at h; rw [if_neg (by simp [h2]), hP] at h; cases h
      | some P =>
        rw [take_on h2 hP] at h; have h1 := dinv_one hD h2 hP (ho P hP) (ht P hP) now
        split at h
        · exact dinv_take hn N _ h (one_okR (ho P hP) now) (one_told E P now) h1
        · obtain rfl := Option.some.inj h; exact h1
    · rw [take_out h2] at h; obtain rfl := Option.some.inj h; exact hD
theorem pre_add {P : ReS} (h : Pre0 P) (s : List UInt8) : Pre0 (reAdd P s).1 := by
  unfold reAdd
  split
  · exact h
  · split
    · exact h
    · exact h
theorem dinv_hearL (now : Int) : ∀ (N n c : Nat) (E : ErS) (s : List UInt8) (F : ErS) (u : List UInt8), erHearL N E s now = some (F, u) → n + 2 * s.length ≤ 400000 → E.okR n → E.told → E.cnt c → Dinv E → Dinv F
  | 0, _, _, _, _, _, _, h, _, _, _, _, _ => by simp [erHearL] at h
  | N + 1, n, c, E, s, F, u, h, hn, ho, ht, hc, hD => by
    by_cases hx : s = [] ∨ E.state ≠ 2
    · obtain ⟨rfl, _⟩ := hearL_stop hx h; exact hD
    · have hs : s ≠ [] := fun hh => hx (.inl hh)
      have h2 : E.state = 2 := Classical.byContradiction fun hh => hx (.inr hh)
      obtain ⟨m, P, G, hm, hP, hG, hr⟩ := hearL_more hs h2 h; obtain rfl : N = m := by omega
      have hpos : 0 < s.length := List.length_pos_iff.2 hs; have hsum : (s.take 4096).length + (s.drop 4096).length = s.length := by rw [← List.length_append, List.take_append_drop]
      have hok1 : (reAdd P (s.take 4096)).1.ok (n + 2 * (s.take 4096).length) := reAdd_ok (ho P hP) _; have ha1 : (reAdd P (s.take 4096)).1.ans = none := radd_ans (ht P hP) _; have hD1 : Dinv { E with rep := some (reAdd P (s.take 4096)).1 } := fun hk => ⟨(hD hk).1, fun hs Q hQ => by cases hQ; exact pre_add ((hD hk).2 hs P hP) _⟩
      obtain ⟨g1, g2, g3⟩ := took (n := n + 2 * (s.take 4096).length) (by omega) now 5 c _ G hG (fun Q hQ => by cases hQ; exact hok1) (fun Q hQ => by cases hQ; exact ha1) hc; have g4 := dinv_take (n := n + 2 * (s.take 4096).length) (by omega) 5 _ hG (fun Q hQ => by cases hQ; exact hok1) (fun Q hQ => by cases hQ; exact ha1) hD1; exact dinv_hearL now N (n + 2 * (s.take 4096).length) (c + 5) G _ F u hr (by omega) g1 g2 g3 g4
theorem dinv_hear {n c : Nat} {s : List UInt8} {cut : Bool} {now : Int} (h : erHear E s cut now = some R) (hn : n + 2 * s.length ≤ 400000) (ho : E.okR n) (ht : E.told) (hc : E.cnt c) (hl : E.live) (hD : Dinv E) : Dinv R := by
  by_cases h2 : E.state = 2
  · obtain ⟨F, u, G, hF, hG, rfl⟩ := hear_yes h2 h; obtain ⟨F', u', f1, f2, f3, _, _⟩ := hearL_some now (s.length + 1) n c (erHeard E s now) s (Nat.lt_succ_self _) hn ho ht hc hl; rw [f1] at hF; obtain ⟨rfl, rfl⟩ := Prod.mk.inj (Option.some.inj hF); have hDF : Dinv F' := dinv_hearL now (s.length + 1) n c (erHeard E s now) s F' u' f1 hn ho ht hc hD
    have h3 : Dinv G := by
      by_cases hcut : cut = true ∧ F'.state = 2
      · obtain ⟨P, hP, hS⟩ := shut_yes hcut hG; have hok1 : (reShut P).ok (n + 2 * s.length) := ⟨(f2 P hP).wt, (f2 P hP).big, (f2 P hP).size, (f2 P hP).left, (f2 P hP).st, (f2 P hP).head, (f2 P hP).chk⟩
        exact dinv_take hn 5 _ hS (fun Q hQ => by cases hQ; exact hok1) (fun Q hQ => by cases hQ; exact f3 P hP) (fun hk => ⟨(hDF hk).1, fun hs Q hQ => by cases hQ; exact (hDF hk).2 hs P hP⟩)
      · exact shut_no hcut hG ▸ hDF
    exact h3
  · exact hear_no h2 h ▸ hD
def ErS.same (E R : ErS) : Prop := R.last = E.last ∧ R.taken = E.taken
theorem miss_same (E : ErS) (s now : Int) : E.same (erMiss E s now) := by unfold erMiss; split <;> exact ⟨rfl, rfl⟩
theorem one_same (E : ErS) (r : NrR) (now : Int) : E.same (erOne E r now) := by
  unfold erOne
  split
  · unfold erHead
    split
    · exact ⟨rfl, rfl⟩
    · split
      · exact miss_same { E with rep := some r.p, head := r.a, heard := E.heard + 1 } _ _
      · split <;> exact ⟨rfl, rfl⟩
  · split
    · exact ⟨rfl, rfl⟩
    · split
      · exact ⟨rfl, rfl⟩
      · split
        · exact miss_same { E with rep := some r.p, silent := E.silent + 1 } _ _
        · exact ⟨rfl, rfl⟩
theorem take_same {now : Int} : ∀ (N : Nat) (E : ErS), erTake N E now = some R → E.same R
  | 0, _, h => by simp [erTake] at h
  | N + 1, E, h => by
    by_cases h2 : E.state = 2
    · cases hP : E.rep with
      | none =>
        unfold erTake at h; rw [if_neg (by simp [h2]), hP] at h; cases h
      | some P =>
        rw [take_on h2 hP] at h; have h1 := one_same E (nextR P) now
        split at h
        · have h3 := take_same N _ h; exact ⟨h3.1.trans h1.1, h3.2.trans h1.2⟩
        · obtain rfl := Option.some.inj h; exact h1
    · rw [take_out h2] at h; obtain rfl := Option.some.inj h; exact ⟨rfl, rfl⟩
theorem hearL_same {now : Int} : ∀ (N : Nat) (E : ErS) (s : List UInt8) (F : ErS) (u : List UInt8), erHearL N E s now = some (F, u) → E.same F
  | 0, _, _, _, _, h => by simp [erHearL] at h
  | N + 1, E, s, F, u, h => by
    by_cases hx : s = [] ∨ E.state ≠ 2
    · obtain ⟨rfl, _⟩ := hearL_stop hx h; exact ⟨rfl, rfl⟩
    · obtain ⟨m, P, G, hm, _, hG, hr⟩ := hearL_more (fun hh => hx (.inl hh)) (Classical.byContradiction fun hh => hx (.inr hh)) h; obtain rfl : N = m := by omega
      have h1 := take_same 5 _ hG; have h2 := hearL_same N G _ F u hr; exact ⟨h2.1.trans h1.1, h2.2.trans h1.2⟩
theorem hear_same {s : List UInt8} {cut : Bool} {now : Int} (h : erHear E s cut now = some R) : (R.last = E.last ∨ R.last = now) ∧ R.taken = E.taken := by
  by_cases h2 : E.state = 2
  · obtain ⟨F, u, G, hF, hG, rfl⟩ := hear_yes h2 h; have h1 := hearL_same _ _ _ _ _ hF
    have h3 : F.same G := by
      by_cases hc : cut = true ∧ F.state = 2
      · obtain ⟨P, _, hS⟩ := shut_yes hc hG; have h6 := take_same 5 _ hS; exact ⟨h6.1, h6.2⟩
      · exact shut_no hc hG ▸ ⟨rfl, rfl⟩
    have h4 : (erHeard E s now).last = E.last ∨ (erHeard E s now).last = now := by
      unfold erHeard; dsimp only
      split
      · exact .inl rfl
      · exact .inr rfl
    refine ⟨?_, (h3.2.trans h1.2)⟩; have h5 : G.last = (erHeard E s now).last := h3.1.trans h1.1; show G.last = E.last ∨ G.last = now; rw [h5]; exact h4
  · exact hear_no h2 h ▸ ⟨.inl rfl, rfl⟩
structure Tr (k : Ky) (c : Cf) (t : Tk) (i : Nat) (now : Int) (E : ErS) : Prop where
  T : Tinv k c t E
  D : Dinv E
  ok : E.okR (2048 * i)
  told : E.told
  cnt : E.cnt (5125 * i)
  live : E.live
  last : 0 ≤ E.last ∧ E.last ≤ 100 * i
  taken : 0 ≤ E.taken ∧ E.taken ≤ 250000000000 * i
  now : 0 ≤ now ∧ now ≤ 100 * i
variable {i : Nat} {now : Int}
theorem tr_new (k : Ky) (c : Cf) (t : Tk) (h : 0 ≤ c.re) (hb : c.bo < 18446744073709551616) : Tr k c t 0 0 (erNew k c t) := by
  refine ⟨tinv_new k c t h, fun _ => ⟨rfl, fun hs => absurd hs (by exact (by decide : (1 : Int) ≠ 2))⟩, fun P hP => (by cases hP), fun P hP => (by cases hP), ?_, fun hs => absurd hs (by exact (by decide : (1 : Int) ≠ 2)), ⟨Int.le_refl 0, Int.le_refl 0⟩, ⟨Int.le_refl 0, Int.le_refl 0⟩, ⟨Int.le_refl 0, Int.le_refl 0⟩⟩; show cntOf 0 0 0 0 0 c.bo (5125 * 0); exact ⟨by omega, by omega, by omega, by omega, by omega, hb⟩
theorem tr_up (h : Tr k c t i now E) : Tr k c t (i + 1) now E := by
  obtain ⟨a, b, d, e, f, g, l, tk, n⟩ := h; exact ⟨a, b, fun P hP => ok_mono (d P hP) (by omega), e, f.mono (by omega), g, by omega, by omega, by omega⟩
theorem tr_begin (h : Tr k c t i now E) (h1 : E.state = 1) : Tr k c t (i + 1) now (erBegin E now) := by
  obtain ⟨a, b, d, e, f, g, l, tk, n⟩ := h; refine ⟨tinv_begin a h1 now, fun _ => ⟨rfl, fun _ P hP => ?_⟩, fun P hP => ?_, fun P hP => ?_, ?_, fun _ => ⟨_, rfl⟩, ?_, ?_, by omega⟩
  · cases hP; exact ⟨rfl, .inl rfl⟩
  · cases hP; exact ok_mono (reNew_ok _ (by unfold in64; omega)) (by omega)
  · cases hP; rfl
  · obtain ⟨f1, f2, f3, _, _, f6⟩ := f; exact ⟨by show 0 ≤ E.misses ∧ E.misses ≤ _; omega, by show 0 ≤ E.silent ∧ E.silent ≤ _; omega, by show 0 ≤ E.heard ∧ E.heard ≤ _; omega, Nat.zero_le _, by show (0 : Int) ≤ 0 ∧ (0 : Int) ≤ _; omega, f6⟩
  · show 0 ≤ now ∧ now ≤ _; omega
  · show (0 : Int) ≤ 0 ∧ (0 : Int) ≤ _; omega
theorem tr_hear (h : Tr k c t i now E) (hi : i < 100) {s : List UInt8} (hs : s.length ≤ 1024) (cut : Bool) : ∃ R, erHear E s cut now = some R ∧ Tr k c t (i + 1) now R ∧ (cut = true → R.state ≠ 2) := by
  obtain ⟨a, b, d, e, f, g, l, tk, n⟩ := h; obtain ⟨R, h1, h2, h3, h4, h5, h6⟩ := hear_some (n := 2048 * i) s cut now (by omega) d e f g; have hsm := hear_same h1; refine ⟨R, h1, ⟨tinv_hear h1 a, dinv_hear (n := 2048 * i) h1 (by omega) d e f g b, fun P hP => ok_mono (h2 P hP) (by omega), h3, h4.mono (by omega), h5, ?_, ?_, by omega⟩, h6⟩
  · rcases hsm.1 with hh | hh <;> rw [hh] <;> omega
  · rw [hsm.2]; omega
theorem tr_tick (h : Tr k c t i now E) (u : Int) (hu : 0 ≤ u ∧ u < 100) : Tr k c t (i + 1) (now + u) (erTick E (now + u)) := by
  obtain ⟨a, b, d, e, f, g, l, tk, n⟩ := h
  have hx : (erTick E (now + u)).rep = E.rep ∧ E.same (erTick E (now + u)) ∧ (erTick E (now + u)).key = E.key ∧ (erTick E (now + u)).data = E.data ∧ ((erTick E (now + u)).state = 2 → E.state = 2) := by
    unfold erTick
    split
    · exact ⟨miss_rep _ _ _, miss_same { E with silent := E.silent + 1 } _ _, (miss_kd { E with silent := E.silent + 1 } _ _).1, (miss_kd { E with silent := E.silent + 1 } _ _).2, fun hh => absurd hh (miss_state _ _ _)⟩
    · exact ⟨rfl, ⟨rfl, rfl⟩, rfl, rfl, id⟩
  obtain ⟨x1, x2, x3, x4, x5⟩ := hx; refine ⟨tinv_tick a _, fun hk => ?_, fun P hP => ?_, fun P hP => ?_, ?_, fun hs => ?_, ?_, ?_, by omega⟩
  · rw [x3] at hk; exact ⟨x4.trans (b hk).1, fun hs P hP => (b hk).2 (x5 hs) P (x1 ▸ hP)⟩
  · exact ok_mono (d P (x1 ▸ hP)) (by omega)
  · exact e P (x1 ▸ hP)
  · unfold erTick
    split
    · exact (miss_cnt (E := { E with silent := E.silent + 1 }) (s := E.silent) (h := E.heard) f rfl ⟨by show E.silent ≤ E.silent + 1; omega, by show E.silent + 1 ≤ E.silent + 1; omega⟩ ⟨by show E.heard ≤ E.heard; omega, by show E.heard ≤ E.heard + 1; omega⟩ rfl rfl _ _).mono (by omega)
    · exact f.mono (by omega)
  · obtain ⟨P, hP⟩ := g (x5 hs); exact ⟨P, x1.trans hP⟩
  · rw [x2.1]; omega
  · rw [x2.2]; omega
theorem tr_took (h : Tr k c t i now E) (hi : i < 100) : Tr k c t (i + 1) now (erTook E) := by
  obtain ⟨a, b, d, e, f, g, l, tk, n⟩ := h; obtain ⟨f1, f2, f3, f4, f5, f6⟩ := f; refine ⟨tinv_took a, fun hk => ⟨rfl, (b hk).2⟩, fun P hP => ok_mono (d P hP) (by omega), e, ⟨?_, ?_, ?_, Nat.zero_le _, ?_, f6⟩, g, ?_, ?_, by omega⟩
  · show 0 ≤ E.misses ∧ E.misses ≤ _; omega
  · show 0 ≤ E.silent ∧ E.silent ≤ _; omega
  · show 0 ≤ E.heard ∧ E.heard ≤ _; omega
  · show 0 ≤ E.size ∧ E.size ≤ _; omega
  · show 0 ≤ E.last ∧ E.last ≤ _; omega
  · show 0 ≤ E.taken + (E.data.length : Nat) ∧ E.taken + (E.data.length : Nat) ≤ _; omega
structure Trans (E R : ErS) (kind : Int) : Prop where
  done : E.state = 3 → R.state = 3 ∧ R.res = E.res ∧ R.tries = E.tries
  wait : E.state = 1 → R.state ≠ 1 → kind = 1
theorem trans_same (E : ErS) (kind : Int) : Trans E E kind := ⟨fun h => ⟨h, rfl, rfl⟩, fun h h2 => absurd h h2⟩
theorem trans_begin (h1 : E.state = 1) (now : Int) : Trans E (erBegin E now) 1 := ⟨fun h => by omega, fun _ _ => rfl⟩
theorem trans_hear {s : List UInt8} {cut : Bool} {now : Int} (h : erHear E s cut now = some R) (kind : Int) : Trans E R kind := by
  by_cases h2 : E.state = 2
  · exact ⟨fun hh => by omega, fun hh => by omega⟩
  · exact hear_no h2 h ▸ trans_same E kind
theorem trans_tick (E : ErS) (now kind : Int) : Trans E (erTick E now) kind := by
  unfold erTick
  split
  · rename_i h; exact ⟨fun hh => by omega, fun hh => by omega⟩
  · exact trans_same E kind
theorem trans_took (E : ErS) (kind : Int) : Trans E (erTook E) kind := ⟨fun h => ⟨h, rfl, rfl⟩, fun h h2 => absurd h h2⟩
theorem tinv_end (h : Tinv k c t E) (hc : 0 ≤ c.re ∧ c.re ≤ 5) : (E.state = 3 → E.res.status ≠ 0) ∧ (E.state ≠ 3 → E.res = rs0) ∧ (E.state = 1 ∨ E.state = 2 ∨ E.state = 3) ∧ E.tries ≤ c.re + 1 ∧ E.misses ≤ E.tries ∧ E.silent ≤ E.misses ∧ E.silent + E.heard ≤ E.tries ∧ (E.state = 1 → E.misses = E.tries) ∧ (0 ≤ E.misses ∧ 0 ≤ E.silent ∧ 0 ≤ E.heard ∧ 0 ≤ E.tries ∧ E.tries ≤ 6) := by
  obtain ⟨p1, p2, p3, p4⟩ := h.pos; rcases h.way with ⟨w1, w2, w3, w4, w5⟩ | ⟨w1, w2, w3, w4, w5⟩ | ⟨w1, w2, w3, w4, w5⟩
  · exact ⟨fun h => by omega, fun _ => w2, .inl w1, by omega, by omega, by omega, by omega, fun _ => w3, by omega⟩
  · exact ⟨fun h => by omega, fun _ => w2, .inr (.inl w1), by omega, by omega, by omega, by omega, fun h => by omega, by omega⟩
  · exact ⟨fun _ => w2, fun h => absurd w1 h, .inr (.inr w1), by omega, by omega, by omega, by omega, fun h => by omega, by omega⟩
end
end Go.Proofs.YtlhnjkekjbbhcaaGreatDoor
