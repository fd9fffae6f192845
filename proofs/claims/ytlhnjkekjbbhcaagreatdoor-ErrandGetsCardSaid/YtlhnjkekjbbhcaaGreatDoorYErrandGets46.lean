/- Parts of the proof of ErrandGets, in order. No conditions but those that each theorem states. -/
import Derived.Test.YtlhnjkekjbbhcaaGreatDoorYErrandGets0
import Derived.Lib.SlBytesConst
import Derived.DeepKeys4
import Derived.Deep.MidRow
import Derived.Test.YtlhnjkekjbbhcaaGreatDoorYErrandGets45
set_option linter.unusedSimpArgs false
set_option linter.unusedVariables false
namespace Go.Proofs.YtlhnjkekjbbhcaaGreatDoor
open Go.RowKit
section
variable {E : ErS} {P : ReS} {now : Int}
def erGot (E : ErS) (Q : ReS) (h : Ans) (hb : Bool) (d : List UInt8) : ErS := { E with rep := some Q, head := h, body := hb, data := E.data ++ d, size := E.size + (d.length : Nat) }
theorem one1 (h1 : (nextR P).k = 1) (hj : judgeV E.key (nextR P).a = 3) : erOne E (nextR P) now = { E with rep := some (nextR P).p, head := (nextR P).a, body := true } := by
  unfold erOne erHead; rw [if_pos h1, if_pos hj]
theorem one2 (h2 : (nextR P).k = 2) : erOne E (nextR P) now = { E with rep := some (nextR P).p, data := E.data ++ (nextR P).s, size := E.size + ((nextR P).s.length : Nat) } := by
  unfold erOne; rw [if_neg (by omega), if_pos h2]
theorem one3 (h3 : (nextR P).k = 3) : erOne E (nextR P) now = erEnd E (nextR P).p := by
  unfold erOne; rw [if_neg (by omega), if_neg (by omega), if_pos h3]
theorem one0 (h0 : (nextR P).k = 0) : erOne E (nextR P) now = { E with rep := some (nextR P).p } := by
  unfold erOne; rw [if_neg (by omega), if_neg (by omega), if_neg (by omega), if_neg (by omega)]
theorem tk_0 (hs : E.state = 2) (hP : E.rep = some P) (m : Nat) (h0 : (nextR P).k = 0) : erTake (m + 2) E now = some { E with rep := some (nextR P).p } := by
  rw [take_on hs hP, if_neg (by omega), one0 h0]
theorem tk_3 (hs : E.state = 2) (hP : E.rep = some P) (m : Nat) (h3 : (nextR P).k = 3) : erTake (m + 2) E now = some (erEnd E (nextR P).p) := by
  rw [take_on hs hP, if_pos (by omega), one3 h3]; exact take_out (by exact (by decide : (3 : Int) ≠ 2)) m now
theorem cm_0 (h1 : (nextR P).k ≠ 1) (h2 : (nextR P).k ≠ 2) (i : Nat) (a : Ans) (d : List UInt8) : comeR (i + 1) P a d = ⟨(nextR P).p, a, d, (nextR P).k⟩ := by
  unfold comeR; rw [if_neg h1, if_neg h2]
theorem cm_1 (h1 : (nextR P).k = 1) (i : Nat) (a : Ans) (d : List UInt8) : comeR (i + 1) P a d = comeR i (nextR P).p (nextR P).a d := by
  conv => lhs; unfold comeR
  rw [if_pos h1]
theorem cm_2 (h2 : (nextR P).k = 2) (i : Nat) (a : Ans) (d : List UInt8) : comeR (i + 1) P a d = comeR i (nextR P).p a (d ++ (nextR P).s) := by
  conv => lhs; unfold comeR
  rw [if_neg (by omega), if_pos h2]
theorem next_big {n : Nat} (ho : P.ok n) (ha : P.ans = none) (h1 : (nextR P).k = 1) : 200 ≤ (nextR P).a.st := by
  rcases end_cases ho ha with ⟨he, hn⟩ | ⟨a, h2, h3, _⟩
  · exfalso; have hn' : (reEnd P).ans = none := by rw [he]; exact hn
    rw [nextR_eq, hn'] at h1; dsimp only at h1
    split at h1
    · have h1' : (2 : Int) = 1 := h1; omega
    · have := finish_k (reEnd P); have h1' : (reFinish (reEnd P)).2 = 1 := h1; omega
  · have hx : (nextR P).a = a := by rw [nextR_eq, h2]
    rw [hx]; exact h3
theorem takeB {n : Nat} (hs : E.state = 2) (hP : E.rep = some P) (ho : P.ok n) (ha : P.ans = none) (h0 : (nextR P).k ≠ 1) (m i : Nat) (a : Ans) (d0 : List UInt8) {Q : ReS} {w : Ans} {D : List UInt8} {k : Int} (hc : comeR (i + 2) P a d0 = ⟨Q, w, D, k⟩) (hk : k = 0 ∨ k = 3) :
    w = a ∧ ∃ d, D = d0 ++ d ∧ erTake (m + 3) E now = some (if k = 3 then erEnd (erGot E Q E.head E.body d) Q else erGot E Q E.head E.body d) := by
  rcases next_ways ho ha with ⟨k1, _⟩ | ⟨k2, hT, _⟩ | h3
  · exact absurd k1 h0
  · rw [cm_2 k2] at hc; have ht := told_end hT; rw [cm_0 (by omega) (by omega)] at hc; obtain ⟨rfl, rfl, rfl, rfl⟩ := CmR.mk.inj hc; refine ⟨rfl, (nextR P).s, rfl, ?_⟩; rw [take_on hs hP, if_pos (by omega), one2 k2]; rcases hk with h | h
    · rw [if_neg (by omega)]; exact Eq.trans (tk_0 (E := { E with rep := some (nextR P).p, data := E.data ++ (nextR P).s, size := E.size + ((nextR P).s.length : Nat) }) (P := (nextR P).p) hs rfl m h) rfl
    · rw [if_pos h]; exact Eq.trans (tk_3 (E := { E with rep := some (nextR P).p, data := E.data ++ (nextR P).s, size := E.size + ((nextR P).s.length : Nat) }) (P := (nextR P).p) hs rfl m h) rfl
  · have hne : (nextR P).k ≠ 2 := by omega
    rw [cm_0 h0 hne] at hc; obtain ⟨rfl, rfl, rfl, rfl⟩ := CmR.mk.inj hc; refine ⟨rfl, [], (List.append_nil _).symm, ?_⟩
    have e1 : erGot E (nextR P).p E.head E.body [] = { E with rep := some (nextR P).p } := by
      unfold erGot; rw [List.append_nil]; congr 1; show E.size + ((0 : Nat) : Int) = E.size; omega
    rw [e1]; rcases hk with h | h
    · rw [if_neg (by omega)]; exact tk_0 hs hP (m + 1) h
    · rw [if_pos h]; exact tk_3 hs hP (m + 1) h
theorem takeA {n : Nat} (hs : E.state = 2) (hP : E.rep = some P) (hkd : E.key.kind = 2) (ho : P.ok n) (ha : P.ans = none) (m : Nat) {Q : ReS} {w : Ans} {d : List UInt8} {k : Int} (hc : comeR 9 P ans0 [] = ⟨Q, w, d, k⟩) (hk : k = 0 ∨ k = 3) (hw : P.st = 0 → w = ans0 ∨ w.st = 200) :
    ∃ hb : Bool, (hb = true → w.st = 200 ∧ P.st = 0) ∧ (hb = false → w = ans0) ∧ erTake (m + 4) E now = some (if k = 3 then erEnd (erGot E Q (if hb = true then w else E.head) (E.body || hb) d) Q else erGot E Q (if hb = true then w else E.head) (E.body || hb) d) := by
  by_cases h1 : (nextR P).k = 1
  · rcases next_ways ho ha with ⟨_, hst, hne, _⟩ | ⟨k2, _⟩ | h3
    · have hb1 := next_big ho ha h1; have ho1 := nextR_ok ho; have ha1 := next_ans P
      have h0 : (nextR (nextR P).p).k ≠ 1 := fun hh => by
        rcases next_ways ho1 ha1 with ⟨_, hz, _⟩ | ⟨k2, _⟩ | h3
        · exact hne hz
        · omega
        · omega
      rw [cm_1 h1] at hc; obtain ⟨rfl, d', hd, ht⟩ := takeB (E := { E with rep := some (nextR P).p, head := (nextR P).a, body := true }) (now := now) hs rfl ho1 ha1 h0 m 6 _ _ hc hk; rw [List.nil_append] at hd; subst hd
      have h200 : (nextR P).a.st = 200 := by
        rcases hw hst with h | h
        · rw [h] at hb1; exact absurd hb1 (by decide)
        · exact h
      refine ⟨true, fun _ => ⟨h200, hst⟩, fun hh => (by cases hh), ?_⟩
      have hj : judgeV E.key (nextR P).a = 3 := by
        unfold judgeV; rw [if_neg (by omega), if_neg (by omega), if_pos ⟨h200, hkd⟩]
      rw [take_on hs hP, if_pos (by omega), one1 h1 hj, ht, Bool.or_true, if_pos rfl]; rfl
    · omega
    · omega
  · obtain ⟨rfl, d', hd, ht⟩ := takeB (now := now) hs hP ho ha h1 (m + 1) 7 _ _ hc hk; rw [List.nil_append] at hd; subst hd; refine ⟨false, fun hh => (by cases hh), fun _ => rfl, ?_⟩; rw [ht, Bool.or_false]; simp
end
structure Gi (got l : List UInt8) (E : ErS) : Prop where
  st : E.state = 2
  key : E.key = ky24
  cfg : E.cfg = cf24
  known : E.known = tk0
  cnt : E.misses = 0 ∧ E.silent = 0 ∧ E.heard = 0
  bg : E.began = 100
  seen : ∃ P a0 f, E.rep = some P ∧ Seen (reNew false 1048576) l P a0 f ∧ E.head = a0.getD ans0 ∧ E.body = a0.isSome ∧ E.size = (f.length : Nat) ∧ got ++ E.data = f ∧ E.taken = (got.length : Nat)
structure Gd (a : Ans) (b got : List UInt8) (E : ErS) : Prop where
  st : E.state = 3
  cfg : E.cfg = cf24
  cnt : E.misses = 0 ∧ E.silent = 0 ∧ E.heard = 1
  head : E.head = a
  body : E.body = true
  reuse : E.reuse = true
  res : E.res = ⟨200, dig1, typM a.F, (b.length : Nat), 100⟩
  data : got ++ E.data = b
  taken : E.taken = (got.length : Nat)
theorem gN : ∃ hd most, reNew false 1048576 = reNew hd most ∧ in64 most := ⟨false, 1048576, rfl, in64_most⟩
theorem gi_new : Gi [] [] (erBegin (erNew ky24 cf24 tk0) 100) :=
  ⟨rfl, rfl, rfl, rfl, ⟨rfl, rfl, rfl⟩, rfl, reNew false 1048576, none, [], rfl, seen0 gN, rfl, rfl, rfl, rfl, rfl⟩
section
variable {T b got l : List UInt8} {a : Ans} {E : ErS}
theorem whole_told (h : Whole T a b) : ToldR (reNew false 1048576) T (some a) b 3 := ⟨h.ans, h.dat, by unfold reFinish; rw [if_pos h.st]⟩
theorem fin_3 {P : ReS} (hs : P.shut = false) (h : (reFinish P).2 = 3) : P.st = 4 := by
  unfold reFinish at h
  split at h
  · assumption
  · split at h
    · omega
    · omega
theorem addR_add (P : ReS) (s t : List UInt8) : (P.add s).add t = P.add (s ++ t) := by
  unfold ReS.add; dsimp only; rw [List.append_assoc]
theorem early {rest : List UInt8} (hW : Whole T a b) (hl : l ++ rest = T) (h : (reFinish (reAll ((reNew false 1048576).add l))).2 = 3) : rest = [] ∧ (reAll ((reNew false 1048576).add l)).inp = [] := by
  have hsh := new_shut gN l; have h4 := fin_3 hsh h; have hok := add_okR (reNew_ok false in64_most) l; have hA := reAll_add hok (show ((reNew false 1048576).add l).shut = false from rfl) rest; rw [addR_add, hl] at hA; have h5 : reAll ((reAll ((reNew false 1048576).add l)).add rest) = (reAll ((reNew false 1048576).add l)).add rest := reAll5 (by show 4 ≤ (reAll ((reNew false 1048576).add l)).st; omega); rw [h5] at hA
  have hi : (reAll ((reNew false 1048576).add T)).inp = (reAll ((reNew false 1048576).add l)).inp ++ rest := by
    rcases hA with he | ⟨_, _, _, _, hx⟩
    · rw [he]; rfl
    · exact hx hW.st
  rw [hW.inp] at hi; have := List.append_eq_nil_iff.1 hi.symm; exact ⟨this.2, this.1⟩
theorem gi_round {t rest : List UInt8} {now : Int} (hW : Whole T a b) (ha : a.st = 200) (hcl : a.cl = false) (hT : T.length ≤ 16384) (hl : l ++ (t ++ rest) = T) (h : Gi got l E) :
    ∃ P F, E.rep = some P ∧ erTake 5 { E with rep := some (reAdd P t).1 } now = some F ∧ (rest ≠ [] → Gi got (l ++ t) F) ∧ (rest = [] → Gd a b got F) := by
  obtain ⟨P, a0, f, e1, hS, e3, e4, e5, e6, e7⟩ := h.seen
  have hlen : l.length + t.length ≤ 16384 := by
    have := congrArg List.length hl; simp only [List.length_append] at this; omega
  have hPok := add_okR hS.ok t; obtain ⟨Pz, w, d, kz, a', c1, c2, c3, c4, c5, c6, c7⟩ := cut_round gN hS t hlen; have hall := come_all hPok (show (P.add t).ans = none from hS.bare.1) (show (P.add t).dat = [] from hS.bare.2) 6 ans0 []; rw [c2] at hall; have hPz : Pz = (reFinish ((reAll (P.add t)).with' none [])).1 := (CmR.mk.inj hall).1; have hlt : (l ++ t) ++ rest = T := by rw [List.append_assoc]; exact hl
  have hTo := whole_told hW
  have hk : kz = 0 ∨ kz = 3 := by
    by_cases h0 : kz = 0
    · exact .inl h0
    · have hx := (c7 h0 rest).2.2; rw [hlt, hTo.2.2] at hx; exact .inr hx.symm
  have h3 : kz = 3 → rest = [] ∧ (reAll ((reNew false 1048576).add (l ++ t))).inp = [] := fun hh => early hW hlt (by rw [c5.2.2]; exact hh)
  have h30 : rest = [] → kz = 3 := fun hh => by
    rw [hh, List.append_nil] at hlt; have := c5.2.2; rw [hlt, hTo.2.2] at this; exact this.symm
  -- which head is told
  have hhead : ∀ y, a' = some y → y = a := fun y hy => by
    by_cases h0 : kz = 0
    · have hS2 := c6 h0; obtain ⟨s1, s2, _⟩ := seen_step gN hS2 rest; obtain ⟨_, _, p3⟩ := told_parts s1; rw [hlt, hTo.1, hy] at p3; exact (Option.some.inj p3).symm
    · have hx := (c7 h0 rest).1; rw [hlt, hTo.1, hy] at hx; exact (Option.some.inj hx).symm
  have hbig0 : ∀ y, a0 = some y → y.st ≠ 0 := fun y hy => by have := hS.big y hy; omega
  have hw : (P.add t).st = 0 → w = ans0 ∨ w.st = 200 := fun hh => by
    have ha0 := (hS.first hh).1; have hwa := c4 ha0
    cases hy : a' with
    | none => rw [hy] at hwa; exact .inl hwa
    | some y => rw [hy] at hwa; exact .inr (by rw [show w = y from hwa, hhead y hy]; exact ha)
  obtain ⟨hb, b1, b2, hF⟩ := takeA (E := { E with rep := some (P.add t) }) (now := now) h.st rfl (by show E.key.kind = 2; rw [h.key]; rfl) hPok hS.bare.1 1 c2 hk hw
  -- the head and the body's mark behind it
  have hH : (if hb = true then w else E.head) = a'.getD ans0 ∧ (E.body || hb) = a'.isSome := by
    cases hb with
    | true =>
      obtain ⟨b3, b4⟩ := b1 rfl; have ha0 := (hS.first b4).1; have hwa := c4 ha0; rw [if_pos rfl, Bool.or_true]; refine ⟨hwa, ?_⟩
      cases hy : a' with
      | none => rw [hy] at hwa; rw [show w = ans0 from hwa] at b3; exact absurd b3 (by decide)
      | some y => rfl
    | false =>
      have hw0 := b2 rfl; rw [if_neg (by decide), Bool.or_false, e3, e4]
      cases hx : a0 with
      | none =>
        have hwa := c4 hx; rw [hw0] at hwa
        cases hy : a' with
        | none => exact ⟨rfl, rfl⟩
        | some y =>
          exfalso; rw [hy] at hwa; have h2 := hhead y hy; rw [← h2, ← show ans0 = y from hwa] at ha; exact absurd ha (by decide)
      | some x =>
        rw [hx, hw0] at c3; have hx0 := hbig0 x hx
        have c3' : x = a'.getD ans0 := by
          rw [← c3]; rfl
        refine ⟨c3', ?_⟩
        cases hy : a' with
        | none => rw [hy] at c3'; rw [show x = ans0 from c3'] at hx0; exact absurd rfl hx0
        | some y => rfl
  rw [hH.1, hH.2] at hF; have hsz : E.size + ((d.length : Nat) : Int) = (((f ++ d).length : Nat) : Int) := by rw [e5, List.length_append]; omega
  have hdt : got ++ (E.data ++ d) = f ++ d := by rw [← List.append_assoc, e6]
  refine ⟨P, _, e1, by rw [c1]; exact hF, fun hr => ?_, fun hr => ?_⟩
  · have h0 : kz = 0 := by
      rcases hk with h0 | h0
      · exact h0
      · exact absurd (h3 h0).1 hr
    rw [if_neg (by omega)]; exact ⟨h.st, h.key, h.cfg, h.known, h.cnt, h.bg, Pz, a', f ++ d, rfl, c6 h0, rfl, rfl, hsz, hdt, e7⟩
  · have hk3 := h30 hr; rw [if_pos hk3]; rw [hr, List.append_nil] at hlt; have hT5 := c5; rw [hlt] at hT5; have ha' : a' = some a := by rw [← hT5.1, hTo.1]
    have hfd : f ++ d = b := by rw [← hT5.2.1, hTo.2.1]
    subst ha'; have hsh2 : (reAll (P.add t)).shut = false := (seen_step gN hS t).2.2.2.1
    have hinp : (reAll (P.add t)).inp = [] := by
      obtain ⟨s1, _⟩ := seen_step gN hS t; have hi := (h3 hk3).2; have hst : (reAll ((reNew false 1048576).add (l ++ t))).st = 4 := by rw [hlt]; exact hW.st
      rcases s1 with he | ⟨_, _, _, _, hx⟩
      · rw [he] at hi; exact hi
      · have := hx hst; rw [hi] at this; exact this.symm
    have hst4 : (reAll (P.add t)).st = 4 := by
      obtain ⟨p1, _⟩ := told_parts (seen_step gN hS t).1; rw [hlt, hW.st] at p1; exact p1.symm
    have hrest : reRest Pz = [] := by
      rw [hPz]; unfold reFinish; rw [if_pos (show ((reAll (P.add t)).with' none []).st = 4 from hst4)]; exact hinp
    refine ⟨rfl, h.cfg, ⟨h.cnt.1, h.cnt.2.1, by show E.heard + 1 = 1; rw [h.cnt.2.2]; rfl⟩, rfl, rfl, ?_, ?_, ?_, e7⟩
    · show (decide (reRest Pz = []) && !a.cl) = true; rw [hrest, hcl]; rfl
    · show (⟨200, E.key.dig, typM a.F, E.size + ((d.length : Nat) : Int), E.began⟩ : Rs) = _; rw [h.key, h.bg, hsz, hfd]; rfl
    · show got ++ (E.data ++ d) = b; rw [hdt, hfd]
theorem gi_hearL {rest : List UInt8} {now : Int} (hW : Whole T a b) (ha : a.st = 200) (hcl : a.cl = false) (hT : T.length ≤ 16384) : ∀ (N : Nat) (E : ErS) (l s : List UInt8), s.length < N → s ≠ [] → l ++ (s ++ rest) = T → Gi got l E →
    ∃ F, erHearL N E s now = some (F, []) ∧ (rest ≠ [] → Gi got (l ++ s) F) ∧ (rest = [] → Gd a b got F)
  | 0, _, _, _, h, _, _, _ => absurd h (Nat.not_lt_zero _)
  | N + 1, E, l, s, hN, hs, hl, h => by
    have hpos : 0 < s.length := List.length_pos_iff.2 hs; have hsum : (s.take 4096).length + (s.drop 4096).length = s.length := by rw [← List.length_append, List.take_append_drop]
    have htp : 0 < (s.take 4096).length := by rw [List.length_take]; omega
    obtain ⟨P, F, e1, e2, e3, e4⟩ := gi_round (t := s.take 4096) (rest := s.drop 4096 ++ rest) (now := now) hW ha hcl hT (by rw [← List.append_assoc (s.take 4096), List.take_append_drop]; exact hl) h
    have hx : erHearL (N + 1) E s now = erHearL N F (s.drop 4096) now := by
      conv => lhs; unfold erHearL
      rw [if_neg (by rintro (h1 | h1); exact hs h1; exact h1 h.st), e1]; dsimp only; rw [e2]
    by_cases hd : s.drop 4096 = []
    · have htk : s.take 4096 = s := by
        have := List.take_append_drop 4096 s; rw [hd, List.append_nil] at this; exact this
      rw [hd, List.nil_append] at e3 e4; rw [htk] at e3; refine ⟨F, ?_, e3, e4⟩; rw [hx, hd]; obtain ⟨M, rfl⟩ : ∃ M, N = M + 1 := ⟨N - 1, by omega⟩
      unfold erHearL; rw [if_pos (.inl rfl)]
    · obtain ⟨G, g1, g2, g3⟩ := gi_hearL hW ha hcl hT N F (l ++ s.take 4096) (s.drop 4096) (by omega) hd (by rw [List.append_assoc, ← List.append_assoc (s.take 4096), List.take_append_drop]; exact hl) (e3 (by simp [hd])); refine ⟨G, by rw [hx]; exact g1, fun hr => ?_, g3⟩; have := g2 hr; rw [List.append_assoc, List.take_append_drop] at this; exact this
theorem gi_heard {s : List UInt8} {now : Int} (h : Gi got l E) : Gi got l (erHeard E s now) := ⟨h.st, h.key, h.cfg, h.known, h.cnt, h.bg, h.seen⟩
theorem gi_hear {s rest : List UInt8} {now : Int} (hW : Whole T a b) (ha : a.st = 200) (hcl : a.cl = false) (hT : T.length ≤ 16384) (hs : s ≠ []) (hl : l ++ (s ++ rest) = T) (h : Gi got l E) :
    ∃ R, erHear E s false now = some R ∧ R.last = now ∧ (rest ≠ [] → Gi got (l ++ s) R) ∧ (rest = [] → Gd a b got R) := by
  obtain ⟨F, f1, f2, f3⟩ := gi_hearL (now := now) hW ha hcl hT (s.length + 1) (erHeard E s now) l s (Nat.lt_succ_self _) hs hl (gi_heard h); have hL := hearL_same _ _ _ _ _ f1
  have hlast : F.last = now := by
    rw [hL.1]; unfold erHeard; dsimp only; rw [if_neg hs]
  refine ⟨{ F with reuse := F.reuse && decide (([] : List UInt8) = []) }, ?_, hlast, fun hr => ?_, fun hr => ?_⟩
  · unfold erHear; rw [if_neg (by simp [h.st])]; unfold erHeard at f1; rw [f1]; dsimp only; unfold erShut; rw [if_neg (by simp)]
  · have g := f2 hr; exact ⟨g.st, g.key, g.cfg, g.known, g.cnt, g.bg, g.seen⟩
  · have g := f3 hr; exact ⟨g.st, g.cfg, g.cnt, g.head, g.body, (by show (F.reuse && decide (([] : List UInt8) = [])) = true; rw [g.reuse]; rfl), g.res, g.data, g.taken⟩
theorem within9 : withinM 9 4621819117588971520 = true := by decide +kernel
theorem gi_tick {now : Int} (h : Gi got l E) (hl : E.last = now) : erTick E (now + 9) = E := by
  unfold erTick; refine if_neg ?_; rintro ⟨_, h2⟩; rw [hl, h.cfg, show now + 9 - now = 9 by omega] at h2; rw [show cf24.tm = 4621819117588971520 from rfl, within9] at h2; cases h2
theorem gd_tick {now : Int} (h : Gd a b got E) : erTick E now = E := by
  unfold erTick; exact if_neg (fun hh => by have := h.st; omega)
theorem gi_took (h : Gi got l E) : Gi (got ++ E.data) l (erTook E) := by
  obtain ⟨P, a0, f, e1, e2, e3, e4, e5, e6, e7⟩ := h.seen; refine ⟨h.st, h.key, h.cfg, h.known, h.cnt, h.bg, P, a0, f, e1, e2, e3, e4, e5, ?_, ?_⟩
  · show (got ++ E.data) ++ [] = f; rw [List.append_nil, e6]
  · show E.taken + (E.data.length : Nat) = ((got ++ E.data).length : Nat); rw [e7, List.length_append]; omega
theorem gd_took (h : Gd a b got E) : Gd a b (got ++ E.data) (erTook E) := by
  refine ⟨h.st, h.cfg, h.cnt, h.head, h.body, h.reuse, h.res, ?_, ?_⟩
  · show (got ++ E.data) ++ [] = b; rw [List.append_nil, h.data]
  · show E.taken + (E.data.length : Nat) = ((got ++ E.data).length : Nat); rw [h.taken, List.length_append]; omega
end
end Go.Proofs.YtlhnjkekjbbhcaaGreatDoor
