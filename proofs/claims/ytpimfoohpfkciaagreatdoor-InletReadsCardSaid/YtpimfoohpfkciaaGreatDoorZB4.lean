/- Parts of the proof, in order. No conditions but those that each theorem states. -/
import Derived.Test.YtpimfoohpfkciaaGreatDoorZB3
import Derived.Deep.LoopGhost
import Derived.DeepKeys4
import Derived.Deep.RegionHeld3
/- Layer 10, plain law: what a head comes to is no longer than its bytes. No program. -/
namespace Go.Proofs.YtpimfoohpfkciaaGreatDoor
open Go.RowKit

theorem trimW_le (l : List UInt8) : (trimW l).length ≤ l.length := by
  unfold trimW Lib.trimS Lib.trimLeftS Lib.trimRightS
  refine Nat.le_trans (List.dropWhile_sublist _).length_le ?_
  rw [List.length_reverse]
  refine Nat.le_trans (List.dropWhile_sublist _).length_le ?_
  simp
theorem parse_le {l : List UInt8} {f : Fld} (h : parseF l = some f) : f.name.length ≤ l.length ∧ f.value.length ≤ l.length := by
  unfold parseF at h
  dsimp only at h
  have hc := cut_len l [58]
  split at h
  · cases h
    exact ⟨hc.1, Nat.le_trans (trimW_le _) hc.2⟩
  · cases h
def Small (m : Nat) (F : List Fld) : Prop := F.length ≤ 32 ∧ ∀ x ∈ F, x.name.length ≤ m ∧ x.value.length ≤ m
theorem add_small {m : Nat} {F : List Fld} {l : List UInt8} (h : Small m F) (hl : l.length ≤ m) : Small m (addM F l).1 := by
  unfold addM
  split
  · exact h
  · rename_i f hf
    have hp := parse_le hf
    split
    · exact h
    · refine ⟨by simp; omega, fun x hx => ?_⟩
      rcases List.mem_append.1 hx with hx | hx
      · exact h.2 x hx
      · simp at hx; subst hx; exact ⟨by omega, by omega⟩
theorem loop_small (s st : List UInt8) : ∀ (k : Nat) (F : List Fld) (n : Nat), n ≤ s.length → n ≤ 4096 → Small s.length F → Small s.length (loopM s st k F n).F ∧ (loopM s st k F n).st = st
  | 0, F, n, h, _, hF => ⟨hF, rfl⟩
  | k + 1, F, n, h, h2, hF => by
    have hb := next_bounds h h2
    unfold loopM
    by_cases h4 : (nextM s n).2.2 ≠ 0
    · rw [if_pos h4]; exact ⟨hF, rfl⟩
    · rw [if_neg h4]
      by_cases h5 : (nextM s n).1 = []
      · rw [if_pos h5]; exact ⟨hF, rfl⟩
      · rw [if_neg h5]
        have ha := add_small hF hb.2.2.2
        by_cases h6 : (addM F (nextM s n).1).2 ≠ 0
        · rw [if_pos h6]; exact ⟨ha, rfl⟩
        · rw [if_neg h6]; exact loop_small s st k _ _ hb.1 hb.2.1 ha
theorem split_small (s : List UInt8) : Small s.length (splitM s).F ∧ (splitM s).st.length ≤ s.length ∧ (splitM s).n ≤ s.length := by
  have hb := next_bounds (s := s) (n := 0) (Nat.zero_le _) (Nat.zero_le _)
  have h0 : Small s.length [] := ⟨by simp, by simp⟩
  have hr : Small s.length (readM s).F ∧ (readM s).st.length ≤ s.length := by
    unfold readM
    by_cases h4 : (nextM s 0).2.2 ≠ 0
    · rw [if_pos h4]; exact ⟨h0, by simp⟩
    · rw [if_neg h4]
      by_cases h6 : beginE (nextM s 0).1 ≠ 0
      · rw [if_pos h6]; exact ⟨h0, by simp⟩
      · rw [if_neg h6]
        have := loop_small s (nextM s 0).1 4097 [] (nextM s 0).2.1 hb.1 hb.2.1 h0
        exact ⟨this.1, by rw [this.2]; exact hb.2.2.2⟩
  refine ⟨?_, ?_, split_n_le s⟩ <;> unfold splitM <;> split
  · exact h0
  · exact hr.1
  · simp
  · exact hr.2
theorem loop_pos (s st : List UInt8) : ∀ (k : Nat) (F : List Fld) (n : Nat), n ≤ s.length → n ≤ 4096 → (loopM s st k F n).e = 0 → n + 1 ≤ (loopM s st k F n).n
  | 0, F, n, h, _, he => by unfold loopM at he; simp at he
  | k + 1, F, n, h, h2, he => by
    have hb := next_bounds h h2
    unfold loopM at he ⊢
    by_cases h4 : (nextM s n).2.2 ≠ 0
    · rw [if_pos h4] at he; exact absurd he h4
    · rw [if_neg h4] at he ⊢
      have hn := hb.2.2.1 (by simpa using h4)
      by_cases h5 : (nextM s n).1 = []
      · rw [if_pos h5]; exact hn
      · rw [if_neg h5] at he ⊢
        by_cases h6 : (addM F (nextM s n).1).2 ≠ 0
        · rw [if_pos h6]; exact hn
        · rw [if_neg h6] at he ⊢
          have := loop_pos s st k _ _ hb.1 hb.2.1 he
          omega
theorem split_pos (s : List UInt8) : (splitM s).e = 0 → 2 ≤ (splitM s).n := by
  have hb := next_bounds (s := s) (n := 0) (Nat.zero_le _) (Nat.zero_le _)
  have hr : (readM s).e = 0 → 2 ≤ (readM s).n := by
    unfold readM
    by_cases h4 : (nextM s 0).2.2 ≠ 0
    · rw [if_pos h4]; intro h; exact absurd h h4
    · rw [if_neg h4]
      have := hb.2.2.1 (by simpa using h4)
      by_cases h6 : beginE (nextM s 0).1 ≠ 0
      · rw [if_pos h6]; intro h; exact absurd h h6
      · rw [if_neg h6]
        intro he
        have := loop_pos s _ _ _ _ hb.1 hb.2.1 he
        omega
  unfold splitM
  split
  · rename_i h; intro h2; exact absurd h2 h
  · exact hr
end Go.Proofs.YtpimfoohpfkciaaGreatDoor

/- Layer 12, plain laws: what holds of an inlet at any time. No program. No conditions but those that each theorem states. -/
namespace Go.Proofs.YtpimfoohpfkciaaGreatDoor
open Go.RowKit

theorem frame_max (L : List Fld) : (frameM L 4096).e = 0 → (frameM L 4096).n ≤ 4096 := by
  unfold frameM
  split
  · intro h; simp at h
  · split
    · split
      · intro _; simp
      · intro h; simp at h
    · split
      · intro _; simp
      · have hu := undec_range (getV L nCL) 4096
        intro h
        simp only at h ⊢
        by_cases h0 : undecE (getV L nCL) 4096 = 0
        · exact (hu.1 h0).2
        · rcases (hu.2 h0).2 with h1 | h1 <;> rw [h1] at h <;> simp at h
theorem frame_e (L : List Fld) (m : Int) : (frameM L m).e = 0 ∨ (frameM L m).e = 3 ∨ (frameM L m).e = 4 := by
  unfold frameM
  split
  · simp
  · split
    · split <;> simp
    · split
      · simp
      · have hu := undec_range (getV L nCL) m
        simp only
        by_cases h0 : undecE (getV L nCL) m = 0
        · left; rw [h0]; simp
        · rcases (hu.2 h0).2 with h1 | h1 <;> rw [h1] <;> simp
theorem head_bounds (l : List UInt8) : ((headM l).got = true → (headM l).s = 0) ∧ ((headM l).got = true → (headM l).n ≤ l.length) ∧ ((headM l).got = true → (headM l).skip ≤ 4096) ∧ ((headM l).got = true → 2 ≤ (headM l).n) := by
  have hn := (split_small l).2.2
  have hp := split_pos l
  have hf := frame_max (splitM l).F
  unfold headM
  split
  · exact ⟨fun h => (by cases h), fun h => (by cases h), fun h => (by cases h), fun h => (by cases h)⟩
  rename_i h1
  split
  · exact ⟨fun h => (by cases h), fun h => (by cases h), fun h => (by cases h), fun h => (by cases h)⟩
  split
  · exact ⟨fun h => (by cases h), fun h => (by cases h), fun h => (by cases h), fun h => (by cases h)⟩
  split
  · exact ⟨fun h => (by cases h), fun h => (by cases h), fun h => (by cases h), fun h => (by cases h)⟩
  · rename_i h4
    have h5 := hf (by simpa using h4)
    exact ⟨fun _ => rfl, fun _ => hn, fun _ => by simp only; omega, fun _ => hp (by simpa using h1)⟩
theorem head_ne200 (l : List UInt8) : (headM l).s ≠ 200 := by
  unfold headM
  have ht : ∀ e long : Int, long ≠ 200 → toldE e long ≠ 200 := fun e long h => by unfold toldE; split; (simp); split; (exact h); simp
  split
  · exact ht _ _ (by decide)
  split
  · rename_i h; exact h
  split
  · simp [hr0]
  split
  · exact ht _ _ (by decide)
  · simp
theorem addC_sound {c : Ck} (s : List UInt8) (h : c.err = 0 → c.ok) (hs : c.st ≤ 4) : (addC c s).most = c.most ∧ (addC c s).inp.length + (addC c s).dat.length ≤ c.inp.length + c.dat.length + s.length ∧ (addC c s).st ≤ 4 ∧ ((addC c s).err = 0 → (addC c s).ok) := by
  have hr := addC_R (s := s) h
  unfold AddR at hr
  by_cases h0 : c.err = 0
  · rw [if_neg (by simp [h0])] at hr
    obtain ⟨d, e, hr, hc⟩ := hr
    have ho := runs_ok hr (add_ok (h h0) s)
    have hst := runs_st hr (show (c.add s).st ≤ 4 from hs)
    have hl := ho.2.2.2.1
    simp only [Ck.add, List.length_append] at hl
    rw [hc]
    refine ⟨ho.2.1, by simp only; omega, hst.1, fun he => ?_⟩
    simp only at he
    split at he
    · rename_i h17; exact ho.1 h17
    · exact absurd he (runs_ne hr)
  · rw [if_pos h0] at hr
    rw [hr]
    exact ⟨rfl, by omega, hs, h⟩
theorem next_hst {I : InS} (h : I.ok) : ∀ J c, J = I ∨ J = headed I (headM I.inp) → J.chk = some c → (addC c J.inp).st ≤ 4 ∧ (c.err = 0 → c.ok) := by
  intro J c hJ hc
  have key : (c.err = 0 → c.ok) ∧ c.st ≤ 4 := by
    rcases hJ with rfl | rfl
    · have := h.chk c hc; exact ⟨this.1, this.2.2.2⟩
    · have h2 : (if (headM I.inp).ch then some (ck0 4096) else I.chk) = some c := hc
      split at h2
      · cases h2; exact ⟨fun _ => ck0_ok _, by simp [ck0]⟩
      · have := h.chk c h2; exact ⟨this.1, this.2.2.2⟩
  exact ⟨(addC_sound _ key.1 key.2).2.2.1, key.1⟩
theorem in0_ok : in0.ok := ⟨by simp [in0], by simp [in0], by simp [in0], by simp [in0], by simp [in0], by simp [in0]⟩
theorem inAdd_ok {I : InS} (h : I.ok) (s : List UInt8) : (inAdd I s).1.ok := by
  unfold inAdd
  split
  · exact h
  · split
    · exact h
    · rename_i h1 h2
      have : I.left = I.inp.length + I.held := rfl
      exact ⟨by simp only [List.length_append]; omega, h.skp, h.chk, h.req, h.bad, h.hld⟩
theorem told_ne {e long : Int} (h : e ≠ 0) (h17 : e ≠ 17) (hl : long ≠ 0) : toldE e long ≠ 0 := by
  unfold toldE
  rw [if_neg (by omega)]
  split <;> omega
theorem addC_ne17 {c : Ck} (s : List UInt8) (h : c.err ≠ 17) : (addC c s).err ≠ 17 := by
  unfold addC
  split
  · exact h
  · simp only; split <;> omega
theorem toldE_ne {e : Int} (h : toldE e 413 = 0) : e = 0 ∨ e = 17 := by
  unfold toldE at h
  split at h
  · assumption
  · split at h <;> simp at h
theorem tail_none {p : InS} (q : Req) (hc : p.chk = none) (h : p.skip ≤ p.inp.length) : tailI p q = ⟨{ p with inp := p.inp.drop p.skip, held := 0, skip := 0, req := none }, q, 200⟩ := by
  have hb : bodyB p = ⟨{ p with inp := p.inp.drop p.skip, held := p.held + p.skip, skip := 0 }, true, 0⟩ := by
    unfold bodyB
    rw [hc]
    dsimp only
    rw [Nat.min_eq_left h, Nat.sub_self]
    rfl
  unfold tailI
  rw [hb]
  rfl
theorem tail_none' {p : InS} (q : Req) (hc : p.chk = none) (h : p.inp.length < p.skip) : tailI p q = ⟨{ p with inp := [], held := p.held + p.inp.length, skip := p.skip - p.inp.length }, req0, 0⟩ := by
  have hb : bodyB p = ⟨{ p with inp := [], held := p.held + p.inp.length, skip := p.skip - p.inp.length }, false, 0⟩ := by
    unfold bodyB
    rw [hc]
    dsimp only
    rw [Nat.min_eq_right (by omega), List.drop_length, decide_eq_false (by omega)]
  unfold tailI
  rw [hb]
  rfl
theorem tail_bad {p : InS} {c : Ck} (q : Req) (hc : p.chk = some c) (he : (addC c p.inp).err ≠ 0) (h17 : (addC c p.inp).err ≠ 17) :
    tailI p q = ⟨{ p with inp := [], held := p.held + p.inp.length, chk := some (addC c p.inp), st := toldE (addC c p.inp).err 413 }, req0, toldE (addC c p.inp).err 413⟩ := by
  have hb : bodyB p = ⟨{ p with inp := [], held := p.held + p.inp.length, chk := some (addC c p.inp) }, false, toldE (addC c p.inp).err 413⟩ := by
    unfold bodyB
    rw [hc]
    dsimp only
    rw [if_pos he]
  unfold tailI
  rw [hb]
  dsimp only
  rw [if_pos (told_ne he h17 (by decide))]
theorem tail_more {p : InS} {c : Ck} (q : Req) (hc : p.chk = some c) (he : (addC c p.inp).err = 0) (h4 : (addC c p.inp).st ≠ 4) :
    tailI p q = ⟨{ p with inp := [], held := p.held + p.inp.length, chk := some (addC c p.inp) }, req0, 0⟩ := by
  have hb : bodyB p = ⟨{ p with inp := [], held := p.held + p.inp.length, chk := some (addC c p.inp) }, false, 0⟩ := by
    unfold bodyB
    rw [hc]
    dsimp only
    rw [if_neg (by simp [he]), if_pos h4]
  unfold tailI
  rw [hb]
  rfl
theorem tail_done {p : InS} {c : Ck} (q : Req) (hc : p.chk = some c) (he : (addC c p.inp).err = 0) (h4 : (addC c p.inp).st = 4) :
    tailI p q = ⟨{ p with inp := (addC c p.inp).inp, held := 0, chk := none, req := none }, q, 200⟩ := by
  have hb : bodyB p = ⟨{ p with inp := (addC c p.inp).inp, held := p.held + p.inp.length, chk := none }, true, 0⟩ := by
    unfold bodyB
    rw [hc]
    dsimp only
    rw [if_neg (by simp [he]), if_neg (by simp [h4])]
  unfold tailI
  rw [hb]
  rfl
/-- a body's piece keeps what holds -/
theorem tail_ok {p : InS} (q : Req) (h : p.ok) (hq : p.req ≠ none) (h0 : p.st = 0) : (tailI p q).p.ok := by
  have hl := h.len
  have hs := h.skp
  cases hc : p.chk with
  | none =>
    rcases Nat.lt_or_ge p.inp.length p.skip with hlt | hge
    · rw [tail_none' q hc hlt]
      exact ⟨by simp only [List.length_nil]; omega, by simp only; omega, fun c hh => absurd (hc.symm.trans hh) (by simp), fun _ hh => absurd hh hq, fun c _ hh => absurd (hc.symm.trans hh) (by simp), fun _ _ => by have := h.hld h0 hq; simp only; omega⟩
    · rw [tail_none q hc hge]
      exact ⟨by simp only [List.length_drop]; omega, by simp only; omega, fun c hh => absurd (hc.symm.trans hh) (by simp), fun _ _ => ⟨hc, rfl⟩, fun c _ hh => absurd (hc.symm.trans hh) (by simp), fun _ hh => absurd rfl hh⟩
  | some c =>
    obtain ⟨k1, k2, k3, k4⟩ := h.chk c hc
    have ke := h.bad c h0 hc
    obtain ⟨d1, d2, d3, d4⟩ := addC_sound p.inp k1 k4
    have d5 := addC_ne17 (c := c) p.inp (by rw [ke]; decide)
    by_cases e1 : (addC c p.inp).err = 0
    · by_cases e2 : (addC c p.inp).st = 4
      · rw [tail_done q hc e1 e2]
        exact ⟨by simp only; omega, hs, fun c hh => by simp at hh, fun _ _ => ⟨rfl, rfl⟩, fun c _ hh => by simp at hh, fun _ hh => absurd rfl hh⟩
      · rw [tail_more q hc e1 e2]
        refine ⟨by simp only [List.length_nil]; omega, hs, fun c' hh => ?_, fun _ hh => absurd hh hq, fun c' _ hh => ?_, fun _ _ => by have := h.hld h0 hq; simp only; omega⟩
        · obtain rfl : addC c p.inp = c' := by simpa using hh
          exact ⟨d4, by rw [d1]; exact k2, by simp only; omega, d3⟩
        · obtain rfl : addC c p.inp = c' := by simpa using hh
          exact e1
    · have ht := told_ne (long := 413) e1 d5 (by decide)
      rw [tail_bad q hc e1 d5]
      refine ⟨by simp only [List.length_nil]; omega, hs, fun c' hh => ?_, fun hh => absurd hh ht, fun c' hh => absurd hh ht, fun hh => absurd hh ht⟩
      obtain rfl : addC c p.inp = c' := by simpa using hh
      exact ⟨d4, by rw [d1]; exact k2, by simp only; omega, d3⟩
theorem headed_ok {p : InS} (h : p.ok) (h0 : p.st = 0) (hr : p.req = none) (hg : (headM p.inp).got = true) : (headed p (headM p.inp)).ok := by
  obtain ⟨b1, b2, b3, b4⟩ := head_bounds p.inp
  have b4 := b4 hg
  have b2 := b2 hg
  have b3 := b3 hg
  have hl := h.len
  have hc := (h.req h0 hr).1
  generalize headM p.inp = hd at *
  have hk : ∀ c, (headed p hd).chk = some c → c = ck0 4096 := fun c hh => by
    have h2 : (if hd.ch then some (ck0 4096) else p.chk) = some c := hh
    rw [hc] at h2
    split at h2
    · cases h2; rfl
    · cases h2
  refine ⟨?_, b3, fun c hh => ?_, fun _ hh => (by cases hh), fun c _ hh => ?_, fun _ _ => b4⟩
  · show (p.inp.drop hd.n).length + hd.n ≤ 16384
    rw [List.length_drop]; omega
  · rw [hk c hh]
    exact ⟨fun _ => ck0_ok _, rfl, b4, by simp [ck0]⟩
  · rw [hk c hh]; rfl
theorem next_ok {p : InS} (h : p.ok) : (nextI p).p.ok := by
  unfold nextI
  by_cases h0 : p.st = 0
  · rw [if_neg (by simp [h0])]
    cases hr : p.req with
    | some q => exact tail_ok q h (by rw [hr]; simp) h0
    | none =>
      dsimp only
      by_cases hs : (headM p.inp).s = 0
      · rw [if_neg (by simp [hs])]
        cases hg : (headM p.inp).got with
        | false => exact h
        | true => exact tail_ok _ (headed_ok h h0 hr hg) (by simp [headed]) h0
      · rw [if_pos hs]
        exact ⟨h.len, h.skp, h.chk, fun hh => absurd hh hs, fun c hh => absurd hh hs, fun hh => absurd hh hs⟩
  · rw [if_pos h0]; exact h
/-- with a request that came whole nothing is wrong, and fewer bytes are left -/
theorem tail_200 {p : InS} {q : Req} (h : p.ok) (h0 : p.st = 0) (hq : p.req ≠ none) (hs : (tailI p q).s = 200) : (tailI p q).p.st = 0 ∧ (tailI p q).p.left + 2 ≤ p.left := by
  have hh := h.hld h0 hq
  unfold InS.left
  cases hc : p.chk with
  | none =>
    rcases Nat.lt_or_ge p.inp.length p.skip with hlt | hge
    · rw [tail_none' q hc hlt] at hs; simp at hs
    · rw [tail_none q hc hge]
      refine ⟨h0, ?_⟩
      simp only [List.length_drop]; omega
  | some c =>
    obtain ⟨k1, k2, k3, k4⟩ := h.chk c hc
    have ke := h.bad c h0 hc
    obtain ⟨d1, d2, d3, d4⟩ := addC_sound p.inp k1 k4
    have d5 := addC_ne17 (c := c) p.inp (by rw [ke]; decide)
    by_cases e1 : (addC c p.inp).err = 0
    · by_cases e2 : (addC c p.inp).st = 4
      · rw [tail_done q hc e1 e2]
        refine ⟨h0, ?_⟩
        simp only; omega
      · rw [tail_more q hc e1 e2] at hs; simp at hs
    · rw [tail_bad q hc e1 d5] at hs
      exfalso
      simp only at hs
      unfold toldE at hs
      split at hs
      · simp at hs
      · split at hs <;> simp at hs
theorem next_200 {p : InS} (h : p.ok) (h0 : p.st = 0) (hs : (nextI p).s = 200) : (nextI p).p.st = 0 ∧ (nextI p).p.left + 2 ≤ p.left := by
  unfold nextI at hs ⊢
  rw [if_neg (by simp [h0])] at hs ⊢
  cases hr : p.req with
  | some q =>
    rw [hr] at hs
    exact tail_200 h h0 (by rw [hr]; simp) hs
  | none =>
    rw [hr] at hs
    dsimp only at hs ⊢
    by_cases h1 : (headM p.inp).s = 0
    · rw [if_neg (by simp [h1])] at hs ⊢
      cases hg : (headM p.inp).got with
      | false => rw [hg] at hs; simp at hs
      | true =>
        rw [hg] at hs
        have := tail_200 (headed_ok h h0 hr hg) h0 (by simp [headed]) hs
        refine ⟨this.1, Nat.le_trans this.2 ?_⟩
        have hb := (head_bounds p.inp).2.1 hg
        unfold InS.left
        show (p.inp.drop (headM p.inp).n).length + (headM p.inp).n ≤ p.inp.length + p.held
        rw [List.length_drop]; omega
    · rw [if_pos h1] at hs
      exact absurd hs (head_ne200 p.inp)
theorem tail_le {p : InS} (q : Req) (h : p.ok) (h0 : p.st = 0) (_hq : p.req ≠ none) : (tailI p q).p.left ≤ p.left := by
  cases hc : p.chk with
  | none =>
    rcases Nat.lt_or_ge p.inp.length p.skip with hlt | hge
    · rw [tail_none' q hc hlt]; unfold InS.left; simp only [List.length_nil]; omega
    · rw [tail_none q hc hge]; unfold InS.left; simp only [List.length_drop]; omega
  | some c =>
    obtain ⟨k1, k2, k3, k4⟩ := h.chk c hc
    have ke := h.bad c h0 hc
    obtain ⟨d1, d2, d3, d4⟩ := addC_sound p.inp k1 k4
    have d5 := addC_ne17 (c := c) p.inp (by rw [ke]; decide)
    by_cases e1 : (addC c p.inp).err = 0
    · by_cases e2 : (addC c p.inp).st = 4
      · rw [tail_done q hc e1 e2]; unfold InS.left; simp only; omega
      · rw [tail_more q hc e1 e2]; unfold InS.left; simp only [List.length_nil]; omega
    · rw [tail_bad q hc e1 d5]; unfold InS.left; simp only [List.length_nil]; omega
theorem next_le {p : InS} (h : p.ok) : (nextI p).p.left ≤ p.left := by
  unfold nextI
  by_cases h0 : p.st = 0
  · rw [if_neg (by simp [h0])]
    cases hr : p.req with
    | some q => exact tail_le q h h0 (by rw [hr]; simp)
    | none =>
      dsimp only
      by_cases hs : (headM p.inp).s = 0
      · rw [if_neg (by simp [hs])]
        cases hg : (headM p.inp).got with
        | false => exact Nat.le_refl _
        | true =>
          refine Nat.le_trans (tail_le _ (headed_ok h h0 hr hg) h0 (by simp [headed])) ?_
          have hb := (head_bounds p.inp).2.1 hg
          unfold InS.left
          show (p.inp.drop (headM p.inp).n).length + (headM p.inp).n ≤ p.inp.length + p.held
          rw [List.length_drop]; omega
      · rw [if_pos hs]; exact Nat.le_refl _
  · rw [if_pos h0]; exact Nat.le_refl _
theorem next_st {p : InS} (h : p.ok) (h0 : p.st = 0) (hs : (nextI p).s = 200) : (nextI p).p.st = 0 := (next_200 h h0 hs).1
end Go.Proofs.YtpimfoohpfkciaaGreatDoor

/- Layer 16: what the statements are awake to; the statements' own decimal numbers. No conditions but on sizes. -/
namespace Go.Proofs.YtpimfoohpfkciaaGreatDoor
open Go.RowKit Go.Shelf

theorem cut_by (a b : List UInt8) (c : UInt8) (h : c ∉ a) : Lib.cut (a ++ c :: b) [c] = (a, b, true) := by
  unfold Lib.cut
  have hi : Lib.index (a ++ c :: b) [c] = (a.length : Int) := by
    rw [Lib.index_one]
    refine indexByte_at (by simp) (fun j hj => ?_)
    rw [List.getElem?_append_left hj]
    intro e
    exact h (List.mem_of_getElem? e)
  rw [hi, if_pos (by omega)]
  simp
theorem dec_no (u : Nat) {c : UInt8} (h : decB c = false) : c ∉ Lib.decDigits u := fun hm => by
  have := List.all_eq_true.1 (dec_all u) c hm
  rw [h] at this
  cases this
theorem unit_pre {u : List UInt8} (h6 : u.length = 6) (hu : (u.zip unitB).all (fun p => unitOk p.2 p.1) = true) (r : List UInt8) : isUnitM (u ++ r) = true ∧ (u ++ r).drop 6 = r := by
  refine ⟨?_, by rw [List.drop_append_of_le_length (by omega), List.drop_of_length_le (by omega)]; rfl⟩
  unfold isUnitM
  have : (u ++ r).zip unitB = u.zip unitB := by
    have e : unitB = unitB ++ [] := (List.append_nil _).symm
    rw [e, List.zip_append (by rw [h6]; rfl), List.zip_nil_right]
    simp
  rw [this, hu]
  simp; omega
/-- what a Range of two numbers is -/
theorem bds_of {u a b : List UInt8} (h6 : u.length = 6) (hu : (u.zip unitB).all (fun p => unitOk p.2 p.1) = true) (ha : (45 : UInt8) ∉ a) :
    bdsM (u ++ (a ++ 45 :: b)) = ⟨numN a, numI a, numN b, numI b, true && numK a && numK b && (numI a || numI b) && !(numI a && numI b && decide (numN b < numN a))⟩ := by
  unfold bdsM
  obtain ⟨h1, h2⟩ := unit_pre h6 hu (a ++ 45 :: b)
  rw [if_pos h1]
  simp only [h2, cut_by a b 45 ha]
theorem ask_get (l : List UInt8) : getV [⟨rangeB, l⟩] rangeB = l ∧ getN [⟨rangeB, l⟩] rangeB = 1 := by
  have : getS [⟨rangeB, l⟩] rangeB = [⟨rangeB, l⟩] := by
    unfold getS
    rw [List.filter_cons_of_pos (by simp [sameN]), List.filter_nil]
  unfold getV getN
  rw [this]
  exact ⟨rfl, rfl⟩
theorem ask_parse (l : List UInt8) (size : Int) : parseM [⟨rangeB, l⟩] size = prtM 1 (bdsM l) size := by
  unfold parseM
  rw [(ask_get l).1, (ask_get l).2]
  rfl

theorem nat_mod (n : Nat) : ((n : Int)).tmod 10 = ((n % 10 : Nat) : Int) := by rw [Int.tmod_eq_emod_of_nonneg (by omega)]; omega
theorem nat_div (n : Nat) : ((n : Int)).tdiv 10 = ((n / 10 : Nat) : Int) := by rw [Int.tdiv_eq_ediv_of_nonneg (by omega)]; omega
theorem dig_cut {r : Nat} (h : r < 10) : (⟨#[48, 49, 50, 51, 52, 53, 54, 55, 56, 57]⟩ : ByteArray).extract r (r + 1) = S [UInt8.ofNat (48 + r)] := by
  have : ∀ r : Fin 10, (⟨#[48, 49, 50, 51, 52, 53, 54, 55, 56, 57]⟩ : ByteArray).extract r.1 (r.1 + 1) = S [UInt8.ofNat (48 + r.1)] := by decide +kernel
  exact this ⟨r, h⟩
def decI (first : Bool) (n : Nat) : List UInt8 := if first = true ∨ 0 < n then Lib.decDigits n else []
theorem decI_step (first : Bool) (n : Nat) (h : first = true ∨ 0 < n) : decI first n = decI false (n / 10) ++ [UInt8.ofNat (48 + n % 10)] := by
  unfold decI
  rw [if_pos h]
  by_cases h1 : n < 10
  · rw [dec_small h1, if_neg (by simp; omega), Nat.mod_eq_of_lt h1]; rfl
  · rw [dec_big h1, if_pos (by right; omega)]

end Go.Proofs.YtpimfoohpfkciaaGreatDoor

/- Layer 16: what the statements are awake to; the statement SliceCovers: its function answers true for every input. No conditions but on the library's tables. -/
namespace Go.Proofs.YtpimfoohpfkciaaGreatDoor
open Go.RowKit Go.Shelf

def q1 : List UInt8 := [98, 121, 116, 101, 115, 61, 50, 45, 52]
def q2 : List UInt8 := [98, 121, 116, 101, 115, 61, 45, 51]
def q3 : List UInt8 := [98, 121, 116, 101, 115, 61, 49, 48, 45]
def q4 : List UInt8 := [98, 121, 116, 101, 115, 61, 49, 45, 50, 44, 52, 45, 53]
theorem awake16_parse : prtM 1 (bdsM q1) 10 = ⟨2, 2, 4⟩ ∧ prtM 1 (bdsM q2) 10 = ⟨2, 7, 9⟩ ∧ prtM 1 (bdsM q3) 10 = ⟨3, 0, 0⟩ ∧ prtM 1 (bdsM q4) 10 = ⟨1, 0, 9⟩ := by decide +kernel
theorem itoa_10 : Lib.itoa 10 = [49, 48] := by
  have := Lib.itoa_nonneg 10
  rw [show ((10 : Nat) : Int) = 10 from rfl] at this
  rw [this, dec_big (by omega), dec_small (by omega)]
  rfl
theorem itoa_1 {n : Nat} (h : n < 10) : Lib.itoa (n : Int) = [UInt8.ofNat (48 + n)] := by rw [Lib.itoa_nonneg, dec_small h]
theorem awake16_print : prnS 2 4 10 = [98, 121, 116, 101, 115, 32, 50, 45, 52, 47, 49, 48] ∧ prnE 2 4 10 = 0 ∧ unmetS 10 = [98, 121, 116, 101, 115, 32, 42, 47, 49, 48] := by
  have h2 : Lib.itoa 2 = [50] := itoa_1 (n := 2) (by omega)
  have h4 : Lib.itoa 4 = [52] := itoa_1 (n := 4) (by omega)
  refine ⟨?_, rfl, ?_⟩
  · unfold prnS
    rw [if_pos (show prnOk 2 4 10 = true by decide), h2, h4, itoa_10]; rfl
  · unfold unmetS
    rw [show max (10 : Int) 0 = 10 from rfl, itoa_10]; rfl

def unitC : List UInt8 := [66, 121, 116, 101, 115, 61]
theorem num_zero : numN [48] = 0 ∧ numI [48] = true ∧ numK [48] = true ∧ numN [] = 0 ∧ numI [] = false ∧ numK [] = true := by decide +kernel
/-- the three parts that are asked for -/
theorem covers_plain (size n : Nat) (h2 : 2 ≤ size) (hs : (size : Int) ≤ 4611686018427387904) (h1 : 1 ≤ n) (hn : n < size) :
    prtM 1 (bdsM (unitB ++ ([48] ++ 45 :: Lib.decDigits (n - 1)))) size = ⟨2, 0, (n : Int) - 1⟩ ∧ prtM 1 (bdsM (unitB ++ (Lib.decDigits n ++ 45 :: []))) size = ⟨2, n, (size : Int) - 1⟩ ∧ prtM 1 (bdsM (unitC ++ ([] ++ 45 :: Lib.decDigits (size - n)))) size = ⟨2, n, (size : Int) - 1⟩ := by
  obtain ⟨z1, z2, z3, z4, z5, z6⟩ := num_zero
  have hB : (unitB.zip unitB).all (fun p => unitOk p.2 p.1) = true := by decide
  have hC : (unitC.zip unitB).all (fun p => unitOk p.2 p.1) = true := by decide
  refine ⟨?_, ?_, ?_⟩
  · obtain ⟨n1, n2, n3⟩ := num_dec (n - 1) (by omega)
    rw [bds_of rfl hB (by decide), z1, z2, z3, n1, n2, n3]
    unfold prtM
    dsimp only
    rw [if_neg (by simp <;> omega), if_neg (by simp <;> omega), if_neg (by simp), if_pos rfl]
    congr 1
    omega
  · obtain ⟨n1, n2, n3⟩ := num_dec n (by omega)
    rw [bds_of rfl hB (dec_no n (by decide)), z4, z5, z6, n1, n2, n3]
    unfold prtM
    dsimp only
    rw [if_neg (by simp), if_neg (by simp <;> omega), if_neg (by simp), if_neg (by simp)]
    congr 1
    omega
  · obtain ⟨n1, n2, n3⟩ := num_dec (size - n) (by omega)
    rw [bds_of rfl hC (by simp), z4, z5, z6, n1, n2, n3]
    unfold prtM
    dsimp only
    rw [if_neg (by simp), if_neg (by simp <;> omega), if_pos rfl]
    congr 1
    · omega
    · omega
end Go.Proofs.YtpimfoohpfkciaaGreatDoor

/- Layer 16: Read. No conditions but on lengths and the library's tables. -/
namespace Go.Proofs.YtpimfoohpfkciaaGreatDoor
open Go.RowKit Go.Shelf

/-- what a Content-Range is read as -/
structure Rd3 where
  a : Int
  b : Int
  c : Int
  e : Int
  deriving DecidableEq
/-- the three texts -/
def rdA (l : List UInt8) : List UInt8 := (Lib.cut (Lib.trimPrefix l saidB) [45]).1
def rdB (l : List UInt8) : List UInt8 := (Lib.cut (Lib.cut (Lib.trimPrefix l saidB) [45]).2.1 [47]).1
def rdC (l : List UInt8) : List UInt8 := (Lib.cut (Lib.cut (Lib.trimPrefix l saidB) [45]).2.1 [47]).2.1
def rdcM (l : List UInt8) : Rd3 :=
  if undecE (rdA l) 4611686018427387904 ≠ 0 then ⟨0, 0, 0, 3⟩ else if undecE (rdB l) 4611686018427387904 ≠ 0 then ⟨0, 0, 0, 3⟩ else if undecE (rdC l) 4611686018427387904 ≠ 0 then ⟨0, 0, 0, 3⟩
  else if prnE (undecV (rdA l) 4611686018427387904) (undecV (rdB l) 4611686018427387904) (undecV (rdC l) 4611686018427387904) ≠ 0 ∨ prnS (undecV (rdA l) 4611686018427387904) (undecV (rdB l) 4611686018427387904) (undecV (rdC l) 4611686018427387904) ≠ l then ⟨0, 0, 0, 3⟩
  else ⟨undecV (rdA l) 4611686018427387904, undecV (rdB l) 4611686018427387904, undecV (rdC l) 4611686018427387904, 0⟩
def Rd3.asV (r : Rd3) : Value := .tuple #[.int .i64 r.a, .int .i64 r.b, .int .i64 r.c, .int .i64 r.e]
theorem trim_len (l p : List UInt8) : (Lib.trimPrefix l p).length ≤ l.length := by
  unfold Lib.trimPrefix
  split <;> simp

end Go.Proofs.YtpimfoohpfkciaaGreatDoor

/- Layer 16: what is written is read as it was. Plain laws; arrays of three numbers. No conditions. -/
namespace Go.Proofs.YtpimfoohpfkciaaGreatDoor
open Go.RowKit Go.Shelf

theorem trim_pre (p r : List UInt8) : Lib.trimPrefix (p ++ r) p = r := by
  unfold Lib.trimPrefix Lib.hasPrefix
  simp
theorem prn_nat {a b c : Int} (h : prnOk a b c = true) : ∃ x y z : Nat, a = x ∧ b = y ∧ c = z ∧ (x : Int) ≤ 4611686018427387904 ∧ (y : Int) ≤ 4611686018427387904 ∧ (z : Int) ≤ 4611686018427387904 := by
  unfold prnOk at h
  simp only [Bool.and_eq_true, decide_eq_true_eq] at h
  exact ⟨a.toNat, b.toNat, c.toNat, by omega, by omega, by omega, by omega, by omega, by omega⟩
theorem prn_parts {x y z : Nat} (h : prnOk x y z = true) : rdA (prnS x y z) = Lib.decDigits x ∧ rdB (prnS x y z) = Lib.decDigits y ∧ rdC (prnS x y z) = Lib.decDigits z := by
  have e : prnS x y z = saidB ++ (Lib.decDigits x ++ 45 :: (Lib.decDigits y ++ 47 :: Lib.decDigits z)) := by
    unfold prnS
    rw [if_pos h, Lib.itoa_nonneg, Lib.itoa_nonneg, Lib.itoa_nonneg]
    simp
  unfold rdA rdB rdC
  rw [e, trim_pre, cut_by _ _ _ (dec_no x (by decide)), cut_by _ _ _ (dec_no y (by decide))]
  exact ⟨rfl, rfl, rfl⟩
theorem rdc_ok {a b c : Int} (h : prnOk a b c = true) : rdcM (prnS a b c) = ⟨a, b, c, 0⟩ := by
  obtain ⟨x, y, z, rfl, rfl, rfl, h1, h2, h3⟩ := prn_nat h
  obtain ⟨p1, p2, p3⟩ := prn_parts h
  obtain ⟨u1, u2⟩ := undec_dec x 4611686018427387904 h1 (by omega)
  obtain ⟨u3, u4⟩ := undec_dec y 4611686018427387904 h2 (by omega)
  obtain ⟨u5, u6⟩ := undec_dec z 4611686018427387904 h3 (by omega)
  unfold rdcM
  rw [p1, p2, p3, u1, u2, u3, u4, u5, u6, if_neg (by simp), if_neg (by simp), if_neg (by simp), if_neg]
  have : prnE x y z = 0 := by unfold prnE; rw [if_pos h]
  simp [this]
theorem rdc_or (l : List UInt8) : rdcM l = ⟨0, 0, 0, 3⟩ ∨ ∃ a b c, rdcM l = ⟨a, b, c, 0⟩ ∧ prnOk a b c = true ∧ prnS a b c = l := by
  unfold rdcM
  split
  · exact .inl rfl
  · split
    · exact .inl rfl
    · split
      · exact .inl rfl
      · split
        · exact .inl rfl
        · rename_i h
          refine .inr ⟨_, _, _, rfl, ?_, ?_⟩
          · have h1 : prnE (undecV (rdA l) 4611686018427387904) (undecV (rdB l) 4611686018427387904) (undecV (rdC l) 4611686018427387904) = 0 := by
              by_cases hz : prnE (undecV (rdA l) 4611686018427387904) (undecV (rdB l) 4611686018427387904) (undecV (rdC l) 4611686018427387904) = 0
              · exact hz
              · exact absurd (Or.inl hz) h
            unfold prnE at h1
            split at h1
            · assumption
            · cases h1
          · by_cases hz : prnS (undecV (rdA l) 4611686018427387904) (undecV (rdB l) 4611686018427387904) (undecV (rdC l) 4611686018427387904) = l
            · exact hz
            · exact absurd (Or.inr hz) h
theorem prnE_iff (a b c : Int) : prnE a b c = 0 ↔ prnOk a b c = true := by
  unfold prnE
  split
  · rename_i h; simp [h]
  · rename_i h; simp [h]
theorem prn_inj {a b c a' b' c' : Int} (h : prnOk a b c = true) (h' : prnOk a' b' c' = true) : prnS a b c = prnS a' b' c' ↔ (a = a' ∧ b = b' ∧ c = c') := by
  constructor
  · intro e
    have h1 := rdc_ok h
    rw [e, rdc_ok h'] at h1
    injection h1 with e1 e2 e3
    exact ⟨e1.symm, e2.symm, e3.symm⟩
  · rintro ⟨rfl, rfl, rfl⟩; rfl
end Go.Proofs.YtpimfoohpfkciaaGreatDoor

/- Layers 1 and 10: the document's Undec and Frame. No conditions but on lengths. -/
namespace Go.Proofs.YtpimfoohpfkciaaGreatDoor
open Go.RowKit Go.Shelf

theorem digV_dec {c : UInt8} (h : 48 ≤ c.toNat ∧ c.toNat ≤ 57) : digV c = (c.toNat : Int) - 48 := by
  unfold digV
  rw [if_pos h]
/-- where the document's loop over digits stands -/
def UStage (l : List UInt8) (k : Nat) (n : Int) (b : Bool) : Prop :=
  (l.take k).all decB = true ∧ 0 ≤ n ∧ n ≤ 4611686018427387913 ∧ ((b = true ∧ gatherM 10 l 0 = none) ∨ (b = false ∧ ((gatherM 10 l 0 = gatherM 10 (l.drop k) n ∧ n ≤ 4611686018427387904) ∨ (gatherM 10 l 0 = none ∧ 4611686018427387904 < n))))

set_option maxRecDepth 100000 in
set_option maxHeartbeats 1000000 in
theorem ref_Undec (l : List UInt8) (most : Int) (w : World) (hs : l.length ≤ maxLen) :
    Calls Tryz.prog 48 #[.string (S l), .int .i64 most] w fun e w' => e = .returned (.tuple #[.int .i64 (undecV l most), .int .i64 (undecE l most)]) ∧ w = w' := by
  have hs' : l.length ≤ 9223372036854775807 := hs
  have hsz := S_size l
  have hV : undecV l most = if isDecM l then boundV 10 l most else 0 := rfl
  have hE : undecE l most = if isDecM l then boundE 10 l most else 3 := rfl
  have hD : isDecM l = (l.all decB && !l.isEmpty && (decide (l.length = 1) || decide (l.head? ≠ some 48))) := rfl
  generalize undecV l most = v at hV
  generalize undecE l most = e0 at hE
  clear hs
  by_cases hnil : l = []
  · subst hnil
    have q0 : (S []).toList = [] := S_toList []
    have HV : Hid (v = 0) := by rw [Hid, hV, hD]; rfl
    have HE : Hid (e0 = 3) := by rw [Hid, hE, hD]; rfl
    clear hV hE hD
    go_enter Tryz.func48, Tryz.ntmps48
    go_wp2_with fail
    go_ret2
    exact ⟨two_ret HV.out.symm HE.out.symm, rfl⟩
  · have hlen : 0 < l.length := List.length_pos_iff.2 hnil
    obtain ⟨b0, hg0⟩ : ∃ c, l[0]? = some c := ⟨_, List.getElem?_eq_getElem hlen⟩
    have q0 := S_toList l
    have q1 := S_get hg0
    have hb8 := u8_nat b0
    have hie : l.isEmpty = false := isEmpty_false hnil
    have hq0 : 0 < l.length := hlen
    have hhd : l.head? = some b0 := by rw [List.head?_eq_getElem?]; exact hg0
    rw [hie, hhd] at hD
    clear hnil hg0
    by_cases hz : 1 < l.length ∧ b0.toNat = 48
    · obtain ⟨hz1, hz2⟩ := hz
      have hb : b0 = 48 := UInt8.toNat_inj.1 hz2
      have HD : isDecM l = false := by rw [hD, hb]; simp; intro _; omega
      have HV : Hid (v = 0) := by rw [Hid, hV, HD]; rfl
      have HE : Hid (e0 = 3) := by rw [Hid, hE, HD]; rfl
      obtain ⟨z1, z2⟩ := int_eq (show ((b0.toNat : Nat) : Int) = 48 by omega)
      have hz1' : (1 : Int) < (l.length : Int) := by omega
      clear hV hE hD hhd HD hb hz2 hz1
      go_enter Tryz.func48, Tryz.ntmps48
      go_wp2_with fail
      go_ret2
      exact ⟨two_ret HV.out.symm HE.out.symm, rfl⟩
    · have hdec : l.all decB = true → isDecM l = true := fun h => by
        rw [hD, h]
        by_cases h1 : l.length = 1
        · simp [h1]
        · have : b0 ≠ 48 := fun e => hz ⟨by omega, by rw [e]; rfl⟩
          simp [this]
      have hnodec : l.all decB = false → isDecM l = false := fun h => by rw [hD, h]; simp
      have HY := Lib.hid (fun h => (show v = boundV 10 l most ∧ e0 = boundE 10 l most by rw [hV, hE, hdec h]; exact ⟨rfl, rfl⟩))
      have HN := Lib.hid (fun h => (show v = 0 ∧ e0 = 3 by rw [hV, hE, hnodec h]; exact ⟨rfl, rfl⟩))
      have hU0 : UStage l 0 0 false := ⟨rfl, by omega, by omega, .inr ⟨rfl, .inl ⟨by rw [List.drop_zero], by omega⟩⟩⟩
      have HU0 := Lib.hid hU0
      have hcase : (l.length = 1) ∨ (1 < l.length ∧ b0.toNat ≠ 48) := by
        by_cases h1 : l.length = 1
        · exact .inl h1
        · exact .inr ⟨by omega, fun e => hz ⟨by omega, e⟩⟩
      clear hV hE hD hhd hdec hnodec hU0 hz
      rcases hcase with h1 | ⟨h1, h48⟩
      · have y1 : ¬ (1 : Int) < (l.length : Int) := by omega
        go_enter Tryz.func48, Tryz.ntmps48
        go_wp2_with fail
        go_loopg [6, 7, 8] l.length (fun g nv gv i wr => ∃ (k : Nat) (n : Int) (b : Bool), i = .int .i64 k ∧ nv = .int .i64 n ∧ gv = .bool b ∧ k ≤ l.length ∧ g = l.length - k ∧ 0 ≤ n ∧ n ≤ 4611686018427387913 ∧ w = wr ∧ Hid (UStage l k n b))
        case atStart => exact ⟨0, 0, false, rfl, rfl, rfl, by omega, by omega, by omega, by omega, rfl, HU0⟩
        case round =>
          obtain ⟨k, n, b, rfl, rfl, rfl, hk, rfl, n0, n1, rfl, HS⟩ := hrel
          clear q0 q1 hb8 hq0 hie y1
          by_cases hlt : k < l.length
          · obtain ⟨c, hg⟩ : ∃ c, l[k]? = some c := ⟨_, List.getElem?_eq_getElem hlt⟩
            have hc8 := u8_nat c
            have hget := S_get hg
            by_cases hd : 48 ≤ c.toNat ∧ c.toNat ≤ 57
            · have hall : (l.take (k + 1)).all decB = true := by
                rw [take_snoc hg, List.all_append, HS.out.1]
                simp [decB, hd]
              obtain ⟨_, _, _, hst⟩ := HS.out
              rw [drop_at hg] at hst
              have hgm : gatherM 10 (c :: l.drop (k + 1)) n = if n * 10 + ((c.toNat : Int) - 48) ≤ 4611686018427387904 then gatherM 10 (l.drop (k + 1)) (n * 10 + ((c.toNat : Int) - 48)) else none := by
                conv => lhs; unfold gatherM
                rw [digV_dec hd]
              rw [hgm] at hst
              obtain ⟨d1, d2⟩ := hd
              clear hg hgm
              cases b with
              | true =>
                have HS2 : Hid (UStage l (k + 1) n true) := by
                  refine ⟨hall, n0, n1, .inl ⟨rfl, ?_⟩⟩
                  rcases hst with h | h
                  · exact h.2
                  · exact absurd h.1 (by simp)
                clear hst hall HS
                go_wp2_with fail
                go_roundg (l.length - (k + 1))
                case measure => omega
                case rel => exact ⟨k + 1, n, true, by go_num, rfl, rfl, by omega, rfl, n0, n1, rfl, HS2⟩
              | false =>
                have hst2 : (gatherM 10 l 0 = (if n * 10 + ((c.toNat : Int) - 48) ≤ 4611686018427387904 then gatherM 10 (l.drop (k + 1)) (n * 10 + ((c.toNat : Int) - 48)) else none) ∧ n ≤ 4611686018427387904) ∨ (gatherM 10 l 0 = none ∧ 4611686018427387904 < n) := by
                  rcases hst with h | h
                  · exact absurd h.1 (by simp)
                  · exact h.2
                by_cases hgr : 461168601842738790 < n
                · have HS2 : Hid (UStage l (k + 1) n true) := by
                    refine ⟨hall, n0, n1, .inl ⟨rfl, ?_⟩⟩
                    rcases hst2 with h | h
                    · rw [h.1, if_neg (by omega)]
                    · exact h.1
                  clear hst hst2 hall HS
                  go_wp2_with fail
                  go_roundg (l.length - (k + 1))
                  case measure => omega
                  case rel => exact ⟨k + 1, n, true, by go_num, rfl, rfl, by omega, rfl, n0, n1, rfl, HS2⟩
                · have HS2 : Hid (UStage l (k + 1) (n * 10 + ((c.toNat : Int) - 48)) false) := by
                    refine ⟨hall, by omega, by omega, .inr ⟨rfl, ?_⟩⟩
                    rcases hst2 with h | h
                    · by_cases hle : n * 10 + ((c.toNat : Int) - 48) ≤ 4611686018427387904
                      · rw [if_pos hle] at h; exact .inl ⟨h.1, hle⟩
                      · rw [if_neg hle] at h; exact .inr ⟨h.1, by omega⟩
                    · omega
                  have hm1 : n * 10 ≤ 4611686018427387900 := by omega
                  clear hst hst2 hall HS
                  go_wp2_with fail
                  go_roundg (l.length - (k + 1))
                  case measure => omega
                  case rel => exact ⟨k + 1, n * 10 + ((c.toNat : Int) - 48), false, by go_num, rfl, rfl, by omega, rfl, by omega, by omega, rfl, HS2⟩
            · have hno : l.all decB = false := by
                rw [List.all_eq_false]
                exact ⟨c, List.mem_of_getElem? hg, by simp [decB]; omega⟩
              have HF := Lib.hid (HN.out hno)
              clear hg hno HS
              by_cases h2 : c.toNat < 48
              · go_wp2_with fail
                go_ret2
                exact ⟨two_ret HF.out.1.symm HF.out.2.symm, rfl⟩
              · have h3 : 57 < c.toNat := by omega
                clear hd
                go_wp2_with fail
                go_ret2
                exact ⟨two_ret HF.out.1.symm HF.out.2.symm, rfl⟩
          · obtain ⟨hall, _, _, hst⟩ := HS.out
            rw [List.take_of_length_le (by omega)] at hall
            rw [List.drop_eq_nil_of_le (by omega), gatherM] at hst
            obtain ⟨hv, he⟩ := HY.out hall
            unfold boundV at hv
            unfold boundE at he
            cases b with
            | true =>
              have hg : gatherM 10 l 0 = none := by
                rcases hst with h | h
                · exact h.2
                · exact absurd h.1 (by simp)
              rw [hg] at hv he
              have HV := Lib.hid hv
              have HE := Lib.hid he
              clear hv he hg hst hall HS
              go_wp2_with fail
              go_ret2
              exact ⟨two_ret HV.out.symm HE.out.symm, rfl⟩
            | false =>
              have hst2 : (gatherM 10 l 0 = some n ∧ n ≤ 4611686018427387904) ∨ (gatherM 10 l 0 = none ∧ 4611686018427387904 < n) := by
                rcases hst with h | h
                · exact absurd h.1 (by simp)
                · exact h.2
              rcases hst2 with ⟨hg, hle⟩ | ⟨hg, hle⟩
              · rw [hg] at hv he
                dsimp only at hv he
                by_cases hmo : most < n
                · rw [if_pos hmo] at hv he
                  have HV := Lib.hid hv
                  have HE := Lib.hid he
                  clear hv he hg hst hall HS
                  go_wp2_with fail
                  go_ret2
                  exact ⟨two_ret HV.out.symm HE.out.symm, rfl⟩
                · rw [if_neg hmo] at hv he
                  have HV := Lib.hid hv
                  have HE := Lib.hid he
                  clear hv he hg hst hall HS
                  go_wp2_with fail
                  go_ret2
                  exact ⟨two_ret HV.out.symm HE.out.symm, rfl⟩
              · rw [hg] at hv he
                have HV := Lib.hid hv
                have HE := Lib.hid he
                clear hv he hg hst hall HS
                by_cases hmo : most < n
                all_goals
                  go_wp2_with fail
                  go_ret2
                  exact ⟨two_ret HV.out.symm HE.out.symm, rfl⟩
      · obtain ⟨y1, y2⟩ := int_ne (show ((b0.toNat : Nat) : Int) ≠ 48 by omega)
        have y3 : (1 : Int) < (l.length : Int) := by omega
        clear h48
        go_enter Tryz.func48, Tryz.ntmps48
        go_wp2_with fail
        go_loopg [6, 7, 8] l.length (fun g nv gv i wr => ∃ (k : Nat) (n : Int) (b : Bool), i = .int .i64 k ∧ nv = .int .i64 n ∧ gv = .bool b ∧ k ≤ l.length ∧ g = l.length - k ∧ 0 ≤ n ∧ n ≤ 4611686018427387913 ∧ w = wr ∧ Hid (UStage l k n b))
        case atStart => exact ⟨0, 0, false, rfl, rfl, rfl, by omega, by omega, by omega, by omega, rfl, HU0⟩
        case round =>
          obtain ⟨k, n, b, rfl, rfl, rfl, hk, rfl, n0, n1, rfl, HS⟩ := hrel
          clear q0 q1 hb8 hq0 hie y1 y2 y3
          by_cases hlt : k < l.length
          · obtain ⟨c, hg⟩ : ∃ c, l[k]? = some c := ⟨_, List.getElem?_eq_getElem hlt⟩
            have hc8 := u8_nat c
            have hget := S_get hg
            by_cases hd : 48 ≤ c.toNat ∧ c.toNat ≤ 57
            · have hall : (l.take (k + 1)).all decB = true := by
                rw [take_snoc hg, List.all_append, HS.out.1]
                simp [decB, hd]
              obtain ⟨_, _, _, hst⟩ := HS.out
              rw [drop_at hg] at hst
              have hgm : gatherM 10 (c :: l.drop (k + 1)) n = if n * 10 + ((c.toNat : Int) - 48) ≤ 4611686018427387904 then gatherM 10 (l.drop (k + 1)) (n * 10 + ((c.toNat : Int) - 48)) else none := by
                conv => lhs; unfold gatherM
                rw [digV_dec hd]
              rw [hgm] at hst
              obtain ⟨d1, d2⟩ := hd
              clear hg hgm
              cases b with
              | true =>
                have HS2 : Hid (UStage l (k + 1) n true) := by
                  refine ⟨hall, n0, n1, .inl ⟨rfl, ?_⟩⟩
                  rcases hst with h | h
                  · exact h.2
                  · exact absurd h.1 (by simp)
                clear hst hall HS
                go_wp2_with fail
                go_roundg (l.length - (k + 1))
                case measure => omega
                case rel => exact ⟨k + 1, n, true, by go_num, rfl, rfl, by omega, rfl, n0, n1, rfl, HS2⟩
              | false =>
                have hst2 : (gatherM 10 l 0 = (if n * 10 + ((c.toNat : Int) - 48) ≤ 4611686018427387904 then gatherM 10 (l.drop (k + 1)) (n * 10 + ((c.toNat : Int) - 48)) else none) ∧ n ≤ 4611686018427387904) ∨ (gatherM 10 l 0 = none ∧ 4611686018427387904 < n) := by
                  rcases hst with h | h
                  · exact absurd h.1 (by simp)
                  · exact h.2
                by_cases hgr : 461168601842738790 < n
                · have HS2 : Hid (UStage l (k + 1) n true) := by
                    refine ⟨hall, n0, n1, .inl ⟨rfl, ?_⟩⟩
                    rcases hst2 with h | h
                    · rw [h.1, if_neg (by omega)]
                    · exact h.1
                  clear hst hst2 hall HS
                  go_wp2_with fail
                  go_roundg (l.length - (k + 1))
                  case measure => omega
                  case rel => exact ⟨k + 1, n, true, by go_num, rfl, rfl, by omega, rfl, n0, n1, rfl, HS2⟩
                · have HS2 : Hid (UStage l (k + 1) (n * 10 + ((c.toNat : Int) - 48)) false) := by
                    refine ⟨hall, by omega, by omega, .inr ⟨rfl, ?_⟩⟩
                    rcases hst2 with h | h
                    · by_cases hle : n * 10 + ((c.toNat : Int) - 48) ≤ 4611686018427387904
                      · rw [if_pos hle] at h; exact .inl ⟨h.1, hle⟩
                      · rw [if_neg hle] at h; exact .inr ⟨h.1, by omega⟩
                    · omega
                  have hm1 : n * 10 ≤ 4611686018427387900 := by omega
                  clear hst hst2 hall HS
                  go_wp2_with fail
                  go_roundg (l.length - (k + 1))
                  case measure => omega
                  case rel => exact ⟨k + 1, n * 10 + ((c.toNat : Int) - 48), false, by go_num, rfl, rfl, by omega, rfl, by omega, by omega, rfl, HS2⟩
            · have hno : l.all decB = false := by
                rw [List.all_eq_false]
                exact ⟨c, List.mem_of_getElem? hg, by simp [decB]; omega⟩
              have HF := Lib.hid (HN.out hno)
              clear hg hno HS
              by_cases h2 : c.toNat < 48
              · go_wp2_with fail
                go_ret2
                exact ⟨two_ret HF.out.1.symm HF.out.2.symm, rfl⟩
              · have h3 : 57 < c.toNat := by omega
                clear hd
                go_wp2_with fail
                go_ret2
                exact ⟨two_ret HF.out.1.symm HF.out.2.symm, rfl⟩
          · obtain ⟨hall, _, _, hst⟩ := HS.out
            rw [List.take_of_length_le (by omega)] at hall
            rw [List.drop_eq_nil_of_le (by omega), gatherM] at hst
            obtain ⟨hv, he⟩ := HY.out hall
            unfold boundV at hv
            unfold boundE at he
            cases b with
            | true =>
              have hg : gatherM 10 l 0 = none := by
                rcases hst with h | h
                · exact h.2
                · exact absurd h.1 (by simp)
              rw [hg] at hv he
              have HV := Lib.hid hv
              have HE := Lib.hid he
              clear hv he hg hst hall HS
              go_wp2_with fail
              go_ret2
              exact ⟨two_ret HV.out.symm HE.out.symm, rfl⟩
            | false =>
              have hst2 : (gatherM 10 l 0 = some n ∧ n ≤ 4611686018427387904) ∨ (gatherM 10 l 0 = none ∧ 4611686018427387904 < n) := by
                rcases hst with h | h
                · exact absurd h.1 (by simp)
                · exact h.2
              rcases hst2 with ⟨hg, hle⟩ | ⟨hg, hle⟩
              · rw [hg] at hv he
                dsimp only at hv he
                by_cases hmo : most < n
                · rw [if_pos hmo] at hv he
                  have HV := Lib.hid hv
                  have HE := Lib.hid he
                  clear hv he hg hst hall HS
                  go_wp2_with fail
                  go_ret2
                  exact ⟨two_ret HV.out.symm HE.out.symm, rfl⟩
                · rw [if_neg hmo] at hv he
                  have HV := Lib.hid hv
                  have HE := Lib.hid he
                  clear hv he hg hst hall HS
                  go_wp2_with fail
                  go_ret2
                  exact ⟨two_ret HV.out.symm HE.out.symm, rfl⟩
              · rw [hg] at hv he
                have HV := Lib.hid hv
                have HE := Lib.hid he
                clear hv he hg hst hall HS
                by_cases hmo : most < n
                all_goals
                  go_wp2_with fail
                  go_ret2
                  exact ⟨two_ret HV.out.symm HE.out.symm, rfl⟩
end Go.Proofs.YtpimfoohpfkciaaGreatDoor

/- Layer 16: the document's Dec, Print, Read. No conditions but on lengths. -/
namespace Go.Proofs.YtpimfoohpfkciaaGreatDoor
open Go.RowKit Go.Shelf

theorem dig_cut16 {r : Nat} (h : r < 10) : (⟨#[48, 49, 50, 51, 52, 53, 54, 55, 56, 57, 97, 98, 99, 100, 101, 102]⟩ : ByteArray).extract r (r + 1) = S [UInt8.ofNat (48 + r)] := by
  have : ∀ r : Fin 10, (⟨#[48, 49, 50, 51, 52, 53, 54, 55, 56, 57, 97, 98, 99, 100, 101, 102]⟩ : ByteArray).extract r.1 (r.1 + 1) = S [UInt8.ofNat (48 + r.1)] := by decide +kernel
  exact this ⟨r, h⟩
def decP (n : Nat) : List UInt8 := if 0 < n then Lib.decDigits n else []
theorem decP_step (n : Nat) (h : 0 < n) : decP n = decP (n / 10) ++ [UInt8.ofNat (48 + n % 10)] := by
  have := decI_step false n (.inr h)
  unfold decI at this
  unfold decP
  simpa using this
theorem dec_first (n : Nat) : Lib.decDigits n = decP (n / 10) ++ [UInt8.ofNat (48 + n % 10)] := by
  have := decI_step true n (.inl rfl)
  unfold decI at this
  unfold decP
  simpa using this

end Go.Proofs.YtpimfoohpfkciaaGreatDoor

/- Layer 1: numbers in base 16 are written: FormatInt at base 16, Hexnum, the document's. No conditions but on the library's table. -/
namespace Go.Proofs.YtpimfoohpfkciaaGreatDoor
open Go.RowKit Go.Shelf

def digL : List UInt8 := [48, 49, 50, 51, 52, 53, 54, 55, 56, 57, 97, 98, 99, 100, 101, 102]
def hexD (r : Nat) : UInt8 := digL.getD r 0
/-- the digits of a number in base 16; of 0: none -/
def hexP (n : Nat) : List UInt8 := if _ : 0 < n then hexP (n / 16) ++ [hexD (n % 16)] else []
termination_by n
decreasing_by omega
def hexL (n : Nat) : List UInt8 := hexP (n / 16) ++ [hexD (n % 16)]
theorem hexP_pos {n : Nat} (h : 0 < n) : hexP n = hexP (n / 16) ++ [hexD (n % 16)] := by rw [hexP, dif_pos h]
theorem hexL_pos {n : Nat} (h : 0 < n) : hexP n = hexL n := hexP_pos h
theorem hexP_zero : hexP 0 = [] := by rw [hexP, dif_neg (by omega)]
theorem hex_cut16 {r : Nat} (h : r < 16) : (⟨#[48, 49, 50, 51, 52, 53, 54, 55, 56, 57, 97, 98, 99, 100, 101, 102]⟩ : ByteArray).extract r (r + 1) = S [hexD r] := by
  have : ∀ r : Fin 16, (⟨#[48, 49, 50, 51, 52, 53, 54, 55, 56, 57, 97, 98, 99, 100, 101, 102]⟩ : ByteArray).extract r.1 (r.1 + 1) = S [hexD r.1] := by decide +kernel
  exact this ⟨r, h⟩
theorem hexP_len : ∀ (k n : Nat), n < 16 ^ k → (hexP n).length ≤ k
  | 0, n, h => by
    have : n = 0 := by simpa using h
    subst this
    rw [hexP_zero]; simp
  | k + 1, n, h => by
    rcases Nat.eq_zero_or_pos n with rfl | hn
    · rw [hexP_zero]; simp
    · have := hexP_len k (n / 16) (by rw [Nat.pow_succ] at h; omega)
      rw [hexP_pos hn, List.length_append]
      simp
      omega
theorem hexL_len {n : Nat} (h : n < 9223372036854775808) : (hexL n).length ≤ 16 := by
  have := hexP_len 15 (n / 16) (by have : (16 : Nat) ^ 15 = 1152921504606846976 := by decide
                                   omega)
  unfold hexL
  rw [List.length_append]
  simp
  omega
theorem nat_mod16 (m : Nat) : (m : Int).tmod 16 = ((m % 16 : Nat) : Int) := by
  rw [Int.tmod_eq_emod_of_nonneg (by omega)]; omega
theorem nat_div16 (m : Nat) : (m : Int).tdiv 16 = ((m / 16 : Nat) : Int) := by
  rw [Int.tdiv_eq_ediv_of_nonneg (by omega)]; omega

/-- bits.TrailingZeros64's table -/
def db64 : List Int := [0, 1, 56, 2, 57, 49, 28, 3, 61, 58, 42, 50, 38, 29, 17, 4, 62, 47, 59, 36, 45, 43, 51, 22, 53, 39, 33, 30, 24, 18, 12, 5, 63, 55, 48, 27, 60, 41, 37, 16, 46, 35, 44, 21, 52, 32, 23, 11, 54, 26, 40, 15, 34, 20, 31, 10, 25, 14, 19, 9, 13, 8, 7, 6]
def P64 (w : World) : Prop := Lib.TabIs Tryz.prog w "math/bits.deBruijn64tab" .u8 db64
theorem P64.keep0 {w w' : World} (h : P64 w) (k : Keep [] w w') : P64 w' := by
  unfold P64 Lib.TabIs World.var? at *
  cases hg : Tryz.prog.globalNamed "math/bits.deBruijn64tab" with
  | none => simp [hg] at h
  | some g =>
    try rw [hg] at h
    simp only [Option.bind_some] at h ⊢
    cases ho : w.heap[g]? with
    | none => rw [ho] at h; simp at h
    | some o =>
      rw [k.heap ho (by simp)]
      rw [ho] at h
      exact h
theorem P64.laid {W : World} {laid : List (String × DataW Unit)} (h : laidMet Tryz.prog laid W) (hm : ("math/bits.deBruijn64tab", Lib.tabData .u8 db64) ∈ laid := by first | (repeat (first | exact List.Mem.head _ | exact List.Mem.tail _ (List.Mem.head _) | exact List.Mem.tail _ (List.Mem.tail _ (List.Mem.head _)))) | simp) : P64 W := by
  obtain ⟨ps, h, _⟩ := h
  exact laid_at (g := 5) (t := 162) (e := 5) (n := 64) (by kernel_rfl) rfl (by kernel_rfl) (by kernel_rfl) (by kernel_rfl) (by kernel_rfl) hm h

set_option maxRecDepth 100000 in
set_option maxHeartbeats 1000000 in
theorem bits_TZ64 (w : World) (h : P64 w) : Calls Tryz.prog 137 #[.int .u64 16] w fun e w' => e = .returned (.int .i64 4) ∧ w = w' := by
  have hc := Lib.TabIs.cell h (g := 5) (by kernel_rfl) 15 (by decide)
  have hb1 : bits BinOp.and IntKind.u64 16 (IntKind.u64.wrap (-16)) = 16 := by decide
  have hb2 : IntKind.u64.wrap 4573923408821661840 = 4573923408821661840 := by decide
  have hb3 : db64[15]?.getD 0 = 4 := rfl
  clear h
  go_enter Tryz.func137, Tryz.ntmps137
  go_wp2_with fail
  go_ret
  exact ⟨rfl, rfl⟩
set_option maxRecDepth 100000 in
set_option maxHeartbeats 1000000 in
theorem bits_TZ (w : World) (h : P64 w) : Calls Tryz.prog 132 #[.int .u64 16] w fun e w' => e = .returned (.int .i64 4) ∧ w = w' := by
  have H := Lib.hid (bits_TZ64 w h)
  clear h
  go_enter Tryz.func132, Tryz.ntmps132
  go_wp2_with fail
  refine H.out.mono ?_
  rintro e w1 ⟨rfl, rfl⟩
  go_wp2_with fail
  go_ret
  exact ⟨rfl, rfl⟩
set_option maxHeartbeats 1000000 in
theorem is_pow16 (w : World) : Calls Tryz.prog 131 #[.int .i64 16] w fun e w' => e = .returned (.bool true) ∧ w = w' := by
  have hb1 : bits BinOp.and IntKind.i64 16 15 = 0 := by decide
  go_enter Tryz.func131, Tryz.ntmps131
  go_wp2_with fail
  go_ret
  exact ⟨rfl, rfl⟩
end Go.Proofs.YtpimfoohpfkciaaGreatDoor

/- Layer 11, plain laws: a body as it is written in chunks, and what a reader makes of it. No program. No conditions but those that each theorem states. -/
namespace Go.Proofs.YtpimfoohpfkciaaGreatDoor
open Go.RowKit

/-- chunks of at most k + 1 bytes -/
def wrL (k : Nat) (s : List UInt8) : List UInt8 :=
  if _h : s = [] then [] else hexL (min (k + 1) s.length) ++ crlfC ++ (s.take (k + 1) ++ crlfC) ++ wrL k (s.drop (k + 1))
termination_by s.length
decreasing_by
  cases s with
  | nil => exact absurd rfl _h
  | cons => simp; omega
def endC : List UInt8 := [48, 13, 10, 13, 10]
theorem wrL_nil (k : Nat) : wrL k [] = [] := by rw [wrL, dif_pos rfl]
theorem wrL_cons (k : Nat) {s : List UInt8} (h : s ≠ []) : wrL k s = hexL (min (k + 1) s.length) ++ crlfC ++ (s.take (k + 1) ++ crlfC) ++ wrL k (s.drop (k + 1)) := by rw [wrL, dif_neg h]
theorem len_pos {s : List UInt8} (h : s ≠ []) : 0 < s.length := by cases s with | nil => exact absurd rfl h | cons => simp
theorem wrL_len (k : Nat) : ∀ (n : Nat) (s : List UInt8), s.length ≤ n → s.length ≤ 1048576 → (wrL k s).length ≤ 21 * s.length
  | n, s, hn, h => by
    by_cases h0 : s = []
    · subst h0; rw [wrL_nil]; simp
    · have hp := len_pos h0
      match n, hn with
      | 0, hn => omega
      | n + 1, hn =>
        have hd : (s.drop (k + 1)).length = s.length - (k + 1) := List.length_drop
        have ih := wrL_len k n (s.drop (k + 1)) (by omega) (by omega)
        have hx := hexL_len (n := min (k + 1) s.length) (by omega)
        have ht : (s.take (k + 1)).length = min (k + 1) s.length := List.length_take
        rw [wrL_cons k h0]
        simp only [List.length_append, ht, crlfC, List.length_cons, List.length_nil]
        omega
theorem wrL_clamp (k j : Nat) (s : List UInt8) (h : s.length ≤ k + 1) (h2 : s.length ≤ j + 1) : wrL k s = wrL j s := by
  by_cases h0 : s = []
  · subst h0; rw [wrL_nil, wrL_nil]
  · rw [wrL_cons k h0, wrL_cons j h0, List.take_of_length_le h, List.take_of_length_le h2, List.drop_eq_nil_of_le h, List.drop_eq_nil_of_le h2, wrL_nil, wrL_nil, Nat.min_eq_right h, Nat.min_eq_right h2]

theorem hexD_ok {r : Nat} (h : r < 16) : digOk (hexD r) = true ∧ digV (hexD r) = (r : Int) ∧ hexD r ≠ 10 := by
  have : ∀ r : Fin 16, digOk (hexD r.1) = true ∧ digV (hexD r.1) = ((r.1 : Nat) : Int) ∧ hexD r.1 ≠ 10 := by decide +kernel
  exact this ⟨r, h⟩
theorem hexP_ok (n : Nat) : (hexP n).all digOk = true ∧ hexN (hexP n) 0 = (n : Int) ∧ (10 : UInt8) ∉ hexP n := by
  induction n using Nat.strongRecOn with
  | _ n ih =>
    rcases Nat.eq_zero_or_pos n with rfl | hn
    · rw [hexP_zero]; exact ⟨rfl, rfl, by simp⟩
    · obtain ⟨h1, h2, h3⟩ := ih (n / 16) (by omega)
      obtain ⟨d1, d2, d3⟩ := hexD_ok (r := n % 16) (Nat.mod_lt _ (by omega))
      rw [hexP_pos hn]
      refine ⟨by rw [List.all_append, h1]; simp [d1], ?_, ?_⟩
      · unfold hexN at h2 ⊢
        rw [List.foldl_append, h2]
        simp only [List.foldl_cons, List.foldl_nil]
        rw [d2]; omega
      · simp only [List.mem_append, List.mem_singleton, not_or]
        exact ⟨h3, fun h => d3 h.symm⟩
theorem hexL_ok (n : Nat) : (hexL n).all digOk = true ∧ hexN (hexL n) 0 = (n : Int) ∧ (10 : UInt8) ∉ hexL n := by
  rcases Nat.eq_zero_or_pos n with rfl | hn
  · have : hexL 0 = [48] := by unfold hexL; rw [show 0 / 16 = 0 from rfl, hexP_zero]; rfl
    rw [this]; decide
  · rw [← hexL_pos hn]; exact hexP_ok n
theorem hexL_ne (n : Nat) : hexL n ≠ [] := by unfold hexL; simp
theorem num_hex (n : Nat) (m : Int) (hn : n ≤ 1048576) : numE (hexL n) m = (if m < n then 4 else 0) ∧ ((n : Int) ≤ m → numV (hexL n) m = n) := by
  obtain ⟨h1, h2, _⟩ := hexL_ok n
  have h3 := hexL_len (n := n) (by omega)
  have hne := hexL_ne n
  have hr : numRest (hexL n) = [] := by
    rw [numRest_at (k := (hexL n).length) (Nat.le_refl _) (by rw [List.take_length]; exact h1) (fun b hb => by have := (List.getElem?_eq_some_iff.1 hb).1; omega), List.drop_length]
  have ht : numT (hexL n) = hexL n := by rw [numT_at (k := (hexL n).length) (Nat.le_refl _) (by rw [hr, List.drop_length]), List.take_length]
  have hok : hexOk (hexL n) = true := by
    unfold hexOk
    rw [h1, decide_eq_true h3]
    cases hx : hexL n with
    | nil => exact absurd hx hne
    | cons => rfl
  obtain ⟨b1, b2⟩ := bound_fold (hexL n) m
  rw [h2] at b1 b2
  have hu : unhexE (hexL n) m = if m < (n : Int) then 14 else 0 := by
    unfold unhexE
    rw [hok, if_pos rfl, b2]
    by_cases hm : m < (n : Int)
    · rw [if_pos hm, if_pos (show (4611686018427387904 : Int) < (n : Int) ∨ m < (n : Int) from Or.inr hm)]
    · rw [if_neg hm, if_neg (by omega)]
  have hv : (n : Int) ≤ m → unhexV (hexL n) m = (n : Int) := fun hm => by
    unfold unhexV
    rw [hok, if_pos rfl, b1, if_neg (by omega)]
  have hro : restOk [] = true := rfl
  unfold numE numV
  rw [hr, ht, hro, if_pos rfl, hu]
  refine ⟨?_, hv⟩
  by_cases hm : m < (n : Int)
  · rw [if_pos hm, if_pos rfl, if_pos hm]
  · rw [if_neg hm, if_neg (by decide), if_neg hm]
/-- a line that stands first -/
theorem ln_first {t rest : List UInt8} (ht : (10 : UInt8) ∉ t) (hl : t.length ≤ 254) : lnC (t ++ crlfC ++ rest) = ⟨t, 0, rest⟩ := by
  have hg : ∀ j, j < t.length → (t ++ crlfC ++ rest)[j]? = t[j]? := fun j hj => by
    rw [List.append_assoc, List.getElem?_append_left hj]
  have e1 : (t ++ crlfC ++ rest)[t.length]? = some 13 := by rw [List.append_assoc, List.getElem?_append_right (Nat.le_refl _), Nat.sub_self]; rfl
  have e2 : (t ++ crlfC ++ rest)[t.length + 1]? = some 10 := by rw [List.append_assoc, List.getElem?_append_right (by omega), show t.length + 1 - t.length = 1 by omega]; rfl
  have hi : Lib.indexByte ((t ++ crlfC ++ rest).take 256) 10 = ((t.length + 1 : Nat) : Int) := by
    refine indexByte_at ?_ (fun j hj => ?_)
    · rw [List.getElem?_take, if_pos (by omega)]; exact e2
    · rw [List.getElem?_take, if_pos (by omega)]
      rcases Nat.lt_or_ge j t.length with h | h
      · rw [hg j h]; intro hh; exact ht (List.mem_of_getElem? hh)
      · rw [show j = t.length by omega, e1]; decide
  have hl2 : (t ++ crlfC ++ rest).take (t.length + 1 + 1) = t ++ crlfC := by
    rw [List.take_append_of_le_length (by simp [crlfC])]
    exact List.take_of_length_le (by simp [crlfC])
  have hd : (t ++ crlfC ++ rest).drop (t.length + 1 + 1) = rest := by
    have : t.length + 1 + 1 = (t ++ crlfC).length := by simp [crlfC]
    rw [this, List.drop_left]
  have hs : Lib.hasSuffix (t ++ crlfC) crlfC = true := by unfold Lib.hasSuffix; rw [List.isSuffixOf_iff_suffix]; exact List.suffix_append _ _
  rw [line_at hi, hl2, hd, if_pos hs]
  have : Lib.trimSuffix (t ++ crlfC) crlfC = t := by
    unfold Lib.trimSuffix
    rw [if_pos hs, List.length_append, show t.length + crlfC.length - crlfC.length = t.length by omega, List.take_left]
  rw [this]

theorem runs_more' {c c1 d : Ck} {e : Int} (h : stepM c = (c1, 0)) (hr : Runs c1 d e) : Runs c d e := .more (by rw [h]) (by rw [h]; exact hr)
theorem runs_stop' {c d : Ck} {e : Int} (h : stepM c = (d, e)) (he : e ≠ 0) : Runs c d e := by
  have := Runs.stop (c := c) (by rw [h]; exact he)
  rw [h] at this
  exact this
theorem begin_hex {lf most : Nat} {D rest : List UInt8} {er : Int} {n : Nat} (hn : n ≤ 1048576) (hm : D.length + n ≤ most) :
    stepM ⟨0, lf, most, 0, hexL n ++ crlfC ++ rest, D, er⟩ = (⟨if n = 0 then 3 else 1, n, most, 0, rest, D, er⟩, 0) := by
  have hl := ln_first (t := hexL n) (rest := rest) (hexL_ok n).2.2 (by have := hexL_len (n := n) (by omega); omega)
  obtain ⟨n1, n2⟩ := num_hex n ((most : Int) - D.length) hn
  rw [if_neg (by omega)] at n1
  have n2 := n2 (by omega)
  rw [step0 rfl]
  unfold beginM
  dsimp only
  rw [hl]
  dsimp only
  rw [if_neg (by simp), n1, n2, if_neg (by simp)]
  congr 2
  by_cases h : n = 0
  · rw [if_pos h, if_pos (by omega)]
  · rw [if_neg h, if_neg (by omega)]
theorem begin_long {lf most : Nat} {D rest : List UInt8} {er : Int} {n : Nat} (hn : n ≤ 1048576) (hm : most < D.length + n) :
    stepM ⟨0, lf, most, 0, hexL n ++ crlfC ++ rest, D, er⟩ = (⟨0, lf, most, 0, rest, D, er⟩, 4) := by
  have hl := ln_first (t := hexL n) (rest := rest) (hexL_ok n).2.2 (by have := hexL_len (n := n) (by omega); omega)
  obtain ⟨n1, _⟩ := num_hex n ((most : Int) - D.length) hn
  rw [if_pos (by omega)] at n1
  rw [step0 rfl]
  unfold beginM
  dsimp only
  rw [hl]
  dsimp only
  rw [if_neg (by simp), n1, if_pos (by simp)]
theorem data_hex {most : Nat} {D t rest : List UInt8} {er : Int} {n : Nat} (hn : t.length = n) :
    stepM ⟨1, n, most, 0, t ++ rest, D, er⟩ = (⟨2, 0, most, 0, rest, D ++ t, er⟩, 0) := by
  subst hn
  rw [step1 rfl, data_eq _ t.length (by show min t.length (t ++ rest).length = _; simp), if_neg (by show ¬ 0 < t.length - t.length; omega)]
  show (({ st := 2, left := t.length - t.length, most := most, flds := 0, inp := (t ++ rest).drop t.length, dat := D ++ (t ++ rest).take t.length, err := er } : Ck), (0 : Int)) = _
  rw [List.drop_left, List.take_left, Nat.sub_self]
theorem close_hex {lf most : Nat} {D rest : List UInt8} {er : Int} : stepM ⟨2, lf, most, 0, crlfC ++ rest, D, er⟩ = (⟨0, lf, most, 0, rest, D, er⟩, 0) := by
  rw [step2 rfl]
  unfold closeM
  have h1 : (crlfC ++ rest).take 2 = crlfC := rfl
  have h2 : crlfC.take (crlfC ++ rest).length = crlfC := List.take_of_length_le (by simp)
  have h3 : (crlfC ++ rest).drop 2 = rest := rfl
  dsimp only
  rw [h1, h2, h3, if_neg (by simp), if_neg (by simp [crlfC])]
theorem runs_end {lf most : Nat} {D more : List UInt8} {er : Int} (hm : D.length ≤ most) : Runs ⟨0, lf, most, 0, endC ++ more, D, er⟩ ⟨4, 0, most, 0, more, D, er⟩ 17 := by
  have h48 : hexL 0 = [48] := by unfold hexL; rw [show 0 / 16 = 0 from rfl, hexP_zero]; rfl
  have hb := begin_hex (lf := lf) (most := most) (D := D) (rest := crlfC ++ more) (er := er) (n := 0) (by omega) (by omega)
  rw [h48] at hb
  refine runs_more' (c1 := ⟨3, 0, most, 0, crlfC ++ more, D, er⟩) hb ?_
  have hl := ln_first (t := []) (rest := more) (by simp) (by simp)
  rw [List.nil_append] at hl
  have ht : stepM ⟨3, 0, most, 0, crlfC ++ more, D, er⟩ = (⟨4, 0, most, 0, more, D, er⟩, 0) := by
    rw [step3 rfl]
    unfold trailM
    dsimp only
    rw [hl]
    dsimp only
    rw [if_neg (by simp), if_pos rfl]
  exact runs_more' ht (runs_stop' (step4 rfl) (by decide))
/-- one chunk -/
theorem runs_chunk {lf k most : Nat} {s D R : List UInt8} {er : Int} {d : Ck} {e : Int} (h0 : s ≠ []) (hl : s.length ≤ 1048576) (hm : D.length + min (k + 1) s.length ≤ most)
    (hr : Runs ⟨0, 0, most, 0, wrL k (s.drop (k + 1)) ++ R, D ++ s.take (k + 1), er⟩ d e) : Runs ⟨0, lf, most, 0, wrL k s ++ R, D, er⟩ d e := by
  have hp := len_pos h0
  have ht : (s.take (k + 1)).length = min (k + 1) s.length := List.length_take
  rw [wrL_cons k h0]
  have hb := begin_hex (lf := lf) (most := most) (D := D) (rest := s.take (k + 1) ++ (crlfC ++ (wrL k (s.drop (k + 1)) ++ R))) (er := er) (n := min (k + 1) s.length) (by omega) hm
  rw [if_neg (by omega)] at hb
  refine runs_more' (c1 := ⟨1, min (k + 1) s.length, most, 0, s.take (k + 1) ++ (crlfC ++ (wrL k (s.drop (k + 1)) ++ R)), D, er⟩) ?_ (runs_more' (data_hex ht) (runs_more' close_hex hr))
  rw [← hb]
  simp only [List.append_assoc]
theorem runs_write (k most : Nat) (more : List UInt8) (er : Int) : ∀ (n : Nat) (s D : List UInt8) (lf : Nat), s.length ≤ n → s.length ≤ 1048576 → D.length + s.length ≤ most →
    Runs ⟨0, lf, most, 0, wrL k s ++ (endC ++ more), D, er⟩ ⟨4, 0, most, 0, more, D ++ s, er⟩ 17
  | n, s, D, lf, hn, hl, hm => by
    by_cases h0 : s = []
    · subst h0
      rw [wrL_nil, List.append_nil, List.nil_append]
      exact runs_end (by simp at hm; exact hm)
    · have hp := len_pos h0
      match n, hn with
      | 0, hn => omega
      | n + 1, hn =>
        have hd : (s.drop (k + 1)).length = s.length - (k + 1) := List.length_drop
        have ht : (s.take (k + 1)).length = min (k + 1) s.length := List.length_take
        refine runs_chunk h0 hl (by omega) ?_
        have := runs_write k most more er n (s.drop (k + 1)) (D ++ s.take (k + 1)) 0 (by omega) (by omega) (by rw [List.length_append]; omega)
        rw [List.append_assoc, List.take_append_drop] at this
        exact this
theorem runs_long (k most : Nat) (more : List UInt8) (er : Int) : ∀ (n : Nat) (s D : List UInt8) (lf : Nat), s.length ≤ n → s.length ≤ 1048576 → D.length ≤ most → most < D.length + s.length →
    ∃ d, Runs ⟨0, lf, most, 0, wrL k s ++ more, D, er⟩ d 4 ∧ d.st = 0 ∧ d.most = most ∧ d.dat.length ≤ most
  | n, s, D, lf, hn, hl, hD, hm => by
    by_cases h0 : s = []
    · subst h0; simp at hm; omega
    · have hp := len_pos h0
      match n, hn with
      | 0, hn => omega
      | n + 1, hn =>
        have hd : (s.drop (k + 1)).length = s.length - (k + 1) := List.length_drop
        have ht : (s.take (k + 1)).length = min (k + 1) s.length := List.length_take
        by_cases hf : D.length + min (k + 1) s.length ≤ most
        · obtain ⟨d, hr, h1, h2, h3⟩ := runs_long k most more er n (s.drop (k + 1)) (D ++ s.take (k + 1)) 0 (by omega) (by omega) (by rw [List.length_append]; omega) (by rw [List.length_append]; omega)
          exact ⟨d, runs_chunk h0 hl hf hr, h1, h2, h3⟩
        · have hb := begin_long (lf := lf) (most := most) (D := D) (rest := s.take (k + 1) ++ (crlfC ++ (wrL k (s.drop (k + 1)) ++ more))) (er := er) (n := min (k + 1) s.length) (by omega) (by omega)
          refine ⟨_, runs_stop' (d := ⟨0, lf, most, 0, s.take (k + 1) ++ (crlfC ++ (wrL k (s.drop (k + 1)) ++ more)), D, er⟩) ?_ (by decide), rfl, rfl, hD⟩
          rw [← hb, wrL_cons k h0]
          simp only [List.append_assoc]
end Go.Proofs.YtpimfoohpfkciaaGreatDoor

/- Layer 11, plain laws: what was written is read as it was, cut off it isn't whole, with a byte less allowed it is too long. No program. -/
namespace Go.Proofs.YtpimfoohpfkciaaGreatDoor
open Go.RowKit

theorem addC_of_runs {c d : Ck} {s : List UInt8} {e : Int} (h0 : c.err = 0) (hok : c.ok) (hr : Runs (c.add s) d e) : addC c s = { d with err := if e = 17 then 0 else e } := by
  have h := addC_R (c := c) (s := s) (fun _ => hok)
  unfold AddR at h
  rw [if_neg (by simp [h0])] at h
  obtain ⟨d', e', hr', hc⟩ := h
  obtain ⟨rfl, rfl⟩ := runs_det hr hr'
  exact hc
theorem addC_rd {m : Int} (s : List UInt8) : Rdc m s (addC (ck0 m) s) := by
  have h := (rd_nil m).add (addC_R (c := ck0 m) (s := s) (fun _ => ck0_ok m))
  exact h.1 rfl
theorem addC_rq {m : Int} {all : List UInt8} {c : Ck} (h : Rq m all c) (s : List UInt8) : Rq m (all ++ s) (addC c s) := h.add (addC_R h.sound.1)
/-- all bytes of a body in chunks -/
def wrT (k : Nat) (s : List UInt8) : List UInt8 := wrL k s ++ endC
theorem back_full (k : Nat) (s more : List UInt8) (hs : s.length ≤ 1048576) : addC (ck0 (s.length : Nat)) (wrT k s ++ more) = ⟨4, 0, s.length, 0, more, s, 0⟩ := by
  have hr := runs_write k s.length more 0 s.length s [] 0 (Nat.le_refl _) hs (by simp)
  have e1 : (ck0 (s.length : Nat)).add (wrT k s ++ more) = ⟨0, 0, s.length, 0, wrL k s ++ (endC ++ more), [], 0⟩ := by
    unfold ck0 Ck.add wrT
    have : (max (s.length : Int) 0).toNat = s.length := by omega
    rw [this]
    simp
  rw [← e1] at hr
  rw [addC_of_runs rfl (ck0_ok _) hr]
  simp
theorem back_cut (k : Nat) (s : List UInt8) (hs : s.length ≤ 1048576) (j : Nat) (hj : j < (wrT k s).length) :
    (addC (ck0 (s.length : Nat)) ((wrT k s).take j)).err = 0 ∧ (addC (ck0 (s.length : Nat)) ((wrT k s).take j)).st ≠ 4 ∧ (addC (ck0 (s.length : Nat)) ((wrT k s).take j)).dat <+: s ∧ (addC (ck0 (s.length : Nat)) ((wrT k s).take j)).st ≤ 4 := by
  have hp := addC_rd (m := (s.length : Nat)) ((wrT k s).take j)
  have hf := addC_rd (m := (s.length : Nat)) (wrT k s)
  have hb := back_full k s [] hs
  rw [List.append_nil] at hb
  rw [hb] at hf
  generalize addC (ck0 (s.length : Nat)) ((wrT k s).take j) = d at *
  have hall : (wrT k s).take j ++ (wrT k s).drop j = wrT k s := List.take_append_drop _ _
  have hsd := hp.sound
  have h0 : d.err = 0 := by
    by_cases h : d.err = 0
    · exact h
    · rw [← hall] at hf
      have := (rd_prefix hp h hf).1
      exact this.symm
  have hadd := (hp.add (addC_R (c := d) (s := (wrT k s).drop j) (fun h => (hsd.1 h).1))).1 h0
  rw [hall] at hadd
  have heq := rd_det hf hadd
  have hok := (hsd.1 h0).1
  have hR := addC_R (c := d) (s := (wrT k s).drop j) (fun h => (hsd.1 h).1)
  unfold AddR at hR
  rw [if_neg (by simp [h0])] at hR
  obtain ⟨x, e, hr, hc⟩ := hR
  rw [← heq] at hc
  refine ⟨h0, fun h4 => ?_, ?_, hsd.2.2.2.1⟩
  · have h4' : (d.add ((wrT k s).drop j)).st = 4 := h4
    rcases runs_eq hr (step4 h4') with hh | hh
    · have := hh.1; simp at this
    · rw [hh.2.1] at hc
      have hi := congrArg Ck.inp hc
      have hl := congrArg List.length hi
      simp [Ck.add] at hl
      omega
  · have := (runs_ok hr (add_ok hok _)).2.2.2.2
    have hd := congrArg Ck.dat hc
    dsimp only at hd
    rw [hd]
    exact this
theorem back_long (k : Nat) (s : List UInt8) (hs : s.length ≤ 1048576) (h0 : s ≠ []) : (addC (ck0 ((s.length - 1 : Nat) : Int)) (wrT k s)).err = 4 ∧ (addC (ck0 ((s.length - 1 : Nat) : Int)) (wrT k s)).st = 0 ∧
    (addC (ck0 ((s.length - 1 : Nat) : Int)) (wrT k s)).inp.length + (addC (ck0 ((s.length - 1 : Nat) : Int)) (wrT k s)).dat.length ≤ (wrT k s).length ∧ ((addC (ck0 ((s.length - 1 : Nat) : Int)) (wrT k s)).most : Int) ≤ 1048576 := by
  have hp := len_pos h0
  obtain ⟨d, hr, h1, h2, h3⟩ := runs_long k (s.length - 1) endC 0 s.length s [] 0 (Nat.le_refl _) hs (by simp) (by simp; omega)
  have e1 : (ck0 ((s.length - 1 : Nat) : Int)).add (wrT k s) = ⟨0, 0, s.length - 1, 0, wrL k s ++ endC, [], 0⟩ := by
    unfold ck0 Ck.add wrT
    have : (max ((s.length - 1 : Nat) : Int) 0).toNat = s.length - 1 := by omega
    rw [this]
    simp
  have hsd := (addC_rd (m := ((s.length - 1 : Nat) : Int)) (wrT k s)).sound
  rw [← e1] at hr
  have hx := addC_of_runs (c := ck0 ((s.length - 1 : Nat) : Int)) rfl (ck0_ok _) hr
  refine ⟨by rw [hx]; simp, by rw [hx]; exact h1, hsd.2.2.1, by rw [hsd.2.1]; omega⟩
theorem addC_bad {c : Ck} (h : c.err ≠ 0) (s : List UInt8) : addC c s = c := by unfold addC; rw [if_pos h]
theorem wrT_len (k : Nat) (s : List UInt8) (h : s.length ≤ 1048576) : (wrT k s).length ≤ 21 * s.length + 5 := by
  have := wrL_len k s.length s (Nat.le_refl _) h
  unfold wrT
  simp [endC]
  omega
theorem wrT_pos (k : Nat) (s : List UInt8) : 5 ≤ (wrT k s).length := by unfold wrT; simp [endC]
end Go.Proofs.YtpimfoohpfkciaaGreatDoor

/- Layer 12, plain laws: however the bytes are cut the same requests come of them. No program. No conditions but those that each theorem states. -/
namespace Go.Proofs.YtpimfoohpfkciaaGreatDoor
open Go.RowKit

theorem addC_cases {c : Ck} (s : List UInt8) (h0 : c.err = 0) (hk : c.ok) : ∃ d e, Runs (c.add s) d e ∧ addC c s = { d with err := if e = 17 then 0 else e } ∧ d.err = 0 ∧ e ≠ 0 := by
  have hr := addC_R (c := c) (s := s) (fun _ => hk)
  unfold AddR at hr
  rw [if_neg (by simp [h0])] at hr
  obtain ⟨d, e, hr, hc⟩ := hr
  exact ⟨d, e, hr, hc, by rw [(runs_ok hr (add_ok hk s)).2.2.1]; exact h0, runs_ne hr⟩
theorem add_add (c : Ck) (s t : List UInt8) : (c.add s).add t = c.add (s ++ t) := by simp [Ck.add]
theorem addC_bad_app {c : Ck} (s t : List UInt8) (h0 : c.err = 0) (hk : c.ok) (he : (addC c s).err ≠ 0) : (addC c (s ++ t)).err = (addC c s).err := by
  obtain ⟨d, e, hr, hc, hd, hn⟩ := addC_cases s h0 hk
  have h17 : e ≠ 17 := by rintro rfl; rw [hc] at he; exact he rfl
  have ha := (runs_app hr t).1 h17
  rw [add_add] at ha
  rw [addC_of_runs h0 hk ha, hc]
theorem addC_ok_app {c : Ck} (s t : List UInt8) (h0 : c.err = 0) (hk : c.ok) (he : (addC c s).err = 0) : addC c (s ++ t) = addC (addC c s) t := by
  obtain ⟨d, e, hr, hc, hd, hn⟩ := addC_cases s h0 hk
  have h17 : e = 17 := by
    rw [hc] at he
    simp only at he
    split at he
    · assumption
    · exact absurd he hn
  subst h17
  have hcd : addC c s = d := by rw [hc, if_pos rfl, ← hd]
  have hkd := (runs_ok hr (add_ok hk s)).1 rfl
  obtain ⟨d2, e2, hr2, hc2, _, _⟩ := addC_cases t hd hkd
  have ha := (runs_app hr t).2 rfl d2 e2 hr2
  rw [add_add] at ha
  rw [addC_of_runs h0 hk ha, hcd, hc2]
theorem addC_end {d : Ck} (t : List UInt8) (h0 : d.err = 0) (hk : d.ok) (h4 : d.st = 4) : (addC d t).inp = d.inp ++ t ∧ (addC d t).st = 4 ∧ (addC d t).err = 0 := by
  have hr : Runs (d.add t) (d.add t) 17 := runs_stop' (step4 h4) (by decide)
  rw [addC_of_runs h0 hk hr]
  exact ⟨rfl, h4, rfl⟩
def InS.add (p : InS) (t : List UInt8) : InS := { p with inp := p.inp ++ t }
theorem inS_ext {a b : InS} (h1 : a.inp = b.inp) (h2 : a.held = b.held) (h3 : a.req = b.req) (h4 : a.skip = b.skip) (h5 : a.chk = b.chk) (h6 : a.st = b.st) : a = b := by
  cases a; cases b; simp only at h1 h2 h3 h4 h5 h6; subst h1 h2 h3 h4 h5 h6; rfl
theorem nxR_ext {a b : NxR} (h1 : a.p = b.p) (h2 : a.q = b.q) (h3 : a.s = b.s) : a = b := by
  cases a; cases b; simp only at h1 h2 h3; subst h1 h2 h3; rfl
/-- what a result says of the same with more bytes behind -/
structure Tells (a : NxR) (b : NxR) (again : NxR) (t : List UInt8) : Prop where
  yes : a.s = 200 → b = ⟨a.p.add t, a.q, 200⟩
  no : a.s ≠ 200 → a.s ≠ 0 → b.s = a.s ∧ b.q = req0 ∧ a.q = req0
  wait : a.s = 0 → b = again ∧ a.p.st = 0
theorem tail_app {p : InS} {q : Req} (h : p.ok) (h0 : p.st = 0) (hq : p.req = some q) (t : List UInt8) : Tells (tailI p q) (tailI (p.add t) q) (tailI ((tailI p q).p.add t) q) t ∧ ((tailI p q).s = 0 → (tailI p q).p.req = some q) := by
  have hal : (p.add t).inp.length = p.inp.length + t.length := by simp [InS.add]
  cases hc : p.chk with
  | none =>
    rcases Nat.lt_or_ge p.inp.length p.skip with hlt | hge
    · have e1 := tail_none' q hc hlt
      rw [e1]
      refine ⟨⟨fun hh => by simp at hh, fun _ hh => absurd rfl hh, fun _ => ⟨?_, h0⟩⟩, fun _ => hq⟩
      dsimp only
      rcases Nat.lt_or_ge (p.add t).inp.length p.skip with h2 | h2
      · rw [tail_none' (p := p.add t) q hc h2, tail_none' (p := InS.add { p with inp := [], held := p.held + p.inp.length, skip := p.skip - p.inp.length } t) q hc (by simp only [InS.add, List.nil_append]; omega)]
        refine nxR_ext (inS_ext rfl ?_ rfl ?_ rfl rfl) rfl rfl
        · simp [InS.add]; omega
        · simp [InS.add]; omega
      · rw [tail_none (p := p.add t) q hc h2, tail_none (p := InS.add { p with inp := [], held := p.held + p.inp.length, skip := p.skip - p.inp.length } t) q hc (by simp only [InS.add, List.nil_append]; omega)]
        refine nxR_ext (inS_ext ?_ rfl rfl rfl rfl rfl) rfl rfl
        simp only [InS.add, List.nil_append]
        rw [List.drop_append, List.drop_eq_nil_of_le (by omega), List.nil_append]
    · have e1 := tail_none q hc hge
      rw [e1, tail_none (p := p.add t) q hc (by show p.skip ≤ (p.add t).inp.length; omega)]
      refine ⟨⟨fun _ => ?_, fun hh => absurd rfl hh, fun hh => by simp at hh⟩, fun hh => by simp at hh⟩
      refine nxR_ext (inS_ext ?_ rfl rfl rfl rfl rfl) rfl rfl
      simp only [InS.add]
      exact List.drop_append_of_le_length hge
  | some c =>
    obtain ⟨k1, k2, k3, k4⟩ := h.chk c hc
    have ke := h.bad c h0 hc
    have kk := k1 ke
    have d5 := addC_ne17 (c := c) p.inp (by rw [ke]; decide)
    have d6 := addC_ne17 (c := c) (p.inp ++ t) (by rw [ke]; decide)
    have d4 := (addC_sound p.inp k1 k4).2.2.2
    by_cases e1 : (addC c p.inp).err = 0
    · have hcat := addC_ok_app p.inp t ke kk e1
      by_cases e2 : (addC c p.inp).st = 4
      · obtain ⟨f1, f2, f3⟩ := addC_end t e1 (d4 e1) e2
        rw [← hcat] at f1 f2 f3
        rw [tail_done q hc e1 e2, tail_done (p := p.add t) q hc f3 f2]
        refine ⟨⟨fun _ => ?_, fun hh => absurd rfl hh, fun hh => by simp at hh⟩, fun hh => by simp at hh⟩
        exact nxR_ext (inS_ext f1 rfl rfl rfl rfl rfl) rfl rfl
      · rw [tail_more q hc e1 e2]
        refine ⟨⟨fun hh => by simp at hh, fun _ hh => absurd rfl hh, fun _ => ⟨?_, h0⟩⟩, fun _ => hq⟩
        dsimp only
        have hi : (p.add t).inp = p.inp ++ t := rfl
        have hcA : (p.add t).chk = some c := hc
        have hin : (InS.add { p with inp := [], held := p.held + p.inp.length, chk := some (addC c p.inp) } t).inp = t := rfl
        by_cases g1 : (addC c (p.inp ++ t)).err = 0
        · by_cases g2 : (addC c (p.inp ++ t)).st = 4
          · rw [tail_done (p := p.add t) q hcA g1 g2, tail_done (p := InS.add { p with inp := [], held := p.held + p.inp.length, chk := some (addC c p.inp) } t) (c := addC c p.inp) q rfl (by rw [hin, ← hcat]; exact g1) (by rw [hin, ← hcat]; exact g2)]
            exact nxR_ext (inS_ext (by rw [hi, hin, hcat]) rfl rfl rfl rfl rfl) rfl rfl
          · rw [tail_more (p := p.add t) q hcA g1 g2, tail_more (p := InS.add { p with inp := [], held := p.held + p.inp.length, chk := some (addC c p.inp) } t) (c := addC c p.inp) q rfl (by rw [hin, ← hcat]; exact g1) (by rw [hin, ← hcat]; exact g2)]
            refine nxR_ext (inS_ext rfl ?_ rfl rfl (by rw [hi, hin, hcat]) rfl) rfl rfl
            rw [hi, hin]; simp [InS.add]; omega
        · rw [tail_bad (p := p.add t) q hcA g1 d6, tail_bad (p := InS.add { p with inp := [], held := p.held + p.inp.length, chk := some (addC c p.inp) } t) (c := addC c p.inp) q rfl (by rw [hin, ← hcat]; exact g1) (by rw [hin, ← hcat]; exact d6)]
          refine nxR_ext (inS_ext rfl ?_ rfl rfl (by rw [hi, hin, hcat]) (by rw [hi, hin, hcat])) rfl (by rw [hi, hin, hcat])
          rw [hi, hin]; simp [InS.add]; omega
    · have hb := addC_bad_app p.inp t ke kk e1
      have ht := told_ne (long := 413) e1 d5 (by decide)
      rw [tail_bad q hc e1 d5, tail_bad (p := p.add t) (c := c) q hc (by show (addC c (p.inp ++ t)).err ≠ 0; rw [hb]; exact e1) d6]
      have ht2 : toldE (addC c p.inp).err 413 ≠ 200 := by unfold toldE; split; (simp); split <;> simp
      refine ⟨⟨fun hh => absurd hh ht2, fun _ _ => ⟨?_, rfl, rfl⟩, fun hh => absurd hh ht⟩, fun hh => absurd hh ht⟩
      show toldE (addC c (p.inp ++ t)).err 413 = toldE (addC c p.inp).err 413
      rw [hb]
theorem head_app (l t : List UInt8) : headM l = hr0 0 ∨ headM (l ++ t) = headM l := by
  rcases split_append l t with h | h
  · left
    unfold headM
    rw [if_pos (by rw [h]; decide), h]
    rfl
  · right
    unfold headM
    rw [h]
theorem next_some {p : InS} {q : Req} (h0 : p.st = 0) (hq : p.req = some q) : nextI p = tailI p q := by unfold nextI; rw [if_neg (by simp [h0]), hq]
theorem next_none {p : InS} (h0 : p.st = 0) (hq : p.req = none) : nextI p = if (headM p.inp).s ≠ 0 then ⟨{ p with st := (headM p.inp).s }, req0, (headM p.inp).s⟩ else if (headM p.inp).got then tailI (headed p (headM p.inp)) (headM p.inp).q else ⟨p, req0, 0⟩ := by
  unfold nextI; rw [if_neg (by simp [h0]), hq]
theorem next_app {p : InS} (h : p.ok) (h0 : p.st = 0) (t : List UInt8) : Tells (nextI p) (nextI (p.add t)) (nextI ((nextI p).p.add t)) t := by
  cases hr : p.req with
  | some q =>
    have ha := tail_app h h0 hr t
    rw [next_some h0 hr, next_some (p := p.add t) h0 hr]
    refine ⟨ha.1.yes, ha.1.no, fun hs => ?_⟩
    have hw := ha.1.wait hs
    rw [next_some (p := (tailI p q).p.add t) hw.2 (ha.2 hs)]
    exact hw
  | none =>
    have hrA : (p.add t).req = none := hr
    have h0A : (p.add t).st = 0 := h0
    by_cases hs : (headM p.inp).s = 0
    · cases hg : (headM p.inp).got with
      | false =>
        have e1 : nextI p = ⟨p, req0, 0⟩ := by rw [next_none h0 hr, if_neg (by simp [hs]), hg, if_neg (by simp)]
        rw [e1]
        refine ⟨fun hh => by simp at hh, fun _ hh => absurd rfl hh, fun _ => ⟨rfl, h0⟩⟩
      | true =>
        have hA : headM (p.inp ++ t) = headM p.inp := by
          rcases head_app p.inp t with hx | hx
          · rw [hx] at hg; cases hg
          · exact hx
        have hok := headed_ok h h0 hr hg
        have hb := (head_bounds p.inp).2.1 hg
        have ha := tail_app hok h0 (q := (headM p.inp).q) rfl t
        have hAi : headM (p.add t).inp = headM p.inp := hA
        have hhd : headed (p.add t) (headM p.inp) = (headed p (headM p.inp)).add t := by
          refine inS_ext ?_ rfl rfl rfl rfl rfl
          exact List.drop_append_of_le_length hb
        have e1 : nextI p = tailI (headed p (headM p.inp)) (headM p.inp).q := by rw [next_none h0 hr, if_neg (by simp [hs]), hg, if_pos rfl]
        have e2 : nextI (p.add t) = tailI ((headed p (headM p.inp)).add t) (headM p.inp).q := by rw [next_none h0A hrA, hAi, if_neg (by simp [hs]), hg, if_pos rfl, hhd]
        rw [e1, e2]
        refine ⟨ha.1.yes, ha.1.no, fun hs2 => ?_⟩
        have hw := ha.1.wait hs2
        rw [next_some (p := (tailI (headed p (headM p.inp)) (headM p.inp).q).p.add t) hw.2 (ha.2 hs2)]
        exact hw
    · have hA : headM (p.inp ++ t) = headM p.inp := by
        rcases head_app p.inp t with hx | hx
        · rw [hx] at hs; exact absurd rfl hs
        · exact hx
      have hAi : headM (p.add t).inp = headM p.inp := hA
      have e1 : nextI p = ⟨{ p with st := (headM p.inp).s }, req0, (headM p.inp).s⟩ := by rw [next_none h0 hr, if_pos hs]
      have e2 : nextI (p.add t) = ⟨{ p.add t with st := (headM p.inp).s }, req0, (headM p.inp).s⟩ := by rw [next_none h0A hrA, hAi, if_pos hs]
      rw [e1, e2]
      exact ⟨fun hh => absurd hh (head_ne200 _), fun _ _ => ⟨rfl, rfl, rfl⟩, fun hh => absurd hh hs⟩
/-- all requests that an inlet has, what is wrong then, what is left -/
inductive Alls : InS → List Req → Int → InS → Prop
  | stop {p : InS} : (nextI p).s ≠ 200 → Alls p [] (nextI p).s (nextI p).p
  | more {p p' : InS} {L : List Req} {n : Int} : (nextI p).s = 200 → Alls (nextI p).p L n p' → Alls p ((nextI p).q :: L) n p'
theorem alls_det {p p1 p2 : InS} {L1 L2 : List Req} {n1 n2 : Int} (h : Alls p L1 n1 p1) : Alls p L2 n2 p2 → L1 = L2 ∧ n1 = n2 ∧ p1 = p2 := by
  induction h generalizing L2 n2 p2 with
  | stop h => intro k; cases k with
    | stop _ => exact ⟨rfl, rfl, rfl⟩
    | more k _ => exact absurd k h
  | more h _ ih => intro k; cases k with
    | stop k => exact absurd h k
    | more _ k => obtain ⟨rfl, rfl, rfl⟩ := ih k; exact ⟨rfl, rfl, rfl⟩
theorem alls_of {p r p' : InS} {L : List Req} {n : Int} (he : nextI p = nextI r) (h : Alls r L n p') : Alls p L n p' := by
  cases h with
  | stop h => rw [← he] at h ⊢; exact .stop h
  | more h k => rw [← he] at h k ⊢; exact .more h k
theorem alls_app {p p1 : InS} {L1 : List Req} {n1 : Int} (h : Alls p L1 n1 p1) (t : List UInt8) : p.ok → p.st = 0 →
    (n1 = 0 → ∀ L2 n p', Alls (p1.add t) L2 n p' → Alls (p.add t) (L1 ++ L2) n p') ∧ (n1 ≠ 0 → ∃ p', Alls (p.add t) L1 n1 p') ∧ (n1 = 0 → p1.st = 0) ∧ p1.ok ∧ n1 ≠ 200 := by
  induction h with
  | @stop p h =>
    intro hok h0
    have ha := next_app hok h0 t
    refine ⟨fun hn L2 n p' k => ?_, fun hn => ?_, fun hn => (ha.wait hn).2, next_ok hok, h⟩
    · exact alls_of (ha.wait hn).1 k
    · obtain ⟨e1, _, _⟩ := ha.no h hn
      refine ⟨(nextI (p.add t)).p, ?_⟩
      rw [← e1]
      exact .stop (by rw [e1]; exact h)
  | @more p p' L n h k ih =>
    intro hok h0
    have ha := (next_app hok h0 t).yes h
    obtain ⟨i1, i2, i3, i4, i5⟩ := ih (next_ok hok) (next_st hok h0 h)
    refine ⟨fun hn L2 m r kk => ?_, fun hn => ?_, i3, i4, i5⟩
    · have := Alls.more (p := p.add t) (L := L ++ L2) (n := m) (p' := r) (by rw [ha]) (by rw [ha]; exact i1 hn L2 m r kk)
      rw [ha] at this
      exact this
    · obtain ⟨r, kk⟩ := i2 hn
      refine ⟨r, ?_⟩
      have := Alls.more (p := p.add t) (L := L) (n := n) (p' := r) (by rw [ha]) (by rw [ha]; exact kk)
      rw [ha] at this
      exact this
theorem in0_add (t : List UInt8) : (in0.add t) = { in0 with inp := t } := rfl
theorem alls_nil : Alls in0 [] 0 in0 := by
  have h : nextI in0 = ⟨in0, req0, 0⟩ := by kernel_rfl
  have := Alls.stop (p := in0) (by rw [h]; decide)
  rw [h] at this
  exact this
end Go.Proofs.YtpimfoohpfkciaaGreatDoor

/- Layer 12: an inlet in memory; New, Left, wrong, Add, told. No conditions but on lengths. -/
namespace Go.Proofs.YtpimfoohpfkciaaGreatDoor
open Go.RowKit Go.Shelf

def reqC (m t : List UInt8) (v : Value) (cl : Bool) : List Value := [.string (S m), .string (S t), v, .bool cl]
def inC (I : InS) (rv cv : Value) : List Value := [.string (S I.inp), .int .i64 (I.held : Nat), rv, .int .i64 (I.skip : Nat), cv, .int .i64 I.st]
/-- a request in memory: its block and its fields' row lie in R -/
def ReqAt (B : Nat) (w : World) (R : List Nat) (rv : Value) (o : Option Req) : Prop :=
  match o with
  | none => rv = .pointer none
  | some q => ∃ b v, rv = .pointer (some ⟨b, 0, none⟩) ∧ b ∈ R ∧ Blk w b 30 (reqC q.m q.t v q.cl) ∧ Own Fld.cells 2 B 40 w v q.F ∧ ∀ g, v.ownBlock = some g → g ∈ R
/-- a chunked body's reader in memory: its blocks lie in X -/
def ChkAt (B : Nat) (w : World) (p : Nat) (X : List Nat) (cv : Value) (o : Option Ck) : Prop :=
  match o with
  | none => cv = .pointer none
  | some c => ∃ b v, cv = .pointer (some ⟨b, 0, none⟩) ∧ b ≠ p ∧ b ∈ X ∧ Ct B w b [] c v ∧ ∀ g, v.ownBlock = some g → g ∈ X ∧ g ≠ p
/-- an inlet in memory: X: what its calls write; R: what is only read -/
structure It (B : Nat) (w : World) (p : Nat) (X R : List Nat) (I : InS) : Prop where
  at' : ∃ rv cv, Blk w p 52 (inC I rv cv) ∧ ChkAt B w p X cv I.chk ∧ ReqAt B w R rv I.req
  mem : p ∈ X
  lo : ∀ x ∈ X, B ≤ x ∧ x < w.heap.size
  ro : ∀ x ∈ R, B ≤ x ∧ x < w.heap.size ∧ x ∉ X
theorem Ct.lt {B b : Nat} {w : World} {p : List UInt8} {c : Ck} {v : Value} (h : Ct B w b p c v) : b < w.heap.size := let ⟨_, h1⟩ := h.cells; h1.lt
theorem ReqAt.keep {B : Nat} {w w' : World} {R S : List Nat} {rv : Value} {o : Option Req} (h : ReqAt B w R rv o) (k : Keep S w w') (hR : ∀ x ∈ R, x ∉ S) : ReqAt B w' R rv o := by
  cases o with
  | none => exact h
  | some q =>
    obtain ⟨b, v, h1, h2, h3, h4, h5⟩ := h
    exact ⟨b, v, h1, h2, k.blk h3 (hR b h2), h4.keep k (fun g hg => hR g (h5 g hg)), h5⟩
theorem ChkAt.keep {B p : Nat} {w w' : World} {X S : List Nat} {cv : Value} {o : Option Ck} (h : ChkAt B w p X cv o) (k : Keep S w w') (hX : ∀ x ∈ X, x ≠ p → x ∉ S) : ChkAt B w' p X cv o := by
  cases o with
  | none => exact h
  | some c =>
    obtain ⟨b, v, h1, h2, h3, h4, h5⟩ := h
    exact ⟨b, v, h1, h2, h3, h4.keep k (hX b h3 h2) (fun g hg => hX g (h5 g hg).1 (h5 g hg).2), h5⟩
theorem It.keep {B p : Nat} {w w' : World} {X R S : List Nat} {I : InS} (h : It B w p X R I) (k : Keep S w w') (hX : ∀ x ∈ X, x ∉ S) (hR : ∀ x ∈ R, x ∉ S) : It B w' p X R I := by
  obtain ⟨⟨rv, cv, h1, h2, h3⟩, h4, h5, h6⟩ := h
  exact ⟨⟨rv, cv, k.blk h1 (hX p h4), h2.keep k (fun x hx _ => hX x hx), h3.keep k hR⟩, h4, fun x hx => ⟨(h5 x hx).1, Nat.lt_of_lt_of_le (h5 x hx).2 k.size⟩, fun x hx => ⟨(h6 x hx).1, Nat.lt_of_lt_of_le (h6 x hx).2.1 k.size, (h6 x hx).2.2⟩⟩
theorem It.keep0 {B p : Nat} {w w' : World} {X R : List Nat} {I : InS} (h : It B w p X R I) (k : Keep [] w w') : It B w' p X R I := h.keep k (by simp) (by simp)
theorem It.lt {B p : Nat} {w : World} {X R : List Nat} {I : InS} (h : It B w p X R I) : p < w.heap.size := (h.lo p h.mem).2
theorem It.base {B p : Nat} {w : World} {X R : List Nat} {I : InS} (h : It B w p X R I) : B ≤ p := (h.lo p h.mem).1
/-- a store into the inlet's own block -/
theorem It.set {B p : Nat} {w : World} {X R : List Nat} {I I' : InS} (h : It B w p X R I) (k : Nat) (x : Value) (hc : ∀ rv cv, (inC I rv cv).set k x = inC I' rv cv) (h1 : I'.req = I.req) (h2 : I'.chk = I.chk) : It B (w.setCell ⟨p, k, none⟩ x) p X R I' := by
  obtain ⟨⟨rv, cv, b1, b2, b3⟩, h4, h5, h6⟩ := h
  have hk : Keep [p] w (w.setCell ⟨p, k, none⟩ x) := (Keep.refl _ _).setCell _ _ (by simp)
  refine ⟨⟨rv, cv, ?_, ?_, ?_⟩, h4, fun y hy => ⟨(h5 y hy).1, Nat.lt_of_lt_of_le (h5 y hy).2 hk.size⟩, fun y hy => ⟨(h6 y hy).1, Nat.lt_of_lt_of_le (h6 y hy).2.1 hk.size, (h6 y hy).2.2⟩⟩
  · rw [← hc]; exact b1.set k x
  · rw [h2]; exact b2.keep hk (fun y _ hy => by simpa using hy)
  · rw [h1]; exact b3.keep hk (fun y hy => by simp only [List.mem_singleton]; rintro rfl; exact (h6 _ hy).2.2 h4)
theorem It.at_ {B p : Nat} {w : World} {X R : List Nat} {I : InS} (h : It B w p X R I) : w.cell? ⟨p, 0, none⟩ = some (.string (S I.inp)) ∧ w.cell? ⟨p, 1, none⟩ = some (.int .i64 (I.held : Nat)) ∧ w.cell? ⟨p, 3, none⟩ = some (.int .i64 (I.skip : Nat)) ∧ w.cell? ⟨p, 5, none⟩ = some (.int .i64 I.st) := by
  obtain ⟨⟨rv, cv, b1, _⟩, _⟩ := h
  exact ⟨b1.get (k := 0) rfl, b1.get (k := 1) rfl, b1.get (k := 3) rfl, b1.get (k := 5) rfl⟩
theorem It.free {B p : Nat} {w : World} {X R : List Nat} {I : InS} (h : It B w p X R I) (k : Nat) : w.frozen? ⟨p, k, none⟩ = false := let ⟨⟨_, _, b1, _⟩, _, _, _⟩ := h; b1.frozen k
/-- a call's footprint -/
theorem It.keepX {B p : Nat} {w w' : World} {X R : List Nat} {I : InS} (h : It B w p X R I) (k : Keep [p] w w') : Keep X w w' := k.mono (fun x hx _ => by simp at hx; subst hx; exact h.mem)

set_option maxHeartbeats 1000000 in
set_option maxRecDepth 100000 in
theorem inlet_New (B : Nat) (w : World) (hB : B ≤ w.heap.size) :
    Calls Tryz.prog 6 #[] w fun e w' => ∃ p, e = .returned (.pointer (some ⟨p, 0, none⟩)) ∧ w.heap.size ≤ p ∧ It B w' p [p] [] in0 ∧ Keep [] w w' := by
  have H := Lib.hid (Blk.newA w (inC in0 (.pointer none) (.pointer none)).toArray 52)
  go_enter Tryz.func6, Tryz.ntmps6
  go_wp2_with fail
  go_ret
  exact ⟨w.heap.size, rfl, Nat.le_refl _, ⟨⟨.pointer none, .pointer none, H.out, rfl, rfl⟩, by simp, fun x hx => by simp at hx; subst hx; simp; omega, by simp⟩, (Keep.refl [] w).alloc _⟩
set_option maxHeartbeats 1000000 in
set_option maxRecDepth 100000 in
theorem inlet_Left {B p : Nat} {X R : List Nat} {I : InS} {w : World} (h : It B w p X R I) (hl : I.inp.length + I.held ≤ 1048576) :
    Calls Tryz.prog 11 #[.pointer (some ⟨p, 0, none⟩)] w fun e w' => e = .returned (.int .i64 (I.left : Nat)) ∧ Keep [] w w' := by
  obtain ⟨c0, c1, _, _⟩ := h.at_
  have sz := S_size I.inp
  have hw := IntWalk.i64_in ((I.inp.length : Int) + (I.held : Int)) (by omega)
  have HF := Lib.hid (show ((I.inp.length : Int) + (I.held : Int)) = ((I.left : Nat) : Int) by unfold InS.left; omega)
  clear h
  go_enter Tryz.func11, Tryz.ntmps11
  go_wp2_with fail
  go_region_with fail
  all_goals
    go_wp2_with fail
    go_ret
    exact ⟨ret_int HF.out, by repeat (first | exact Keep.refl _ _ | apply Keep.drew)⟩
set_option maxHeartbeats 1000000 in
set_option maxRecDepth 100000 in
theorem inlet_wrong {B p : Nat} {X R : List Nat} {I : InS} {w : World} (h : It B w p X R I) :
    Calls Tryz.prog 17 #[.pointer (some ⟨p, 0, none⟩)] w fun e w' => e = .returned (.int .i64 I.st) ∧ w = w' := by
  obtain ⟨_, _, _, c5⟩ := h.at_
  clear h
  go_enter Tryz.func17, Tryz.ntmps17
  go_wp2_with fail
  go_ret
  exact ⟨rfl, rfl⟩
set_option maxHeartbeats 1000000 in
set_option maxRecDepth 100000 in
theorem inlet_told (e0 long : Int) (w : World) :
    Calls Tryz.prog 37 #[.int .i64 e0, .int .i64 long] w fun e w' => e = .returned (.int .i64 (toldE e0 long)) ∧ w = w' := by
  have hT : toldE e0 long = if e0 = 0 ∨ e0 = 17 then 0 else if e0 = 4 then long else 400 := rfl
  by_cases h0 : e0 = 0
  · rw [if_pos (.inl h0)] at hT
    have HT := Lib.hid hT
    have q := (int_eq h0).1
    clear h0 hT
    go_enter Tryz.func37, Tryz.ntmps37
    go_wp2_with fail
    go_ret
    exact ⟨ret_int HT.out.symm, rfl⟩
  · by_cases h17 : e0 = 17
    · rw [if_pos (.inr h17)] at hT
      have HT := Lib.hid hT
      subst h17
      clear h0 hT
      go_enter Tryz.func37, Tryz.ntmps37
      go_wp2_with fail
      go_ret
      exact ⟨ret_int HT.out.symm, rfl⟩
    · rw [if_neg (by omega)] at hT
      have q := (int_ne h0).1
      have q2 := (int_ne h17).1
      by_cases h4 : e0 = 4
      · rw [if_pos h4] at hT
        have HT := Lib.hid hT
        subst h4
        clear h0 h17 hT q q2
        go_enter Tryz.func37, Tryz.ntmps37
        go_wp2_with fail
        go_ret
        exact ⟨ret_int HT.out.symm, rfl⟩
      · rw [if_neg h4] at hT
        have HT := Lib.hid hT
        have q3 := (int_ne h4).1
        clear h0 h17 hT h4
        go_enter Tryz.func37, Tryz.ntmps37
        go_wp2_with fail
        go_ret
        exact ⟨ret_int HT.out.symm, rfl⟩
set_option maxHeartbeats 2000000 in
set_option maxRecDepth 100000 in
theorem inlet_Add {B p : Nat} {X R : List Nat} {I : InS} {w : World} (s : List UInt8) (h : It B w p X R I) (hl : I.inp.length + I.held ≤ 1048576) (_hs : s.length ≤ 1048576) :
    Calls Tryz.prog 7 #[.pointer (some ⟨p, 0, none⟩), .string (S s)] w fun e w' => e = .returned (.int .i64 (inAdd I s).2) ∧ It B w' p X R (inAdd I s).1 ∧ Keep [p] w w' := by
  obtain ⟨c0, _, _, c5⟩ := h.at_
  have f0 := h.free 0
  have sz := S_size s
  have sz2 := S_size I.inp
  have hA : inAdd I s = if I.st ≠ 0 then (I, 8) else if (16384 : Int) - I.left < s.length then (I, 6) else ({ I with inp := I.inp ++ s }, 0) := rfl
  have HL := Lib.hid (inlet_Left h hl)
  have H := Lib.hid h
  have hll : I.left = I.inp.length + I.held := rfl
  have hw := IntWalk.i64_in ((16384 : Int) - (I.left : Int)) (by omega)
  by_cases h0 : I.st = 0
  · rw [if_neg (by simp [h0])] at hA
    have q1 := (int_eq h0).2
    by_cases h6 : (16384 : Int) - I.left < s.length
    · rw [if_pos h6] at hA
      have HA := Lib.hid hA
      have q2 : decide ((s.length : Int) > (16384 : Int) - I.left) = true := by simp; omega
      clear hA h h0 hll
      go_enter Tryz.func7, Tryz.ntmps7
      go_wp2_with fail
      refine HL.out.mono ?_
      rintro e w1 ⟨rfl, k1⟩
      have K1 := Lib.hid k1
      clear k1
      go_wp2_with fail
      go_ret
      rw [HA.out]
      exact ⟨rfl, H.out.keep0 K1.out, K1.out.mono (by simp)⟩
    · rw [if_neg h6] at hA
      have HA := Lib.hid hA
      have q2 : decide ((s.length : Int) > (16384 : Int) - I.left) = false := by simp; omega
      have q3 := S_append I.inp s
      have hov : ¬ 9223372036854775807 < I.inp.length + s.length := by omega
      clear hA h h0 hll c0 f0
      go_enter Tryz.func7, Tryz.ntmps7
      go_wp2_with fail
      refine HL.out.mono ?_
      rintro e w1 ⟨rfl, k1⟩
      have K1 := Lib.hid k1
      have H1 := Lib.hid (H.out.keep0 k1)
      obtain ⟨c0, _, _, _⟩ := H1.out.at_
      have f0 := H1.out.free 0
      clear k1 c5
      go_wp2_with fail
      go_ret
      rw [HA.out]
      exact ⟨rfl, H1.out.set 0 (.string (S (I.inp ++ s))) (fun _ _ => rfl) rfl rfl, (K1.out.mono (by simp)).setCell _ _ (by simp)⟩
  · rw [if_pos h0] at hA
    have HA := Lib.hid hA
    have q1 := (int_ne h0).2
    clear hA h h0 hll
    go_enter Tryz.func7, Tryz.ntmps7
    go_wp2_with fail
    go_ret
    rw [HA.out]
    exact ⟨rfl, H.out, Keep.refl _ _⟩
end Go.Proofs.YtpimfoohpfkciaaGreatDoor

/- Layer 13 and 12: Reason, Bodyless; a request line's parts: isDigit, isTarget, minor. No conditions but on lengths. -/
namespace Go.Proofs.YtpimfoohpfkciaaGreatDoor
open Go.RowKit Go.Shelf

set_option maxRecDepth 100000 in
set_option maxHeartbeats 4000000 in
theorem outlet_Reason (s : Int) (w : World) : Calls Tryz.prog 55 #[.int .i64 s] w fun e w' => e = .returned (.string (S (reasonM s))) ∧ w' = w := by
  by_cases h200 : s = 200
  · subst h200
    go_enter Tryz.func55, Tryz.ntmps55
    go_wp2_with fail
    go_ret
    exact ⟨rfl, rfl⟩
  by_cases h206 : s = 206
  · subst h206
    go_enter Tryz.func55, Tryz.ntmps55
    go_wp2_with fail
    go_ret
    exact ⟨rfl, rfl⟩
  by_cases h304 : s = 304
  · subst h304
    go_enter Tryz.func55, Tryz.ntmps55
    go_wp2_with fail
    go_ret
    exact ⟨rfl, rfl⟩
  by_cases h400 : s = 400
  · subst h400
    go_enter Tryz.func55, Tryz.ntmps55
    go_wp2_with fail
    go_ret
    exact ⟨rfl, rfl⟩
  by_cases h404 : s = 404
  · subst h404
    go_enter Tryz.func55, Tryz.ntmps55
    go_wp2_with fail
    go_ret
    exact ⟨rfl, rfl⟩
  by_cases h405 : s = 405
  · subst h405
    go_enter Tryz.func55, Tryz.ntmps55
    go_wp2_with fail
    go_ret
    exact ⟨rfl, rfl⟩
  by_cases h406 : s = 406
  · subst h406
    go_enter Tryz.func55, Tryz.ntmps55
    go_wp2_with fail
    go_ret
    exact ⟨rfl, rfl⟩
  by_cases h413 : s = 413
  · subst h413
    go_enter Tryz.func55, Tryz.ntmps55
    go_wp2_with fail
    go_ret
    exact ⟨rfl, rfl⟩
  by_cases h416 : s = 416
  · subst h416
    go_enter Tryz.func55, Tryz.ntmps55
    go_wp2_with fail
    go_ret
    exact ⟨rfl, rfl⟩
  by_cases h431 : s = 431
  · subst h431
    go_enter Tryz.func55, Tryz.ntmps55
    go_wp2_with fail
    go_ret
    exact ⟨rfl, rfl⟩
  by_cases h502 : s = 502
  · subst h502
    go_enter Tryz.func55, Tryz.ntmps55
    go_wp2_with fail
    go_ret
    exact ⟨rfl, rfl⟩
  by_cases h503 : s = 503
  · subst h503
    go_enter Tryz.func55, Tryz.ntmps55
    go_wp2_with fail
    go_ret
    exact ⟨rfl, rfl⟩
  by_cases h504 : s = 504
  · subst h504
    go_enter Tryz.func55, Tryz.ntmps55
    go_wp2_with fail
    go_ret
    exact ⟨rfl, rfl⟩
  by_cases h505 : s = 505
  · subst h505
    go_enter Tryz.func55, Tryz.ntmps55
    go_wp2_with fail
    go_ret
    exact ⟨rfl, rfl⟩
  have q200 : (s == 200) = false := (int_ne h200).1
  have q206 : (s == 206) = false := (int_ne h206).1
  have q304 : (s == 304) = false := (int_ne h304).1
  have q400 : (s == 400) = false := (int_ne h400).1
  have q404 : (s == 404) = false := (int_ne h404).1
  have q405 : (s == 405) = false := (int_ne h405).1
  have q406 : (s == 406) = false := (int_ne h406).1
  have q413 : (s == 413) = false := (int_ne h413).1
  have q416 : (s == 416) = false := (int_ne h416).1
  have q431 : (s == 431) = false := (int_ne h431).1
  have q502 : (s == 502) = false := (int_ne h502).1
  have q503 : (s == 503) = false := (int_ne h503).1
  have q504 : (s == 504) = false := (int_ne h504).1
  have q505 : (s == 505) = false := (int_ne h505).1
  have HR := Lib.hid (show reasonM s = [85, 110, 107, 110, 111, 119, 110] by unfold reasonM; simp only [h200, h206, h304, h400, h404, h405, h406, h413, h416, h431, h502, h503, h504, h505, if_false])
  clear h200 h206 h304 h400 h404 h405 h406 h413 h416 h431 h502 h503 h504 h505
  go_enter Tryz.func55, Tryz.ntmps55
  go_wp2_with fail
  go_ret
  exact ⟨by rw [HR.out]; rfl, rfl⟩
set_option maxHeartbeats 1000000 in
theorem outlet_Bodyless (s : Int) (h : Bool) (w : World) :
    Calls Tryz.prog 29 #[.int .i64 s, .bool h] w fun e w' => e = .returned (.bool (h || (decide (100 ≤ s) && decide (s < 200)) || decide (s = 204) || decide (s = 304))) ∧ w' = w := by
  cases h with
  | true =>
    go_enter Tryz.func29, Tryz.ntmps29
    go_wp2_with fail
    go_ret
    exact ⟨by simp, rfl⟩
  | false =>
    by_cases h1 : 100 ≤ s ∧ s < 200
    · obtain ⟨ha, hb⟩ := h1
      have ha' : decide (s ≥ 100) = true := by simp; omega
      go_enter Tryz.func29, Tryz.ntmps29
      go_wp2_with fail
      go_ret
      exact ⟨by simp [ha, hb], rfl⟩
    · have hx : (decide (100 ≤ s) && decide (s < 200)) = false := by simp; omega
      rw [hx]
      by_cases ha : 100 ≤ s
      · have hb : decide (s < 200) = false := by simp; omega
        by_cases h4 : s = 204
        · have h4' := (int_eq h4).1
          clear h1 hx
          go_enter Tryz.func29, Tryz.ntmps29
          go_wp2_with fail
          go_ret
          exact ⟨by simp [h4], rfl⟩
        · have h4' := (int_ne h4).1
          clear h1 hx
          go_enter Tryz.func29, Tryz.ntmps29
          go_wp2_with fail
          all_goals (go_ret; refine ⟨?_, rfl⟩)
          all_goals (by_cases h5 : s = 304 <;> simp [h4, h5])
      · by_cases h4 : s = 204
        · omega
        · have h4' := (int_ne h4).1
          clear h1 hx
          go_enter Tryz.func29, Tryz.ntmps29
          go_wp2_with fail
          all_goals (go_ret; refine ⟨?_, rfl⟩)
          all_goals (by_cases h5 : s = 304 <;> simp [h5])

set_option maxHeartbeats 400000 in
theorem inlet_isDigit (b : UInt8) (w : World) :
    Calls Tryz.prog 64 #[.int .u8 b.toNat] w fun e w' => e = .returned (.bool (digB b)) ∧ w = w' := by
  have hb := u8_nat b
  by_cases h1 : 48 ≤ b.toNat
  · by_cases h2 : b.toNat ≤ 57
    · go_enter Tryz.func64, Tryz.ntmps64
      go_wp2_with fail
      go_ret
      exact ⟨by simp [digB, h1, h2] <;> omega, rfl⟩
    · go_enter Tryz.func64, Tryz.ntmps64
      go_wp2_with fail
      go_ret
      exact ⟨by simp [digB, h1, h2] <;> omega, rfl⟩
  · go_enter Tryz.func64, Tryz.ntmps64
    go_wp2_with fail
    go_ret
    exact ⟨by simp [digB, h1], rfl⟩

set_option maxRecDepth 100000 in
set_option maxHeartbeats 1000000 in
theorem inlet_isTarget (l : List UInt8) (w : World) (hs : l.length ≤ maxLen) :
    Calls Tryz.prog 34 #[.string (S l)] w fun e w' => e = .returned (.bool (isTgt l)) ∧ Keep [] w w' := by
  have hs' : l.length ≤ 9223372036854775807 := hs
  have hcv := conv_run w (S l)
  have hcell : Hid (∀ (k : Nat) (c : UInt8), l[k]? = some c → _) := fun k c h => conv_at w 5 h
  have hkp := conv_keep w 5 (S l)
  generalize Lib.bytesWorld w 5 (S l) = wb at hcv hcell hkp
  have hsz := S_size l
  have hte := S_toList l
  clear hs
  go_enter Tryz.func34, Tryz.ntmps34
  go_wp2_with fail
  go_loop [8] (fun i => ∃ k : Nat, i = .int .i64 k ∧ k ≤ l.length ∧ Hid ((l.take k).all tgtB = true)) (fun i => l.length - (intOf i).toNat)
  case atStart => exact ⟨0, rfl, Nat.zero_le _, by simp [Hid]⟩
  case round =>
    obtain ⟨k, rfl, hk, hall⟩ := hrel
    by_cases hlt : k < l.length
    · obtain ⟨c, hg⟩ : ∃ c, l[k]? = some c := ⟨_, List.getElem?_eq_getElem hlt⟩
      have hc := hcell.out k c hg
      have hc8 := u8_nat c
      have HG := Lib.hid hg
      clear hg
      by_cases ht : tgtB c = true
      · have h1 : 33 ≤ c.toNat ∧ c.toNat ≤ 126 := by simpa [tgtB] using ht
        have h2 : ¬ c.toNat ≤ 32 := by omega
        have h3 : ¬ 126 < c.toNat := by omega
        have HT := Lib.hid ht
        clear ht h1
        go_wp2_with fail
        go_round
        case rel => exact ⟨k + 1, by go_num, by omega, by rw [Hid, take_snoc HG.out, List.all_append, hall.out]; simp [HT.out]⟩
        case measure => simp [intOf]; omega
      · have this : isTgt l = false := by
          unfold isTgt
          rw [show l.all tgtB = false from by rw [List.all_eq_false]; exact ⟨c, List.mem_of_getElem? HG.out, ht⟩]
          rfl
        have H := Lib.hid this
        by_cases h2 : c.toNat ≤ 32
        · clear this ht
          go_wp2_with fail
          go_ret
          exact ⟨ret_bool H.out.symm, hkp⟩
        · have h3 : 126 < c.toNat := by
            simp [tgtB] at ht
            omega
          clear this ht
          go_wp2_with fail
          go_ret
          exact ⟨ret_bool H.out.symm, hkp⟩
    · have e : l.take k = l := List.take_of_length_le (by omega)
      rw [e] at hall
      clear e
      go_wp2_with fail
      go_ret
      refine ⟨ret_bool ?_, hkp⟩
      unfold isTgt
      rw [hall.out]
      simp
end Go.Proofs.YtpimfoohpfkciaaGreatDoor

/- Layer 12: minor, Line: a request line. No conditions but on lengths. -/
namespace Go.Proofs.YtpimfoohpfkciaaGreatDoor
open Go.RowKit Go.Shelf

theorem take5_prefix (l : List UInt8) : Lib.hasPrefix l httpB = decide (l.take 5 = httpB) := by
  rw [Bool.eq_iff_iff]
  unfold Lib.hasPrefix
  rw [List.isPrefixOf_iff_prefix, List.prefix_iff_eq_take]
  constructor
  · intro h; exact decide_eq_true h.symm
  · intro h; exact (of_decide_eq_true h).symm
theorem ver_no {l : List UInt8} (h : Lib.hasPrefix l httpB = false ∨ l.length ≠ 8) : minS l = 400 ∧ minV l = 0 := by
  have hv : verOk l = false := by
    unfold verOk
    rcases h with h | h
    · rw [take5_prefix] at h; rw [h]; simp
    · simp [h]
  have hs : minS l = 400 := by unfold minS; rw [hv]; rfl
  exact ⟨hs, by unfold minV; rw [hs]; rfl⟩
theorem ver_of (a p c : UInt8) : minS (httpB ++ [a, p, c]) = (if digB a && (p == 46) && digB c then (if a = 49 ∧ c.toNat ≤ 49 then 200 else 505) else 400) ∧ minV (httpB ++ [a, p, c]) = (if digB a && (p == 46) && digB c then (if a = 49 ∧ c.toNat ≤ 49 then (c.toNat : Int) - 48 else 0) else 0) := by
  have hv : verOk (httpB ++ [a, p, c]) = (digB a && (p == 46) && digB c) := by
    unfold verOk
    simp [httpB]
  have hs : minS (httpB ++ [a, p, c]) = (if digB a && (p == 46) && digB c then (if a = 49 ∧ c.toNat ≤ 49 then 200 else 505) else 400) := by
    unfold minS
    rw [hv]
    rfl
  refine ⟨hs, ?_⟩
  unfold minV
  rw [hs]
  by_cases h1 : (digB a && (p == 46) && digB c) = true
  · by_cases h2 : a = 49 ∧ c.toNat ≤ 49
    · rw [if_pos h1, if_pos h2, if_pos rfl, if_pos h1, if_pos h2]; rfl
    · rw [if_pos h1, if_neg h2, if_neg (by decide), if_pos h1, if_neg h2]
  · rw [if_neg h1, if_neg (by decide), if_neg h1]

set_option maxRecDepth 100000 in
set_option maxHeartbeats 2000000 in
theorem inlet_minor (l : List UInt8) (w : World) (hl : l.length ≤ maxLen) :
    Calls Tryz.prog 35 #[.string (S l)] w fun e w' => e = .returned (.tuple #[.int .i64 (minV l), .int .i64 (minS l)]) ∧ Keep [] w w' := by
  have hl' : l.length ≤ 9223372036854775807 := hl
  have hP : Calls Tryz.prog 63 #[.string (S l), .string ⟨#[72, 84, 84, 80, 47]⟩] w fun e w' => e = .returned (.tuple #[.string (S (Lib.trimPrefix l httpB)), .bool (Lib.hasPrefix l httpB)]) ∧ w' = w := by
    have := Tryz.strings_CutPrefix (S l) ⟨#[72, 84, 84, 80, 47]⟩ w
    rw [S_list] at this
    exact this
  have hsz := S_size l
  cases hpf : Lib.hasPrefix l httpB with
  | false =>
    obtain ⟨e1, e2⟩ := ver_no (.inl hpf)
    rw [e1, e2]
    rw [hpf] at hP
    have HP := Lib.hid hP
    clear hP hpf e1 e2
    go_enter Tryz.func35, Tryz.ntmps35
    go_wp2_with fail
    refine HP.out.mono ?_
    rintro e w1 ⟨rfl, rfl⟩
    go_wp2_with fail
    go_ret2
    exact ⟨rfl, Keep.refl _ _⟩
  | true =>
    rw [hpf] at hP
    by_cases h8 : l.length = 8
    · have hle : l = httpB ++ l.drop 5 := by
        rw [take5_prefix] at hpf
        have := of_decide_eq_true hpf
        rw [← this, List.take_append_drop]
      have htr : Lib.trimPrefix l httpB = l.drop 5 := by unfold Lib.trimPrefix; rw [if_pos hpf]; rfl
      have hr3 : (l.drop 5).length = 3 := by rw [List.length_drop, h8]
      rw [htr] at hP
      generalize l.drop 5 = r at *
      obtain ⟨a, p, c, rfl⟩ : ∃ a p c, r = [a, p, c] := by
        match r, hr3 with
        | [a, p, c], _ => exact ⟨a, p, c, rfl⟩
      have g0 := S_get (l := [a, p, c]) (k := 0) (c := a) rfl
      have g1 := S_get (l := [a, p, c]) (k := 1) (c := p) rfl
      have g2 := S_get (l := [a, p, c]) (k := 2) (c := c) rfl
      have hs3 : (S [a, p, c]).size = 3 := S_size _
      obtain ⟨hms, hmv⟩ := ver_of a p c
      rw [← hle] at hms hmv
      generalize minS l = ms at hms ⊢
      generalize minV l = mv at hmv ⊢
      have h8' : ((l.length : Nat) : Int) = 8 := by omega
      have h8q := (int_eq h8').2
      have HP := Lib.hid hP
      have Da := Lib.hid (fun w1 => inlet_isDigit a w1)
      have Dc := Lib.hid (fun w1 => inlet_isDigit c w1)
      have ca := u8_nat a
      have cp := u8_nat p
      have cc := u8_nat c
      generalize S [a, p, c] = sr at *
      clear hP hpf hle htr hr3 h8 h8'
      cases hda : digB a with
      | false =>
        rw [hda] at Da hms hmv
        have HX := Lib.hid (show mv = 0 ∧ ms = 400 from ⟨by simpa using hmv, by simpa using hms⟩)
        clear hms hmv hda
        go_enter Tryz.func35, Tryz.ntmps35
        go_wp2_with fail
        refine HP.out.mono ?_
        rintro e w1 ⟨rfl, rfl⟩
        go_wp2_with (first | (go_at_call 64; refine (Da.out _).mono ?_; rintro e w2 ⟨rfl, rfl⟩) | (go_at_call 64; refine (Dc.out _).mono ?_; rintro e w2 ⟨rfl, rfl⟩))
        go_ret2
        exact ⟨by rw [HX.out.1, HX.out.2]; rfl, Keep.refl _ _⟩
      | true =>
        by_cases hp : p = 46
        · have hpb : (p == 46) = true := by simp [hp]
          have hpn : ((p.toNat : Nat) : Int) = 46 := by rw [hp]; rfl
          have hpq := (int_eq hpn).2
          rw [hda, hpb] at hms hmv
          rw [hda] at Da
          clear hpn hp hpb
          cases hdc : digB c with
          | false =>
            rw [hdc] at Dc hms hmv
            have HX := Lib.hid (show mv = 0 ∧ ms = 400 from ⟨by simpa using hmv, by simpa using hms⟩)
            clear hms hmv hda hdc
            go_enter Tryz.func35, Tryz.ntmps35
            go_wp2_with fail
            refine HP.out.mono ?_
            rintro e w1 ⟨rfl, rfl⟩
            go_wp2_with (first | (go_at_call 64; refine (Da.out _).mono ?_; rintro e w2 ⟨rfl, rfl⟩) | (go_at_call 64; refine (Dc.out _).mono ?_; rintro e w2 ⟨rfl, rfl⟩))
            go_ret2
            exact ⟨by rw [HX.out.1, HX.out.2]; rfl, Keep.refl _ _⟩
          | true =>
            rw [hdc] at Dc hms hmv
            simp only [Bool.and_self, if_true] at hms hmv
            have hc9 : 48 ≤ c.toNat ∧ c.toNat ≤ 57 := by simpa [digB] using hdc
            obtain ⟨hc0, hc1⟩ := hc9
            by_cases ha : a = 49
            · have han : ((a.toNat : Nat) : Int) = 49 := by rw [ha]; rfl
              have haq := (int_eq han).2
              by_cases hc : c.toNat ≤ 49
              · rw [if_pos ⟨ha, hc⟩] at hms hmv
                have hcq : decide (((c.toNat : Nat) : Int) > 49) = false := by simp; omega
                have hwr := IntWalk.u8_in ((c.toNat : Int) - 48) (by omega)
                have hwi := IntWalk.i64_in ((c.toNat : Int) - 48) (by omega)
                have HX := Lib.hid (And.intro hmv hms)
                clear hms hmv hda hdc ha han
                go_enter Tryz.func35, Tryz.ntmps35
                go_wp2_with fail
                refine HP.out.mono ?_
                rintro e w1 ⟨rfl, rfl⟩
                go_wp2_with (first | (go_at_call 64; refine (Da.out _).mono ?_; rintro e w2 ⟨rfl, rfl⟩) | (go_at_call 64; refine (Dc.out _).mono ?_; rintro e w2 ⟨rfl, rfl⟩))
                go_ret2
                exact ⟨by rw [HX.out.1, HX.out.2]; rfl, Keep.refl _ _⟩
              · rw [if_neg (fun h => hc h.2)] at hms hmv
                have hcq : decide (((c.toNat : Nat) : Int) > 49) = true := by simp; omega
                have HX := Lib.hid (And.intro hmv hms)
                clear hms hmv hda hdc ha han
                go_enter Tryz.func35, Tryz.ntmps35
                go_wp2_with fail
                refine HP.out.mono ?_
                rintro e w1 ⟨rfl, rfl⟩
                go_wp2_with (first | (go_at_call 64; refine (Da.out _).mono ?_; rintro e w2 ⟨rfl, rfl⟩) | (go_at_call 64; refine (Dc.out _).mono ?_; rintro e w2 ⟨rfl, rfl⟩))
                go_ret2
                exact ⟨by rw [HX.out.1, HX.out.2]; rfl, Keep.refl _ _⟩
            · rw [if_neg (fun h => ha h.1)] at hms hmv
              have han : ((a.toNat : Nat) : Int) ≠ 49 := fun e => ha (UInt8.toNat_inj.1 (by show a.toNat = 49; omega))
              have haq := (int_ne han).2
              have HX := Lib.hid (And.intro hmv hms)
              clear hms hmv hda hdc ha han
              go_enter Tryz.func35, Tryz.ntmps35
              go_wp2_with fail
              refine HP.out.mono ?_
              rintro e w1 ⟨rfl, rfl⟩
              go_wp2_with (first | (go_at_call 64; refine (Da.out _).mono ?_; rintro e w2 ⟨rfl, rfl⟩) | (go_at_call 64; refine (Dc.out _).mono ?_; rintro e w2 ⟨rfl, rfl⟩))
              go_ret2
              exact ⟨by rw [HX.out.1, HX.out.2]; rfl, Keep.refl _ _⟩
        · have hpb : (p == 46) = false := by simp [hp]
          have hpn : ((p.toNat : Nat) : Int) ≠ 46 := fun e => hp (UInt8.toNat_inj.1 (by show p.toNat = 46; omega))
          have hpq := (int_ne hpn).2
          rw [hda, hpb] at hms hmv
          rw [hda] at Da
          have HX := Lib.hid (show mv = 0 ∧ ms = 400 from ⟨by simpa using hmv, by simpa using hms⟩)
          clear hms hmv hda hpn hp hpb
          go_enter Tryz.func35, Tryz.ntmps35
          go_wp2_with fail
          refine HP.out.mono ?_
          rintro e w1 ⟨rfl, rfl⟩
          go_wp2_with (first | (go_at_call 64; refine (Da.out _).mono ?_; rintro e w2 ⟨rfl, rfl⟩) | (go_at_call 64; refine (Dc.out _).mono ?_; rintro e w2 ⟨rfl, rfl⟩))
          go_ret2
          exact ⟨by rw [HX.out.1, HX.out.2]; rfl, Keep.refl _ _⟩
    · obtain ⟨e1, e2⟩ := ver_no (.inr h8)
      rw [e1, e2]
      have h8' : ((l.length : Nat) : Int) ≠ 8 := by omega
      have h8q := (int_ne h8').2
      have HP := Lib.hid hP
      clear hP hpf e1 e2 h8 h8'
      go_enter Tryz.func35, Tryz.ntmps35
      go_wp2_with fail
      refine HP.out.mono ?_
      rintro e w1 ⟨rfl, rfl⟩
      go_wp2_with fail
      go_ret2
      exact ⟨rfl, Keep.refl _ _⟩
end Go.Proofs.YtpimfoohpfkciaaGreatDoor

/- Layer 12: Line: a request line. No conditions but on lengths. -/
namespace Go.Proofs.YtpimfoohpfkciaaGreatDoor
open Go.RowKit Go.Shelf

theorem res4 {fn : Func} {t u v x : Tmp} (h : fn.results = #[.tmp t, .tmp u, .tmp v, .tmp x]) (tmps : Array Value) (P : Program) (w : World) :
    (results fn tmps).run P w = .ok (.tuple #[tmps.getD t undef, tmps.getD u undef, tmps.getD v undef, tmps.getD x undef]) w := by
  simp [results, h]
def Ln.out (r : Ln) : Value := .tuple #[.string (S r.m), .string (S r.t), .int .i64 r.v, .int .i64 r.s]
theorem ln_no {l : List UInt8} (h : ((Lib.cut l [32]).2.2 && (Lib.cut (Lib.cut l [32]).2.1 [32]).2.2 && isTok (Lib.cut l [32]).1 && isTgt (Lib.cut (Lib.cut l [32]).2.1 [32]).1) = false) : lnM l = ⟨[], [], 0, 400⟩ := by
  unfold lnM
  dsimp only
  rw [h]
  rfl
theorem ln_yes {l : List UInt8} (h : ((Lib.cut l [32]).2.2 && (Lib.cut (Lib.cut l [32]).2.1 [32]).2.2 && isTok (Lib.cut l [32]).1 && isTgt (Lib.cut (Lib.cut l [32]).2.1 [32]).1) = true) :
    lnM l = if minS (Lib.cut (Lib.cut l [32]).2.1 [32]).2.1 = 200 then ⟨(Lib.cut l [32]).1, (Lib.cut (Lib.cut l [32]).2.1 [32]).1, minV (Lib.cut (Lib.cut l [32]).2.1 [32]).2.1, 200⟩ else ⟨[], [], 0, minS (Lib.cut (Lib.cut l [32]).2.1 [32]).2.1⟩ := by
  unfold lnM
  dsimp only
  rw [h]
  rfl

set_option maxRecDepth 100000 in
set_option maxHeartbeats 2000000 in
theorem inlet_Line (l : List UInt8) (w : World) (hm : ML w) (hl : l.length < 4294967281) :
    Calls Tryz.prog 16 #[.string (S l)] w fun e w' => e = .returned (lnM l).out ∧ Keep [] w w' := by
  have hC1 : Calls Tryz.prog 32 #[.string (S l), .string ⟨#[32]⟩] w fun e w' => e = .returned (.tuple #[.string (S (Lib.cut l [32]).1), .string (S (Lib.cut l [32]).2.1), .bool (Lib.cut l [32]).2.2]) ∧ Keep [] w w' := strings_Cut l ⟨#[32]⟩ w hm hl
  have hl1 := cut_len l [32]
  have hno := ln_no (l := l)
  have hyes := ln_yes (l := l)
  generalize lnM l = R at *
  generalize Lib.cut l [32] = c1 at *
  obtain ⟨xm, r, ok1⟩ := c1
  dsimp only at *
  have hC2 := fun w1 (k : Keep [] w w1) => show Calls Tryz.prog 32 #[.string (S r), .string ⟨#[32]⟩] w1 fun e w' => e = .returned (.tuple #[.string (S (Lib.cut r [32]).1), .string (S (Lib.cut r [32]).2.1), .bool (Lib.cut r [32]).2.2]) ∧ Keep [] w1 w' from strings_Cut r ⟨#[32]⟩ w1 (hm.keep k (by simp)) (by omega)
  have hl2 := cut_len r [32]
  generalize Lib.cut r [32] = c2 at *
  obtain ⟨xt, xl, ok2⟩ := c2
  dsimp only at *
  have HT := Lib.hid (fun w' => field_IsToken xm w' (show xm.length ≤ 9223372036854775807 by omega))
  have HG := Lib.hid (fun w' => inlet_isTarget xt w' (show xt.length ≤ 9223372036854775807 by omega))
  have HM := Lib.hid (fun w' => inlet_minor xl w' (show xl.length ≤ 9223372036854775807 by omega))
  have HC1 := Lib.hid hC1
  have HC2 := Lib.hid hC2
  clear hC1 hC2 hl1 hl2
  cases ok1 with
  | false =>
    have HR := Lib.hid (hno rfl)
    clear hno hyes
    go_enter Tryz.func16, Tryz.ntmps16
    go_wp2_with fail
    refine HC1.out.mono ?_
    rintro e w1 ⟨rfl, k1⟩
    go_wp2_with fail
    refine (HC2.out _ k1).mono ?_
    rintro e w2 ⟨rfl, k2⟩
    go_wp2_with fail
    refine bodyPost_ret (res4 rfl _ _ _) rfl ⟨?_, k1.trans k2⟩
    rw [HR.out]
    rfl
  | true =>
    cases ok2 with
    | false =>
      have HR := Lib.hid (hno rfl)
      clear hno hyes
      go_enter Tryz.func16, Tryz.ntmps16
      go_wp2_with fail
      refine HC1.out.mono ?_
      rintro e w1 ⟨rfl, k1⟩
      go_wp2_with fail
      refine (HC2.out _ k1).mono ?_
      rintro e w2 ⟨rfl, k2⟩
      go_wp2_with fail
      refine bodyPost_ret (res4 rfl _ _ _) rfl ⟨?_, k1.trans k2⟩
      rw [HR.out]
      rfl
    | true =>
      cases htk : isTok xm with
      | false =>
        rw [htk] at HT hno
        have HR := Lib.hid (hno rfl)
        clear hno hyes htk
        go_enter Tryz.func16, Tryz.ntmps16
        go_wp2_with fail
        refine HC1.out.mono ?_
        rintro e w1 ⟨rfl, k1⟩
        go_wp2_with fail
        refine (HC2.out _ k1).mono ?_
        rintro e w2 ⟨rfl, k2⟩
        go_wp2_with fail
        refine (HT.out _).mono ?_
        rintro e w3 ⟨rfl, k3⟩
        go_wp2_with fail
        refine bodyPost_ret (res4 rfl _ _ _) rfl ⟨?_, (k1.trans k2).trans k3⟩
        rw [HR.out]
        rfl
      | true =>
        rw [htk] at HT hno hyes
        cases htg : isTgt xt with
        | false =>
          rw [htg] at HG hno
          have HR := Lib.hid (hno rfl)
          clear hno hyes htk htg
          go_enter Tryz.func16, Tryz.ntmps16
          go_wp2_with fail
          refine HC1.out.mono ?_
          rintro e w1 ⟨rfl, k1⟩
          go_wp2_with fail
          refine (HC2.out _ k1).mono ?_
          rintro e w2 ⟨rfl, k2⟩
          go_wp2_with fail
          refine (HT.out _).mono ?_
          rintro e w3 ⟨rfl, k3⟩
          go_wp2_with fail
          refine (HG.out _).mono ?_
          rintro e w4 ⟨rfl, k4⟩
          go_wp2_with fail
          refine bodyPost_ret (res4 rfl _ _ _) rfl ⟨?_, ((k1.trans k2).trans k3).trans k4⟩
          rw [HR.out]
          rfl
        | true =>
          rw [htg] at HG hyes
          have hR := hyes rfl
          clear hno hyes htk htg
          generalize minS xl = ms at *
          generalize minV xl = mv at *
          by_cases h2 : ms = 200
          · rw [if_pos h2] at hR
            have q := (int_eq h2).2
            have HR := Lib.hid hR
            clear hR h2
            go_enter Tryz.func16, Tryz.ntmps16
            go_wp2_with fail
            refine HC1.out.mono ?_
            rintro e w1 ⟨rfl, k1⟩
            go_wp2_with fail
            refine (HC2.out _ k1).mono ?_
            rintro e w2 ⟨rfl, k2⟩
            go_wp2_with fail
            refine (HT.out _).mono ?_
            rintro e w3 ⟨rfl, k3⟩
            go_wp2_with fail
            refine (HG.out _).mono ?_
            rintro e w4 ⟨rfl, k4⟩
            go_wp2_with fail
            refine (HM.out _).mono ?_
            rintro e w5 ⟨rfl, k5⟩
            go_wp2_with fail
            refine bodyPost_ret (res4 rfl _ _ _) rfl ⟨?_, (((k1.trans k2).trans k3).trans k4).trans k5⟩
            rw [HR.out]
            rfl
          · rw [if_neg h2] at hR
            have q := (int_ne h2).2
            have HR := Lib.hid hR
            clear hR h2
            go_enter Tryz.func16, Tryz.ntmps16
            go_wp2_with fail
            refine HC1.out.mono ?_
            rintro e w1 ⟨rfl, k1⟩
            go_wp2_with fail
            refine (HC2.out _ k1).mono ?_
            rintro e w2 ⟨rfl, k2⟩
            go_wp2_with fail
            refine (HT.out _).mono ?_
            rintro e w3 ⟨rfl, k3⟩
            go_wp2_with fail
            refine (HG.out _).mono ?_
            rintro e w4 ⟨rfl, k4⟩
            go_wp2_with fail
            refine (HM.out _).mono ?_
            rintro e w5 ⟨rfl, k5⟩
            go_wp2_with fail
            refine bodyPost_ret (res4 rfl _ _ _) rfl ⟨?_, (((k1.trans k2).trans k3).trans k4).trans k5⟩
            rw [HR.out]
            rfl
end Go.Proofs.YtpimfoohpfkciaaGreatDoor

/- Layer 12: head. No conditions but on lengths. -/
namespace Go.Proofs.YtpimfoohpfkciaaGreatDoor
open Go.RowKit Go.Shelf

/-- what head leaves: the inlet with a request, its chunked body's reader new -/
theorem it_headed {B p : Nat} {w w' : World} {X R : List Nat} {I : InS} (h : It B w p X R I) (_hr : I.req = none) (hc : I.chk = none) (hd : Hr) {v cv : Value} {rb : Nat} {cb : Option Nat}
    (k : Keep [p] w w') (hb : Blk w' p 52 (inC (headed I hd) (.pointer (some ⟨rb, 0, none⟩)) cv))
    (hq : Blk w' rb 30 (reqC hd.q.m hd.q.t v hd.q.cl)) (ho : Own Fld.cells 2 w.heap.size 40 w' v hd.q.F) (hrb : w.heap.size ≤ rb) (hB : B ≤ w.heap.size)
    (hck : match cb with | none => hd.ch = false ∧ cv = .pointer none | some c => hd.ch = true ∧ cv = .pointer (some ⟨c, 0, none⟩) ∧ w.heap.size ≤ c ∧ c ≠ rb ∧ (∀ g, v.ownBlock = some g → g ≠ c) ∧ Ct B w' c [] (ck0 4096) (.slice none 0 0)) :
    ∃ X' R', It B w' p X' R' (headed I hd) ∧ (∀ x ∈ X', x ∈ X ∨ w.heap.size ≤ x) ∧ ∀ x ∈ R', w.heap.size ≤ x := by
  have hp := h.lt
  have hg : ∀ g, v.ownBlock = some g → w.heap.size ≤ g ∧ g < w'.heap.size := fun g hg => ho.lt g hg
  have hreq : (headed I hd).req = some hd.q := rfl
  have hchk : (headed I hd).chk = if hd.ch then some (ck0 4096) else I.chk := rfl
  refine ⟨p :: cb.toList, rb :: v.ownBlock.toList, ⟨⟨_, cv, hb, ?_, ?_⟩, by simp, ?_, ?_⟩, ?_, ?_⟩
  · cases cb with
    | none =>
      obtain ⟨h1, h2⟩ := hck
      rw [hchk, h1, hc]
      exact h2
    | some c =>
      obtain ⟨h1, h2, h3, h4, h5, h6⟩ := hck
      rw [hchk, h1]
      exact ⟨c, _, h2, by omega, by simp, h6, by simp [Value.ownBlock]⟩
  · rw [hreq]
    exact ⟨rb, v, rfl, by simp, hq, ho.lower hB, fun g hg => by rw [hg]; simp⟩
  · intro x hx
    rcases List.mem_cons.1 hx with rfl | hx
    · exact ⟨h.base, hb.lt⟩
    · cases cb with
      | none => simp at hx
      | some c =>
        obtain ⟨h1, h2, h3, h4, h5, h6⟩ := hck
        have : x = c := by simpa using hx
        subst this
        exact ⟨by omega, h6.lt⟩
  · intro x hx
    have hx2 : w.heap.size ≤ x ∧ x < w'.heap.size := by
      rcases List.mem_cons.1 hx with rfl | hx
      · exact ⟨hrb, hq.lt⟩
      · exact hg x (by simpa using hx)
    refine ⟨by omega, hx2.2, fun hm => ?_⟩
    rcases List.mem_cons.1 hm with rfl | hm
    · omega
    · cases cb with
      | none => simp at hm
      | some c =>
        obtain ⟨h1, h2, h3, h4, h5, h6⟩ := hck
        have : x = c := by simpa using hm
        subst this
        rcases List.mem_cons.1 hx with rfl | hx
        · exact h4 rfl
        · exact h5 x (by simpa using hx) rfl
  · intro x hx
    rcases List.mem_cons.1 hx with rfl | hx
    · exact .inl h.mem
    · cases cb with
      | none => simp at hx
      | some c =>
        obtain ⟨h1, h2, h3, h4, h5, h6⟩ := hck
        have : x = c := by simpa using hx
        subst this
        exact .inr h3
  · intro x hx
    rcases List.mem_cons.1 hx with rfl | hx
    · exact hrb
    · exact (hg x (by simpa using hx)).1

set_option maxRecDepth 100000 in
set_option maxHeartbeats 4000000 in
theorem inlet_head {B p : Nat} {X R : List Nat} {I : InS} {w : World} (h : It B w p X R I) (hm : ML w) (hB : B ≤ w.heap.size) (_hbig : 0 < B) (hl : I.inp.length ≤ 65536) (hr : I.req = none) (hc : I.chk = none) :
    Calls Tryz.prog 18 #[.pointer (some ⟨p, 0, none⟩)] w fun e w' => e = .returned (.int .i64 (headM I.inp).s) ∧ Keep [p] w w' ∧ ((headM I.inp).got = false → Keep [] w w') ∧ ((headM I.inp).got = true → ∃ X' R', It B w' p X' R' (headed I (headM I.inp)) ∧ (∀ x ∈ X', x ∈ X ∨ w.heap.size ≤ x) ∧ ∀ x ∈ R', w.heap.size ≤ x) := by
  obtain ⟨c0, _, _, _⟩ := h.at_
  have sz := S_size I.inp
  have HSp := Lib.hid (field_Split I.inp w hm (by omega))
  have hsm := split_small I.inp
  have hH : headM I.inp = if (splitM I.inp).e ≠ 0 then hr0 (toldE (splitM I.inp).e 431)
    else if (lnM (splitM I.inp).st).s ≠ 200 then hr0 (lnM (splitM I.inp).st).s
    else if 1 < getN (splitM I.inp).F nHost ∨ (getN (splitM I.inp).F nHost : Int) < (lnM (splitM I.inp).st).v then hr0 400
    else if (frameM (splitM I.inp).F 4096).e ≠ 0 then hr0 (toldE (frameM (splitM I.inp).F 4096).e 413)
    else ⟨0, true, (splitM I.inp).n, ⟨(lnM (splitM I.inp).st).m, (lnM (splitM I.inp).st).t, (splitM I.inp).F, closesM (splitM I.inp).F (lnM (splitM I.inp).st).v⟩, (max (frameM (splitM I.inp).F 4096).n 0).toNat, (frameM (splitM I.inp).F 4096).ch⟩ := rfl
  have H := Lib.hid h
  have HB := Lib.hid hB
  have HM := Lib.hid hm
  have HT := Lib.hid (fun e0 long w' => inlet_told e0 long w')
  have hnp := h.lt
  generalize headM I.inp = hd at *
  generalize splitM I.inp = r at *
  obtain ⟨rs, rF, rn, re⟩ := r
  dsimp only at hsm hH
  obtain ⟨⟨hf1, hf2⟩, hs1, hn1⟩ := hsm
  have HLn := Lib.hid (fun w' (k : Keep [] w w') => inlet_Line rs w' (HM.out.keep k (by simp)) (by omega))
  have HG := Lib.hid (fun w' va (ha : Sl Fld.cells 2 w' va rF) => field_Get va rF nHost w' ha (fun x hx => by have := (hf2 x hx).1; show _ ≤ 9223372036854775807; omega) (by decide))
  have HFr := Lib.hid (fun w' va (ha : Sl Fld.cells 2 w' va rF) => field_Frame va rF 4096 w' ha (fun x hx => by have := (hf2 x hx).1; show _ ≤ 9223372036854775807; omega) (fun x hx => by have := (hf2 x hx).2; show _ ≤ 9223372036854775807; omega) (by omega))
  have HCl := Lib.hid (fun w' va mi (ha : Sl Fld.cells 2 w' va rF) => field_Closes va rF mi w' ha (fun x hx => ⟨by have := (hf2 x hx).1; omega, by have := (hf2 x hx).2; omega⟩) (by omega))
  have hNr : getN rF nHost ≤ rF.length := getN_le _ _
  unfold SplitOut at HSp
  unfold GetOut at HG
  unfold Ln.out at HLn
  dsimp only at HSp
  clear h hB hm hf2
  by_cases e1 : re = 0
  case neg =>
    rw [if_pos e1] at hH
    have q1 := (int_ne e1).2
    have HH := Lib.hid hH
    have HTe := Lib.hid (HT.out re 431)
    clear hH e1
    go_enter Tryz.func18, Tryz.ntmps18
    go_wp2_with fail
    refine HSp.out.mono ?_
    rintro e w1 ⟨v1, rfl, ho, k1⟩
    have K1 := Lib.hid k1
    clear k1 ho
    go_wp2_with fail
    refine (HTe.out _).mono ?_
    rintro e w2 ⟨rfl, rfl⟩
    go_wp2_with fail
    go_ret
    rw [HH.out]
    exact ⟨rfl, K1.out.mono (by simp), fun _ => K1.out, fun hh => by cases hh⟩
  rw [if_neg (by simp [e1])] at hH
  generalize lnM rs = ln at *
  obtain ⟨lm, lt, lv, ls⟩ := ln
  dsimp only at hH HLn
  by_cases e2 : ls = 200
  case neg =>
    rw [if_pos e2] at hH
    have q1 := (int_ne e2).2
    have HH := Lib.hid hH
    subst e1
    clear hH e2
    go_enter Tryz.func18, Tryz.ntmps18
    go_wp2_with fail
    refine HSp.out.mono ?_
    rintro e w1 ⟨v1, rfl, ho, k1⟩
    have K1 := Lib.hid k1
    clear k1 ho
    go_wp2_with fail
    refine (HLn.out _ K1.out).mono ?_
    rintro e w2 ⟨rfl, k2⟩
    have K2 := Lib.hid (K1.out.trans k2)
    clear k2
    go_wp2_with fail
    go_ret
    rw [HH.out]
    exact ⟨rfl, K2.out.mono (by simp), fun _ => K2.out, fun hh => by cases hh⟩
  rw [if_neg (by simp [e2])] at hH
  subst e1 e2
  generalize getN rF nHost = nh at *
  by_cases e3 : 1 < nh ∨ (nh : Int) < lv
  case pos =>
    rw [if_pos e3] at hH
    have HH := Lib.hid hH
    have q3 : decide ((nh : Int) > 1) = decide (1 < nh) := by rw [decide_eq_decide]; omega
    by_cases e4 : 1 < nh
    all_goals
      first
        | rw [decide_eq_true e4] at q3
        | (rw [decide_eq_false e4] at q3
           have q4 : (nh : Int) < lv := by omega)
      clear hH e3 e4
      go_enter Tryz.func18, Tryz.ntmps18
      go_wp2_with fail
      refine HSp.out.mono ?_
      rintro e w1 ⟨v1, rfl, ho, k1⟩
      have K1 := Lib.hid k1
      have HO := Lib.hid ho
      clear k1 ho
      go_wp2_with fail
      refine (HLn.out _ K1.out).mono ?_
      rintro e w2 ⟨rfl, k2⟩
      have K2 := Lib.hid (K1.out.trans k2)
      have HO2 := Lib.hid ((HO.out.keep0 k2).sl Fld.cells_length)
      clear k2
      go_wp2_with fail
      refine (HG.out _ _ HO2.out).mono ?_
      rintro e w3 ⟨rfl, k3⟩
      have K3 := Lib.hid (K2.out.trans k3)
      clear k3
      go_wp2_with fail
      go_ret
      rw [HH.out]
      exact ⟨rfl, K3.out.mono (by simp), fun _ => K3.out, fun hh => by cases hh⟩
  rw [if_neg e3] at hH
  have q3 : decide ((nh : Int) > 1) = false := by simp; omega
  have q4 : decide ((nh : Int) < lv) = false := by simp; omega
  clear e3
  generalize frameM rF 4096 = fr at *
  obtain ⟨fn, fch, fe⟩ := fr
  dsimp only at hH HFr
  by_cases e5 : fe = 0
  case neg =>
    rw [if_pos e5] at hH
    have q5 := (int_ne e5).2
    have HH := Lib.hid hH
    have HTe := Lib.hid (HT.out fe 413)
    clear hH e5
    go_enter Tryz.func18, Tryz.ntmps18
    go_wp2_with fail
    refine HSp.out.mono ?_
    rintro e w1 ⟨v1, rfl, ho, k1⟩
    have K1 := Lib.hid k1
    have HO := Lib.hid ho
    clear k1 ho
    go_wp2_with fail
    refine (HLn.out _ K1.out).mono ?_
    rintro e w2 ⟨rfl, k2⟩
    have K2 := Lib.hid (K1.out.trans k2)
    have HO2 := Lib.hid (HO.out.keep0 k2)
    clear k2
    go_wp2_with fail
    refine (HG.out _ _ (HO2.out.sl Fld.cells_length)).mono ?_
    rintro e w3 ⟨rfl, k3⟩
    have K3 := Lib.hid (K2.out.trans k3)
    have HO3 := Lib.hid (HO2.out.keep0 k3)
    clear k3
    go_wp2_with fail
    refine (HFr.out _ _ (HO3.out.sl Fld.cells_length)).mono ?_
    rintro e w4 ⟨rfl, k4⟩
    have K4 := Lib.hid (K3.out.trans k4)
    clear k4
    go_wp2_with fail
    refine (HTe.out _).mono ?_
    rintro e w5 ⟨rfl, rfl⟩
    go_wp2_with fail
    go_ret
    rw [HH.out]
    exact ⟨rfl, K4.out.mono (by simp), fun _ => K4.out, fun hh => by cases hh⟩
  rw [if_neg (by simp [e5])] at hH
  subst e5
  have hx : (S I.inp).extract rn I.inp.length = S (I.inp.drop rn) := by rw [S_extract, List.take_length]
  obtain ⟨sk, hsk⟩ : ∃ sk : Nat, (max fn 0).toNat = sk := ⟨_, rfl⟩
  have hmx : max fn 0 = ((sk : Nat) : Int) := by omega
  rw [hsk] at hH
  have i0 : (0 : Int) ≤ (rn : Int) := by omega
  have i1 : (rn : Int) ≤ (I.inp.length : Int) := by omega
  have HH := Lib.hid hH
  have HN := Lib.hid (fun w' (k : B ≤ w'.heap.size) => chunk_New B 4096 w' k)
  clear hH
  cases fch with
  | false =>
    go_enter Tryz.func18, Tryz.ntmps18
    go_wp2_with fail
    refine HSp.out.mono ?_
    rintro e w1 ⟨v1, rfl, ho, k1⟩
    obtain ⟨sa, sc, rfl, hml⟩ := ho.shape
    clear hml
    have K1 := Lib.hid k1
    have HO := Lib.hid ho
    clear k1 ho
    go_wp2_with fail
    refine (HLn.out _ K1.out).mono ?_
    rintro e w2 ⟨rfl, k2⟩
    have K2 := Lib.hid (K1.out.trans k2)
    have HO2 := Lib.hid (HO.out.keep0 k2)
    clear k2
    go_wp2_with fail
    refine (HG.out _ _ (HO2.out.sl Fld.cells_length)).mono ?_
    rintro e w3 ⟨rfl, k3⟩
    have K3 := Lib.hid (K2.out.trans k3)
    have HO3 := Lib.hid (HO2.out.keep0 k3)
    clear k3
    go_wp2_with fail
    refine (HFr.out _ _ (HO3.out.sl Fld.cells_length)).mono ?_
    rintro e w4 ⟨rfl, k4⟩
    have K4 := Lib.hid (K3.out.trans k4)
    have HO4 := Lib.hid (HO3.out.keep0 k4)
    have HI4 := Lib.hid (H.out.keep0 K4.out)
    obtain ⟨c0, c1, c3, _⟩ := HI4.out.at_
    have f0 := HI4.out.free 0
    have f1 := HI4.out.free 1
    have f3 := HI4.out.free 3
    clear k4
    have hs := ((HI4.out.set (I' := { I with inp := I.inp.drop rn }) 0 (.string (S (I.inp.drop rn))) (fun _ _ => rfl) rfl rfl).set (I' := { I with inp := I.inp.drop rn, held := rn }) 1 (.int .i64 (rn : Nat)) (fun _ _ => rfl) rfl rfl).set (I' := { I with inp := I.inp.drop rn, held := rn, skip := sk }) 3 (.int .i64 (sk : Nat)) (fun _ _ => rfl) rfl rfl
    have k3s := ((Keep.refl [p] w4).setCell ⟨p, 0, none⟩ (.string (S (I.inp.drop rn))) (by simp)).setCell ⟨p, 1, none⟩ (.int .i64 (rn : Nat)) (by simp) |>.setCell ⟨p, 3, none⟩ (.int .i64 (sk : Nat)) (by simp)
    have ks := (K4.out.mono (S' := [p]) (by simp)).trans k3s
    have os := HO4.out.keep (S := [p]) k3s (fun g hg => by have := (HO4.out.lt g hg).1; simp; omega)
    have HS := Lib.hid hs
    have KS := Lib.hid ks
    have OS := Lib.hid os
    clear hs ks os k3s HI4 HO4
    obtain ⟨⟨rv, cv, b1, b2, b3⟩, _, _, _⟩ := HS.out
    rw [show ({ I with inp := I.inp.drop rn, held := rn, skip := sk } : InS).chk = none from hc] at b2
    have hcv : cv = .pointer none := b2
    subst hcv
    have BS := Lib.hid b1
    clear b1 b2 b3
    have HCl2 := Lib.hid (HCl.out _ _ lv (OS.out.sl Fld.cells_length))
    generalize closesM rF lv = cl at *
    go_wp2_with fail
    refine HCl2.out.mono ?_
    rintro e w5 ⟨rfl, k5⟩
    have K5 := Lib.hid (KS.out.trans (k5.mono (S' := [p]) (by simp)))
    have O5 := Lib.hid (OS.out.keep0 k5)
    have bA := (k5.blk BS.out (by simp)).alloc (.cells (reqC lm lt (Value.slice sa rF.length sc) cl).toArray 30)
    have qA := Blk.newA w5 (reqC lm lt (Value.slice sa rF.length sc) cl).toArray 30
    have kA := K5.out.alloc (.cells (reqC lm lt (Value.slice sa rF.length sc) cl).toArray 30)
    have oA := O5.out.alloc (.cells (reqC lm lt (Value.slice sa rF.length sc) cl).toArray 30)
    have hsz5 := Lib.hid K5.out.size
    have hwp := k5.size
    generalize hwA : w5.alloc (.cells #[.string (S lm), .string (S lt), (Value.slice sa rF.length sc), .bool cl] 30) = wA
    have hwA' : w5.alloc (.cells (reqC lm lt (Value.slice sa rF.length sc) cl).toArray 30) = wA := hwA
    rw [hwA'] at bA qA kA oA
    have c2 := bA.get (k := 2) rfl
    have f2 := bA.frozen 2
    have hne : w5.heap.size ≠ p := by have := H.out.lt; have := K5.out.size; omega
    have kp := (Keep.refl [p] wA).setCell ⟨p, 2, none⟩ (.pointer (some ⟨w5.heap.size, 0, none⟩)) (by simp)
    have HX := Lib.hid (And.intro (bA.set 2 (.pointer (some ⟨w5.heap.size, 0, none⟩))) (And.intro (kp.blk (show Blk wA w5.heap.size 30 (reqC lm lt (Value.slice sa rF.length sc) cl) from qA) (by simpa using hne)) (And.intro (kA.trans kp) (oA.keep kp (fun g hg => by have := (oA.lt g hg).1; simp; omega)))))
    clear bA qA kA oA k5 hwA' kp hne
    go_wp2_with fail
    clear hwA
    go_ret
    rw [HH.out]
    obtain ⟨x1, x2, x3, x4⟩ := HX.out
    refine ⟨rfl, x3, fun hh => (by cases hh), fun _ => ?_⟩
    exact it_headed H.out hr hc _ (cb := none) (v := .slice sa rF.length sc) x3 x1 x2 x4 hsz5.out HB.out ⟨rfl, rfl⟩
  | true =>
    go_enter Tryz.func18, Tryz.ntmps18
    go_wp2_with fail
    refine HSp.out.mono ?_
    rintro e w1 ⟨v1, rfl, ho, k1⟩
    obtain ⟨sa, sc, rfl, hml⟩ := ho.shape
    clear hml
    have K1 := Lib.hid k1
    have HO := Lib.hid ho
    clear k1 ho
    go_wp2_with fail
    refine (HLn.out _ K1.out).mono ?_
    rintro e w2 ⟨rfl, k2⟩
    have K2 := Lib.hid (K1.out.trans k2)
    have HO2 := Lib.hid (HO.out.keep0 k2)
    clear k2
    go_wp2_with fail
    refine (HG.out _ _ (HO2.out.sl Fld.cells_length)).mono ?_
    rintro e w3 ⟨rfl, k3⟩
    have K3 := Lib.hid (K2.out.trans k3)
    have HO3 := Lib.hid (HO2.out.keep0 k3)
    clear k3
    go_wp2_with fail
    refine (HFr.out _ _ (HO3.out.sl Fld.cells_length)).mono ?_
    rintro e w4 ⟨rfl, k4⟩
    have K4 := Lib.hid (K3.out.trans k4)
    have HO4 := Lib.hid (HO3.out.keep0 k4)
    have HI4 := Lib.hid (H.out.keep0 K4.out)
    obtain ⟨c0, c1, c3, _⟩ := HI4.out.at_
    have f0 := HI4.out.free 0
    have f1 := HI4.out.free 1
    have f3 := HI4.out.free 3
    clear k4
    have hs := ((HI4.out.set (I' := { I with inp := I.inp.drop rn }) 0 (.string (S (I.inp.drop rn))) (fun _ _ => rfl) rfl rfl).set (I' := { I with inp := I.inp.drop rn, held := rn }) 1 (.int .i64 (rn : Nat)) (fun _ _ => rfl) rfl rfl).set (I' := { I with inp := I.inp.drop rn, held := rn, skip := sk }) 3 (.int .i64 (sk : Nat)) (fun _ _ => rfl) rfl rfl
    have k3s := ((Keep.refl [p] w4).setCell ⟨p, 0, none⟩ (.string (S (I.inp.drop rn))) (by simp)).setCell ⟨p, 1, none⟩ (.int .i64 (rn : Nat)) (by simp) |>.setCell ⟨p, 3, none⟩ (.int .i64 (sk : Nat)) (by simp)
    have ks := (K4.out.mono (S' := [p]) (by simp)).trans k3s
    have os := HO4.out.keep (S := [p]) k3s (fun g hg => by have := (HO4.out.lt g hg).1; simp; omega)
    have HS := Lib.hid hs
    have KS := Lib.hid ks
    have OS := Lib.hid os
    clear hs ks os k3s HI4 HO4
    go_wp2_with fail
    refine (HN.out _ (Nat.le_trans HB.out KS.out.size)).mono ?_
    rintro e wn ⟨ck, rfl, hn1, hn2, hct, kn⟩
    obtain ⟨⟨rv, cv, b1, b2, b3⟩, _, _, _⟩ := (HS.out.keep0 kn)
    have c4 := b1.get (k := 4) rfl
    have f4 := b1.frozen 4
    have kp4 := (Keep.refl [p] wn).setCell ⟨p, 4, none⟩ (.pointer (some ⟨ck, 0, none⟩)) (by simp)
    have hckp : ck ≠ p := by have := H.out.lt; have := KS.out.size; omega
    have BS := Lib.hid (b1.set 4 (.pointer (some ⟨ck, 0, none⟩)))
    have KN := Lib.hid ((KS.out.trans (kn.mono (S' := [p]) (by simp))).trans kp4)
    have ON := Lib.hid ((OS.out.keep0 kn).keep kp4 (fun g hg => by have := (OS.out.lt g hg).1; have := H.out.lt; simp; omega))
    have CN := Lib.hid (hct.keep kp4 (by simpa using hckp) (by simp [Value.ownBlock]))
    have HG1 := Lib.hid (show (∀ g, (Value.slice sa rF.length sc).ownBlock = some g → g ≠ ck) ∧ w.heap.size ≤ ck from ⟨fun g hg => by have := (OS.out.lt g hg).2; omega, Nat.le_trans KS.out.size hn1⟩)
    clear b1 b2 b3 kp4 hct kn
    have HCl2 := Lib.hid (HCl.out _ _ lv (ON.out.sl Fld.cells_length))
    generalize closesM rF lv = cl at *
    go_wp2_with fail
    refine HCl2.out.mono ?_
    rintro e w5 ⟨rfl, k5⟩
    have K5 := Lib.hid (KN.out.trans (k5.mono (S' := [p]) (by simp)))
    have O5 := Lib.hid (ON.out.keep0 k5)
    have C5 := (CN.out.keep0 k5)
    have hck5 := C5.lt
    have CA := (C5.keep0 ((Keep.refl [] w5).alloc (.cells (reqC lm lt (Value.slice sa rF.length sc) cl).toArray 30)))
    have bA := (k5.blk BS.out (by simp)).alloc (.cells (reqC lm lt (Value.slice sa rF.length sc) cl).toArray 30)
    have qA := Blk.newA w5 (reqC lm lt (Value.slice sa rF.length sc) cl).toArray 30
    have kA := K5.out.alloc (.cells (reqC lm lt (Value.slice sa rF.length sc) cl).toArray 30)
    have oA := O5.out.alloc (.cells (reqC lm lt (Value.slice sa rF.length sc) cl).toArray 30)
    have hsz5 := Lib.hid K5.out.size
    have hwp := k5.size
    generalize hwA : w5.alloc (.cells #[.string (S lm), .string (S lt), (Value.slice sa rF.length sc), .bool cl] 30) = wA
    have hwA' : w5.alloc (.cells (reqC lm lt (Value.slice sa rF.length sc) cl).toArray 30) = wA := hwA
    rw [hwA'] at bA qA kA oA CA
    have c2 := bA.get (k := 2) rfl
    have f2 := bA.frozen 2
    have hne : w5.heap.size ≠ p := by have := H.out.lt; have := K5.out.size; omega
    have kp := (Keep.refl [p] wA).setCell ⟨p, 2, none⟩ (.pointer (some ⟨w5.heap.size, 0, none⟩)) (by simp)
    have HX := Lib.hid (And.intro (bA.set 2 (.pointer (some ⟨w5.heap.size, 0, none⟩))) (And.intro (kp.blk (show Blk wA w5.heap.size 30 (reqC lm lt (Value.slice sa rF.length sc) cl) from qA) (by simpa using hne)) (And.intro (kA.trans kp) (oA.keep kp (fun g hg => by have := (oA.lt g hg).1; simp; omega)))))
    have HCC := Lib.hid (And.intro (CA.keep kp (by simpa using hckp) (by simp [Value.ownBlock])) (show ck ≠ w5.heap.size by omega))
    clear CA C5
    clear bA qA kA oA k5 hwA' kp hne
    go_wp2_with fail
    clear hwA
    go_ret
    rw [HH.out]
    obtain ⟨x1, x2, x3, x4⟩ := HX.out
    refine ⟨rfl, x3, fun hh => (by cases hh), fun _ => ?_⟩
    exact it_headed H.out hr hc _ (cb := some ck) (v := .slice sa rF.length sc) x3 x1 x2 x4 hsz5.out HB.out ⟨rfl, rfl, HG1.out.2, HCC.out.2, HG1.out.1, HCC.out.1⟩
end Go.Proofs.YtpimfoohpfkciaaGreatDoor
