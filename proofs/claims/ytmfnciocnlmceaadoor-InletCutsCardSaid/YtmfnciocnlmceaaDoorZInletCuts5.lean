/- Parts of the proof of InletCuts, in order. No conditions but those that each theorem states. -/
import Derived.Test.YtmfnciocnlmceaaDoorZInletCuts4
import Derived.Great.Walk
/- Layer 11, plain laws: what was written is read as it was, cut off it isn't whole, with a byte less allowed it is too long. No program. -/
namespace Go.Proofs.YtmfnciocnlmceaaDoor
open Go.RowKit

theorem addC_of_runs {c d : Ck} {s : List UInt8} {e : Int} (h0 : c.err = 0) (hok : c.ok) (hr : Runs (c.add s) d e) : addC c s = { d with err := if e = 17 then 0 else e } := by
  have h := addC_R (c := c) (s := s) (fun _ => hok)
  unfold AddR at h
  rw [if_neg (by simp [h0])] at h
  obtain ⟨d', e', hr', hc⟩ := h
  obtain ⟨rfl, rfl⟩ := runs_det hr hr'
  exact hc
theorem addC_rd {m : Int} (s : List UInt8) : Rdc m s (addC (ck0 m) s) := by
  have h := (rd_nil m).add (addC_R (c := ck0 m) (s := s) (fun _ => ck0_ok m))
  exact h.1 rfl
theorem addC_rq {m : Int} {all : List UInt8} {c : Ck} (h : Rq m all c) (s : List UInt8) : Rq m (all ++ s) (addC c s) := h.add (addC_R h.sound.1)
/-- all bytes of a body in chunks -/
def wrT (k : Nat) (s : List UInt8) : List UInt8 := wrL k s ++ endC
theorem back_full (k : Nat) (s more : List UInt8) (hs : s.length ≤ 1048576) : addC (ck0 (s.length : Nat)) (wrT k s ++ more) = ⟨4, 0, s.length, 0, more, s, 0⟩ := by
  have hr := runs_write k s.length more 0 s.length s [] 0 (Nat.le_refl _) hs (by simp)
  have e1 : (ck0 (s.length : Nat)).add (wrT k s ++ more) = ⟨0, 0, s.length, 0, wrL k s ++ (endC ++ more), [], 0⟩ := by
    unfold ck0 Ck.add wrT
    have : (max (s.length : Int) 0).toNat = s.length := by omega
    rw [this]
    simp
  rw [← e1] at hr
  rw [addC_of_runs rfl (ck0_ok _) hr]
  simp
theorem back_cut (k : Nat) (s : List UInt8) (hs : s.length ≤ 1048576) (j : Nat) (hj : j < (wrT k s).length) :
    (addC (ck0 (s.length : Nat)) ((wrT k s).take j)).err = 0 ∧ (addC (ck0 (s.length : Nat)) ((wrT k s).take j)).st ≠ 4 ∧ (addC (ck0 (s.length : Nat)) ((wrT k s).take j)).dat <+: s ∧ (addC (ck0 (s.length : Nat)) ((wrT k s).take j)).st ≤ 4 := by
  have hp := addC_rd (m := (s.length : Nat)) ((wrT k s).take j)
  have hf := addC_rd (m := (s.length : Nat)) (wrT k s)
  have hb := back_full k s [] hs
  rw [List.append_nil] at hb
  rw [hb] at hf
  generalize addC (ck0 (s.length : Nat)) ((wrT k s).take j) = d at *
  have hall : (wrT k s).take j ++ (wrT k s).drop j = wrT k s := List.take_append_drop _ _
  have hsd := hp.sound
  have h0 : d.err = 0 := by
    by_cases h : d.err = 0
    · exact h
    · rw [← hall] at hf
      have := (rd_prefix hp h hf).1
      exact this.symm
  have hadd := (hp.add (addC_R (c := d) (s := (wrT k s).drop j) (fun h => (hsd.1 h).1))).1 h0
  rw [hall] at hadd
  have heq := rd_det hf hadd
  have hok := (hsd.1 h0).1
  have hR := addC_R (c := d) (s := (wrT k s).drop j) (fun h => (hsd.1 h).1)
  unfold AddR at hR
  rw [if_neg (by simp [h0])] at hR
  obtain ⟨x, e, hr, hc⟩ := hR
  rw [← heq] at hc
  refine ⟨h0, fun h4 => ?_, ?_, hsd.2.2.2.1⟩
  · have h4' : (d.add ((wrT k s).drop j)).st = 4 := h4
    rcases runs_eq hr (step4 h4') with hh | hh
    · have := hh.1; simp at this
    · rw [hh.2.1] at hc
      have hi := congrArg Ck.inp hc
      have hl := congrArg List.length hi
      simp [Ck.add] at hl
      omega
  · have := (runs_ok hr (add_ok hok _)).2.2.2.2
    have hd := congrArg Ck.dat hc
    dsimp only at hd
    rw [hd]
    exact this
theorem back_long (k : Nat) (s : List UInt8) (hs : s.length ≤ 1048576) (h0 : s ≠ []) : (addC (ck0 ((s.length - 1 : Nat) : Int)) (wrT k s)).err = 4 ∧ (addC (ck0 ((s.length - 1 : Nat) : Int)) (wrT k s)).st = 0 ∧
    (addC (ck0 ((s.length - 1 : Nat) : Int)) (wrT k s)).inp.length + (addC (ck0 ((s.length - 1 : Nat) : Int)) (wrT k s)).dat.length ≤ (wrT k s).length ∧ ((addC (ck0 ((s.length - 1 : Nat) : Int)) (wrT k s)).most : Int) ≤ 1048576 := by
  have hp := len_pos h0
  obtain ⟨d, hr, h1, h2, h3⟩ := runs_long k (s.length - 1) endC 0 s.length s [] 0 (Nat.le_refl _) hs (by simp) (by simp; omega)
  have e1 : (ck0 ((s.length - 1 : Nat) : Int)).add (wrT k s) = ⟨0, 0, s.length - 1, 0, wrL k s ++ endC, [], 0⟩ := by
    unfold ck0 Ck.add wrT
    have : (max ((s.length - 1 : Nat) : Int) 0).toNat = s.length - 1 := by omega
    rw [this]
    simp
  have hsd := (addC_rd (m := ((s.length - 1 : Nat) : Int)) (wrT k s)).sound
  rw [← e1] at hr
  have hx := addC_of_runs (c := ck0 ((s.length - 1 : Nat) : Int)) rfl (ck0_ok _) hr
  refine ⟨by rw [hx]; simp, by rw [hx]; exact h1, hsd.2.2.1, by rw [hsd.2.1]; omega⟩
theorem addC_bad {c : Ck} (h : c.err ≠ 0) (s : List UInt8) : addC c s = c := by unfold addC; rw [if_pos h]
theorem wrT_len (k : Nat) (s : List UInt8) (h : s.length ≤ 1048576) : (wrT k s).length ≤ 21 * s.length + 5 := by
  have := wrL_len k s.length s (Nat.le_refl _) h
  unfold wrT
  simp [endC]
  omega
theorem wrT_pos (k : Nat) (s : List UInt8) : 5 ≤ (wrT k s).length := by unfold wrT; simp [endC]
end Go.Proofs.YtmfnciocnlmceaaDoor

/- Layer 12, plain laws: however the bytes are cut the same requests come of them. No program. No conditions but those that each theorem states. -/
namespace Go.Proofs.YtmfnciocnlmceaaDoor
open Go.RowKit

theorem addC_cases {c : Ck} (s : List UInt8) (h0 : c.err = 0) (hk : c.ok) : ∃ d e, Runs (c.add s) d e ∧ addC c s = { d with err := if e = 17 then 0 else e } ∧ d.err = 0 ∧ e ≠ 0 := by
  have hr := addC_R (c := c) (s := s) (fun _ => hk)
  unfold AddR at hr
  rw [if_neg (by simp [h0])] at hr
  obtain ⟨d, e, hr, hc⟩ := hr
  exact ⟨d, e, hr, hc, by rw [(runs_ok hr (add_ok hk s)).2.2.1]; exact h0, runs_ne hr⟩
theorem add_add (c : Ck) (s t : List UInt8) : (c.add s).add t = c.add (s ++ t) := by simp [Ck.add]
theorem addC_bad_app {c : Ck} (s t : List UInt8) (h0 : c.err = 0) (hk : c.ok) (he : (addC c s).err ≠ 0) : (addC c (s ++ t)).err = (addC c s).err := by
  obtain ⟨d, e, hr, hc, hd, hn⟩ := addC_cases s h0 hk
  have h17 : e ≠ 17 := by rintro rfl; rw [hc] at he; exact he rfl
  have ha := (runs_app hr t).1 h17
  rw [add_add] at ha
  rw [addC_of_runs h0 hk ha, hc]
theorem addC_ok_app {c : Ck} (s t : List UInt8) (h0 : c.err = 0) (hk : c.ok) (he : (addC c s).err = 0) : addC c (s ++ t) = addC (addC c s) t := by
  obtain ⟨d, e, hr, hc, hd, hn⟩ := addC_cases s h0 hk
  have h17 : e = 17 := by
    rw [hc] at he
    simp only at he
    split at he
    · assumption
    · exact absurd he hn
  subst h17
  have hcd : addC c s = d := by rw [hc, if_pos rfl, ← hd]
  have hkd := (runs_ok hr (add_ok hk s)).1 rfl
  obtain ⟨d2, e2, hr2, hc2, _, _⟩ := addC_cases t hd hkd
  have ha := (runs_app hr t).2 rfl d2 e2 hr2
  rw [add_add] at ha
  rw [addC_of_runs h0 hk ha, hcd, hc2]
theorem addC_end {d : Ck} (t : List UInt8) (h0 : d.err = 0) (hk : d.ok) (h4 : d.st = 4) : (addC d t).inp = d.inp ++ t ∧ (addC d t).st = 4 ∧ (addC d t).err = 0 := by
  have hr : Runs (d.add t) (d.add t) 17 := runs_stop' (step4 h4) (by decide)
  rw [addC_of_runs h0 hk hr]
  exact ⟨rfl, h4, rfl⟩
def InS.add (p : InS) (t : List UInt8) : InS := { p with inp := p.inp ++ t }
theorem inS_ext {a b : InS} (h1 : a.inp = b.inp) (h2 : a.held = b.held) (h3 : a.req = b.req) (h4 : a.skip = b.skip) (h5 : a.chk = b.chk) (h6 : a.st = b.st) : a = b := by
  cases a; cases b; simp only at h1 h2 h3 h4 h5 h6; subst h1 h2 h3 h4 h5 h6; rfl
theorem nxR_ext {a b : NxR} (h1 : a.p = b.p) (h2 : a.q = b.q) (h3 : a.s = b.s) : a = b := by
  cases a; cases b; simp only at h1 h2 h3; subst h1 h2 h3; rfl
/-- what a result says of the same with more bytes behind -/
structure Tells (a : NxR) (b : NxR) (again : NxR) (t : List UInt8) : Prop where
  yes : a.s = 200 → b = ⟨a.p.add t, a.q, 200⟩
  no : a.s ≠ 200 → a.s ≠ 0 → b.s = a.s ∧ b.q = req0 ∧ a.q = req0
  wait : a.s = 0 → b = again ∧ a.p.st = 0
theorem tail_app {p : InS} {q : Req} (h : p.ok) (h0 : p.st = 0) (hq : p.req = some q) (t : List UInt8) : Tells (tailI p q) (tailI (p.add t) q) (tailI ((tailI p q).p.add t) q) t ∧ ((tailI p q).s = 0 → (tailI p q).p.req = some q) := by
  have hal : (p.add t).inp.length = p.inp.length + t.length := by simp [InS.add]
  cases hc : p.chk with
  | none =>
    rcases Nat.lt_or_ge p.inp.length p.skip with hlt | hge
    · have e1 := tail_none' q hc hlt
      rw [e1]
      refine ⟨⟨fun hh => by simp at hh, fun _ hh => absurd rfl hh, fun _ => ⟨?_, h0⟩⟩, fun _ => hq⟩
      dsimp only
      rcases Nat.lt_or_ge (p.add t).inp.length p.skip with h2 | h2
      · rw [tail_none' (p := p.add t) q hc h2, tail_none' (p := InS.add { p with inp := [], held := p.held + p.inp.length, skip := p.skip - p.inp.length } t) q hc (by simp only [InS.add, List.nil_append]; omega)]
        refine nxR_ext (inS_ext rfl ?_ rfl ?_ rfl rfl) rfl rfl
        · simp [InS.add]; omega
        · simp [InS.add]; omega
      · rw [tail_none (p := p.add t) q hc h2, tail_none (p := InS.add { p with inp := [], held := p.held + p.inp.length, skip := p.skip - p.inp.length } t) q hc (by simp only [InS.add, List.nil_append]; omega)]
        refine nxR_ext (inS_ext ?_ rfl rfl rfl rfl rfl) rfl rfl
        simp only [InS.add, List.nil_append]
        rw [List.drop_append, List.drop_eq_nil_of_le (by omega), List.nil_append]
    · have e1 := tail_none q hc hge
      rw [e1, tail_none (p := p.add t) q hc (by show p.skip ≤ (p.add t).inp.length; omega)]
      refine ⟨⟨fun _ => ?_, fun hh => absurd rfl hh, fun hh => by simp at hh⟩, fun hh => by simp at hh⟩
      refine nxR_ext (inS_ext ?_ rfl rfl rfl rfl rfl) rfl rfl
      simp only [InS.add]
      exact List.drop_append_of_le_length hge
  | some c =>
    obtain ⟨k1, k2, k3, k4⟩ := h.chk c hc
    have ke := h.bad c h0 hc
    have kk := k1 ke
    have d5 := addC_ne17 (c := c) p.inp (by rw [ke]; decide)
    have d6 := addC_ne17 (c := c) (p.inp ++ t) (by rw [ke]; decide)
    have d4 := (addC_sound p.inp k1 k4).2.2.2
    by_cases e1 : (addC c p.inp).err = 0
    · have hcat := addC_ok_app p.inp t ke kk e1
      by_cases e2 : (addC c p.inp).st = 4
      · obtain ⟨f1, f2, f3⟩ := addC_end t e1 (d4 e1) e2
        rw [← hcat] at f1 f2 f3
        rw [tail_done q hc e1 e2, tail_done (p := p.add t) q hc f3 f2]
        refine ⟨⟨fun _ => ?_, fun hh => absurd rfl hh, fun hh => by simp at hh⟩, fun hh => by simp at hh⟩
        exact nxR_ext (inS_ext f1 rfl rfl rfl rfl rfl) rfl rfl
      · rw [tail_more q hc e1 e2]
        refine ⟨⟨fun hh => by simp at hh, fun _ hh => absurd rfl hh, fun _ => ⟨?_, h0⟩⟩, fun _ => hq⟩
        dsimp only
        have hi : (p.add t).inp = p.inp ++ t := rfl
        have hcA : (p.add t).chk = some c := hc
        have hin : (InS.add { p with inp := [], held := p.held + p.inp.length, chk := some (addC c p.inp) } t).inp = t := rfl
        by_cases g1 : (addC c (p.inp ++ t)).err = 0
        · by_cases g2 : (addC c (p.inp ++ t)).st = 4
          · rw [tail_done (p := p.add t) q hcA g1 g2, tail_done (p := InS.add { p with inp := [], held := p.held + p.inp.length, chk := some (addC c p.inp) } t) (c := addC c p.inp) q rfl (by rw [hin, ← hcat]; exact g1) (by rw [hin, ← hcat]; exact g2)]
            exact nxR_ext (inS_ext (by rw [hi, hin, hcat]) rfl rfl rfl rfl rfl) rfl rfl
          · rw [tail_more (p := p.add t) q hcA g1 g2, tail_more (p := InS.add { p with inp := [], held := p.held + p.inp.length, chk := some (addC c p.inp) } t) (c := addC c p.inp) q rfl (by rw [hin, ← hcat]; exact g1) (by rw [hin, ← hcat]; exact g2)]
            refine nxR_ext (inS_ext rfl ?_ rfl rfl (by rw [hi, hin, hcat]) rfl) rfl rfl
            rw [hi, hin]; simp [InS.add]; omega
        · rw [tail_bad (p := p.add t) q hcA g1 d6, tail_bad (p := InS.add { p with inp := [], held := p.held + p.inp.length, chk := some (addC c p.inp) } t) (c := addC c p.inp) q rfl (by rw [hin, ← hcat]; exact g1) (by rw [hin, ← hcat]; exact d6)]
          refine nxR_ext (inS_ext rfl ?_ rfl rfl (by rw [hi, hin, hcat]) (by rw [hi, hin, hcat])) rfl (by rw [hi, hin, hcat])
          rw [hi, hin]; simp [InS.add]; omega
    · have hb := addC_bad_app p.inp t ke kk e1
      have ht := told_ne (long := 413) e1 d5 (by decide)
      rw [tail_bad q hc e1 d5, tail_bad (p := p.add t) (c := c) q hc (by show (addC c (p.inp ++ t)).err ≠ 0; rw [hb]; exact e1) d6]
      have ht2 : toldE (addC c p.inp).err 413 ≠ 200 := by unfold toldE; split; (simp); split <;> simp
      refine ⟨⟨fun hh => absurd hh ht2, fun _ _ => ⟨?_, rfl, rfl⟩, fun hh => absurd hh ht⟩, fun hh => absurd hh ht⟩
      show toldE (addC c (p.inp ++ t)).err 413 = toldE (addC c p.inp).err 413
      rw [hb]
theorem head_app (l t : List UInt8) : headM l = hr0 0 ∨ headM (l ++ t) = headM l := by
  rcases split_append l t with h | h
  · left
    unfold headM
    rw [if_pos (by rw [h]; decide), h]
    rfl
  · right
    unfold headM
    rw [h]
theorem next_some {p : InS} {q : Req} (h0 : p.st = 0) (hq : p.req = some q) : nextI p = tailI p q := by unfold nextI; rw [if_neg (by simp [h0]), hq]
theorem next_none {p : InS} (h0 : p.st = 0) (hq : p.req = none) : nextI p = if (headM p.inp).s ≠ 0 then ⟨{ p with st := (headM p.inp).s }, req0, (headM p.inp).s⟩ else if (headM p.inp).got then tailI (headed p (headM p.inp)) (headM p.inp).q else ⟨p, req0, 0⟩ := by
  unfold nextI; rw [if_neg (by simp [h0]), hq]
theorem next_app {p : InS} (h : p.ok) (h0 : p.st = 0) (t : List UInt8) : Tells (nextI p) (nextI (p.add t)) (nextI ((nextI p).p.add t)) t := by
  cases hr : p.req with
  | some q =>
    have ha := tail_app h h0 hr t
    rw [next_some h0 hr, next_some (p := p.add t) h0 hr]
    refine ⟨ha.1.yes, ha.1.no, fun hs => ?_⟩
    have hw := ha.1.wait hs
    rw [next_some (p := (tailI p q).p.add t) hw.2 (ha.2 hs)]
    exact hw
  | none =>
    have hrA : (p.add t).req = none := hr
    have h0A : (p.add t).st = 0 := h0
    by_cases hs : (headM p.inp).s = 0
    · cases hg : (headM p.inp).got with
      | false =>
        have e1 : nextI p = ⟨p, req0, 0⟩ := by rw [next_none h0 hr, if_neg (by simp [hs]), hg, if_neg (by simp)]
        rw [e1]
        refine ⟨fun hh => by simp at hh, fun _ hh => absurd rfl hh, fun _ => ⟨rfl, h0⟩⟩
      | true =>
        have hA : headM (p.inp ++ t) = headM p.inp := by
          rcases head_app p.inp t with hx | hx
          · rw [hx] at hg; cases hg
          · exact hx
        have hok := headed_ok h h0 hr hg
        have hb := (head_bounds p.inp).2.1 hg
        have ha := tail_app hok h0 (q := (headM p.inp).q) rfl t
        have hAi : headM (p.add t).inp = headM p.inp := hA
        have hhd : headed (p.add t) (headM p.inp) = (headed p (headM p.inp)).add t := by
          refine inS_ext ?_ rfl rfl rfl rfl rfl
          exact List.drop_append_of_le_length hb
        have e1 : nextI p = tailI (headed p (headM p.inp)) (headM p.inp).q := by rw [next_none h0 hr, if_neg (by simp [hs]), hg, if_pos rfl]
        have e2 : nextI (p.add t) = tailI ((headed p (headM p.inp)).add t) (headM p.inp).q := by rw [next_none h0A hrA, hAi, if_neg (by simp [hs]), hg, if_pos rfl, hhd]
        rw [e1, e2]
        refine ⟨ha.1.yes, ha.1.no, fun hs2 => ?_⟩
        have hw := ha.1.wait hs2
        rw [next_some (p := (tailI (headed p (headM p.inp)) (headM p.inp).q).p.add t) hw.2 (ha.2 hs2)]
        exact hw
    · have hA : headM (p.inp ++ t) = headM p.inp := by
        rcases head_app p.inp t with hx | hx
        · rw [hx] at hs; exact absurd rfl hs
        · exact hx
      have hAi : headM (p.add t).inp = headM p.inp := hA
      have e1 : nextI p = ⟨{ p with st := (headM p.inp).s }, req0, (headM p.inp).s⟩ := by rw [next_none h0 hr, if_pos hs]
      have e2 : nextI (p.add t) = ⟨{ p.add t with st := (headM p.inp).s }, req0, (headM p.inp).s⟩ := by rw [next_none h0A hrA, hAi, if_pos hs]
      rw [e1, e2]
      exact ⟨fun hh => absurd hh (head_ne200 _), fun _ _ => ⟨rfl, rfl, rfl⟩, fun hh => absurd hh hs⟩
/-- all requests that an inlet has, what is wrong then, what is left -/
inductive Alls : InS → List Req → Int → InS → Prop
  | stop {p : InS} : (nextI p).s ≠ 200 → Alls p [] (nextI p).s (nextI p).p
  | more {p p' : InS} {L : List Req} {n : Int} : (nextI p).s = 200 → Alls (nextI p).p L n p' → Alls p ((nextI p).q :: L) n p'
theorem alls_det {p p1 p2 : InS} {L1 L2 : List Req} {n1 n2 : Int} (h : Alls p L1 n1 p1) : Alls p L2 n2 p2 → L1 = L2 ∧ n1 = n2 ∧ p1 = p2 := by
  induction h generalizing L2 n2 p2 with
  | stop h => intro k; cases k with
    | stop _ => exact ⟨rfl, rfl, rfl⟩
    | more k _ => exact absurd k h
  | more h _ ih => intro k; cases k with
    | stop k => exact absurd h k
    | more _ k => obtain ⟨rfl, rfl, rfl⟩ := ih k; exact ⟨rfl, rfl, rfl⟩
theorem alls_of {p r p' : InS} {L : List Req} {n : Int} (he : nextI p = nextI r) (h : Alls r L n p') : Alls p L n p' := by
  cases h with
  | stop h => rw [← he] at h ⊢; exact .stop h
  | more h k => rw [← he] at h k ⊢; exact .more h k
theorem alls_app {p p1 : InS} {L1 : List Req} {n1 : Int} (h : Alls p L1 n1 p1) (t : List UInt8) : p.ok → p.st = 0 →
    (n1 = 0 → ∀ L2 n p', Alls (p1.add t) L2 n p' → Alls (p.add t) (L1 ++ L2) n p') ∧ (n1 ≠ 0 → ∃ p', Alls (p.add t) L1 n1 p') ∧ (n1 = 0 → p1.st = 0) ∧ p1.ok ∧ n1 ≠ 200 := by
  induction h with
  | @stop p h =>
    intro hok h0
    have ha := next_app hok h0 t
    refine ⟨fun hn L2 n p' k => ?_, fun hn => ?_, fun hn => (ha.wait hn).2, next_ok hok, h⟩
    · exact alls_of (ha.wait hn).1 k
    · obtain ⟨e1, _, _⟩ := ha.no h hn
      refine ⟨(nextI (p.add t)).p, ?_⟩
      rw [← e1]
      exact .stop (by rw [e1]; exact h)
  | @more p p' L n h k ih =>
    intro hok h0
    have ha := (next_app hok h0 t).yes h
    obtain ⟨i1, i2, i3, i4, i5⟩ := ih (next_ok hok) (next_st hok h0 h)
    refine ⟨fun hn L2 m r kk => ?_, fun hn => ?_, i3, i4, i5⟩
    · have := Alls.more (p := p.add t) (L := L ++ L2) (n := m) (p' := r) (by rw [ha]) (by rw [ha]; exact i1 hn L2 m r kk)
      rw [ha] at this
      exact this
    · obtain ⟨r, kk⟩ := i2 hn
      refine ⟨r, ?_⟩
      have := Alls.more (p := p.add t) (L := L) (n := n) (p' := r) (by rw [ha]) (by rw [ha]; exact kk)
      rw [ha] at this
      exact this
theorem in0_add (t : List UInt8) : (in0.add t) = { in0 with inp := t } := rfl
theorem alls_nil : Alls in0 [] 0 in0 := by
  have h : nextI in0 = ⟨in0, req0, 0⟩ := by kernel_rfl
  have := Alls.stop (p := in0) (by rw [h]; decide)
  rw [h] at this
  exact this
end Go.Proofs.YtmfnciocnlmceaaDoor

/- Layer 12: all the requests that an inlet has, gathered. No conditions but on lengths. -/
namespace Go.Proofs.YtmfnciocnlmceaaDoor
open Go.RowKit Go.Shelf

/-- 'out = append(out, x)' and 'out = append(out, more...)', out the call's own; whatever the call has done elsewhere -/
theorem wpList_append_any {P : Program} {ops : Array Oper} {rest : List Oper} {o : Oper} {a : Act} {w : World} {Q : Exit → Act → World → Prop} (hgd : o.guard = none) (s x : Operand) (t : TypeId)
    (ho : o.op = .call { callee := .builtin .append, args := #[s, x], argTypes := #[t, t] })
    {α : Type} {enc : α → List Value} {n base : Nat} {E : TypeId} {L : List α} {v : Value}
    (i : TypeInfo) (z : Value) (bytes : Nat) (ht : P.underlying t = some (.slice E)) (HI : Hid (P.info? E = some i ∧ i.zero = some z ∧ i.size = n ∧ i.bytes = bytes)) (hzs : z.cells.size = n) (hn0 : 0 < n)
    (hn : ∀ x, (enc x).length = n) (h1 : ∀ x, ∀ u ∈ enc x, u.oneCell' = true)
    (hb0 : base ≤ w.heap.size) (hs : a.eval s = v) (hown : Own enc n base E w v L) (M : List α) (ad : Addr) (c : Nat) (hx : a.eval x = .slice (some ad) M.length c)
    (hM : ∀ j u, (rows enc M)[j]? = some u → w.cell? (ad.add j) = some u)
    (h63 : L.length + M.length ≤ maxLen) (hbytes : (L.length + M.length) * bytes ≤ 140737488355328)
    (h : ∀ v' w', Own enc n base E w' v' (L ++ M) → w.grownBy w' v.ownBlock → (v' = .slice none 0 0 ↔ v = .slice none 0 0 ∧ M.length = 0) → (v'.ownBlock = v.ownBlock ∨ v'.ownBlock = some w.heap.size) → wpList P ops Q rest (a.put o.dst v') w') : wpList P ops Q (o :: rest) a w := by
  refine wpList_append_own_at _ hgd s x t ho base E i z n bytes ht HI.out.1 HI.out.2.1 HI.out.2.2.1 HI.out.2.2.2 hzs hn0 v L.length (rows enc L) hs hown ad M.length c (rows enc M) hx (by rw [rows_length hn, Nat.mul_comm]) hM (fun u hu => ?_) h63 hbytes hb0 ?_
  · unfold rows at hu
    obtain ⟨y, _, hy⟩ := List.mem_flatMap.1 hu
    exact h1 y u hy
  · intro v' w' hown' hg hnil hat
    refine h v' w' ?_ hg hnil hat
    unfold Own
    have : rows enc (L ++ M) = rows enc L ++ rows enc M := by simp [rows]
    rw [this, List.length_append]
    exact hown'
/-- a request as a row of cells -/
structure RqE where
  m : List UInt8
  t : List UInt8
  a : Option Addr
  l : Nat
  c : Nat
  cl : Bool
  deriving Inhabited
def RqE.v (x : RqE) : Value := .slice x.a x.l x.c
def RqE.cells (x : RqE) : List Value := reqC x.m x.t (.slice x.a x.l x.c) x.cl
theorem RqE.len (x : RqE) : x.cells.length = 4 := rfl
theorem RqE.one (x : RqE) : ∀ u ∈ x.cells, u.oneCell' = true := reqC_one _ _ _ rfl
theorem reqinfo : (Tryd.prog.info? 65).map (fun i => (i.zero, i.size, i.bytes)) = some (some (.agg reqZ.toArray), 4, 64) := by kernel_rfl
theorem reqinfo' : ∃ i0, Hid (Tryd.prog.info? 65 = some i0 ∧ i0.zero = some (.agg reqZ.toArray) ∧ i0.size = 4 ∧ i0.bytes = 64) := by
  obtain ⟨i0, hi, hz0, hz1, hz2⟩ := info_parts reqinfo
  exact ⟨i0, hi, hz0, hz1, hz2⟩
theorem wpList_buildReq {ops : Array Oper} {rest : List Oper} {o : Oper} {a : Act} {w : World} {Q : Exit → Act → World → Prop} (hg : o.guard = none) (t : TypeId) (x : Operand) (ho : o.op = .buildSlice t 1 #[(0, x)])
    {is : TypeInfo} (Hs : Hid (Tryd.prog.info? 65 = some is ∧ is.zero = some (.agg reqZ.toArray) ∧ is.size = 4 ∧ is.bytes = 64)) (hu : Tryd.prog.underlying t = some (.slice 65)) (j : RqE) (hx : a.eval x = .agg j.cells.toArray)
    (h : wpList Tryd.prog ops Q rest (a.put o.dst (.slice (some ⟨w.heap.size, 0, none⟩) 1 1)) (w.alloc (.cells j.cells.toArray 65))) : wpList Tryd.prog ops Q (o :: rest) a w := by
  refine wpList_buildSlice hg t 65 1 #[(0, x)] ho j.cells.toArray is _ hu Hs.out.1 Hs.out.2.1 (by rw [Hs.out.2.2.1]; omega) (by rw [Hs.out.2.2.1]; omega) ?_ h
  rw [Hs.out.2.2.1]
  have := Great.fill_whole (s := 4) (by omega) [.agg j.cells.toArray] ((Array.range (1 * 4)).map fun k => (Value.agg reqZ.toArray).cells[k % (Value.agg reqZ.toArray).cells.size]!) (by
    intro v hv
    simp at hv
    subst hv
    show j.cells.toArray.size = 4
    simp [RqE.len]) (by simp)
  simp only [List.zipIdx_cons, List.zipIdx_nil, List.map_cons, List.map_nil, List.flatMap_cons, List.flatMap_nil, List.append_nil] at this
  have e : (#[(0, x)].map fun (i, x) => (i, a.eval x)).toList = [((0 : Nat), Value.agg j.cells.toArray)] := by simp [hx]
  rw [e]
  exact this
/-- one row says one request -/
def El1 (B : Nat) (w : World) (x : RqE) (q : Req) : Prop := x.m = q.m ∧ x.t = q.t ∧ x.cl = q.cl ∧ Own Fld.cells 2 B 26 w x.v q.F
/-- a list of requests in memory: its own row, and what is only read (Z) -/
structure Rs (B : Nat) (w : World) (vo : Value) (Z : List Nat) (EL : List RqE) (L : List Req) : Prop where
  own : Own RqE.cells 4 B 65 w vo EL
  len : EL.length = L.length
  el : ∀ (i : Nat) x q, EL[i]? = some x → L[i]? = some q → El1 B w x q
  rd : ∀ x ∈ EL, ∀ g, x.v.ownBlock = some g → g ∈ Z
  sep : ∀ g, vo.ownBlock = some g → g ∉ Z
  lo : ∀ z ∈ Z, z < w.heap.size
  nn : vo ≠ .slice none 0 0
theorem Rs.keep {B : Nat} {w w' : World} {vo : Value} {Z S : List Nat} {EL : List RqE} {L : List Req} (h : Rs B w vo Z EL L) (k : Keep S w w') (hv : ∀ g, vo.ownBlock = some g → g ∉ S) (hZ : ∀ z ∈ Z, z ∉ S) : Rs B w' vo Z EL L :=
  ⟨h.own.keep k hv, h.len, fun i x q hx hq => let ⟨a, b, c, d⟩ := h.el i x q hx hq; ⟨a, b, c, d.keep k (fun g hg => hZ g (h.rd x (List.mem_of_getElem? hx) g hg))⟩, h.rd, h.sep, fun z hz => Nat.lt_of_lt_of_le (h.lo z hz) k.size, h.nn⟩
theorem Rs.keep0 {B : Nat} {w w' : World} {vo : Value} {Z : List Nat} {EL : List RqE} {L : List Req} (h : Rs B w vo Z EL L) (k : Keep [] w w') : Rs B w' vo Z EL L := h.keep k (by simp) (by simp)
theorem Keep.ofGrown {w w' : World} {row : Option Nat} (h : w.grownBy w' row) : Keep row.toList w w' := (Keep.refl _ w).grown h (fun k hk _ => by rw [hk]; simp)
/-- the path of whole requests so far -/
def Steps (I : InS) (L : List Req) (J : InS) : Prop := ∀ L2 n p', Alls J L2 n p' → Alls I (L ++ L2) n p'
theorem Steps.more {I J : InS} {L : List Req} (h : Steps I L J) (hs : (nextI J).s = 200) : Steps I (L ++ [(nextI J).q]) (nextI J).p := fun L2 n p' k => by
  have := h _ _ _ (Alls.more hs k)
  simpa using this
/-- where a gathering stands: V: the list's own row -/
structure AllS (B : Nat) (w : World) (p : Nat) (X R : List Nat) (I : InS) (wt : World) (vo : Value) (Z : List Nat) (EL : List RqE) (L : List Req) (J : InS) (X1 R1 : List Nat) : Prop where
  it : It B wt p X1 R1 J
  kp : Keep X w wt
  nx : ∀ x ∈ X1, x ∈ X ∨ w.heap.size ≤ x
  nr : ∀ x ∈ R1, x ∈ R ∨ w.heap.size ≤ x
  rs : Rs B wt vo Z EL L
  nz : ∀ z ∈ Z, z ∉ X1 ∧ (z ∈ R ∨ w.heap.size ≤ z)
  nv : ∀ g, vo.ownBlock = some g → w.heap.size ≤ g ∧ g < wt.heap.size ∧ g ∉ X1 ∧ g ∉ R1
  st : Steps I L J
  ok : J.ok
  s0 : J.st = 0
  lf : J.left + 2 * L.length ≤ I.left
/-- what 'all' comes to -/
def AllOut (B : Nat) (w : World) (p : Nat) (X R : List Nat) (I : InS) (e : Ending) (w' : World) : Prop :=
  ∃ vo Z EL L n J' X' R', e = .returned (.tuple #[vo, .int .i64 n]) ∧ Alls I L n J' ∧ It B w' p X' R' J' ∧ Keep X w w' ∧ (∀ x ∈ X', x ∈ X ∨ w.heap.size ≤ x) ∧ (∀ x ∈ R', x ∈ R ∨ w.heap.size ≤ x) ∧ Rs B w' vo Z EL L ∧ (∀ z ∈ Z, z ∉ X' ∧ (z ∈ R ∨ w.heap.size ≤ z)) ∧ (∀ g, vo.ownBlock = some g → w.heap.size ≤ g ∧ g ∉ X' ∧ g ∉ R') ∧ J'.left + 2 * L.length ≤ I.left ∧ J'.ok
theorem AllS.next {B p : Nat} {w wt w1 : World} {X R X1 R1 : List Nat} {I J : InS} {vo : Value} {Z : List Nat} {EL : List RqE} {L : List Req} (h : AllS B w p X R I wt vo Z EL L J X1 R1) {X2 R2 : List Nat} (k : Keep X1 wt w1) (hi : It B w1 p X2 R2 (nextI J).p)
    (n2 : ∀ x ∈ X2, x ∈ X1 ∨ wt.heap.size ≤ x) (r2 : ∀ x ∈ R2, x ∈ R1 ∨ wt.heap.size ≤ x) : It B w1 p X2 R2 (nextI J).p ∧ Keep X w w1 ∧ (∀ x ∈ X2, x ∈ X ∨ w.heap.size ≤ x) ∧ (∀ x ∈ R2, x ∈ R ∨ w.heap.size ≤ x) ∧ Rs B w1 vo Z EL L ∧ (∀ z ∈ Z, z ∉ X2 ∧ (z ∈ R ∨ w.heap.size ≤ z)) ∧ (∀ g, vo.ownBlock = some g → w.heap.size ≤ g ∧ g < w1.heap.size ∧ g ∉ X2 ∧ g ∉ R2) := by
  have hsz := h.kp.size
  have hk := k.size
  refine ⟨hi, h.kp.trans' k (fun x hx hlt => (h.nx x hx).elim id (fun hh => by omega)), fun x hx => ?_, fun x hx => ?_, h.rs.keep k (fun g hg => (h.nv g hg).2.2.1) (fun z hz => (h.nz z hz).1), fun z hz => ⟨fun hh => ?_, (h.nz z hz).2⟩, fun g hg => ⟨(h.nv g hg).1, by have := (h.nv g hg).2.1; omega, fun hh => ?_, fun hh => ?_⟩⟩
  · rcases n2 x hx with h1 | h1
    · exact h.nx x h1
    · exact .inr (by omega)
  · rcases r2 x hx with h1 | h1
    · exact h.nr x h1
    · exact .inr (by omega)
  · rcases n2 z hh with h1 | h1
    · exact (h.nz z hz).1 h1
    · have := h.rs.lo z hz; omega
  · rcases n2 g hh with h1 | h1
    · exact (h.nv g hg).2.2.1 h1
    · have := (h.nv g hg).2.1; omega
  · rcases r2 g hh with h1 | h1
    · exact (h.nv g hg).2.2.2 h1
    · have := (h.nv g hg).2.1; omega
theorem AllS.stop {B p : Nat} {w wt w1 : World} {X R X1 R1 : List Nat} {I J : InS} {vo : Value} {Z : List Nat} {EL : List RqE} {L : List Req} (h : AllS B w p X R I wt vo Z EL L J X1 R1) {X2 R2 : List Nat} (k : Keep X1 wt w1) (hi : It B w1 p X2 R2 (nextI J).p)
    (n2 : ∀ x ∈ X2, x ∈ X1 ∨ wt.heap.size ≤ x) (r2 : ∀ x ∈ R2, x ∈ R1 ∨ wt.heap.size ≤ x) (hs : (nextI J).s ≠ 200) {w2 : World} (k2 : Keep [] w1 w2) : AllOut B w p X R I (.returned (.tuple #[vo, .int .i64 (nextI J).s])) w2 := by
  obtain ⟨h1, h2, h3, h4, h5, h6, h7⟩ := h.next k hi n2 r2
  have ha := h.st _ _ _ (Alls.stop hs)
  rw [List.append_nil] at ha
  exact ⟨vo, Z, EL, L, _, _, X2, R2, rfl, ha, h1.keep0 k2, h2.trans (k2.mono (by simp)), h3, h4, h5.keep0 k2, h6, fun g hg => ⟨(h7 g hg).1, (h7 g hg).2.2⟩, by have := h.lf; have := next_le h.ok; omega, next_ok h.ok⟩
/-- one request more -/
theorem AllS.more {B p : Nat} {w wt w1 w2 w3 : World} {X R X1 R1 : List Nat} {I J : InS} {vo vo' : Value} {Z : List Nat} {EL : List RqE} {L : List Req} (h : AllS B w p X R I wt vo Z EL L J X1 R1) {X2 R2 : List Nat} (k : Keep X1 wt w1) (hi : It B w1 p X2 R2 (nextI J).p)
    (n2 : ∀ x ∈ X2, x ∈ X1 ∨ wt.heap.size ≤ x) (r2 : ∀ x ∈ R2, x ∈ R1 ∨ wt.heap.size ≤ x) (hs : (nextI J).s = 200) (x : RqE) (hx : El1 B w1 x (nextI J).q) (hg : ∀ g, x.v.ownBlock = some g → (g ∈ R1 ∨ wt.heap.size ≤ g) ∧ g ∉ X2)
    (k2 : Keep [] w1 w2) (ho : Own RqE.cells 4 B 65 w3 vo' (EL ++ [x])) (hgr : w2.grownBy w3 vo.ownBlock) (hnn : vo' ≠ .slice none 0 0) (hat : vo'.ownBlock = vo.ownBlock ∨ vo'.ownBlock = some w2.heap.size) :
    AllS B w p X R I w3 vo' (x.v.ownBlock.toList ++ Z) (EL ++ [x]) (L ++ [(nextI J).q]) (nextI J).p X2 R2 := by
  obtain ⟨h1, h2, h3, h4, h5, h6, h7⟩ := h.next k hi n2 r2
  have k3 := Keep.ofGrown hgr
  have hz2 := k2.size
  have hz3 := k3.size
  have hzt := k.size
  have hzw := h.kp.size
  have hVX : ∀ y ∈ X2, y ∉ vo.ownBlock.toList := fun y hy hh => by
    have hv : vo.ownBlock = some y := by simpa using hh
    exact (h7 y hv).2.2.1 hy
  have hVR : ∀ y ∈ R2, y ∉ vo.ownBlock.toList := fun y hy hh => by
    have hv : vo.ownBlock = some y := by simpa using hh
    exact (h7 y hv).2.2.2 hy
  have hxv : ∀ g, x.v.ownBlock = some g → g ∉ vo.ownBlock.toList := fun g hg' hh => by
    have hv : vo.ownBlock = some g := by simpa using hh
    rcases (hg g hg').1 with h8 | h8
    · exact (h.nv g hv).2.2.2 h8
    · have := (h.nv g hv).2.1; omega
  have hxlt : ∀ g, x.v.ownBlock = some g → g < w1.heap.size := fun g hg' => (hx.2.2.2.lt g hg').2
  have h200 := next_200 h.ok h.s0 hs
  have hv' : ∀ g, vo'.ownBlock = some g → (vo.ownBlock = some g ∨ g = w2.heap.size) ∧ g < w3.heap.size := fun g hg' => by
    refine ⟨?_, (ho.lt g hg').2⟩
    rcases hat with e | e
    · exact .inl (e ▸ hg')
    · rw [e] at hg'; exact .inr (by simpa using hg'.symm)
  refine ⟨(h1.keep0 k2).keep k3 hVX hVR, (h2.trans (k2.mono (by simp))).trans' k3 (fun y hy hlt => ?_), h3, h4, ⟨ho, by simp [h5.len], ?_, ?_, ?_, ?_, hnn⟩, ?_, ?_, h.st.more hs, next_ok h.ok, h200.1, ?_⟩
  · have hv : vo.ownBlock = some y := by simpa using hy
    have := (h7 y hv).1; omega
  · intro i y q hy hq
    rcases Nat.lt_trichotomy i EL.length with hi' | hi' | hi'
    · rw [List.getElem?_append_left hi'] at hy
      rw [List.getElem?_append_left (by rw [← h5.len]; exact hi')] at hq
      have he := h5.el i y q hy hq
      refine ⟨he.1, he.2.1, he.2.2.1, (he.2.2.2.keep0 k2).keep k3 (fun g hg' hh => ?_)⟩
      have hv : vo.ownBlock = some g := by simpa using hh
      exact h5.sep g hv (h5.rd y (List.mem_of_getElem? hy) g hg')
    · rw [List.getElem?_append_right (by omega), hi', Nat.sub_self] at hy
      rw [List.getElem?_append_right (by rw [← h5.len]; omega), hi', h5.len, Nat.sub_self] at hq
      obtain rfl : x = y := by simpa using hy
      obtain rfl : (nextI J).q = q := by simpa using hq
      exact ⟨hx.1, hx.2.1, hx.2.2.1, (hx.2.2.2.keep0 k2).keep k3 hxv⟩
    · rw [List.getElem?_append_right (by omega), List.getElem?_eq_none (by simp; omega)] at hy
      cases hy
  · intro y hy g hg'
    rcases List.mem_append.1 hy with hy | hy
    · exact List.mem_append_right _ (h5.rd y hy g hg')
    · have : y = x := by simpa using hy
      subst this
      exact List.mem_append_left _ (by rw [hg']; simp)
  · intro g hg' hh
    rcases List.mem_append.1 hh with hh | hh
    · have hxg : x.v.ownBlock = some g := by simpa using hh
      rcases (hv' g hg').1 with h8 | h8
      · exact hxv g hxg (by rw [h8]; simp)
      · have := hxlt g hxg; omega
    · rcases (hv' g hg').1 with h8 | h8
      · exact h5.sep g h8 hh
      · have := h5.lo g hh; omega
  · intro z hz
    rcases List.mem_append.1 hz with hz | hz
    · have := hxlt z (by simpa using hz); omega
    · have := h5.lo z hz; omega
  · intro z hz
    rcases List.mem_append.1 hz with hz | hz
    · have hxg : x.v.ownBlock = some z := by simpa using hz
      refine ⟨(hg z hxg).2, ?_⟩
      rcases (hg z hxg).1 with h8 | h8
      · exact h.nr z h8
      · exact .inr (by omega)
    · exact h6 z hz
  · intro g hg'
    obtain ⟨h8, h9⟩ := hv' g hg'
    rcases h8 with h8 | h8
    · exact ⟨(h7 g h8).1, h9, (h7 g h8).2.2⟩
    · refine ⟨by omega, h9, fun hh => ?_, fun hh => ?_⟩
      · have := (h1.lo g hh).2; omega
      · have := (h1.ro g hh).2.1; omega
  · rw [List.length_append, List.length_singleton]
    have := h.lf
    omega
set_option maxRecDepth 100000 in
set_option maxHeartbeats 4000000 in
theorem inlet_all {B p : Nat} {X R : List Nat} {I : InS} {w : World} (h : It B w p X R I) (hm : ML w) (hB : B ≤ w.heap.size) (hbig : 0 < B) (hok : I.ok) (h0 : I.st = 0) (hlf : I.left ≤ 16000) :
    Calls Tryd.prog 38 #[.pointer (some ⟨p, 0, none⟩)] w (AllOut B w p X R I) := by
  obtain ⟨is, Hs⟩ := reqinfo'
  have kA := (Keep.refl [] w).alloc (.cells #[] 65)
  have oA := Own.none RqE.cells 4 65 (base := B) (w := w) hB
  have SA : AllS B w p X R I (w.alloc (.cells #[] 65)) (.slice (some ⟨w.heap.size, 0, none⟩) 0 0) [] [] [] I X R :=
    ⟨h.keep0 kA, kA.mono (by simp), fun x hx => .inl hx, fun x hx => .inl hx, ⟨oA, rfl, by simp, by simp, by simp, by simp, by simp⟩, by simp, fun g hg => by
      have hgg : w.heap.size = g := by simpa [Value.ownBlock] using hg
      subst hgg
      exact ⟨Nat.le_refl _, by simp, fun hh => by have := (h.lo _ hh).2; omega, fun hh => by have := (h.ro _ hh).2.1; omega⟩, fun L2 n p' k => k, hok, h0, by simp⟩
  have HS := Lib.hid SA
  have HM := Lib.hid hm
  have HB := Lib.hid hB
  have HLO := Lib.hid h.lo
  clear kA oA SA h hm hok h0
  generalize hwA : w.alloc (.cells #[] 65) = wA at *
  go_enter Tryd.func38, Tryd.ntmps38
  go_wp2_with fail
  go_loopg [4, 5] 8192 (fun g ov iv wr => ∃ (vo : Value) (Z : List Nat) (EL : List RqE) (L : List Req) (J : InS) (X1 R1 : List Nat), ov = vo ∧ iv = .int .i64 (L.length : Nat) ∧ L.length ≤ 8192 ∧ g = 8192 - L.length ∧ Hid (AllS B w p X R I wr vo Z EL L J X1 R1))
  case atStart => exact ⟨_, _, _, _, _, _, _, rfl, rfl, by simp, rfl, HS⟩
  case round =>
    obtain ⟨vo, Z, EL, L, J, X1, R1, hvo, rfl, hk, hg, HA⟩ := hrel
    have hvo2 := hvo.symm
    clear hvo
    subst hvo2
    have hlt : L.length < 8000 + 1 := by have := HA.out.lf; omega
    have q1 : decide ((L.length : Int) < 8192) = true := by simp; omega
    have hBr : B ≤ wr.heap.size := Nat.le_trans HB.out HA.out.kp.size
    have HN := Lib.hid (inlet_Next HA.out.it (HM.out.keepB hbig HA.out.kp (fun x hx => (HLO.out x hx).1)) hBr hbig HA.out.ok)
    have HE := Lib.hid HA.out.rs.own
    have HRL := Lib.hid HA.out.rs.len
    have HNN := Lib.hid HA.out.rs.nn
    have wk := IntWalk.i64_in ((L.length : Int) + 1) (by omega)
    unfold NextOut at HN
    obtain ⟨r, hr⟩ : ∃ r, r = nextI J := ⟨_, rfl⟩
    rw [← hr] at HN
    have HR := Lib.hid hr
    have hl2 : EL.length = L.length := HRL.out
    clear hr
    by_cases hs : r.s = 200
    case neg =>
      have q2 := (int_ne hs).2
      have HSn := Lib.hid hs
      clear hs hl2 hlf hk
      go_wp2_with fail
      refine HN.out.mono ?_
      rintro e w1 ⟨v, X2, R2, rfl, hi, k1, n2, r2, ho, hgv⟩
      obtain ⟨sa, sc, rfl, _⟩ := ho.shape
      have kB := (Keep.refl [] w1).alloc (.cells (reqC r.q.m r.q.t (.slice sa r.q.F.length sc) r.q.cl).toArray 65)
      have HO1 := Lib.hid (reqC_one r.q.m r.q.t (v := .slice sa r.q.F.length sc) r.q.cl rfl)
      generalize hwB : w1.alloc (.cells (reqC r.q.m r.q.t (.slice sa r.q.F.length sc) r.q.cl).toArray 65) = wB at kB
      have hx0 := HA.out.stop k1 (by rw [← HR.out]; exact hi) n2 r2 (by rw [← HR.out]; exact HSn.out) kB
      rw [← HR.out] at hx0
      have HX := Lib.hid hx0
      clear ho hgv k1 hi n2 r2 kB hx0
      go_wp2_with (first
        | (with_reducible (show wpList _ _ _ ((⟨none, .store _ (.tmp 6) (.tmp 16), _, _, _, none⟩ : Oper) :: _) _ _)
           refine wpList_store_fresh rfl 65 (.tmp 6) (.tmp 16) rfl _ (reqC r.q.m r.q.t (.slice sa r.q.F.length sc) r.q.cl) (by rfl) (by rfl) req_size (by rfl) HO1.out ?_
           rw [hwB]
           try simp only [Act.put, List.setIfInBounds_toArray, List.set_cons_succ, List.set_cons_zero])
        | fail)
      go_ret2
      exact HX.out
    case pos =>
      have q2 := (int_eq hs).2
      have HSn := Lib.hid hs
      rw [hs] at HN
      have hbytes : (EL.length + 1) * 64 ≤ 140737488355328 := by omega
      have h63 : EL.length + 1 ≤ maxLen := by unfold maxLen; omega
      clear hs hlf
      go_wp2_with fail
      refine HN.out.mono ?_
      rintro e w1 ⟨v, X2, R2, rfl, hi, k1, n2, r2, ho, hgv⟩
      obtain ⟨sa, sc, rfl, _⟩ := ho.shape
      have HO1 := Lib.hid (reqC_one r.q.m r.q.t (v := .slice sa r.q.F.length sc) r.q.cl rfl)
      obtain ⟨x, hx⟩ : ∃ x : RqE, x = ⟨r.q.m, r.q.t, sa, r.q.F.length, sc, r.q.cl⟩ := ⟨_, rfl⟩
      have hxc : reqC r.q.m r.q.t (.slice sa r.q.F.length sc) r.q.cl = x.cells := by rw [hx]; rfl
      have hxe : El1 B w1 x r.q := by rw [hx]; exact ⟨rfl, rfl, rfl, ho⟩
      have hxv : x.v = .slice sa r.q.F.length sc := by rw [hx]; rfl
      rw [hxc] at HO1
      have rng0 := (Blk.newA w1 x.cells.toArray 65)
      have kB := (Keep.refl [] w1).alloc (.cells x.cells.toArray 65)
      have hnx := HA.out.next k1 (by rw [← HR.out]; exact hi) n2 r2
      have oB := hnx.2.2.2.2.1.own.keep0 kB
      have hszB : w1.heap.size ≤ (w1.alloc (.cells x.cells.toArray 65)).heap.size := kB.size
      have hB1 : B ≤ w1.heap.size := Nat.le_trans hBr k1.size
      generalize hwB : w1.alloc (.cells x.cells.toArray 65) = wB at kB rng0 oB hszB
      have RNG := Lib.hid (show Blk wB w1.heap.size 65 x.cells from rng0).range'
      have kC := kB.alloc (.cells x.cells.toArray 65)
      have bC := Blk.newA wB x.cells.toArray 65
      have oC := oB.alloc (.cells x.cells.toArray 65)
      have hBC : B ≤ (wB.alloc (.cells x.cells.toArray 65)).heap.size := by have := kC.size; omega
      generalize hwC : wB.alloc (.cells x.cells.toArray 65) = wC at kC bC oC hBC
      have BC := Lib.hid (show Blk wC wB.heap.size 65 x.cells from bC)
      have hM : ∀ j u, (rows RqE.cells [x])[j]? = some u → wC.cell? ((⟨wB.heap.size, 0, none⟩ : Addr).add j) = some u := by
        intro j u hj
        have e1 : rows RqE.cells [x] = x.cells := by simp [rows]
        rw [e1] at hj
        have : (⟨wB.heap.size, 0, none⟩ : Addr).add j = ⟨wB.heap.size, j, none⟩ := by unfold Addr.add; split <;> simp_all
        rw [this, BC.out.cell j]
        exact hj
      have HMm := Lib.hid hM
      have OC := Lib.hid oC
      have HF2 := Lib.hid (fun (vo' : Value) (w3 : World) (g1 : Own RqE.cells 4 B 65 w3 vo' (EL ++ [x])) (g2 : wC.grownBy w3 vo.ownBlock) (g3 : vo' ≠ .slice none 0 0) (g4 : vo'.ownBlock = vo.ownBlock ∨ vo'.ownBlock = some wC.heap.size) =>
        show AllS B w p X R I w3 vo' (x.v.ownBlock.toList ++ Z) (EL ++ [x]) (L ++ [r.q]) r.p X2 R2 by
          have := HA.out.more k1 (by rw [← HR.out]; exact hi) n2 r2 (by rw [← HR.out]; exact HSn.out) x (by rw [← HR.out]; exact hxe) (by rw [hxv]; exact hgv) kC g1 g2 g3 g4
          rw [← HR.out] at this
          exact this)
      clear ho hgv k1 hi n2 r2 kB kC bC oC oB hM rng0 hnx hxe HN hszB hB1 hl2
      go_wp2_with (first
        | (with_reducible (show wpList _ _ _ ((⟨none, .store _ (.tmp 6) (.tmp 16), _, _, _, none⟩ : Oper) :: _) _ _)
           refine wpList_store_fresh rfl 65 (.tmp 6) (.tmp 16) rfl _ x.cells (by rfl) (by rw [← hxc]; rfl) req_size (by rfl) HO1.out ?_
           rw [hwB]
           try simp only [Act.put, List.setIfInBounds_toArray, List.set_cons_succ, List.set_cons_zero])
        | (with_reducible (show wpList _ _ _ ((⟨_, .load _ (.tmp 6), _, _, _, none⟩ : Oper) :: _) _ _)
           refine wpList_load_mid rfl 65 (.tmp 6) rfl w1.heap.size 0 (by rfl) x.cells _ RNG.out Tryd.underlying65 rfl req_size ?_
           try simp only [Act.put, List.setIfInBounds_toArray, List.set_cons_succ, List.set_cons_zero])
        | (with_reducible (show wpList _ _ _ ((⟨_, .buildSlice _ _ _, _, _, _, none⟩ : Oper) :: _) _ _)
           refine wpList_buildReq rfl 60 (.tmp 23) rfl Hs Tryd.underlying60 x (by rfl) ?_
           rw [hwC]
           try simp only [Act.put, List.setIfInBounds_toArray, List.set_cons_succ, List.set_cons_zero])
        | (at_builtin; go_must (refine wpList_append_any rfl _ _ 60 rfl is _ 64 Tryd.underlying60 Hs (by rfl) (by decide) RqE.len RqE.one hBC (by rfl) OC.out [x] ⟨wB.heap.size, 0, none⟩ _ (by rfl) HMm.out h63 hbytes ?_); intro v' w4 hown' hgr' hnil' hat'; have HX := Lib.hid (HF2.out _ _ hown' hgr' (fun hh => HNN.out (hnil'.1 hh).1) hat'); clear hown' hgr' hnil' hat')
        | fail)
      go_roundg (8192 - (L ++ [r.q]).length)
      case measure => rw [List.length_append, List.length_singleton]; omega
      case rel => exact ⟨_, _, _, L ++ [r.q], r.p, X2, R2, rfl, by rw [List.length_append, List.length_singleton]; go_num, by rw [List.length_append, List.length_singleton]; omega, rfl, HX⟩
end Go.Proofs.YtmfnciocnlmceaaDoor

/- Layer 12: what the statement InletCuts goes by: lists of requests put together, requests compared. No conditions but on lengths. -/
namespace Go.Proofs.YtmfnciocnlmceaaDoor
open Go.RowKit Go.Shelf

theorem wpQuiet_loadW {P : Program} {ops : Array Oper} {C : World → Prop} {rest : List Oper} {o : Oper} {a : Act} {Q : Act → Prop} (hw : Region.wanted o (yielded ops a.tmps) = true) (ty : TypeId) (x : Operand) (ho : o.op = .load ty x)
    (b off : Nat) (hx : a.eval x = .pointer (some ⟨b, off, none⟩)) (cs : List Value) (d : TypeDesc) (hS : ∀ w, C w → w.rangeAt b off cs)
    (hu : P.underlying ty = some d) (hd : d.isRow = true) (hi : (P.info? ty).map (·.size) = some cs.length)
    (h : wpQuiet P ops C Q rest (a.put o.dst (.agg cs.toArray))) : wpQuiet P ops C Q (o :: rest) a := by
  unfold wpQuiet
  rw [if_pos hw]
  refine ⟨_, fun w hw => ?_, h⟩
  unfold Oper.quietAt execOp
  simp only [ho, hx, Instr.loadAt, Instr.sureAddr, Sem.run_bind, Sem.run_pure, Result.andThen_ok, run_loadVar_mid w b off ty cs d (hS w hw) hu hd hi]
  exact ⟨rfl, rfl⟩
/-- a row of the call's own, as it lies -/
theorem own_at {α : Type} {enc : α → List Value} {n B : Nat} {E : TypeId} {w : World} {v : Value} {L : List α} (h : Own enc n B E w v L) (hv : v ≠ .slice none 0 0) :
    ∃ g cap, v = .slice (some ⟨g, 0, none⟩) L.length cap ∧ ∀ j u, (rows enc L)[j]? = some u → w.cell? ⟨g, j, none⟩ = some u := by
  obtain ⟨_, h2⟩ := h
  rcases h2 with ⟨h2, _⟩ | ⟨g, cap, cur, h2, _, h4, _, _, _, h8⟩
  · exact absurd h2 hv
  · refine ⟨g, cap, h2, fun j u hj => ?_⟩
    have hb : Blk w g E cur.toList := by
      show w.heap[g]? = some (.cells cur.toList.toArray E (0, 0))
      rw [Array.toArray_toList]; exact h4
    rw [hb.cell]
    rw [← h8] at hj
    rw [List.getElem?_take] at hj
    split at hj
    · exact hj
    · cases hj
theorem own_range {w : World} {g : Nat} {EL : List RqE} (h : ∀ j u, (rows RqE.cells EL)[j]? = some u → w.cell? ⟨g, j, none⟩ = some u) {i : Nat} {x : RqE} (hx : EL[i]? = some x) : w.rangeAt g (i * 4) x.cells := fun j v hv => by
  refine h _ _ ?_
  have hj : j < 4 := by have := (List.getElem?_eq_some_iff.1 hv).1; rwa [RqE.len] at this
  rw [rows_get' RqE.len EL i j x hx hj]
  exact hv
theorem Rs.append {B : Nat} {w w' : World} {vy vm v' : Value} {Zy Zm : List Nat} {Ey Em : List RqE} {Ly Lm : List Req} (hy : Rs B w vy Zy Ey Ly) (hm : Rs B w vm Zm Em Lm) (ho : Own RqE.cells 4 B 65 w' v' (Ey ++ Em)) (hgr : w.grownBy w' vy.ownBlock)
    (hnn : v' ≠ .slice none 0 0) (hat : v'.ownBlock = vy.ownBlock ∨ v'.ownBlock = some w.heap.size) (hs : ∀ g, vy.ownBlock = some g → g ∉ Zm) : Rs B w' v' (Zy ++ Zm) (Ey ++ Em) (Ly ++ Lm) := by
  have k := Keep.ofGrown hgr
  have hk := k.size
  refine ⟨ho, by simp [hy.len, hm.len], ?_, ?_, ?_, ?_, hnn⟩
  · intro i x q hx hq
    rcases Nat.lt_or_ge i Ey.length with hi | hi
    · rw [List.getElem?_append_left hi] at hx
      rw [List.getElem?_append_left (by rw [← hy.len]; exact hi)] at hq
      have he := hy.el i x q hx hq
      refine ⟨he.1, he.2.1, he.2.2.1, he.2.2.2.keep k (fun g hg hh => ?_)⟩
      exact hy.sep g (by simpa using hh) (hy.rd x (List.mem_of_getElem? hx) g hg)
    · rw [List.getElem?_append_right hi] at hx
      rw [List.getElem?_append_right (by rw [← hy.len]; exact hi), ← hy.len] at hq
      have he := hm.el _ x q hx hq
      refine ⟨he.1, he.2.1, he.2.2.1, he.2.2.2.keep k (fun g hg hh => ?_)⟩
      exact hs g (by simpa using hh) (hm.rd x (List.mem_of_getElem? hx) g hg)
  · intro x hx g hg
    rcases List.mem_append.1 hx with hx | hx
    · exact List.mem_append_left _ (hy.rd x hx g hg)
    · exact List.mem_append_right _ (hm.rd x hx g hg)
  · intro g hg hh
    rcases hat with e | e
    · rw [e] at hg
      rcases List.mem_append.1 hh with hh | hh
      · exact hy.sep g hg hh
      · exact hs g hg hh
    · rw [e] at hg
      have : w.heap.size = g := by simpa using hg
      rcases List.mem_append.1 hh with hh | hh
      · have := hy.lo g hh; omega
      · have := hm.lo g hh; omega
  · intro z hz
    rcases List.mem_append.1 hz with hz | hz
    · have := hy.lo z hz; omega
    · have := hm.lo z hz; omega
set_option maxRecDepth 100000 in
set_option maxHeartbeats 2000000 in
theorem ref12_Same {B : Nat} {w : World} {x y : RqE} {q : Req} (hx : El1 B w x q) (hy : El1 B w y q) :
    Calls Tryd.prog 39 #[.agg x.cells.toArray, .agg y.cells.toArray] w fun e w' => e = .returned (.bool true) ∧ Keep [] w w' := by
  have kA := ((Keep.refl [] w).alloc (.cells x.cells.toArray 65)).alloc (.cells y.cells.toArray 65)
  have b1 := (Blk.newA w x.cells.toArray 65).alloc (.cells y.cells.toArray 65)
  have b2 := Blk.newA (w.alloc (.cells x.cells.toArray 65)) y.cells.toArray 65
  have hsz : (w.alloc (.cells x.cells.toArray 65)).heap.size = w.heap.size + 1 := by simp
  rw [hsz] at b2
  clear hsz
  obtain ⟨mx, tx, ax, lx, cx, clx⟩ := x
  obtain ⟨my, ty, ay, ly, cy, cly⟩ := y
  obtain ⟨h1, h2, h3, h4⟩ := hx
  obtain ⟨g1, g2, g3, g4⟩ := hy
  dsimp only at h1 h2 h3 g1 g2 g3
  subst h1 h2 h3 g1 g2 g3
  have o1 := (h4.keep0 kA).sl Fld.cells_length
  have o2 := (g4.keep0 kA).sl Fld.cells_length
  clear h4 g4
  generalize hwA : (w.alloc (.cells #[.string (S q.m), .string (S q.t), .slice ax lx cx, .bool q.cl] 65)).alloc (.cells #[.string (S q.m), .string (S q.t), .slice ay ly cy, .bool q.cl] 65) = wA
  have hwA' : (w.alloc (.cells (RqE.cells ⟨q.m, q.t, ax, lx, cx, q.cl⟩).toArray 65)).alloc (.cells (RqE.cells ⟨q.m, q.t, ay, ly, cy, q.cl⟩).toArray 65) = wA := hwA
  rw [hwA'] at kA b1 b2 o1 o2
  have b1 : Blk wA w.heap.size 65 (RqE.cells ⟨q.m, q.t, ax, lx, cx, q.cl⟩) := b1
  have b2 : Blk wA (w.heap.size + 1) 65 (RqE.cells ⟨q.m, q.t, ay, ly, cy, q.cl⟩) := b2
  have c0 := b1.get (k := 0) (v := .string (S q.m)) rfl
  have c1 := b1.get (k := 1) (v := .string (S q.t)) rfl
  have c2 := b1.get (k := 2) (v := .slice ax lx cx) rfl
  have c3 := b1.get (k := 3) (v := .bool q.cl) rfl
  have d0 := b2.get (k := 0) (v := .string (S q.m)) rfl
  have d1 := b2.get (k := 1) (v := .string (S q.t)) rfl
  have d2 := b2.get (k := 2) (v := .slice ay ly cy) rfl
  have d3 := b2.get (k := 3) (v := .bool q.cl) rfl
  have HS := Lib.hid (ref_Same _ _ _ _ _ o1 o2)
  have dT : decide (q.F = q.F) = true := by simp
  rw [dT] at HS
  have KA := Lib.hid kA
  have t1 := S_toList q.m
  have t2 := S_toList q.t
  clear kA b1 b2 o1 o2 hwA' dT
  dsimp only [RqE.cells, reqC, RqE.v] at HS ⊢
  go_enter Tryd.func39, Tryd.ntmps39
  go_wp2_with fail
  refine HS.out.mono ?_
  rintro e w1 ⟨rfl, k1⟩
  have K1 := Lib.hid (KA.out.trans k1)
  clear k1
  go_wp2_with fail
  go_ret
  exact ⟨rfl, K1.out⟩
/-- where the bytes come one by one -/
structure CutS (B : Nat) (s : List UInt8) (c : Nat) (wZ wr : World) (k : Nat) (vz : Value) (Zz : List Nat) (Ez : List RqE) (Lz : List Req) (st : Int) (J : InS) (Xc Rc : List Nat) : Prop where
  it : It B wr c Xc Rc J
  rs : Rs B wr vz Zz Ez Lz
  kp : Keep [c] wZ wr
  nx : ∀ x ∈ Xc, x = c ∨ wZ.heap.size ≤ x
  nr : ∀ x ∈ Rc, wZ.heap.size ≤ x
  nz : ∀ z ∈ Zz, z ∉ Xc ∧ wZ.heap.size ≤ z
  nv : ∀ g, vz.ownBlock = some g → wZ.heap.size ≤ g ∧ g ∉ Xc ∧ g ∉ Rc
  ok : J.ok
  lf : J.left + 2 * Lz.length ≤ k
  al : (st = 0 ∧ J.st = 0 ∧ Alls (in0.add (s.take k)) Lz 0 J) ∨ (st ≠ 0 ∧ ∃ p', Alls (in0.add s) Lz st p')
theorem in0_addok (l : List UInt8) (h : l.length ≤ 16384) : (in0.add l).ok := ⟨by simpa [in0, InS.add] using h, by simp [in0, InS.add], by simp [in0, InS.add], by simp [in0, InS.add], by simp [in0, InS.add], by simp [in0, InS.add]⟩
theorem CutS.more {B : Nat} {s : List UInt8} {c : Nat} {wZ wr w1 w2 w3 : World} {k : Nat} {vz vm v' : Value} {Zz Zm : List Nat} {Ez Em : List RqE} {Lz Lm : List Req} {J J' : InS} {Xc Rc X2 R2 : List Nat} {j : Int} (h : CutS B s c wZ wr k vz Zz Ez Lz 0 J Xc Rc)
    (hs : s.length ≤ 16000) (hk : k < s.length) (k1 : Keep [c] wr w1) (ha : Alls (J.add ((s.drop k).take 1)) Lm j J') (hi : It B w2 c X2 R2 J') (k2 : Keep Xc w1 w2) (n2 : ∀ x ∈ X2, x ∈ Xc ∨ w1.heap.size ≤ x) (r2 : ∀ x ∈ R2, x ∈ Rc ∨ w1.heap.size ≤ x)
    (hm : Rs B w2 vm Zm Em Lm) (zm : ∀ z ∈ Zm, z ∉ X2 ∧ (z ∈ Rc ∨ w1.heap.size ≤ z)) (hl : J'.left + 2 * Lm.length ≤ (J.add ((s.drop k).take 1)).left) (hok : J'.ok)
    (ho : Own RqE.cells 4 B 65 w3 v' (Ez ++ Em)) (hgr : w2.grownBy w3 vz.ownBlock) (hnn : v' ≠ .slice none 0 0) (hat : v'.ownBlock = vz.ownBlock ∨ v'.ownBlock = some w2.heap.size) :
    CutS B s c wZ w3 (k + 1) v' (Zz ++ Zm) (Ez ++ Em) (Lz ++ Lm) j J' X2 R2 := by
  have h1z := h.kp.size
  have h2z := k1.size
  have h3z := k2.size
  have kg := Keep.ofGrown hgr
  have h4z := kg.size
  obtain ⟨_, hJ0, hal⟩ : (0 : Int) = 0 ∧ J.st = 0 ∧ Alls (in0.add (s.take k)) Lz 0 J := by
    rcases h.al with h | h
    · exact h
    · exact absurd rfl h.1
  have hvlt : ∀ g, vz.ownBlock = some g → g < wr.heap.size := fun g hg => (h.rs.own.lt g hg).2
  have hcX := h.it.mem
  have hvc : ∀ g, vz.ownBlock = some g → g ≠ c := fun g hg hh => (h.nv g hg).2.1 (hh ▸ hcX)
  have hZc : ∀ z ∈ Zz, z ≠ c := fun z hz hh => (h.nz z hz).1 (hh ▸ hcX)
  have hrs2 : Rs B w2 vz Zz Ez Lz := (h.rs.keep k1 (fun g hg => by simpa using hvc g hg) (fun z hz => by simpa using hZc z hz)).keep k2 (fun g hg => (h.nv g hg).2.1) (fun z hz => (h.nz z hz).1)
  have hvX2 : ∀ g, vz.ownBlock = some g → g ∉ X2 ∧ g ∉ R2 := fun g hg => ⟨fun hh => by
    rcases n2 g hh with h8 | h8
    · exact (h.nv g hg).2.1 h8
    · have := hvlt g hg; omega, fun hh => by
    rcases r2 g hh with h8 | h8
    · exact (h.nv g hg).2.2 h8
    · have := hvlt g hg; omega⟩
  have hvm : ∀ g, vz.ownBlock = some g → g ∉ Zm := fun g hg hh => by
    rcases (zm g hh).2 with h8 | h8
    · exact (h.nv g hg).2.2 h8
    · have := hvlt g hg; omega
  have hX2 : ∀ x ∈ X2, x ∉ vz.ownBlock.toList := fun x hx hh => (hvX2 x (by simpa using hh)).1 hx
  have hR2 : ∀ x ∈ R2, x ∉ vz.ownBlock.toList := fun x hx hh => (hvX2 x (by simpa using hh)).2 hx
  have hpre := alls_app hal ((s.drop k).take 1) (in0_addok _ (by rw [List.length_take]; omega)) rfl
  have hcat : (in0.add (s.take k)).add ((s.drop k).take 1) = in0.add (s.take (k + 1)) := by
    refine inS_ext ?_ rfl rfl rfl rfl rfl
    simp only [InS.add, in0, List.nil_append]
    rw [List.take_add]
  have hful := hpre.1 rfl Lm j J' ha
  rw [hcat] at hful
  have hend := alls_app hful (s.drop (k + 1)) (in0_addok _ (by rw [List.length_take]; omega)) rfl
  have hcat2 : (in0.add (s.take (k + 1))).add (s.drop (k + 1)) = in0.add s := by
    refine inS_ext ?_ rfl rfl rfl rfl rfl
    simp only [InS.add, in0, List.nil_append]
    rw [List.take_append_drop]
  rw [hcat2] at hend
  have hleft : (J.add ((s.drop k).take 1)).left ≤ J.left + 1 := by
    unfold InS.left InS.add
    simp only [List.length_append, List.length_take]
    omega
  refine ⟨hi.keep kg hX2 hR2, hrs2.append hm ho hgr hnn hat hvm, ?_, ?_, ?_, ?_, ?_, hok, ?_, ?_⟩
  · refine ((h.kp.trans k1).trans' k2 (fun x hx hlt => ?_)).trans' kg (fun x hx hlt => ?_)
    · rcases h.nx x hx with rfl | h8
      · simp
      · omega
    · have := (h.nv x (by simpa using hx)).1; omega
  · intro x hx
    rcases n2 x hx with h8 | h8
    · exact h.nx x h8
    · exact .inr (by omega)
  · intro x hx
    rcases r2 x hx with h8 | h8
    · exact h.nr x h8
    · omega
  · intro z hz
    rcases List.mem_append.1 hz with hz | hz
    · refine ⟨fun hh => ?_, (h.nz z hz).2⟩
      rcases n2 z hh with h8 | h8
      · exact (h.nz z hz).1 h8
      · have := h.rs.lo z hz; omega
    · refine ⟨(zm z hz).1, ?_⟩
      rcases (zm z hz).2 with h8 | h8
      · exact h.nr z h8
      · omega
  · intro g hg
    rcases hat with e | e
    · rw [e] at hg
      exact ⟨(h.nv g hg).1, hvX2 g hg⟩
    · rw [e] at hg
      have : w2.heap.size = g := by simpa using hg
      subst this
      exact ⟨by omega, fun hh => by have := (hi.lo _ hh).2; omega, fun hh => by have := (hi.ro _ hh).2.1; omega⟩
  · have := h.lf
    rw [List.length_append]
    omega
  · by_cases hj : j = 0
    · left
      subst hj
      exact ⟨rfl, (hend.2.2.1 rfl), hful⟩
    · exact .inr ⟨hj, hend.2.1 hj⟩
end Go.Proofs.YtmfnciocnlmceaaDoor

/- Layer 13: laid: a head that is written. No conditions but on lengths. -/
namespace Go.Proofs.YtmfnciocnlmceaaDoor
open Go.RowKit Go.Shelf

def fin (l : List UInt8) (e : Int) : Value := .tuple #[.string (S l), .int .i64 e]
theorem laid_many {st : List UInt8} {L : List Fld} (h : 32 < L.length) : laidE st L = 1 ∧ laidS st L = [] := by
  have h0 : laidOk L = false := by unfold laidOk; simp; omega
  have h1 : laidE st L = 1 := by unfold laidE; rw [h0]; rfl
  exact ⟨h1, by unfold laidS; rw [h1]; rfl⟩
theorem laid_bad {st : List UInt8} {L : List Fld} {x : Fld} (hx : x ∈ L) (hg : goodF x = false) : laidE st L = 1 ∧ laidS st L = [] := by
  have h0 : laidOk L = false := by
    unfold laidOk
    rw [show L.all goodF = false from by rw [List.all_eq_false]; exact ⟨x, hx, by simp [hg]⟩, Bool.and_false]
  have h1 : laidE st L = 1 := by unfold laidE; rw [h0]; rfl
  exact ⟨h1, by unfold laidS; rw [h1]; rfl⟩
theorem laid_good {st : List UInt8} {L : List Fld} (h : L.length ≤ 32) (hg : L.all goodF = true) : laidE st L = (if (headT st L).length ≤ 4096 then 0 else 4) ∧ laidS st L = (if (headT st L).length ≤ 4096 then headT st L else []) := by
  have h0 : laidOk L = true := by unfold laidOk; rw [hg]; simp [h]
  have h1 : laidE st L = (if (headT st L).length ≤ 4096 then 0 else 4) := by unfold laidE; rw [h0]; rfl
  refine ⟨h1, ?_⟩
  unfold laidS
  rw [h1]
  by_cases h2 : (headT st L).length ≤ 4096
  · rw [if_pos h2, if_pos h2, if_pos rfl]
  · rw [if_neg h2, if_neg h2, if_neg (by decide)]
theorem body_take {L : List Fld} {k : Nat} {x : Fld} (h : L[k]? = some x) : bodyT (L.take (k + 1)) = bodyT (L.take k) ++ (printF x ++ [13, 10]) := by
  have e : L.take (k + 1) = L.take k ++ [x] := by rw [List.take_add_one, h]; rfl
  rw [e]
  simp [bodyT]

set_option maxRecDepth 100000 in
set_option maxHeartbeats 2000000 in
theorem outlet_laid (st : List UInt8) (va : Value) (L : List Fld) (w : World) (ha : Sl Fld.cells 2 w va L) (hg : L.length ≤ 32 → ∀ x ∈ L, x.name.length + x.value.length ≤ 1048576) (hst : st.length ≤ 1048576) :
    Calls Tryd.prog 46 #[.string (S st), va] w fun e w' => e = .returned (fin (laidS st L) (laidE st L)) ∧ Keep [] w w' := by
  obtain ⟨aa, ca, rfl, hal⟩ := ha.shape
  have hal' : L.length ≤ 9223372036854775807 := hal
  by_cases h32 : 32 < L.length
  · have h := laid_many (st := st) h32
    have HX := Lib.hid h
    clear h ha hg
    go_enter Tryd.func46, Tryd.ntmps46
    go_wp2_with fail
    go_ret2
    exact ⟨by rw [HX.out.1, HX.out.2]; rfl, Keep.refl _ _⟩
  · have hst2 : S st ++ ⟨#[13, 10]⟩ = S (st ++ [13, 10]) := S_append st [13, 10]
    have hsz := S_size st
    have HG := Lib.hid (hg (by omega))
    have HA := Lib.hid ha
    have hB := Lib.hid (bld_new (Keep.refl [] w))
    clear ha hg hal
    go_enter Tryd.func46, Tryd.ntmps46
    go_wp2_with fail
    refine (bld_write hB.out (st ++ [13, 10]) (by simp; omega)).mono ?_
    rintro e w1 ⟨rfl, hb1⟩
    rw [List.nil_append] at hb1
    have HB := Lib.hid hb1
    clear hb1 hB hst2
    go_wp2_with fail
    generalize w.heap.size = b at HB
    go_loopg [17] L.length (fun g i wr => ∃ (k : Nat) (T : List UInt8), i = .int .i64 k ∧ k ≤ L.length ∧ g = L.length - k ∧ T.length ≤ 1048578 + k * 1048580 ∧ Hid (T = st ++ [13, 10] ++ bodyT (L.take k) ∧ (L.take k).all goodF = true) ∧ Hid (Bld w wr b T))
    case atStart => exact ⟨0, st ++ [13, 10], rfl, Nat.zero_le _, by omega, by simp; omega, Lib.hid ⟨by simp [bodyT], by simp⟩, HB⟩
    case round =>
      obtain ⟨k, T, rfl, hk, hgk, hT, HE, HB⟩ := hrel
      by_cases hlt : k < L.length
      · obtain ⟨x, hx⟩ : ∃ x, L[k]? = some x := ⟨_, List.getElem?_eq_getElem hlt⟩
        have hxl := HG.out x (List.mem_of_getElem? hx)
        have har := HA.out.keep Fld.cells_length (by omega) HA.out HB.out.kept (by simp) (Nat.le_refl _)
        obtain ⟨ba, oa, ca', hva, _, hca, hcell⟩ := har.cell hx
        cases hva
        have hc0 := hcell 0 (by omega)
        have hc1 := hcell 1 (by omega)
        simp only [Fld.cells, List.getElem?_cons_zero, List.getElem?_cons_succ, Nat.add_zero] at hc0 hc1
        have hca' : ca ≤ 9223372036854775807 := hca
        have hGd := fun w1 => field_Good x w1 (show x.name.length ≤ 9223372036854775807 by omega) (show x.value.length ≤ 9223372036854775807 by omega)
        have HX := Lib.hid hx
        have hkA := (Keep.refl [] wr).alloc (.cells #[.string (S x.name), .string (S x.value)] 26)
        have hbA : Blk (wr.alloc (.cells #[.string (S x.name), .string (S x.value)] 26)) wr.heap.size 26 x.cells := Blk.newA wr _ _
        have HKA := Lib.hid (And.intro hkA hbA)
        clear hcell hx har hca hkA hbA
        cases hgx : goodF x with
        | false =>
          rw [hgx] at hGd
          have HGd := Lib.hid hGd
          have HF := Lib.hid (laid_bad (st := st) (List.mem_of_getElem? HX.out) hgx)
          clear hGd hgx
          go_wp2_with fail
          refine (HGd.out _).mono ?_
          rintro e w2 ⟨rfl, hk2⟩
          have HK2 := Lib.hid ((HB.out.kept.trans HKA.out.1).trans hk2)
          clear hk2
          go_wp2_with fail
          go_ret2
          exact ⟨by rw [HF.out.1, HF.out.2]; rfl, HK2.out⟩
        | true =>
          rw [hgx] at hGd
          have HGd := Lib.hid hGd
          have HPr := Lib.hid (fun w1 => field_Print x w1 (by omega))
          have hcat : S (printF x) ++ ⟨#[13, 10]⟩ = S (printF x ++ [13, 10]) := S_append _ [13, 10]
          have sP := S_size (printF x)
          have lP : (printF x).length ≤ 1048578 := by simp [printF]; omega
          have HGX := Lib.hid hgx
          clear hGd hgx
          go_wp2_with fail
          refine (HGd.out _).mono ?_
          rintro e w2 ⟨rfl, hk2⟩
          have HB2 := Lib.hid ((HB.out.keep0 HKA.out.1).keep0 hk2)
          have hb2 := hk2.blk HKA.out.2 (by simp)
          have d0 := hb2.get (k := 0) rfl
          have d1 := hb2.get (k := 1) rfl
          clear hk2 hb2
          go_wp2_with fail
          refine (HPr.out _).mono ?_
          rintro e w3 ⟨rfl, hk3⟩
          have HB3 := Lib.hid (HB2.out.keep0 hk3)
          clear hk3 d0 d1
          go_wp2_with fail
          refine (bld_write HB3.out (printF x ++ [13, 10]) (by simp; omega)).mono ?_
          rintro e w4 ⟨rfl, hb4⟩
          have HB4 := Lib.hid hb4
          clear hb4 hcat
          go_wp2_with fail
          go_roundg (L.length - (k + 1))
          case measure => omega
          case rel =>
            refine ⟨k + 1, T ++ (printF x ++ [13, 10]), by go_num, by omega, rfl, by simp; omega, Lib.hid ⟨?_, ?_⟩, HB4⟩
            · rw [body_take HX.out, HE.out.1]; simp
            · rw [show L.take (k + 1) = L.take k ++ [x] from by rw [List.take_add_one, HX.out]; rfl, List.all_append, HE.out.2]; simp [HGX.out]
      · have hkl : k = L.length := by omega
        have hE := HE.out
        rw [hkl, List.take_length] at hE
        have hhd : T ++ [13, 10] = headT st L := by unfold headT; rw [hE.1]
        have hlay := laid_good (st := st) (show L.length ≤ 32 by omega) hE.2
        rw [← hhd] at hlay
        have HL := Lib.hid hlay
        have hT' : (T ++ [13, 10]).length ≤ 70000000 := by simp; omega
        clear hE hhd hlay HE
        go_wp2_with fail
        refine (bld_write HB.out [13, 10] (by simp; omega)).mono ?_
        rintro e w2 ⟨rfl, hb2⟩
        have HB2 := Lib.hid hb2
        clear hb2
        generalize T ++ [13, 10] = H at HL HB2 hT'
        go_wp2_with fail
        refine (bld_len HB2.out).mono ?_
        rintro e w3 ⟨rfl, rfl⟩
        by_cases h4 : H.length ≤ 4096
        · have h4' : decide (4096 < ((H.length : Nat) : Int)) = false := by simp; omega
          have hl := HL.out
          rw [if_pos h4, if_pos h4] at hl
          have HL := Lib.hid hl
          clear hl h4
          go_wp2_with fail
          refine (bld_string HB2.out).mono ?_
          rintro e w4 ⟨rfl, hk4⟩
          go_wp2_with fail
          go_ret2
          exact ⟨by rw [HL.out.1, HL.out.2]; rfl, hk4⟩
        · have h4' : decide (4096 < ((H.length : Nat) : Int)) = true := by simp; omega
          have hl := HL.out
          rw [if_neg h4, if_neg h4] at hl
          have HL := Lib.hid hl
          clear hl h4
          go_wp2_with fail
          go_ret2
          exact ⟨by rw [HL.out.1, HL.out.2]; rfl, HB2.out.kept⟩
end Go.Proofs.YtmfnciocnlmceaaDoor

/- Layer 13: Answer, Ask: the program's; the document's laid, Answer. No conditions but on lengths and the library's table. -/
namespace Go.Proofs.YtmfnciocnlmceaaDoor
open Go.RowKit Go.Shelf

theorem Sl.keep0 {α : Type} {enc : α → List Value} {n : Nat} {w w' : World} {v : Value} {L : List α} (h : Sl enc n w v L) (hn : ∀ x, (enc x).length = n) (h0 : 0 < n) (k : Keep [] w w') : Sl enc n w' v L := h.keep hn h0 h k (by simp) (Nat.le_refl _)
/-- 'HTTP/1.1 ' -/
def protSp : List UInt8 := [72, 84, 84, 80, 47, 49, 46, 49, 32]
theorem ans_no {s : Int} {L : List Fld} (h : statOk s = false) : ansE s L = 1 ∧ ansS s L = [] := by unfold ansE ansS; rw [h]; exact ⟨rfl, rfl⟩
theorem ans_yes {s : Int} {L : List Fld} (h : statOk s = true) : ansE s L = laidE (stOf s) L ∧ ansS s L = laidS (stOf s) L := by unfold ansE ansS; rw [h]; exact ⟨rfl, rfl⟩
theorem fin_ext {l : List UInt8} {e : Int} {x y : Value} (h1 : x = .string (S l)) (h2 : y = .int .i64 e) : Ending.returned (.tuple #[x, y]) = Ending.returned (fin l e) := by subst h1 h2; rfl

set_option maxRecDepth 100000 in
set_option maxHeartbeats 1000000 in
theorem outlet_Answer (s : Int) (va : Value) (L : List Fld) (w : World) (hs : in64 s) (hp : P10 w) (ha : Sl Fld.cells 2 w va L) (hg : L.length ≤ 32 → ∀ x ∈ L, x.name.length + x.value.length ≤ 1048576) :
    Calls Tryd.prog 14 #[.int .i64 s, va] w fun e w' => e = .returned (fin (ansS s L) (ansE s L)) ∧ Keep [] w w' := by
  by_cases h1 : s < 100
  · have HX := Lib.hid (ans_no (s := s) (L := L) (by unfold statOk; simp; omega))
    clear ha hg hp
    go_enter Tryd.func14, Tryd.ntmps14
    go_wp2_with fail
    go_ret2
    exact ⟨by rw [HX.out.1, HX.out.2]; rfl, Keep.refl _ _⟩
  · by_cases h2 : 599 < s
    · have HX := Lib.hid (ans_no (s := s) (L := L) (by unfold statOk; simp; omega))
      have h2' : decide (s > 599) = true := by simp; omega
      clear ha hg hp h2
      go_enter Tryd.func14, Tryd.ntmps14
      go_wp2_with fail
      go_ret2
      exact ⟨by rw [HX.out.1, HX.out.2]; rfl, Keep.refl _ _⟩
    · have HX := Lib.hid (ans_yes (s := s) (L := L) (by unfold statOk; simp; omega))
      have h2' : decide (s > 599) = false := by simp; omega
      have h1' : decide (s < 100) = false := by simp; omega
      have hst : stOf s = protSp ++ Lib.itoa s ++ [32] ++ reasonM s := rfl
      have hlen := stOf_len s hs
      have HD := Lib.hid (hexa_Dec s w hs hp)
      have HR := Lib.hid (fun w' => outlet_Reason s w')
      have li := itoa_len s hs
      have lr := reason_len s
      generalize stOf s = st at *
      generalize Lib.itoa s = ia at *
      generalize reasonM s = re at *
      have q1 : (⟨#[72, 84, 84, 80, 47, 49, 46, 49, 32]⟩ : ByteArray) ++ S ia = S (protSp ++ ia) := S_append protSp ia
      have q2 : S (protSp ++ ia) ++ (⟨#[32]⟩ : ByteArray) = S (protSp ++ ia ++ [32]) := S_append _ [32]
      have q3 : S (protSp ++ ia ++ [32]) ++ S re = S st := by rw [S_append, hst]
      have t1 : (protSp ++ ia).length = 9 + ia.length := by simp [protSp]; omega
      have t2 : (protSp ++ ia ++ [32]).length = 10 + ia.length := by simp [protSp]; omega
      generalize protSp ++ ia ++ [32] = x2 at *
      generalize protSp ++ ia = x1 at *
      have s1 := S_size ia
      have s2 := S_size re
      have s3 := S_size x1
      have s4 := S_size x2
      have HL := Lib.hid (fun w' (k : Keep [] w w') => outlet_laid st va L w' (ha.keep0 Fld.cells_length (by omega) k) hg (by omega))
      clear ha hg hp h1 h2 hst
      go_enter Tryd.func14, Tryd.ntmps14
      go_wp2_with fail
      refine HD.out.mono ?_
      rintro e w1 ⟨rfl, k1⟩
      go_wp2_with fail
      refine (HR.out _).mono ?_
      rintro e w2 ⟨rfl, rfl⟩
      go_wp2_with fail
      refine (HL.out _ k1).mono ?_
      rintro e w3 ⟨rfl, k3⟩
      unfold fin
      go_wp2_with fail
      go_ret2
      exact ⟨by rw [HX.out.1, HX.out.2]; rfl, k1.trans k3⟩

theorem ask_no {m t : List UInt8} {L : List Fld} (h : askOk m t = false) : askE m t L = 1 ∧ askS m t L = [] := by unfold askE askS; rw [h]; exact ⟨rfl, rfl⟩
theorem ask_yes {m t : List UInt8} {L : List Fld} (h : askOk m t = true) : askE m t L = laidE (askT m t) L ∧ askS m t L = laidS (askT m t) L := by unfold askE askS; rw [h]; exact ⟨rfl, rfl⟩

set_option maxRecDepth 100000 in
set_option maxHeartbeats 1000000 in
theorem outlet_Ask (m t : List UInt8) (va : Value) (L : List Fld) (w : World) (hm : ML w) (hl : m.length + t.length ≤ 1048000) (ha : Sl Fld.cells 2 w va L) (hg : L.length ≤ 32 → ∀ x ∈ L, x.name.length + x.value.length ≤ 1048576) :
    Calls Tryd.prog 16 #[.string (S m), .string (S t), va] w fun e w' => e = .returned (fin (askS m t L) (askE m t L)) ∧ Keep [] w w' := by
  have hst : askT m t = m ++ [32] ++ t ++ [32] ++ protB := rfl
  have hok : askOk m t = (decide ((lnM (askT m t)).s = 200) && decide ((askT m t).length ≤ 1024)) := rfl
  have hno := ask_no (m := m) (t := t) (L := L)
  have hyes := ask_yes (m := m) (t := t) (L := L)
  have hlen : (askT m t).length = m.length + t.length + 10 := by rw [hst]; simp [protB]; omega
  have HLi := Lib.hid (inlet_Line (askT m t) w hm (by omega))
  have HL := Lib.hid (fun w' (k : Keep [] w w') => outlet_laid (askT m t) va L w' (ha.keep0 Fld.cells_length (by omega) k) hg (by omega))
  generalize askE m t L = ae at *
  generalize askS m t L = av at *
  generalize askOk m t = ok at *
  generalize askT m t = st at *
  have q1 : S m ++ (⟨#[32]⟩ : ByteArray) = S (m ++ [32]) := S_append _ [32]
  have q2 : S (m ++ [32]) ++ S t = S (m ++ [32] ++ t) := S_append _ _
  have q3 : S (m ++ [32] ++ t) ++ (⟨#[32]⟩ : ByteArray) = S (m ++ [32] ++ t ++ [32]) := S_append _ [32]
  have q4 : S (m ++ [32] ++ t ++ [32]) ++ (⟨#[72, 84, 84, 80, 47, 49, 46, 49]⟩ : ByteArray) = S st := by rw [hst]; exact S_append _ protB
  have t1 : (m ++ [32]).length = m.length + 1 := by simp
  have t2 : (m ++ [32] ++ t).length = m.length + t.length + 1 := by simp; omega
  have t3 : (m ++ [32] ++ t ++ [32]).length = m.length + t.length + 2 := by simp; omega
  generalize m ++ [32] ++ t ++ [32] = x3 at *
  generalize m ++ [32] ++ t = x2 at *
  generalize m ++ [32] = x1 at *
  have s0 := S_size m
  have s1 := S_size t
  have s2 := S_size x1
  have s3 := S_size x2
  have s4 := S_size x3
  have s5 := S_size st
  generalize lnM st = R at *
  obtain ⟨rm, rt, rv, rs⟩ := R
  dsimp only at hok
  unfold Ln.out at HLi
  dsimp only at HLi
  clear ha hg hst
  by_cases h2 : rs = 200
  · have h2' := (int_eq h2).2
    by_cases h3 : st.length ≤ 1024
    · have h3' : decide (((st.length : Nat) : Int) > 1024) = false := by simp; omega
      have HX := Lib.hid (hyes (by rw [hok]; simp [h2, h3]))
      clear hok hno hyes h2 h3 hlen
      go_enter Tryd.func16, Tryd.ntmps16
      go_wp2_with fail
      refine HLi.out.mono ?_
      rintro e w1 ⟨rfl, k1⟩
      go_wp2_with fail
      refine (HL.out _ k1).mono ?_
      rintro e w3 ⟨rfl, k3⟩
      unfold fin
      go_wp2_with fail
      go_ret2
      exact ⟨by rw [HX.out.1, HX.out.2]; rfl, k1.trans k3⟩
    · have h3' : decide (((st.length : Nat) : Int) > 1024) = true := by simp; omega
      have HX := Lib.hid (hno (by rw [hok]; simp [h3]))
      clear hok hno hyes h2 h3 hlen
      go_enter Tryd.func16, Tryd.ntmps16
      go_wp2_with fail
      refine HLi.out.mono ?_
      rintro e w1 ⟨rfl, k1⟩
      go_wp2_with fail
      go_ret2
      exact ⟨by rw [HX.out.1, HX.out.2]; rfl, k1⟩
  · have h2' := (int_ne h2).2
    have HX := Lib.hid (hno (by rw [hok]; simp [h2]))
    clear hok hno hyes h2 hlen
    go_enter Tryd.func16, Tryd.ntmps16
    go_wp2_with fail
    refine HLi.out.mono ?_
    rintro e w1 ⟨rfl, k1⟩
    go_wp2_with fail
    go_ret2
    exact ⟨by rw [HX.out.1, HX.out.2]; rfl, k1⟩
end Go.Proofs.YtmfnciocnlmceaaDoor

/- Layer 13: the document's laid, Answer. No conditions but on lengths. -/
namespace Go.Proofs.YtmfnciocnlmceaaDoor
open Go.RowKit Go.Shelf

set_option maxRecDepth 100000 in
set_option maxHeartbeats 2000000 in
theorem ref_laid (st : List UInt8) (va : Value) (L : List Fld) (w : World) (ha : Sl Fld.cells 2 w va L) (hg : L.length ≤ 32 → ∀ x ∈ L, x.name.length + x.value.length ≤ 1048576) (hst : st.length ≤ 1048576) :
    Calls Tryd.prog 48 #[.string (S st), va] w fun e w' => e = .returned (fin (laidS st L) (laidE st L)) ∧ Keep [] w w' := by
  obtain ⟨aa, ca, rfl, hal⟩ := ha.shape
  have hal' : L.length ≤ 9223372036854775807 := hal
  by_cases h32 : 32 < L.length
  · have h := laid_many (st := st) h32
    have HX := Lib.hid h
    clear h ha hg
    go_enter Tryd.func48, Tryd.ntmps48
    go_wp2_with fail
    go_ret2
    exact ⟨by rw [HX.out.1, HX.out.2]; rfl, Keep.refl _ _⟩
  · have hst2 : S st ++ ⟨#[13, 10]⟩ = S (st ++ [13, 10]) := S_append st [13, 10]
    have hsz := S_size st
    have HG := Lib.hid (hg (by omega))
    have HA := Lib.hid ha
    clear ha hg hal
    go_enter Tryd.func48, Tryd.ntmps48
    go_wp2_with fail
    clear hst2
    go_loopg [6, 7] L.length (fun g si i wr => ∃ (k : Nat) (T : List UInt8), si = .string (S T) ∧ i = .int .i64 k ∧ k ≤ L.length ∧ g = L.length - k ∧ T.length ≤ 1048578 + k * 1048580 ∧ Hid (T = st ++ [13, 10] ++ bodyT (L.take k) ∧ (L.take k).all goodF = true) ∧ Hid (Keep [] w wr))
    case atStart => exact ⟨0, st ++ [13, 10], rfl, rfl, Nat.zero_le _, by omega, by simp; omega, Lib.hid ⟨by simp [bodyT], by simp⟩, Lib.hid (Keep.refl _ _)⟩
    case round =>
      obtain ⟨k, T, rfl, rfl, hk, hgk, hT, HE, HK⟩ := hrel
      have sT := S_size T
      by_cases hlt : k < L.length
      · obtain ⟨x, hx⟩ : ∃ x, L[k]? = some x := ⟨_, List.getElem?_eq_getElem hlt⟩
        have hxl := HG.out x (List.mem_of_getElem? hx)
        have har := HA.out.keep0 Fld.cells_length (by omega) HK.out
        obtain ⟨ba, oa, ca', hva, _, hca, hcell⟩ := har.cell hx
        cases hva
        have hc0 := hcell 0 (by omega)
        have hc1 := hcell 1 (by omega)
        simp only [Fld.cells, List.getElem?_cons_zero, List.getElem?_cons_succ, Nat.add_zero] at hc0 hc1
        have hca' : ca ≤ 9223372036854775807 := hca
        have hh0 : (0 : Int) ≤ (k : Int) := by omega
        have hh1 : (k : Int) < (L.length : Int) := by omega
        have hkw := IntWalk.i64_in ((k : Int) + 1) (by omega)
        have HT := Lib.hid (fun w1 => ref_IsToken x.name w1 (show x.name.length ≤ 9223372036854775807 by omega))
        have HTx := Lib.hid (fun w1 => ref_Text x.value w1 (show x.value.length ≤ 9223372036854775807 by omega))
        have HTr := Lib.hid (fun w1 => ref_Trim x.value w1 (show x.value.length ≤ 9223372036854775807 by omega))
        have HX := Lib.hid hx
        have hkA := (Keep.refl [] wr).alloc (.cells #[.string (S x.name), .string (S x.value)] 26)
        have hbA : Blk (wr.alloc (.cells #[.string (S x.name), .string (S x.value)] 26)) wr.heap.size 26 x.cells := Blk.newA wr _ _
        have hGd : goodF x = (isTok x.name && isTxt x.value && (trimW x.value == x.value)) := rfl
        have sn := S_size x.name
        have sv := S_size x.value
        have c1 := S_append T x.name
        have c2 : S (T ++ x.name) ++ (⟨#[58, 32]⟩ : ByteArray) = S (T ++ x.name ++ [58, 32]) := S_append _ [58, 32]
        have c3 := S_append (T ++ x.name ++ [58, 32]) x.value
        have c4 : S (T ++ x.name ++ [58, 32] ++ x.value) ++ (⟨#[13, 10]⟩ : ByteArray) = S (T ++ x.name ++ [58, 32] ++ x.value ++ [13, 10]) := S_append _ [13, 10]
        have l1 : (T ++ x.name).length = T.length + x.name.length := by simp
        have l2 : (T ++ x.name ++ [58, 32]).length = T.length + x.name.length + 2 := by simp; omega
        have l3 : (T ++ x.name ++ [58, 32] ++ x.value).length = T.length + x.name.length + x.value.length + 2 := by simp; omega
        have l4 : (T ++ x.name ++ [58, 32] ++ x.value ++ [13, 10]).length = T.length + x.name.length + x.value.length + 4 := by simp; omega
        have e4 : T ++ x.name ++ [58, 32] ++ x.value ++ [13, 10] = T ++ (printF x ++ [13, 10]) := by simp [printF]
        have HCat := Lib.hid (And.intro c1 (And.intro c2 (And.intro c3 c4)))
        have HLen := Lib.hid (And.intro l1 (And.intro l2 (And.intro l3 l4)))
        have HE4 := Lib.hid e4
        clear c1 c2 c3 c4 l1 l2 l3 l4 e4 hx hcell har hca
        go_upto_region 8 with fail
        generalize hwA : wr.alloc (.cells #[.string (S x.name), .string (S x.value)] 26) = wA at *
        try rw [hwA]
        generalize hnb : wr.heap.size = nb at *
        clear hwA hnb
        have hA0 : ∀ n, (ext wA n).cell? ⟨nb, 0, none⟩ = some (.string (S x.name)) := fun n => ((ext_keep _ n).blk hbA (by simp)).get rfl
        have hA1 : ∀ n, (ext wA n).cell? ⟨nb, 1, none⟩ = some (.string (S x.value)) := fun n => ((ext_keep _ n).blk hbA (by simp)).get rfl
        have HBA := Lib.hid hbA
        have HKA := Lib.hid (HK.out.trans hkA)
        clear hbA hkA hc0 hc1
        go_cut [41] (fun v wx => v = .bool (!goodF x) ∧ Hid (Keep [] wA wx))
        case first =>
          cases htk : isTok x.name with
          | false =>
            rw [htk] at HT hGd
            have HGd := Lib.hid hGd
            clear hGd htk
            refine wp_region_ext_lit (by kernel_rfl) (by kernel_rfl) ?_
            repeat (go_big_quiet_step ((go_at_call 66; exact Calls.quiet_ext_same (HT.out _))))
            refine wpQuiet_nil ?_
            intro _ hw'
            obtain ⟨nq, hw''⟩ := hw'
            subst hw''
            go_wp2_with fail
            go_meet
            exact ⟨by rw [HGd.out]; rfl, Lib.hid (ext_keep _ nq)⟩
          | true =>
            rw [htk] at HT hGd
            cases htx : isTxt x.value with
            | false =>
              rw [htx] at HTx hGd
              have HGd := Lib.hid hGd
              clear hGd htk htx
              refine wp_region_ext_lit (by kernel_rfl) (by kernel_rfl) ?_
              repeat (go_big_quiet_step (first | (go_at_call 66; exact Calls.quiet_ext_same (HT.out _)) | (go_at_call 76; exact Calls.quiet_ext_same (HTx.out _))))
              refine wpQuiet_nil ?_
              intro _ hw'
              obtain ⟨nq, hw''⟩ := hw'
              subst hw''
              go_wp2_with fail
              go_meet
              exact ⟨by rw [HGd.out]; rfl, Lib.hid (ext_keep _ nq)⟩
            | true =>
              rw [htx] at HTx hGd
              have t1 := S_toList (trimW x.value)
              have t2 := S_toList x.value
              have HGd := Lib.hid hGd
              clear hGd htk htx
              refine wp_region_ext_lit (by kernel_rfl) (by kernel_rfl) ?_
              repeat (go_big_quiet_step (first | (go_at_call 66; exact Calls.quiet_ext_same (HT.out _)) | (go_at_call 76; exact Calls.quiet_ext_same (HTx.out _)) | (go_at_call 77; exact Calls.quiet_ext_same (HTr.out _))))
              refine wpQuiet_nil ?_
              intro _ hw'
              obtain ⟨nq, hw''⟩ := hw'
              subst hw''
              go_wp2_with fail
              go_meet
              exact ⟨by rw [HGd.out]; rfl, Lib.hid (ext_keep _ nq)⟩
        case rest =>
          obtain ⟨rfl, HKx⟩ := hcut
          have hb2 := HKx.out.blk HBA.out (by simp)
          have d0 := hb2.get (k := 0) rfl
          have d1 := hb2.get (k := 1) rfl
          have HK2 := Lib.hid (HKA.out.trans HKx.out)
          clear hb2 hGd HT HTx HTr hA0 hA1 HBA HKA HKx
          cases hgx : goodF x with
          | false =>
            have HF := Lib.hid (laid_bad (st := st) (List.mem_of_getElem? HX.out) hgx)
            clear hgx
            go_wp2_with fail
            go_ret2
            exact ⟨by rw [HF.out.1, HF.out.2]; rfl, HK2.out⟩
          | true =>
            have HGX := Lib.hid hgx
            clear hgx
            obtain ⟨c1, c2, c3, c4⟩ := HCat.out
            obtain ⟨l1, l2, l3, l4⟩ := HLen.out
            have e4 := HE4.out
            generalize T ++ x.name ++ [58, 32] ++ x.value ++ [13, 10] = x4 at *
            generalize T ++ x.name ++ [58, 32] ++ x.value = x3 at *
            generalize T ++ x.name ++ [58, 32] = x2 at *
            generalize T ++ x.name = x1 at *
            have s1 := S_size x1
            have s2 := S_size x2
            have s3 := S_size x3
            have HE4 := Lib.hid e4
            clear e4 HCat HLen
            go_wp2_with fail
            go_roundg (L.length - (k + 1))
            case measure => omega
            case rel =>
              refine ⟨k + 1, x4, rfl, by go_num, by omega, rfl, by omega, Lib.hid ⟨?_, ?_⟩, HK2⟩
              · rw [HE4.out, body_take HX.out, HE.out.1]; simp
              · rw [show L.take (k + 1) = L.take k ++ [x] from by rw [List.take_add_one, HX.out]; rfl, List.all_append, HE.out.2]; simp [HGX.out]
      · have hkl : k = L.length := by omega
        have hE := HE.out
        rw [hkl, List.take_length] at hE
        have hhd : T ++ [13, 10] = headT st L := by unfold headT; rw [hE.1]
        have hlay := laid_good (st := st) (show L.length ≤ 32 by omega) hE.2
        rw [← hhd] at hlay
        have HL := Lib.hid hlay
        have hT' : (T ++ [13, 10]).length ≤ 70000000 := by simp; omega
        have hca : S T ++ (⟨#[13, 10]⟩ : ByteArray) = S (T ++ [13, 10]) := S_append T [13, 10]
        have hge : ¬ (k : Int) < (L.length : Int) := by omega
        clear hE hhd hlay HE
        generalize T ++ [13, 10] = H at HL hT' hca
        have sH := S_size H
        by_cases h4 : H.length ≤ 4096
        · have h4' : decide (4096 < ((H.length : Nat) : Int)) = false := by simp; omega
          have hl := HL.out
          rw [if_pos h4, if_pos h4] at hl
          have HL := Lib.hid hl
          clear hl h4 hkl
          go_wp2_with fail
          go_ret2
          exact ⟨by rw [HL.out.1, HL.out.2]; rfl, HK.out⟩
        · have h4' : decide (4096 < ((H.length : Nat) : Int)) = true := by simp; omega
          have hl := HL.out
          rw [if_neg h4, if_neg h4] at hl
          have HL := Lib.hid hl
          clear hl h4 hkl
          go_wp2_with fail
          go_ret2
          exact ⟨by rw [HL.out.1, HL.out.2]; rfl, HK.out⟩
end Go.Proofs.YtmfnciocnlmceaaDoor

/- Layer 12, the document's Line; layer 13, the document's Answer, Ask. No conditions but on lengths. -/
namespace Go.Proofs.YtmfnciocnlmceaaDoor
open Go.RowKit Go.Shelf

set_option maxRecDepth 100000 in
set_option maxHeartbeats 1000000 in
theorem ref13_Answer (s : Int) (va : Value) (L : List Fld) (w : World) (hs : in64 s) (ha : Sl Fld.cells 2 w va L) (hg : L.length ≤ 32 → ∀ x ∈ L, x.name.length + x.value.length ≤ 1048576) :
    Calls Tryd.prog 15 #[.int .i64 s, va] w fun e w' => e = .returned (fin (ansS s L) (ansE s L)) ∧ Keep [] w w' := by
  by_cases h1 : s < 100
  · have HX := Lib.hid (ans_no (s := s) (L := L) (by unfold statOk; simp; omega))
    clear ha hg
    go_enter Tryd.func15, Tryd.ntmps15
    go_wp2_with fail
    go_ret2
    exact ⟨by rw [HX.out.1, HX.out.2]; rfl, Keep.refl _ _⟩
  · by_cases h2 : 599 < s
    · have HX := Lib.hid (ans_no (s := s) (L := L) (by unfold statOk; simp; omega))
      have h2' : decide (s > 599) = true := by simp; omega
      clear ha hg h2
      go_enter Tryd.func15, Tryd.ntmps15
      go_wp2_with fail
      go_ret2
      exact ⟨by rw [HX.out.1, HX.out.2]; rfl, Keep.refl _ _⟩
    · have HX := Lib.hid (ans_yes (s := s) (L := L) (by unfold statOk; simp; omega))
      have h2' : decide (s > 599) = false := by simp; omega
      have h1' : decide (s < 100) = false := by simp; omega
      have hst : stOf s = protSp ++ Lib.itoa s ++ [32] ++ reasonM s := rfl
      have hlen := stOf_len s hs
      have HD := Lib.hid (ref_DecI s w (by omega) (by omega))
      have HR := Lib.hid (fun w' => ref_Reason s w')
      have li := itoa_len s hs
      have lr := reason_len s
      generalize stOf s = st at *
      generalize Lib.itoa s = ia at *
      generalize reasonM s = re at *
      have q1 : (⟨#[72, 84, 84, 80, 47, 49, 46, 49, 32]⟩ : ByteArray) ++ S ia = S (protSp ++ ia) := S_append protSp ia
      have q2 : S (protSp ++ ia) ++ (⟨#[32]⟩ : ByteArray) = S (protSp ++ ia ++ [32]) := S_append _ [32]
      have q3 : S (protSp ++ ia ++ [32]) ++ S re = S st := by rw [S_append, hst]
      have t1 : (protSp ++ ia).length = 9 + ia.length := by simp [protSp]; omega
      have t2 : (protSp ++ ia ++ [32]).length = 10 + ia.length := by simp [protSp]; omega
      generalize protSp ++ ia ++ [32] = x2 at *
      generalize protSp ++ ia = x1 at *
      have s1 := S_size ia
      have s2 := S_size re
      have s3 := S_size x1
      have s4 := S_size x2
      have HL := Lib.hid (fun w' (k : Keep [] w w') => ref_laid st va L w' (ha.keep0 Fld.cells_length (by omega) k) hg (by omega))
      clear ha hg h1 h2 hst
      go_enter Tryd.func15, Tryd.ntmps15
      go_wp2_with fail
      refine HD.out.mono ?_
      rintro e w1 ⟨rfl, k1⟩
      go_wp2_with fail
      refine (HR.out _).mono ?_
      rintro e w2 ⟨rfl, rfl⟩
      go_wp2_with fail
      refine (HL.out _ k1).mono ?_
      rintro e w3 ⟨rfl, k3⟩
      unfold fin
      go_wp2_with fail
      go_ret2
      exact ⟨by rw [HX.out.1, HX.out.2]; rfl, k1.trans k3⟩

theorem cut_at {l : List UInt8} {c : UInt8} {k : Nat} (h : Lib.indexByte l c = (k : Nat)) : Lib.cut l [c] = (l.take k, l.drop (k + 1), true) := by
  unfold Lib.cut
  rw [Lib.index_one, h, if_pos (by omega)]
  simp
theorem cut_none {l : List UInt8} {c : UInt8} (h : Lib.indexByte l c = -1) : (Lib.cut l [c]).2.2 = false := by
  unfold Lib.cut
  rw [Lib.index_one, h, if_neg (by decide)]
def lnBad : Ln := ⟨[], [], 0, 400⟩
theorem ln_k {l : List UInt8} (h : Lib.indexByte l 32 = -1) : lnM l = lnBad := ln_no (by rw [cut_none h]; rfl)
theorem ln_tok {l : List UInt8} {k : Nat} (h : Lib.indexByte l 32 = (k : Nat)) (ht : isTok (l.take k) = false) : lnM l = lnBad := ln_no (by rw [cut_at h]; simp [ht])
theorem ln_n {l : List UInt8} {k : Nat} (h : Lib.indexByte l 32 = (k : Nat)) (hn : Lib.indexByte (l.drop (k + 1)) 32 = -1) : lnM l = lnBad := ln_no (by rw [cut_at h]; simp [cut_none hn])
theorem ln_tgt {l : List UInt8} {k n : Nat} (h : Lib.indexByte l 32 = (k : Nat)) (hn : Lib.indexByte (l.drop (k + 1)) 32 = (n : Nat)) (ht : isTgt ((l.drop (k + 1)).take n) = false) : lnM l = lnBad := ln_no (by rw [cut_at h]; simp only; rw [cut_at hn]; simp [ht])
theorem ln_min {l : List UInt8} {k n : Nat} (h : Lib.indexByte l 32 = (k : Nat)) (hn : Lib.indexByte (l.drop (k + 1)) 32 = (n : Nat)) (hm : minS ((l.drop (k + 1)).drop (n + 1)) = 400) : lnM l = lnBad := by
  by_cases hb : (isTok (l.take k) && isTgt ((l.drop (k + 1)).take n)) = true
  · rw [ln_yes (by rw [cut_at h]; simp only; rw [cut_at hn]; simpa using hb)]
    rw [cut_at h]
    simp only
    rw [cut_at hn]
    simp only [hm]
    rfl
  · exact ln_no (by rw [cut_at h]; simp only; rw [cut_at hn]; simpa using hb)
theorem ln_all {l : List UInt8} {k n : Nat} (h : Lib.indexByte l 32 = (k : Nat)) (hn : Lib.indexByte (l.drop (k + 1)) 32 = (n : Nat)) (ht : isTok (l.take k) = true) (hg : isTgt ((l.drop (k + 1)).take n) = true) :
    lnM l = if minS ((l.drop (k + 1)).drop (n + 1)) = 200 then ⟨l.take k, (l.drop (k + 1)).take n, minV ((l.drop (k + 1)).drop (n + 1)), 200⟩ else ⟨[], [], 0, minS ((l.drop (k + 1)).drop (n + 1))⟩ := by
  rw [ln_yes (by rw [cut_at h]; simp only; rw [cut_at hn]; simp [ht, hg])]
  rw [cut_at h]
  simp only
  rw [cut_at hn]
theorem min_http {l : List UInt8} (h : l.take 5 ≠ httpB) : minS l = 400 := (ver_no (.inl (by rw [take5_prefix]; simp [h]))).1
theorem min_len {l : List UInt8} (h : l.length ≠ 8) : minS l = 400 := (ver_no (.inr h)).1

set_option maxRecDepth 100000 in
set_option maxHeartbeats 2000000 in
theorem ref12_Line (l : List UInt8) (w : World) (hl : l.length ≤ 1048576) :
    Calls Tryd.prog 35 #[.string (S l)] w fun e w' => e = .returned (lnM l).out ∧ Keep [] w w' := by
  have hsz := S_size l
  have hF := Lib.hid (fun w1 => ref_Find l 32 w1 (show l.length ≤ 9223372036854775807 by omega))
  have hge := Lib.indexByte_ge l 32
  by_cases hk : Lib.indexByte l 32 = -1
  · have HX := Lib.hid (ln_k hk)
    rw [hk] at hF
    clear hk hge
    go_enter Tryd.func35, Tryd.ntmps35
    go_wp2_with fail
    refine (hF.out _).mono ?_
    rintro e w1 ⟨rfl, rfl⟩
    go_wp2_with fail
    refine bodyPost_ret (res4 rfl _ _ _) rfl ⟨?_, Keep.refl _ _⟩
    rw [HX.out]
    rfl
  · obtain ⟨k, hk'⟩ : ∃ k : Nat, Lib.indexByte l 32 = k := ⟨(Lib.indexByte l 32).toNat, by omega⟩
    rw [hk'] at hF
    have hkl : k < l.length := (List.getElem?_eq_some_iff.1 (Lib.indexByte_some hk').1).1
    have hx1 : (S l).extract 0 k = S (l.take k) := by rw [S_extract]; simp
    have hx2 : (S l).extract (k + 1) l.length = S (l.drop (k + 1)) := by rw [S_extract, List.take_of_length_le (Nat.le_refl _)]
    have hT := Lib.hid (fun w1 => ref_IsToken (l.take k) w1 (by show _ ≤ 9223372036854775807; simp; omega))
    cases htk : isTok (l.take k) with
    | false =>
      rw [htk] at hT
      have HX := Lib.hid (ln_tok hk' htk)
      clear hk hk' hge htk
      go_enter Tryd.func35, Tryd.ntmps35
      go_wp2_with fail
      refine (hF.out _).mono ?_
      rintro e w1 ⟨rfl, rfl⟩
      go_wp2_with fail
      refine (hT.out _).mono ?_
      rintro e w1 ⟨rfl, rfl⟩
      go_wp2_with fail
      refine bodyPost_ret (res4 rfl _ _ _) rfl ⟨?_, Keep.refl _ _⟩
      rw [HX.out]
      rfl
    | true =>
      rw [htk] at hT
      have hF2 := Lib.hid (fun w1 => ref_Find (l.drop (k + 1)) 32 w1 (by show _ ≤ 9223372036854775807; simp; omega))
      have hge2 := Lib.indexByte_ge (l.drop (k + 1)) 32
      have hrl : (l.drop (k + 1)).length ≤ 1048576 := by simp; omega
      by_cases hn : Lib.indexByte (l.drop (k + 1)) 32 = -1
      · have HX := Lib.hid (ln_n hk' hn)
        rw [hn] at hF2
        have hsr := S_size (l.drop (k + 1))
        generalize l.drop (k + 1) = r at *
        clear hk hk' hge hge2 htk hn
        go_enter Tryd.func35, Tryd.ntmps35
        go_wp2_with fail
        refine (hF.out _).mono ?_
        rintro e w1 ⟨rfl, rfl⟩
        go_wp2_with fail
        refine (hT.out _).mono ?_
        rintro e w1 ⟨rfl, rfl⟩
        go_wp2_with fail
        refine (hF2.out _).mono ?_
        rintro e w1 ⟨rfl, rfl⟩
        go_wp2_with fail
        refine bodyPost_ret (res4 rfl _ _ _) rfl ⟨?_, Keep.refl _ _⟩
        rw [HX.out]
        rfl
      · obtain ⟨n, hn'⟩ : ∃ n : Nat, Lib.indexByte (l.drop (k + 1)) 32 = n := ⟨(Lib.indexByte (l.drop (k + 1)) 32).toNat, by omega⟩
        rw [hn'] at hF2
        have hnl : n < (l.drop (k + 1)).length := (List.getElem?_eq_some_iff.1 (Lib.indexByte_some hn').1).1
        by_cases hn0 : n = 0
        · have HX := Lib.hid (ln_tgt hk' hn' (by subst hn0; simp [isTgt]))
          have hn1 : decide ((n : Int) < 1) = true := by simp; omega
          have hsr := S_size (l.drop (k + 1))
          generalize l.drop (k + 1) = r at *
          clear hk hk' hge hge2 htk hn hn' hn0
          go_enter Tryd.func35, Tryd.ntmps35
          go_wp2_with fail
          refine (hF.out _).mono ?_
          rintro e w1 ⟨rfl, rfl⟩
          go_wp2_with fail
          refine (hT.out _).mono ?_
          rintro e w1 ⟨rfl, rfl⟩
          go_wp2_with fail
          refine (hF2.out _).mono ?_
          rintro e w1 ⟨rfl, rfl⟩
          go_wp2_with fail
          refine bodyPost_ret (res4 rfl _ _ _) rfl ⟨?_, Keep.refl _ _⟩
          rw [HX.out]
          rfl
        · have hn1 : decide ((n : Int) < 1) = false := by simp; omega
          have hlm := @ln_min l k n hk' hn'
          have hlt := @ln_tgt l k n hk' hn'
          have hla := @ln_all l k n hk' hn' htk
          have hsr := S_size (l.drop (k + 1))
          generalize lnM l = R at *
          generalize l.take k = xm at *
          generalize l.drop (k + 1) = r at *
          clear hk hk' hge hge2 htk hn hn'
          have hw0 := IntWalk.i64_in ((k : Int) + 1) (by omega)
          have hw1 := IntWalk.i64_in ((r.length : Int) - (n : Int)) (by omega)
          by_cases h9 : r.length - n = 9
          · have h9' : (r.length : Int) - (n : Int) = 9 := by omega
            have h9q := (int_eq h9').2
            have hx5 : (S r).extract (n + 1) (n + 6) = S ((r.drop (n + 1)).take 5) := by
              rw [S_extract, List.drop_take]
              congr 2
              omega
            by_cases h5 : (r.drop (n + 1)).take 5 = httpB
            · obtain ⟨a, p, c, hapc⟩ : ∃ a p c, r.drop (n + 1) = httpB ++ [a, p, c] := by
                have h8 : ((r.drop (n + 1)).drop 5).length = 3 := by simp; omega
                have e := List.take_append_drop 5 (r.drop (n + 1))
                rw [h5] at e
                generalize (r.drop (n + 1)).drop 5 = y at h8 e
                match y, h8 with
                | [a, p, c], _ => exact ⟨a, p, c, e.symm⟩
              have ga : r[n + 6]? = some a := by
                have : (r.drop (n + 1))[5]? = some a := by rw [hapc]; rfl
                rw [List.getElem?_drop] at this
                exact this
              have gp : r[n + 7]? = some p := by
                have : (r.drop (n + 1))[6]? = some p := by rw [hapc]; rfl
                rw [List.getElem?_drop] at this
                exact this
              have gc : r[n + 8]? = some c := by
                have : (r.drop (n + 1))[7]? = some c := by rw [hapc]; rfl
                rw [List.getElem?_drop] at this
                exact this
              obtain ⟨hms, hmv⟩ := ver_of a p c
              rw [← hapc] at hms hmv
              have q5 : ((r.drop (n + 1)).take 5 == [72, 84, 84, 80, 47]) = true := by rw [h5]; rfl
              generalize minS (r.drop (n + 1)) = ms at *
              generalize minV (r.drop (n + 1)) = mv at *
              generalize (r.drop (n + 1)).take 5 = x5 at *
              have hs5 := S_toList x5
              have ia := S_get ga
              have ip := S_get gp
              have ic := S_get gc
              have ca := u8_nat a
              have cp := u8_nat p
              have cc := u8_nat c
              have hw2 := IntWalk.i64_in ((n : Int) + 1) (by omega)
              have hw3 := IntWalk.i64_in ((n : Int) + 6) (by omega)
              have hw4 := IntWalk.i64_in ((n : Int) + 7) (by omega)
              have hw5 := IntWalk.i64_in ((n : Int) + 8) (by omega)
              have b1 : (n : Int) + 6 ≤ (r.length : Int) := by omega
              have b2 : (0 : Int) ≤ (n : Int) + 1 := by omega
              have b3 : (n : Int) + 1 ≤ (n : Int) + 6 := by omega
              have b0 : (0 : Int) ≤ (n : Int) + 6 := by omega
              have b4 : (n : Int) + 6 < (r.length : Int) := by omega
              have b5 : (n : Int) + 7 < (r.length : Int) := by omega
              have b6 : (n : Int) + 8 < (r.length : Int) := by omega
              have b7 : (0 : Int) ≤ (n : Int) + 7 := by omega
              have b8 : (0 : Int) ≤ (n : Int) + 8 := by omega
              clear hapc h9 h9' h5 ga gp gc
              by_cases hp : p = 46
              · have hpb : (p == 46) = true := by simp [hp]
                have hpn : ((p.toNat : Nat) : Int) = 46 := by rw [hp]; rfl
                have hpq := (int_eq hpn).2
                rw [hpb, Bool.and_true] at hms hmv
                have HMS := Lib.hid (And.intro hms hmv)
                have HLT := Lib.hid hlt
                have HLA := Lib.hid hla
                clear hp hpb hpn hms hmv hlm hlt hla
                go_enter Tryd.func35, Tryd.ntmps35
                go_wp2_with fail
                refine (hF.out _).mono ?_
                rintro e w1 ⟨rfl, rfl⟩
                go_wp2_with fail
                refine (hT.out _).mono ?_
                rintro e w1 ⟨rfl, rfl⟩
                go_wp2_with fail
                refine (hF2.out _).mono ?_
                rintro e w1 ⟨rfl, rfl⟩
                go_wp2_with fail
                clear hx5 hs5 q5 ip hpq cp
                go_loopg [9] n (fun g i wr => ∃ j : Nat, i = .int .i64 j ∧ j ≤ n ∧ g = n - j ∧ w = wr ∧ Hid ((r.take j).all tgtB = true))
                case atStart => exact ⟨0, rfl, Nat.zero_le _, by omega, rfl, by simp [Hid]⟩
                case round =>
                  obtain ⟨j, rfl, hj, hgj, rfl, hall⟩ := hrel
                  by_cases hlt : j < n
                  · obtain ⟨d, hd⟩ : ∃ d, r[j]? = some d := ⟨_, List.getElem?_eq_getElem (by omega)⟩
                    have id := S_get hd
                    have cd := u8_nat d
                    have j0 : (0 : Int) ≤ (j : Int) := by omega
                    have j1 : (j : Int) < (r.length : Int) := by omega
                    have HD := Lib.hid hd
                    clear hd
                    by_cases ht : tgtB d = true
                    · have h1 : 33 ≤ d.toNat ∧ d.toNat ≤ 126 := by simpa [tgtB] using ht
                      have h2 : ¬ d.toNat < 33 := by omega
                      have h3 : ¬ 126 < d.toNat := by omega
                      have HT := Lib.hid ht
                      have hkw := IntWalk.i64_in ((j : Int) + 1) (by omega)
                      clear ht h1
                      go_wp2_with fail
                      go_roundg (n - (j + 1))
                      case measure => omega
                      case rel => exact ⟨j + 1, by go_num, by omega, rfl, rfl, by rw [Hid, take_snoc HD.out, List.all_append, hall.out]; simp [HT.out]⟩
                    · have hbad : isTgt (r.take n) = false := by
                        unfold isTgt
                        rw [show (r.take n).all tgtB = false from by rw [List.all_eq_false]; exact ⟨d, List.mem_of_getElem? (i := j) (by rw [List.getElem?_take_of_lt hlt]; exact HD.out), ht⟩]
                        rfl
                      have HX := Lib.hid (HLT.out hbad)
                      by_cases h2 : d.toNat < 33
                      · clear ht hbad
                        go_wp2_with fail
                        refine bodyPost_ret (res4 rfl _ _ _) rfl ⟨?_, Keep.refl _ _⟩
                        rw [HX.out]
                        rfl
                      · have h3 : 126 < d.toNat := by
                          simp [tgtB] at ht
                          omega
                        clear ht hbad
                        go_wp2_with fail
                        refine bodyPost_ret (res4 rfl _ _ _) rfl ⟨?_, Keep.refl _ _⟩
                        rw [HX.out]
                        rfl
                  · have hjn : j = n := by omega
                    have hgt : isTgt (r.take n) = true := by
                      unfold isTgt
                      rw [← hjn, hall.out]
                      have : r.take j ≠ [] := by
                        intro e
                        have := congrArg List.length e
                        rw [List.length_take, List.length_nil] at this
                        omega
                      cases hq : r.take j with
                      | nil => exact absurd hq this
                      | cons _ _ => rfl
                    have hR := HLA.out hgt
                    have hge : ¬ (j : Int) < (n : Int) := by omega
                    clear hgt hjn hall hgj
                    have hx3 : (S r).extract 0 n = S (r.take n) := by rw [S_extract]; simp
                    generalize r.take n = xt at *
                    obtain ⟨hms, hmv⟩ := HMS.out
                    by_cases a1 : a.toNat < 48
                    · have hda : digB a = false := by simp [digB]; omega
                      rw [hda] at hms
                      have HX := Lib.hid (show R = lnBad by rw [hR, hms]; rfl)
                      clear hda
                      clear hR hms hmv
                      go_wp2_with fail
                      refine bodyPost_ret (res4 rfl _ _ _) rfl ⟨?_, Keep.refl _ _⟩
                      rw [HX.out]
                      rfl
                    · by_cases a2 : 57 < a.toNat
                      · have hda : digB a = false := by simp [digB]; omega
                        rw [hda] at hms
                        have HX := Lib.hid (show R = lnBad by rw [hR, hms]; rfl)
                        clear hda
                        clear hR hms hmv
                        go_wp2_with fail
                        refine bodyPost_ret (res4 rfl _ _ _) rfl ⟨?_, Keep.refl _ _⟩
                        rw [HX.out]
                        rfl
                      · have hda : digB a = true := by simp [digB]; omega
                        rw [hda] at hms hmv
                        by_cases c1 : c.toNat < 48
                        · have hdc : digB c = false := by simp [digB]; omega
                          rw [hdc] at hms
                          have HX := Lib.hid (show R = lnBad by rw [hR, hms]; rfl)
                          clear hda hdc
                          clear hR hms hmv
                          go_wp2_with fail
                          refine bodyPost_ret (res4 rfl _ _ _) rfl ⟨?_, Keep.refl _ _⟩
                          rw [HX.out]
                          rfl
                        · by_cases c2 : 57 < c.toNat
                          · have hdc : digB c = false := by simp [digB]; omega
                            rw [hdc] at hms
                            have HX := Lib.hid (show R = lnBad by rw [hR, hms]; rfl)
                            clear hda hdc
                            clear hR hms hmv
                            go_wp2_with fail
                            refine bodyPost_ret (res4 rfl _ _ _) rfl ⟨?_, Keep.refl _ _⟩
                            rw [HX.out]
                            rfl
                          · have hdc : digB c = true := by simp [digB]; omega
                            rw [hdc] at hms hmv
                            simp only [Bool.and_self, if_true] at hms hmv
                            by_cases ha : a = 49
                            · have han : ((a.toNat : Nat) : Int) = 49 := by rw [ha]; rfl
                              have haq := (int_eq han).2
                              by_cases hc : c.toNat ≤ 49
                              · rw [if_pos ⟨ha, hc⟩] at hms hmv
                                have hcq : decide (((c.toNat : Nat) : Int) > 49) = false := by simp; omega
                                have hwr := IntWalk.u8_in ((c.toNat : Int) - 48) (by omega)
                                have hwi := IntWalk.i64_in ((c.toNat : Int) - 48) (by omega)
                                have k0 : (0 : Int) ≤ (k : Int) := by omega
                                have k1 : (k : Int) ≤ (l.length : Int) := by omega
                                have n0 : (0 : Int) ≤ (n : Int) := by omega
                                have n1 : (n : Int) ≤ (r.length : Int) := by omega
                                have HX := Lib.hid (show R = ⟨xm, xt, (c.toNat : Int) - 48, 200⟩ by rw [hR, hms, if_pos rfl, hmv])
                                clear hda hdc ha han hR hms hmv
                                go_wp2_with fail
                                refine wp_region_quiet_lit (by kernel_rfl) (by kernel_rfl) ?_
                                repeat (go_big_quiet_step (fail))
                                refine wpQuiet_nil ?_
                                intro _ hw'
                                obtain ⟨nq, hw''⟩ := hw'
                                subst hw''
                                go_wp2_with fail
                                refine bodyPost_ret (res4 rfl _ _ _) rfl ⟨?_, (Keep.refl _ _).drewN _⟩
                                rw [HX.out]
                                rfl
                              · rw [if_neg (fun h => hc h.2)] at hms
                                have hcq : decide (((c.toNat : Nat) : Int) > 49) = true := by simp; omega
                                have HX := Lib.hid (show R = ⟨[], [], 0, 505⟩ by rw [hR, hms]; rfl)
                                clear hda hdc ha han
                                clear hR hms hmv
                                go_wp2_with fail
                                refine bodyPost_ret (res4 rfl _ _ _) rfl ⟨?_, Keep.refl _ _⟩
                                rw [HX.out]
                                rfl
                            · rw [if_neg (fun h => ha h.1)] at hms
                              have han : ((a.toNat : Nat) : Int) ≠ 49 := fun e => ha (UInt8.toNat_inj.1 (by show a.toNat = 49; omega))
                              have haq := (int_ne han).2
                              have HX := Lib.hid (show R = ⟨[], [], 0, 505⟩ by rw [hR, hms]; rfl)
                              clear hda hdc ha han
                              clear hR hms hmv
                              go_wp2_with fail
                              refine bodyPost_ret (res4 rfl _ _ _) rfl ⟨?_, Keep.refl _ _⟩
                              rw [HX.out]
                              rfl
              · have hpb : (p == 46) = false := by simp [hp]
                have hpn : ((p.toNat : Nat) : Int) ≠ 46 := fun e => hp (UInt8.toNat_inj.1 (by show p.toNat = 46; omega))
                have hpq := (int_ne hpn).2
                rw [hpb, Bool.and_false] at hms
                have HX := Lib.hid (hlm (hms.trans (by simp)))
                clear hlm hlt hla hp hpb hpn hms hmv
                go_enter Tryd.func35, Tryd.ntmps35
                go_wp2_with fail
                refine (hF.out _).mono ?_
                rintro e w1 ⟨rfl, rfl⟩
                go_wp2_with fail
                refine (hT.out _).mono ?_
                rintro e w1 ⟨rfl, rfl⟩
                go_wp2_with fail
                refine (hF2.out _).mono ?_
                rintro e w1 ⟨rfl, rfl⟩
                go_wp2_with fail
                refine bodyPost_ret (res4 rfl _ _ _) rfl ⟨?_, Keep.refl _ _⟩
                rw [HX.out]
                rfl
            · have HX := Lib.hid (hlm (min_http h5))
              have q5 : ((r.drop (n + 1)).take 5 == [72, 84, 84, 80, 47]) = false := by rw [beq_eq_false_iff_ne]; exact h5
              generalize (r.drop (n + 1)).take 5 = x5 at *
              have hs5 := S_toList x5
              have hw2 := IntWalk.i64_in ((n : Int) + 1) (by omega)
              have hw3 := IntWalk.i64_in ((n : Int) + 6) (by omega)
              have b1 : (n : Int) + 6 ≤ (r.length : Int) := by omega
              have b2 : (0 : Int) ≤ (n : Int) + 1 := by omega
              have b3 : (n : Int) + 1 ≤ (n : Int) + 6 := by omega
              have b0 : (0 : Int) ≤ (n : Int) + 6 := by omega
              clear hlm hlt hla h9 h9'
              go_enter Tryd.func35, Tryd.ntmps35
              go_wp2_with fail
              refine (hF.out _).mono ?_
              rintro e w1 ⟨rfl, rfl⟩
              go_wp2_with fail
              refine (hT.out _).mono ?_
              rintro e w1 ⟨rfl, rfl⟩
              go_wp2_with fail
              refine (hF2.out _).mono ?_
              rintro e w1 ⟨rfl, rfl⟩
              go_wp2_with fail
              refine bodyPost_ret (res4 rfl _ _ _) rfl ⟨?_, Keep.refl _ _⟩
              rw [HX.out]
              rfl
          · have h9' : (r.length : Int) - (n : Int) ≠ 9 := by omega
            have h9q := (int_ne h9').2
            have HX := Lib.hid (hlm (min_len (by simp; omega)))
            clear hlm hlt hla h9 h9'
            go_enter Tryd.func35, Tryd.ntmps35
            go_wp2_with fail
            refine (hF.out _).mono ?_
            rintro e w1 ⟨rfl, rfl⟩
            go_wp2_with fail
            refine (hT.out _).mono ?_
            rintro e w1 ⟨rfl, rfl⟩
            go_wp2_with fail
            refine (hF2.out _).mono ?_
            rintro e w1 ⟨rfl, rfl⟩
            go_wp2_with fail
            refine bodyPost_ret (res4 rfl _ _ _) rfl ⟨?_, Keep.refl _ _⟩
            rw [HX.out]
            rfl
end Go.Proofs.YtmfnciocnlmceaaDoor

/- Layer 12: what the statements are awake to; the statement InletLines. No conditions. -/
namespace Go.Proofs.YtmfnciocnlmceaaDoor
open Go.RowKit Go.Shelf

def aiS1 : List UInt8 := [71, 69, 84, 32, 47, 118, 50, 47, 32, 72, 84, 84, 80, 47, 49, 46, 49, 13, 10, 72, 111, 115, 116, 58, 32, 97, 13, 10, 13, 10, 71, 69, 84]
def aiS2 : List UInt8 := [71, 69, 84, 32, 47, 32, 72, 84, 84, 80, 47, 49, 46, 49, 13, 10, 72, 111, 115, 116, 58, 32, 97, 13, 10, 67, 111, 110, 116, 101, 110, 116, 45, 76, 101, 110, 103, 116, 104, 58, 32, 53, 48, 48, 48, 13, 10, 13, 10]
def aiS3 : List UInt8 := [71, 69, 84, 32, 47, 32, 72, 84, 84, 80, 47, 50, 46, 48]
def aiI1 : InS := { in0 with inp := aiS1 }
def aiI2 : InS := { in0 with inp := [71, 69, 84] }
def aiJ1 : InS := { in0 with inp := aiS2 }
def aiQ : Req := ⟨[71, 69, 84], [47, 118, 50, 47], [⟨[72, 111, 115, 116], [97]⟩], false⟩
theorem ai1 : inAdd in0 aiS1 = (aiI1, 0) := by kernel_rfl
theorem ai2 : nextI aiI1 = ⟨aiI2, aiQ, 200⟩ := by kernel_rfl
theorem ai3 : nextI aiI2 = ⟨aiI2, req0, 0⟩ := by kernel_rfl
theorem ai4 : inAdd in0 aiS2 = (aiJ1, 0) := by kernel_rfl
theorem ai5 : nextI aiJ1 = ⟨{ aiJ1 with st := 413 }, req0, 413⟩ := by kernel_rfl
theorem ai6 : lnM aiS3 = ⟨[], [], 0, 505⟩ := by kernel_rfl
theorem aiI1_ok : aiI1.ok := by have h := inAdd_ok in0_ok aiS1; rw [ai1] at h; exact h
theorem aiI2_ok : aiI2.ok := by have h := next_ok aiI1_ok; rw [ai2] at h; exact h
theorem aiJ1_ok : aiJ1.ok := by have h := inAdd_ok in0_ok aiS2; rw [ai4] at h; exact h
set_option maxRecDepth 100000 in
set_option maxHeartbeats 8000000 in
theorem inlet_awake (w : World) (hm : ML w) : Calls Tryd.prog 34 #[] w fun e w' => e = .returned (.bool true) ∧ Keep [] w w' := by
  have hbig := hm.lt
  have HM := Lib.hid hm
  have HN := Lib.hid (fun w' (k : Keep [] w w') => inlet_New w.heap.size w' k.size)
  have HLn := Lib.hid (fun w' (k : Keep [] w w') => inlet_Line aiS3 w' (hm.keep k (by simp)) (by decide))
  rw [ai6] at HLn
  unfold Ln.out at HLn
  dsimp only at HLn
  have t1 := S_toList [71, 69, 84]
  have t2 := S_toList [47, 118, 50, 47]
  clear hm
  go_enter Tryd.func34, Tryd.ntmps34
  go_wp2_with fail
  refine (HN.out _ (Keep.refl _ _)).mono ?_
  rintro e w1 ⟨p, rfl, hp, hx, k1⟩
  have K1 := Lib.hid k1
  have HA := Lib.hid (inlet_Add aiS1 hx (by decide) (by decide))
  rw [ai1] at HA
  have P1 := Lib.hid hx
  clear hx k1
  go_wp2_with fail
  refine HA.out.mono ?_
  rintro e w2 ⟨rfl, hx, k2⟩
  have K2 := Lib.hid (K1.out.above k2 (by intro x hh; simp at hh; omega))
  have HX := Lib.hid (inlet_Next hx (HM.out.keep K2.out (by simp)) K2.out.size hbig aiI1_ok)
  rw [ai2] at HX
  unfold NextOut at HX
  dsimp only at HX
  have P2 := Lib.hid hx
  clear hx k2 HA P1
  go_wp2_with fail
  refine HX.out.mono ?_
  rintro e w3 ⟨v, X3, R3, rfl, hx, k3, n3, r3, ho, hg⟩
  obtain ⟨sa, sc, rfl, _⟩ := ho.shape
  have K3 := Lib.hid (K2.out.above k3 (fun x hh => (P2.out.lo x hh).1))
  have kA := (Keep.refl [] w3).alloc (.cells (reqC aiQ.m aiQ.t (.slice sa aiQ.F.length sc) aiQ.cl).toArray 65)
  have bA := Blk.newA w3 (reqC aiQ.m aiQ.t (.slice sa aiQ.F.length sc) aiQ.cl).toArray 65
  generalize hwA : w3.alloc (.cells (reqC aiQ.m aiQ.t (.slice sa aiQ.F.length sc) aiQ.cl).toArray 65) = wA at kA bA
  have P3 := Lib.hid (hx.keep0 kA)
  have KA := Lib.hid (K3.out.trans kA)
  have BA := Lib.hid (show Blk wA w3.heap.size 65 (reqC aiQ.m aiQ.t (.slice sa aiQ.F.length sc) aiQ.cl) from bA)
  have hnX := Lib.hid (show w3.heap.size ∉ X3 from fun hh => by have := (hx.lo _ hh).2; omega)
  have HX2 := Lib.hid (inlet_Next P3.out (HM.out.keep KA.out (by simp)) KA.out.size hbig aiI2_ok)
  rw [ai3] at HX2
  unfold NextOut at HX2
  dsimp only at HX2
  have HO1 := Lib.hid (reqC_one aiQ.m aiQ.t (v := .slice sa aiQ.F.length sc) aiQ.cl rfl)
  clear hx k3 n3 r3 ho hg kA bA HX P2 K1 K2
  go_wp2_with (first
    | (with_reducible (show wpList _ _ _ ((⟨none, .store _ (.tmp 2) (.tmp 24), _, _, _, none⟩ : Oper) :: _) _ _)
       refine wpList_store_fresh rfl 65 (.tmp 2) (.tmp 24) rfl _ (reqC aiQ.m aiQ.t (.slice sa aiQ.F.length sc) aiQ.cl) (by rfl) (by rfl) req_size (by rfl) HO1.out ?_
       rw [hwA]
       try simp only [Act.put, List.setIfInBounds_toArray, List.set_cons_succ, List.set_cons_zero])
    | fail)
  refine HX2.out.mono ?_
  rintro e w4 ⟨v, X4, R4, rfl, hx, k4, n4, r4, ho, hg⟩
  obtain ⟨sb, sd, rfl, _⟩ := ho.shape
  have K4 := Lib.hid (KA.out.above k4 (fun x hh => (P3.out.lo x hh).1))
  have B4 := Lib.hid (k4.blk BA.out hnX.out)
  have kB := (Keep.refl [] w4).alloc (.cells (reqC req0.m req0.t (.slice sb req0.F.length sd) req0.cl).toArray 65)
  generalize hwB : w4.alloc (.cells (reqC req0.m req0.t (.slice sb req0.F.length sd) req0.cl).toArray 65) = wB at kB
  have P4 := Lib.hid (hx.keep0 kB)
  have KB := Lib.hid (K4.out.trans kB)
  have BB := Lib.hid (kB.blk B4.out (by simp))
  have HO2 := Lib.hid (reqC_one req0.m req0.t (v := .slice sb req0.F.length sd) req0.cl rfl)
  clear hx k4 n4 r4 ho hg kB HX2 hnX BA KA P3 B4 K4 hwA HO1
  go_wp2_with (first
    | (with_reducible (show wpList _ _ _ ((⟨none, .store _ (.tmp 4) (.tmp 29), _, _, _, none⟩ : Oper) :: _) _ _)
       refine wpList_store_fresh rfl 65 (.tmp 4) (.tmp 29) rfl _ (reqC req0.m req0.t (.slice sb req0.F.length sd) req0.cl) (by rfl) (by rfl) req_size (by rfl) HO2.out ?_
       rw [hwB]
       try simp only [Act.put, List.setIfInBounds_toArray, List.set_cons_succ, List.set_cons_zero])
    | fail)
  refine (HN.out _ KB.out).mono ?_
  rintro e w5 ⟨q, rfl, hq, hx, k5⟩
  have K5 := Lib.hid (KB.out.trans k5)
  have P5 := Lib.hid (P4.out.keep0 k5)
  have B5 := Lib.hid (k5.blk BB.out (by simp))
  have HA := Lib.hid (inlet_Add aiS2 hx (by decide) (by decide))
  rw [ai4] at HA
  have Q5 := Lib.hid hx
  have hs1 := P4.out.lo
  have hs2 := P4.out.ro
  have hb1 := BB.out.lt
  have SP := Lib.hid (show (∀ x ∈ X4, x ∉ [q]) ∧ (∀ x ∈ R4, x ∉ [q]) ∧ w3.heap.size ∉ [q] from ⟨fun x hh => by have := (hs1 x hh).2; simp; omega, fun x hh => by have := (hs2 x hh).2.1; simp; omega, by simp; omega⟩)
  clear hx k5 hs1 hs2 hb1 hwB HO2 KB P4 BB
  go_wp2_with fail
  refine HA.out.mono ?_
  rintro e w6 ⟨rfl, hx, k6⟩
  have K6 := Lib.hid (K5.out.above k6 (by intro x hh; have := (Q5.out.lo x (by simpa using hh)).1; omega))
  have P6 := Lib.hid (P5.out.keep k6 SP.out.1 SP.out.2.1)
  have B6 := Lib.hid (k6.blk B5.out SP.out.2.2)
  have HX := Lib.hid (inlet_Next hx (HM.out.keep K6.out (by simp)) K6.out.size hbig aiJ1_ok)
  rw [ai5] at HX
  unfold NextOut at HX
  dsimp only at HX
  have Q6 := Lib.hid hx
  clear hx k6 HA Q5 K5 P5 B5
  go_wp2_with fail
  refine HX.out.mono ?_
  rintro e w7 ⟨v, X7, R7, rfl, hx, k7, n7, r7, ho, hg⟩
  obtain ⟨sb, sd, rfl, _⟩ := ho.shape
  have K7 := Lib.hid (K6.out.above k7 (fun x hh => (Q6.out.lo x hh).1))
  have P7 := Lib.hid (P6.out.keep k7 SP.out.1 SP.out.2.1)
  have B7 := Lib.hid (k7.blk B6.out SP.out.2.2)
  have kB := (Keep.refl [] w7).alloc (.cells (reqC req0.m req0.t (.slice sb req0.F.length sd) req0.cl).toArray 65)
  generalize hwB : w7.alloc (.cells (reqC req0.m req0.t (.slice sb req0.F.length sd) req0.cl).toArray 65) = wB at kB
  have P8 := Lib.hid (P7.out.keep0 kB)
  have Q8 := Lib.hid (hx.keep0 kB)
  have K8 := Lib.hid (K7.out.trans kB)
  have B8 := Lib.hid (kB.blk B7.out (by simp))
  have HO2 := Lib.hid (reqC_one req0.m req0.t (v := .slice sb req0.F.length sd) req0.cl rfl)
  clear hx k7 n7 r7 ho hg kB HX Q6 K6 P6 B6 SP K7 P7 B7
  go_wp2_with (first
    | (with_reducible (show wpList _ _ _ ((⟨none, .store _ (.tmp 7) (.tmp 37), _, _, _, none⟩ : Oper) :: _) _ _)
       refine wpList_store_fresh rfl 65 (.tmp 7) (.tmp 37) rfl _ (reqC req0.m req0.t (.slice sb req0.F.length sd) req0.cl) (by rfl) (by rfl) req_size (by rfl) HO2.out ?_
       rw [hwB]
       try simp only [Act.put, List.setIfInBounds_toArray, List.set_cons_succ, List.set_cons_zero])
    | fail)
  refine (HLn.out _ K8.out).mono ?_
  rintro e w9 ⟨rfl, k9⟩
  have K9 := Lib.hid (K8.out.trans k9)
  have B9 := k9.blk B8.out (by simp)
  have b0 := B9.get (k := 0) (v := .string (S [71, 69, 84])) rfl
  have b1 := B9.get (k := 1) (v := .string (S [47, 118, 50, 47])) rfl
  have b2 := B9.get (k := 2) (v := .slice sa 1 sc) rfl
  have b3 := B9.get (k := 3) (v := .bool false) rfl
  have HL := Lib.hid (inlet_Left (P8.out.keep0 k9) (by decide))
  have hl3 : aiI2.left = 3 := rfl
  rw [hl3] at HL
  have Q9 := Lib.hid (Q8.out.keep0 k9)
  clear hwB HO2 K8 P8 B8 Q8 k9 B9 HLn hl3
  go_wp2_with fail
  refine HL.out.mono ?_
  rintro e w10 ⟨rfl, k10⟩
  have K10 := Lib.hid (K9.out.trans k10)
  have HA := Lib.hid (inlet_Add [120] (Q9.out.keep0 k10) (by decide) (by decide))
  have h8 : (inAdd { aiJ1 with st := 413 } [120]).2 = 8 := by kernel_rfl
  rw [h8] at HA
  have hX7 := Lib.hid (Q9.out.base)
  clear h8 k10 HL
  go_wp2_with fail
  refine HA.out.mono ?_
  rintro e w11 ⟨rfl, _, k11⟩
  have K11 := Lib.hid (K10.out.above k11 (by intro x hh; have := hX7.out; simp at hh; omega))
  clear k11
  go_wp2_with fail
  go_ret
  exact ⟨rfl, K11.out⟩

set_option maxRecDepth 100000 in
set_option maxHeartbeats 4000000 in
theorem inletLines_walk (s : List UInt8) (w : World) (hm : ML w) (hs : s.length ≤ maxLen) :
    Calls Tryd.prog 9 #[.string (S s)] w fun e w' => e = .returned (.bool true) ∧ Keep [] w w' := by
  have hs' : s.length ≤ 9223372036854775807 := hs
  have s0 := S_size s
  have HA := Lib.hid (inlet_awake w hm)
  by_cases hl : 4096 < s.length
  · have q : decide ((s.length : Int) > 4096) = true := by simp; omega
    clear hl hm
    go_enter Tryd.func9, Tryd.ntmps9
    go_wp2_with fail
    refine HA.out.mono ?_
    rintro e w1 ⟨rfl, k1⟩
    have K1 := Lib.hid k1
    clear k1
    go_wp2_with fail
    go_ret
    exact ⟨rfl, K1.out⟩
  · have q : decide ((s.length : Int) > 4096) = false := by simp; omega
    have H1 := Lib.hid (fun w' (k : Keep [] w w') => inlet_Line s w' (hm.keep k (by simp)) (by omega))
    have H2 := Lib.hid (fun w' => ref12_Line s w' (by omega))
    unfold Ln.out at H1 H2
    generalize lnM s = ln at *
    obtain ⟨lm, lt, lv, ls⟩ := ln
    dsimp only at H1 H2
    have t1 := S_toList lm
    have t2 := S_toList lt
    clear hl hm
    go_enter Tryd.func9, Tryd.ntmps9
    go_wp2_with fail
    refine HA.out.mono ?_
    rintro e w1 ⟨rfl, k1⟩
    have K1 := Lib.hid k1
    clear k1
    go_wp2_with fail
    refine (H1.out _ K1.out).mono ?_
    rintro e w2 ⟨rfl, k2⟩
    have K2 := Lib.hid (K1.out.trans k2)
    clear k2
    go_wp2_with fail
    refine (H2.out _).mono ?_
    rintro e w3 ⟨rfl, k3⟩
    have K3 := Lib.hid (K2.out.trans k3)
    clear k3
    go_wp2_with fail
    go_ret
    exact ⟨ret_bool (by simp), K3.out⟩
end Go.Proofs.YtmfnciocnlmceaaDoor

/- Layer 12: the statement InletCuts. No conditions. -/
namespace Go.Proofs.YtmfnciocnlmceaaDoor
open Go.RowKit Go.Shelf

theorem add_in (J : InS) (t : List UInt8) (h0 : J.st = 0) (hl : J.left + t.length ≤ 16384) : inAdd J t = (J.add t, 0) := by
  unfold inAdd
  rw [if_neg (by simp [h0]), if_neg (by omega)]
  rfl
/-- what a list of requests leaves alone: its blocks -/
theorem Rs.off {B : Nat} {w w' : World} {vo : Value} {Z S : List Nat} {EL : List RqE} {L : List Req} (h : Rs B w vo Z EL L) (k : Keep S w w') (N : Nat) (hN : w.heap.size ≤ N) (b : Nat) (hv : ∀ g, vo.ownBlock = some g → g ≠ b) (hZ : ∀ z ∈ Z, z ≠ b) (hS : ∀ x ∈ S, x = b ∨ N ≤ x) : Rs B w' vo Z EL L :=
  h.keep k (fun g hg hh => by
    rcases hS g hh with h1 | h1
    · exact hv g hg h1
    · have := (h.own.lt g hg).2; omega) (fun z hz hh => by
    rcases hS z hh with h1 | h1
    · exact hZ z hz h1
    · have := h.lo z hz; omega)
theorem addr_add (g j : Nat) : (⟨g, 0, none⟩ : Addr).add j = ⟨g, j, none⟩ := by unfold Addr.add; split <;> simp_all
theorem slice_len {B : Nat} {w : World} {vo : Value} {Z : List Nat} {EL : List RqE} {L : List Req} (h : Rs B w vo Z EL L) : ∃ g cap, vo = .slice (some ⟨g, 0, none⟩) L.length cap ∧ ∀ (i : Nat) (x : RqE), EL[i]? = some x → w.rangeAt g (i * 4) x.cells := by
  obtain ⟨g, cap, h1, h2⟩ := own_at h.own h.nn
  exact ⟨g, cap, by rw [h1, h.len], fun i x hx => own_range h2 hx⟩
theorem El1.keep0 {B : Nat} {w w' : World} {x : RqE} {q : Req} (h : El1 B w x q) (k : Keep [] w w') : El1 B w' x q := ⟨h.1, h.2.1, h.2.2.1, h.2.2.2.keep0 k⟩
theorem range_ext {w wr w' : World} {g o : Nat} {cs : List Value} (h : w.rangeAt g o cs) (k : Keep [] w wr) (hw : ∃ n, w' = ext wr n) : w'.rangeAt g o cs := by
  obtain ⟨n, rfl⟩ := hw
  exact fun j v hv => (k.trans (ext_keep _ n)).load (h j v hv)
set_option maxRecDepth 100000 in
set_option maxHeartbeats 16000000 in
theorem inletCuts_walk (s : List UInt8) (at' : Int) (w : World) (hm : ML w) (hs : s.length ≤ maxLen) (_ : in64 at') :
    Calls Tryd.prog 10 #[.string (S s), .int .i64 at'] w fun e w' => e = .returned (.bool true) ∧ Keep [] w w' := by
  have hs' : s.length ≤ 9223372036854775807 := hs
  have s0 := S_size s
  have HAw := Lib.hid (inlet_awake w hm)
  have hbig := hm.lt
  have HM := Lib.hid hm
  by_cases hl : 2048 < s.length
  · have q : decide ((s.length : Int) > 2048) = true := by simp; omega
    clear hl hm
    go_enter Tryd.func10, Tryd.ntmps10
    go_wp2_with fail
    refine HAw.out.mono ?_
    rintro e w1 ⟨rfl, k1⟩
    have K1 := Lib.hid k1
    clear k1
    go_wp2_with fail
    go_ret
    exact ⟨rfl, K1.out⟩
  have q : decide ((s.length : Int) > 2048) = false := by simp; omega
  have hl2 : s.length ≤ 2048 := by omega
  obtain ⟨p, hp, ep⟩ := u64_mod at' (s.length + 1) (by omega)
  replace ep : (IntKind.u64.wrap at').tmod ((s.length : Int) + 1) = (p : Int) := by rw [← ep]; congr 1
  have hx1 : (S s).extract 0 p = S (s.take p) := by rw [S_extract, List.drop_zero]
  have hx2 : (S s).extract p s.length = S (s.drop p) := by rw [S_extract, List.take_length]
  have hpi : ((p : Nat) : Int) ≤ (s.length : Int) := by omega
  have HN := Lib.hid (fun w' (k : Keep [] w w') => inlet_New w.heap.size w' k.size)
  obtain ⟨is, Hs⟩ := reqinfo'
  clear hl hm
  go_enter Tryd.func10, Tryd.ntmps10
  go_wp2_with fail
  refine HAw.out.mono ?_
  rintro e w1 ⟨rfl, k1⟩
  have K1 := Lib.hid k1
  clear k1
  go_wp2_with fail
  refine (HN.out _ K1.out).mono ?_
  rintro e w2 ⟨a, rfl, ha, hia, k2⟩
  have K2 := Lib.hid (K1.out.trans k2)
  have IA := Lib.hid hia
  clear k2 hia
  go_wp2_with fail
  refine (HN.out _ K2.out).mono ?_
  rintro e w3 ⟨b, rfl, hb, hib, k3⟩
  have K3 := Lib.hid (K2.out.trans k3)
  have IA3 := Lib.hid (IA.out.keep0 k3)
  have IB := Lib.hid hib
  clear k3 hib
  go_wp2_with fail
  refine (HN.out _ K3.out).mono ?_
  rintro e w4 ⟨c, rfl, hc, hic, k4⟩
  have K4 := Lib.hid (K3.out.trans k4)
  have IA4 := Lib.hid (IA3.out.keep0 k4)
  have IB4 := Lib.hid (IB.out.keep0 k4)
  have IC := Lib.hid hic
  have hab : a < b := by have := IA.out.lt; omega
  have hbc : b < c := by have := IB.out.lt; omega
  have hcl : c < w4.heap.size := hic.lt
  have hab0 : w.heap.size ≤ a := IA.out.base
  have HAd := Lib.hid (inlet_Add s IA4.out (by decide) (by omega))
  rw [add_in in0 s rfl (by show 0 + s.length ≤ 16384; omega)] at HAd
  clear k4 hic IA IA3 IB HN HAw K1 K2 K3
  go_wp2_with fail
  refine HAd.out.mono ?_
  rintro e w5 ⟨rfl, hia, k5⟩
  have K5 := Lib.hid (K4.out.above k5 (by intro x hh; have h9 : x = a := (by simpa using hh); omega))
  have IB5 := Lib.hid (IB4.out.keep k5 (by simp; omega) (by simp))
  have IC5 := Lib.hid (IC.out.keep k5 (by simp; omega) (by simp))
  have hcl5 : c < w5.heap.size := Nat.lt_of_lt_of_le hcl k5.size
  have HAl := Lib.hid (inlet_all hia (HM.out.keep K5.out (by simp)) K5.out.size hbig (in0_addok s (by omega)) rfl (by show ([] ++ s).length + 0 ≤ 16000; simp; omega))
  unfold AllOut at HAl
  clear k5 hia IA4 IB4 IC HAd K4
  go_wp2_with fail
  refine HAl.out.mono ?_
  rintro e w6 ⟨vx, Zx, Ex, Lx, n, Ja, Xa, Ra, rfl, ala, _, k6, _, _, rx, zx, nx, _, _⟩
  have ALA := Lib.hid ala
  have RX := Lib.hid rx
  have K6 := Lib.hid (K5.out.above k6 (by intro x hh; have h9 : x = a := (by simpa using hh); omega))
  have IB6 := Lib.hid (IB5.out.keep k6 (by simp; omega) (by simp))
  have IC6 := Lib.hid (IC5.out.keep k6 (by simp; omega) (by simp))
  have XB := Lib.hid (show (∀ g, vx.ownBlock = some g → w5.heap.size ≤ g) ∧ (∀ z ∈ Zx, w5.heap.size ≤ z) from ⟨fun g hg => (nx g hg).1, fun z hz => by
    rcases (zx z hz).2 with h | h
    · simp at h
    · exact h⟩)
  have hAd2 := inlet_Add (s.take p) IB6.out (by decide) (by rw [List.length_take]; omega)
  rw [add_in in0 (s.take p) rfl (by show 0 + (s.take p).length ≤ 16384; rw [List.length_take]; omega)] at hAd2
  have HAd := Lib.hid hAd2
  have hk6 := k6.size
  clear ala rx zx nx k6 HAl IB5 IC5 K5 hAd2
  go_wp2_with fail
  refine HAd.out.mono ?_
  rintro e w7 ⟨rfl, hib, k7⟩
  have K7 := Lib.hid (K6.out.above k7 (by intro x hh; have h9 : x = b := (by simpa using hh); omega))
  have IC7 := Lib.hid (IC6.out.keep k7 (by simp; omega) (by simp))
  have RX7 := Lib.hid (RX.out.keep k7 (fun g hg => by have := XB.out.1 g hg; simp; omega) (fun z hz => by have := XB.out.2 z hz; simp; omega))
  have hk7 := k7.size
  have HAl := Lib.hid (inlet_all hib (HM.out.keep K7.out (by simp)) K7.out.size hbig (in0_addok (s.take p) (by rw [List.length_take]; omega)) rfl (by show ([] ++ s.take p).length + 0 ≤ 16000; simp; omega))
  unfold AllOut at HAl
  clear k7 hib IB6 IC6 RX HAd K6
  go_wp2_with fail
  refine HAl.out.mono ?_
  rintro e w8 ⟨vy, Zy, Ey, Ly, m, Jb, Xb, Rb, rfl, alb, hib, k8, xb, rb, ry, zy, ny, lfb, okb⟩
  have hk8 := k8.size
  have hcat : (in0.add (s.take p)).add (s.drop p) = in0.add s := by
    refine inS_ext ?_ rfl rfl rfl rfl rfl
    simp only [InS.add, in0, List.nil_append]
    rw [List.take_append_drop]
  have happ := alls_app alb (s.drop p) (in0_addok _ (by rw [List.length_take]; omega)) rfl
  rw [hcat] at happ
  have hlb : Jb.left ≤ 2048 := by
    have : (in0.add (s.take p)).left = (s.take p).length := by simp [InS.left, InS.add, in0]
    rw [List.length_take] at this
    omega
  have ALB := Lib.hid happ
  have IB8 := Lib.hid hib
  have K8 := Lib.hid k8
  have XB8 := Lib.hid (And.intro xb rb)
  have RY := Lib.hid ry
  have ZY := Lib.hid (And.intro zy ny)
  have HYL := Lib.hid (show (∀ g, vy.ownBlock = some g → w7.heap.size ≤ g) ∧ ∀ z ∈ Zy, w7.heap.size ≤ z from ⟨fun g hg => (ny g hg).1, fun z hz => (zy z hz).2.elim (fun h => by simp at h) id⟩)
  have HRB := Lib.hid (show ∀ x ∈ Rb, w7.heap.size ≤ x from fun x hx => (rb x hx).elim (fun h => by simp at h) id)
  have LFB := Lib.hid (show 2 * Ly.length ≤ 2048 by
    have : (in0.add (s.take p)).left = (s.take p).length := by simp [InS.left, InS.add, in0]
    rw [List.length_take] at this
    omega)
  have OKB := Lib.hid okb
  clear alb hib k8 xb rb ry zy ny lfb okb happ hcat HAl
  go_upto_if 56 with fail
  go_cut [11, 12] (fun yv mv wx => ∃ (vy' : Value) (Zy' : List Nat) (Ey' : List RqE), yv = vy' ∧ mv = .int .i64 n ∧ Hid (Rs w.heap.size wx vy' Zy' Ey' Lx) ∧ Hid (Keep [b] w7 wx) ∧ Hid ((∀ g, vy'.ownBlock = some g → w7.heap.size ≤ g) ∧ ∀ z ∈ Zy', w7.heap.size ≤ z))
  case first =>
    by_cases hm0 : m = 0
    case neg =>
      have q1 := (int_ne hm0).1
      obtain ⟨p', hp'⟩ := ALB.out.2.1 hm0
      obtain ⟨e1, e2, _⟩ := alls_det ALA.out hp'
      subst e1 e2
      clear hm0 hp'
      go_wp2_with fail
      go_meet
      exact ⟨vy, Zy, Ey, rfl, rfl, RY, K8, HYL⟩
    case pos =>
      subst hm0
      have hst := ALB.out.2.2.1 rfl
      have HFU := Lib.hid (ALB.out.1 rfl)
      have hAd2 := inlet_Add (s.drop p) IB8.out (by have := OKB.out.len; omega) (by rw [List.length_drop]; omega)
      rw [add_in Jb (s.drop p) hst (by rw [List.length_drop]; omega)] at hAd2
      have HAd := Lib.hid hAd2
      have HST := Lib.hid hst
      have X8 := XB8.out.1
      have hXb : ∀ x ∈ Xb, w.heap.size ≤ x := fun x hx => by
        rcases X8 x hx with h | h
        · have : x = b := by simpa using h
          omega
        · have := K7.out.size; omega
      have hlo8 := IB8.out.lo b IB8.out.mem
      have hbX : b ∈ Xb := IB8.out.mem
      have HXb := Lib.hid (And.intro X8 hXb)
      clear hAd2 hst X8 hXb
      go_wp2_with fail
      refine HAd.out.mono ?_
      rintro e w9 ⟨rfl, hib, k9⟩
      have K9 := Lib.hid (K8.out.trans k9)
      have hw9 : Keep [] w w9 := K7.out.above K9.out (by intro x hh; have h9 : x = b := (by simpa using hh); omega)
      have HW9 := Lib.hid hw9
      have hbV : (∀ g, vy.ownBlock = some g → g ≠ b) ∧ ∀ z ∈ Zy, z ≠ b := ⟨fun g hg hh => (ZY.out.2 g hg).2.1 (hh ▸ hbX), fun z hz hh => (ZY.out.1 z hz).1 (hh ▸ hbX)⟩
      have RY9 := Lib.hid (RY.out.keep k9 (fun g hg => by simpa using hbV.1 g hg) (fun z hz => by simpa using hbV.2 z hz))
      have hb9 := k9.size
      have hJa : (Jb.add (s.drop p)).ok := by
        have := inAdd_ok OKB.out (s.drop p)
        rw [add_in Jb (s.drop p) HST.out (by rw [List.length_drop]; omega)] at this
        exact this
      have hJl : (Jb.add (s.drop p)).left ≤ 4096 := by
        have e : (Jb.add (s.drop p)).left = Jb.left + (s.drop p).length := by simp [InS.left, InS.add]; omega
        rw [e, List.length_drop]; omega
      have HAl := Lib.hid (inlet_all hib (HM.out.keep hw9 (by simp)) hw9.size hbig hJa HST.out (by omega))
      unfold AllOut at HAl
      clear k9 hib HAd hw9 hJa
      go_wp2_with fail
      refine HAl.out.mono ?_
      rintro e w10 ⟨vm, Zm, Em, Lm, i, Jc, Xc, Rc, rfl, alm, him, k10, x10, r10, rm, zm, nm, lfm, okm⟩
      have hfull := HFU.out _ _ _ alm
      obtain ⟨e1, e2, _⟩ := alls_det ALA.out hfull
      subst e2
      have K10 := Lib.hid (K9.out.trans' k10 (fun x hx hlt => by
        rcases HXb.out.1 x hx with h | h
        · exact h
        · omega))
      have ry10 := RY9.out.keep k10 (fun g hg => (ZY.out.2 g hg).2.1) (fun z hz => (ZY.out.1 z hz).1)
      have hsepm : ∀ g, vy.ownBlock = some g → g ∉ Zm := fun g hg hh => by
        rcases (zm g hh).2 with h | h
        · exact (ZY.out.2 g hg).2.2 h
        · have := (RY9.out.own.lt g hg).2; omega
      obtain ⟨gm, cm, rfl, hrm⟩ := own_at rm.own rm.nn
      have hB10 : w.heap.size ≤ w10.heap.size := by have := k10.size; have := HW9.out.size; omega
      have h63 : Ey.length + Em.length ≤ maxLen := by have := LFB.out; have h1 := ry10.len; have h2 := rm.len; unfold maxLen; omega
      have hbyt : (Ey.length + Em.length) * 64 ≤ 140737488355328 := by have := LFB.out; have h1 := ry10.len; have h2 := rm.len; omega
      have hM : ∀ j u, (rows RqE.cells Em)[j]? = some u → w10.cell? ((⟨gm, 0, none⟩ : Addr).add j) = some u := by
        intro j u hj
        rw [addr_add]
        exact hrm j u hj
      have HMm := Lib.hid hM
      have OY := Lib.hid ry10.own
      have HF := Lib.hid (fun (v' : Value) (w11 : World) (g1 : Own RqE.cells 4 w.heap.size 65 w11 v' (Ey ++ Em)) (g2 : w10.grownBy w11 vy.ownBlock) (g3 : v' ≠ .slice none 0 0) (g4 : v'.ownBlock = vy.ownBlock ∨ v'.ownBlock = some w10.heap.size) =>
        And.intro (show Rs w.heap.size w11 v' (Zy ++ Zm) (Ey ++ Em) Lx by rw [e1]; exact ry10.append rm g1 g2 g3 g4 hsepm) (show Keep [b] w7 w11 from K10.out.trans' (Keep.ofGrown g2) (fun x hx hlt => by have h1 := (ZY.out.2 x (by simpa using hx)).1; omega)))
      have HYL2 := Lib.hid (fun (v' : Value) (g4 : v'.ownBlock = vy.ownBlock ∨ v'.ownBlock = some w10.heap.size) => show (∀ g, v'.ownBlock = some g → w7.heap.size ≤ g) ∧ ∀ z ∈ Zy ++ Zm, w7.heap.size ≤ z from ⟨fun g hg => by
          rcases g4 with e | e
          · rw [e] at hg; exact HYL.out.1 g hg
          · rw [e] at hg
            have : w10.heap.size = g := by simpa using hg
            have := k10.size
            omega, fun z hz => by
          rcases List.mem_append.1 hz with hz | hz
          · exact HYL.out.2 z hz
          · rcases (zm z hz).2 with h | h
            · exact HRB.out z h
            · omega⟩)
      have HNN := Lib.hid RY.out.nn
      have hEm := rm.len
      clear alm him k10 x10 r10 rm zm nm lfm okm hfull ry10 hsepm hrm hM HAl e1 hEm
      go_wp2_with (first
        | (at_builtin; go_must (refine wpList_append_any rfl _ _ 60 rfl is _ 64 Tryd.underlying60 Hs (by rfl) (by decide) RqE.len RqE.one hB10 (by rfl) OY.out Em ⟨gm, 0, none⟩ _ (by rfl) HMm.out h63 hbyt ?_); intro v' w11 hown' hgr' hnil' hat'; have HX := Lib.hid (HF.out _ _ hown' hgr' (fun hh => HNN.out (hnil'.1 hh).1) hat'); have HX3 := Lib.hid (HYL2.out _ hat'); clear hown' hgr' hnil' hat')
        | fail)
      go_meet
      exact ⟨_, _, _, rfl, rfl, Lib.hid HX.out.1, Lib.hid HX.out.2, HX3⟩
  case rest =>
  obtain ⟨vy', Zy', Ey', hyv, rfl, RY', KB, HYB⟩ := hcut
  have hyv2 := hyv.symm
  clear hyv
  subst hyv2
  have K12 := Lib.hid (K7.out.above KB.out (by intro x hh; have h9 : x = b := (by simpa using hh); omega))
  have RX12 := Lib.hid (RX7.out.keep KB.out (fun g hg => by have := XB.out.1 g hg; simp; omega) (fun z hz => by have := XB.out.2 z hz; simp; omega))
  have IC12 := Lib.hid (IC7.out.keep KB.out (by simp; omega) (by simp))
  have hcl7 : c < w7.heap.size := IC7.out.lt
  clear IB8 K8 XB8 RY ZY LFB OKB ALB RX7 IC7 hlb HYL HRB m Jb Xb Rb
  have kA := (Keep.refl [] wc).alloc (.cells #[] 65)
  have hB12 : w.heap.size ≤ wc.heap.size := K12.out.size
  have oA := Own.none RqE.cells 4 65 (base := w.heap.size) (w := wc) hB12
  have hcl12 : c < wc.heap.size := IC12.out.lt
  have CA : CutS w.heap.size s c wc (wc.alloc (.cells #[] 65)) 0 (.slice (some ⟨wc.heap.size, 0, none⟩) 0 0) [] [] [] 0 in0 [c] [] := by
    refine ⟨IC12.out.keep0 kA, ⟨oA, rfl, by simp, by simp, by simp, by simp, by simp⟩, kA.mono (by simp), by simp, by simp, by simp, fun g hg => ?_, in0_ok, by simp [InS.left, in0], .inl ⟨rfl, rfl, ?_⟩⟩
    · have : wc.heap.size = g := by simpa [Value.ownBlock] using hg
      subst this
      exact ⟨Nat.le_refl _, by simp; omega, by simp⟩
    · have : in0.add (s.take 0) = in0 := by simp [InS.add, in0]
      rw [this]
      exact alls_nil
  have HCA := Lib.hid CA
  clear kA oA CA
  generalize hwA : wc.alloc (.cells #[] 65) = wA at *
  go_wp2_with fail
  clear hwA
  go_loopg [15, 16, 17] s.length (fun g zv iv kv wr => ∃ (vz : Value) (Zz : List Nat) (Ez : List RqE) (Lz : List Req) (st : Int) (J : InS) (Xc Rc : List Nat) (k : Nat), zv = vz ∧ iv = .int .i64 st ∧ kv = .int .i64 (k : Nat) ∧ k ≤ s.length ∧ g = s.length - k ∧ Hid (CutS w.heap.size s c wc wr k vz Zz Ez Lz st J Xc Rc))
  case atStart => exact ⟨_, _, _, _, 0, _, _, _, 0, rfl, rfl, rfl, Nat.zero_le _, rfl, HCA⟩
  case round =>
    obtain ⟨vz, Zz, Ez, Lz, st, J, Xc, Rc, k, hzv, rfl, rfl, hk, hg, HC⟩ := hrel
    have hzv2 := hzv.symm
    clear hzv
    subst hzv2
    have Kr := Lib.hid (K12.out.above HC.out.kp (by intro x hh; have h9 : x = c := (by simpa using hh); omega))
    by_cases hgo : k < s.length ∧ st = 0
    · obtain ⟨hlt, rfl⟩ := hgo
      have hal := HC.out.al
      have hJ0 : J.st = 0 := by
        rcases hal with h | h
        · exact h.2.1
        · exact absurd rfl h.1
      have x1 : (S s).extract k (k + 1) = S ((s.drop k).take 1) := by rw [S_extract, List.drop_take]; congr 2; omega
      have hJl : J.left ≤ k := by have := HC.out.lf; omega
      have ht1 : ((s.drop k).take 1).length ≤ 1 := by rw [List.length_take]; omega
      have hAd := inlet_Add ((s.drop k).take 1) HC.out.it (by have := HC.out.ok.len; omega) (by omega)
      rw [add_in J _ hJ0 (by omega)] at hAd
      have HAd := Lib.hid hAd
      have HJ0 := Lib.hid hJ0
      have i0 : (0 : Int) ≤ (k : Int) := by omega
      have i1 : (k : Int) ≤ (k : Int) + 1 := by omega
      have i2 : (k : Int) + 1 ≤ (s.length : Int) := by omega
      have n1 : ((k : Int) + 1).toNat = k + 1 := by omega
      have wk := IntWalk.i64_in ((k : Int) + 1) (by omega)
      clear hal hJ0 hAd
      go_wp2_with fail
      refine HAd.out.mono ?_
      rintro e w13 ⟨rfl, hic, k13⟩
      have hwr : Keep [] w w13 := Kr.out.above k13 (by intro x hh; have h9 : x = c := (by simpa using hh); omega)
      have hJok : (J.add ((s.drop k).take 1)).ok := by
        have := inAdd_ok HC.out.ok ((s.drop k).take 1)
        rw [add_in J _ HJ0.out (by omega)] at this
        exact this
      have hJl2 : (J.add ((s.drop k).take 1)).left ≤ J.left + 1 := by
        unfold InS.left InS.add
        simp only [List.length_append]
        omega
      have HAl := Lib.hid (inlet_all hic (HM.out.keep hwr (by simp)) hwr.size hbig hJok HJ0.out (by omega))
      unfold AllOut at HAl
      have K13 := Lib.hid k13
      have HWr := Lib.hid hwr
      clear k13 hic HAd hwr
      go_wp2_with fail
      refine HAl.out.mono ?_
      rintro e w14 ⟨vm, Zm, Em, Lm, j, J', X2, R2, rfl, alm, him, k14, n2, r2, rm, zm, nm, lfm, okm⟩
      obtain ⟨gm, cm, rfl, hrm⟩ := own_at rm.own rm.nn
      have hB14 : w.heap.size ≤ w14.heap.size := by have := k14.size; have := HWr.out.size; omega
      have hEz := HC.out.rs.len
      have hEm := rm.len
      have hlfz := HC.out.lf
      have h63 : Ez.length + Em.length ≤ maxLen := by unfold maxLen; omega
      have hbyt : (Ez.length + Em.length) * 64 ≤ 140737488355328 := by omega
      have hM : ∀ j u, (rows RqE.cells Em)[j]? = some u → w14.cell? ((⟨gm, 0, none⟩ : Addr).add j) = some u := by
        intro j u hj
        rw [addr_add]
        exact hrm j u hj
      have HMm := Lib.hid hM
      have oz := (HC.out.rs.keep K13.out (fun g hg hh => by have h9 : g = c := (by simpa using hh); exact (HC.out.nv g hg).2.1 (h9 ▸ HC.out.it.mem)) (fun z hz hh => by have h9 : z = c := (by simpa using hh); exact (HC.out.nz z hz).1 (h9 ▸ HC.out.it.mem))).keep k14 (fun g hg => (HC.out.nv g hg).2.1) (fun z hz => (HC.out.nz z hz).1)
      have OZ := Lib.hid oz.own
      have HF := Lib.hid (fun (v' : Value) (w15 : World) (g1 : Own RqE.cells 4 w.heap.size 65 w15 v' (Ez ++ Em)) (g2 : w14.grownBy w15 vz.ownBlock) (g3 : v' ≠ .slice none 0 0) (g4 : v'.ownBlock = vz.ownBlock ∨ v'.ownBlock = some w14.heap.size) =>
        HC.out.more (by omega) hlt K13.out alm him k14 n2 r2 rm zm lfm okm g1 g2 g3 g4)
      have HNN := Lib.hid HC.out.rs.nn
      clear alm him k14 n2 r2 rm zm nm lfm okm hrm hM oz HAl hJok hJl2 hlfz hEz hEm
      go_wp2_with (first
        | (at_builtin; go_must (refine wpList_append_any rfl _ _ 60 rfl is _ 64 Tryd.underlying60 Hs (by rfl) (by decide) RqE.len RqE.one hB14 (by rfl) OZ.out Em ⟨gm, 0, none⟩ _ (by rfl) HMm.out h63 hbyt ?_); intro v' w15 hown' hgr' hnil' hat'; have HX := Lib.hid (HF.out _ _ hown' hgr' (fun hh => HNN.out (hnil'.1 hh).1) hat'); clear hown' hgr' hnil' hat')
        | fail)
      go_roundg (s.length - (k + 1))
      case measure => omega
      case rel => exact ⟨_, _, _, _, j, J', X2, R2, k + 1, rfl, rfl, by go_num, by omega, rfl, HX⟩
    · have hend : Lz = Lx ∧ st = n := by
        rcases HC.out.al with ⟨h1, h2, h3⟩ | ⟨h1, p', h2⟩
        · have hks : k = s.length := by
            rcases Nat.lt_or_ge k s.length with h | h
            · exact absurd ⟨h, h1⟩ hgo
            · omega
          rw [hks, List.take_length] at h3
          obtain ⟨e1, e2, _⟩ := alls_det ALA.out h3
          exact ⟨e1.symm, by rw [h1]; exact e2.symm⟩
        · obtain ⟨e1, e2, _⟩ := alls_det ALA.out h2
          exact ⟨e1.symm, e2.symm⟩
      obtain ⟨rfl, rfl⟩ := hend
      have RZ := Lib.hid HC.out.rs
      have RXr := Lib.hid (RX12.out.keep HC.out.kp (fun g hg => by have := XB.out.1 g hg; simp; omega) (fun z hz => by have := XB.out.2 z hz; simp; omega))
      have RYr := Lib.hid (RY'.out.keep HC.out.kp (fun g hg => by have := HYB.out.1 g hg; simp; omega) (fun z hz => by have := HYB.out.2 z hz; simp; omega))
      obtain ⟨gx, cx, rfl, hxr⟩ := slice_len RXr.out
      obtain ⟨gy, cy, rfl, hyr⟩ := slice_len RYr.out
      obtain ⟨gz, cz, rfl, hzr⟩ := slice_len RZ.out
      have HXr := Lib.hid hxr
      have HYr := Lib.hid hyr
      have HZr := Lib.hid hzr
      have hcond : ¬ ((k : Int) < (s.length : Int)) ∨ (k < s.length ∧ (st == 0) = false) := by
        by_cases h : k < s.length
        · exact .inr ⟨h, (int_ne (fun h0 => hgo ⟨h, h0⟩)).1⟩
        · exact .inl (by omega)
      clear hgo hxr hyr hzr HC HCA
      have hLm : Lz.length ≤ 9223372036854775807 := by
        have h1 := RZ.out.own.shape
        obtain ⟨_, _, _, h2⟩ := h1
        have h3 := RZ.out.len
        unfold maxLen at h2
        omega
      generalize hwo : wr = wo at *
      clear hwo
      rcases hcond with hcond | ⟨hcond, hcond2⟩
      all_goals
        go_wp2_with fail
        go_loopg [20] Lz.length (fun g iv wx => ∃ i : Nat, iv = .int .i64 (i : Nat) ∧ i ≤ Lz.length ∧ g = Lz.length - i ∧ Hid (Keep [] wo wx))
        case atStart => exact ⟨0, rfl, Nat.zero_le _, rfl, Lib.hid (Keep.refl _ _)⟩
        case round =>
          obtain ⟨i, rfl, hi, hg2, KX⟩ := hrel
          by_cases hil : i < Lz.length
          · obtain ⟨q0, hq0⟩ : ∃ q0, Lz[i]? = some q0 := ⟨_, List.getElem?_eq_getElem hil⟩
            obtain ⟨ex, hex⟩ : ∃ ex, Ex[i]? = some ex := ⟨_, List.getElem?_eq_getElem (by rw [RXr.out.len]; exact hil)⟩
            obtain ⟨ey, hey⟩ : ∃ ey, Ey'[i]? = some ey := ⟨_, List.getElem?_eq_getElem (by rw [RYr.out.len]; exact hil)⟩
            obtain ⟨ez, hez⟩ : ∃ ez, Ez[i]? = some ez := ⟨_, List.getElem?_eq_getElem (by rw [RZ.out.len]; exact hil)⟩
            have RGX := Lib.hid (fun w' (hw' : ∃ n, w' = ext wr n) => range_ext (HXr.out i ex hex) KX.out hw')
            have RGY := Lib.hid (fun w' (hw' : ∃ n, w' = ext wr n) => range_ext (HYr.out i ey hey) KX.out hw')
            have RGZ := Lib.hid (fun w' (hw' : ∃ n, w' = ext wr n) => range_ext (HZr.out i ez hez) KX.out hw')
            have HS1 := Lib.hid (fun n : Ext wr => ref12_Same (w := ext wr n) ((RXr.out.el i ex q0 hex hq0).keep0 (KX.out.trans (ext_keep _ n))) ((RYr.out.el i ey q0 hey hq0).keep0 (KX.out.trans (ext_keep _ n))))
            have HS2 := Lib.hid (fun n : Ext wr => ref12_Same (w := ext wr n) ((RXr.out.el i ex q0 hex hq0).keep0 (KX.out.trans (ext_keep _ n))) ((RZ.out.el i ez q0 hez hq0).keep0 (KX.out.trans (ext_keep _ n))))
            have i0 : (0 : Int) ≤ (i : Int) := by omega
            have i1 : (i : Int) < (Lz.length : Int) := by omega
            have wi := IntWalk.i64_in ((i : Int) + 1) (by omega)
            clear hq0 hex hey hez
            go_upto_region 32 with fail
            refine wp_region_ext_lit (by kernel_rfl) (by kernel_rfl) ?_
            repeat (go_big_quiet_step (fail))
            refine wpQuiet_loadW (by rfl) 65 (.tmp 128) rfl gx (i * 4) (by simp [Act.eval, Addr.add]) ex.cells _ RGX.out Tryd.underlying65 rfl req_size ?_
            simp only [Act.put, List.setIfInBounds_toArray, List.set_cons_succ, List.set_cons_zero]
            repeat (go_big_quiet_step (fail))
            refine wpQuiet_loadW (by rfl) 65 (.tmp 132) rfl gy (i * 4) (by simp [Act.eval, Addr.add]) ey.cells _ RGY.out Tryd.underlying65 rfl req_size ?_
            simp only [Act.put, List.setIfInBounds_toArray, List.set_cons_succ, List.set_cons_zero]
            repeat (go_big_quiet_step ((go_at_call 39; exact Calls.quiet_ext (HS1.out _))))
            refine wpQuiet_loadW (by rfl) 65 (.tmp 139) rfl gx (i * 4) (by simp [Act.eval, Addr.add]) ex.cells _ RGX.out Tryd.underlying65 rfl req_size ?_
            simp only [Act.put, List.setIfInBounds_toArray, List.set_cons_succ, List.set_cons_zero]
            repeat (go_big_quiet_step (fail))
            refine wpQuiet_loadW (by rfl) 65 (.tmp 143) rfl gz (i * 4) (by simp [Act.eval, Addr.add]) ez.cells _ RGZ.out Tryd.underlying65 rfl req_size ?_
            simp only [Act.put, List.setIfInBounds_toArray, List.set_cons_succ, List.set_cons_zero]
            repeat (go_big_quiet_step ((go_at_call 39; exact Calls.quiet_ext (HS2.out _))))
            refine wpQuiet_nil ?_
            intro _ hw'
            obtain ⟨nq, hw''⟩ := hw'
            subst hw''
            have KX2 := Lib.hid (KX.out.trans (ext_keep _ nq))
            go_wp2_with fail
            go_roundg (Lz.length - (i + 1))
            case measure => omega
            case rel => exact ⟨i + 1, by go_num, by omega, rfl, KX2⟩
          · go_wp2_with fail
            go_ret
            exact ⟨rfl, Kr.out.trans KX.out⟩
end Go.Proofs.YtmfnciocnlmceaaDoor
