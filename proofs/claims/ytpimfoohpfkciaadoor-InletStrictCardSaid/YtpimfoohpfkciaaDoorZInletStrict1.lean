/- Parts of the proof of InletStrict, in order. No conditions but those that each theorem states. -/
import Derived.Test.YtpimfoohpfkciaaDoorZB5
/- Layer 12, plain laws: what Next says of bytes that came in pieces is what the document's Read says of them at once. No program. No conditions but those that each theorem states. -/
namespace Go.Proofs.YtpimfoohpfkciaaDoor
open Go.RowKit

/-- what the document's Read says: the request, its bytes, the number -/
structure RdI where
  q : Req
  n : Nat
  s : Int
def rdM (l : List UInt8) : RdI :=
  if (headM l).s ≠ 0 then ⟨req0, 0, (headM l).s⟩
  else if (headM l).got then
    if (headM l).ch then
      (if (addC (ck0 4096) (l.drop (headM l).n)).err ≠ 0 then ⟨req0, 0, toldE (addC (ck0 4096) (l.drop (headM l).n)).err 413⟩
       else if (addC (ck0 4096) (l.drop (headM l).n)).st ≠ 4 then ⟨req0, 0, 0⟩
       else ⟨(headM l).q, (headM l).n + ((l.drop (headM l).n).length - (addC (ck0 4096) (l.drop (headM l).n)).inp.length), 200⟩)
    else if (l.drop (headM l).n).length < (headM l).skip then ⟨req0, 0, 0⟩
    else ⟨(headM l).q, (headM l).n + (headM l).skip, 200⟩
  else ⟨req0, 0, 0⟩
theorem head_ch_skip (l : List UInt8) : (headM l).ch = true → (headM l).skip = 0 := by
  unfold headM
  split
  · intro h; cases h
  split
  · intro h; cases h
  split
  · intro h; cases h
  split
  · intro h; cases h
  · dsimp only
    unfold frameM
    split
    · intro h; cases h
    split
    · split
      · intro _; rfl
      · intro h; cases h
    split
    · intro h; cases h
    · intro h; cases h
theorem told_413 (e : Int) : toldE e 413 ≠ 200 := by unfold toldE; split; (simp); split <;> simp
def fr (l : List UInt8) : InS := in0.add l
theorem fr_inp (l : List UInt8) : (fr l).inp = l := rfl
theorem fr_rd (l : List UInt8) : (nextI (fr l)).s = (rdM l).s ∧ (nextI (fr l)).q = (rdM l).q ∧ ((rdM l).s = 200 → (nextI (fr l)).p = fr (l.drop (rdM l).n) ∧ (rdM l).n ≤ l.length) ∧ ((rdM l).s ≠ 200 → (rdM l).n = 0 ∧ (rdM l).q = req0) := by
  have hN := next_none (p := fr l) rfl rfl
  rw [fr_inp] at hN
  have hb := head_bounds l
  have hck := head_ch_skip l
  have hR : rdM l = if (headM l).s ≠ 0 then ⟨req0, 0, (headM l).s⟩
    else if (headM l).got then
      if (headM l).ch then
        (if (addC (ck0 4096) (l.drop (headM l).n)).err ≠ 0 then ⟨req0, 0, toldE (addC (ck0 4096) (l.drop (headM l).n)).err 413⟩
         else if (addC (ck0 4096) (l.drop (headM l).n)).st ≠ 4 then ⟨req0, 0, 0⟩
         else ⟨(headM l).q, (headM l).n + ((l.drop (headM l).n).length - (addC (ck0 4096) (l.drop (headM l).n)).inp.length), 200⟩)
      else if (l.drop (headM l).n).length < (headM l).skip then ⟨req0, 0, 0⟩
      else ⟨(headM l).q, (headM l).n + (headM l).skip, 200⟩
    else ⟨req0, 0, 0⟩ := rfl
  by_cases hs : (headM l).s = 0
  · rw [if_neg (by simp [hs])] at hN hR
    cases hg : (headM l).got with
    | false =>
      rw [hg, if_neg (by simp)] at hN hR
      rw [hN, hR]
      exact ⟨rfl, rfl, fun h => by simp at h, fun _ => ⟨rfl, rfl⟩⟩
    | true =>
      have hn := hb.2.1 hg
      rw [hg, if_pos rfl] at hN hR
      cases hc : (headM l).ch with
      | false =>
        have hch : (headed (fr l) (headM l)).chk = none := by unfold headed; rw [hc]; rfl
        have hin : (headed (fr l) (headM l)).inp = l.drop (headM l).n := rfl
        have hsk : (headed (fr l) (headM l)).skip = (headM l).skip := rfl
        rw [hc, if_neg (by simp)] at hR
        rcases Nat.lt_or_ge (l.drop (headM l).n).length (headM l).skip with hlt | hge
        · rw [tail_none' _ hch (by rw [hin, hsk]; exact hlt)] at hN
          rw [if_pos hlt] at hR
          rw [hN, hR]
          exact ⟨rfl, rfl, fun h => by simp at h, fun _ => ⟨rfl, rfl⟩⟩
        · rw [tail_none _ hch (by rw [hin, hsk]; exact hge)] at hN
          rw [if_neg (by omega)] at hR
          rw [hN, hR]
          refine ⟨rfl, rfl, fun _ => ⟨inS_ext ?_ rfl rfl rfl hch rfl, ?_⟩, fun h => absurd rfl h⟩
          · show (l.drop (headM l).n).drop (headM l).skip = l.drop ((headM l).n + (headM l).skip)
            rw [List.drop_drop]
          · rw [List.length_drop] at hge; simp only; omega
      | true =>
        have h0 := hck hc
        have hch : (headed (fr l) (headM l)).chk = some (ck0 4096) := by unfold headed; rw [hc]; rfl
        have hin : (headed (fr l) (headM l)).inp = l.drop (headM l).n := rfl
        have hsk : (headed (fr l) (headM l)).skip = 0 := h0
        rw [hc, if_pos rfl] at hR
        have hrd := addC_rd (m := 4096) (l.drop (headM l).n)
        obtain ⟨d, e, h1, h2, h3, h4, h5, h6⟩ := hrd.body
        have hsd := hrd.sound
        by_cases e1 : (addC (ck0 4096) (l.drop (headM l).n)).err = 0
        · rw [if_neg (by simp [e1])] at hR
          by_cases e2 : (addC (ck0 4096) (l.drop (headM l).n)).st = 4
          · rw [tail_done _ hch (by rw [hin]; exact e1) (by rw [hin]; exact e2)] at hN
            rw [if_neg (by simp [e2])] at hR
            rw [hN, hR]
            refine ⟨rfl, rfl, fun _ => ⟨inS_ext ?_ rfl rfl hsk rfl rfl, ?_⟩, fun h => absurd rfl h⟩
            · show (addC (ck0 4096) (l.drop (headM l).n)).inp = l.drop ((headM l).n + _)
              rw [← List.drop_drop, h6 e2]
            · have := hsd.2.2.1
              rw [List.length_drop] at this ⊢
              simp only; omega
          · rw [tail_more _ hch (by rw [hin]; exact e1) (by rw [hin]; exact e2)] at hN
            rw [if_pos e2] at hR
            rw [hN, hR]
            exact ⟨rfl, rfl, fun h => by simp at h, fun _ => ⟨rfl, rfl⟩⟩
        · have h17 := addC_ne17 (c := ck0 4096) (l.drop (headM l).n) (by decide)
          rw [tail_bad _ hch (by rw [hin]; exact e1) (by rw [hin]; exact h17)] at hN
          rw [if_pos e1] at hR
          rw [hN, hR]
          exact ⟨rfl, rfl, fun h => absurd h (told_413 _), fun _ => ⟨rfl, rfl⟩⟩
  · rw [if_pos hs] at hN hR
    rw [hN, hR]
    exact ⟨rfl, rfl, fun h => absurd h (head_ne200 l), fun _ => ⟨rfl, rfl⟩⟩
theorem tail_left {p : InS} (q : Req) (h : p.ok) (h0 : p.st = 0) (hs : (tailI p q).s ≠ 200) : (tailI p q).p.left = p.left := by
  cases hc : p.chk with
  | none =>
    rcases Nat.lt_or_ge p.inp.length p.skip with hlt | hge
    · rw [tail_none' q hc hlt]; unfold InS.left; simp only [List.length_nil]; omega
    · rw [tail_none q hc hge] at hs; exact absurd rfl hs
  | some c =>
    have ke := h.bad c h0 hc
    have d5 := addC_ne17 (c := c) p.inp (by rw [ke]; decide)
    by_cases e1 : (addC c p.inp).err = 0
    · by_cases e2 : (addC c p.inp).st = 4
      · rw [tail_done q hc e1 e2] at hs; exact absurd rfl hs
      · rw [tail_more q hc e1 e2]; unfold InS.left; simp only [List.length_nil]; omega
    · rw [tail_bad q hc e1 d5]; unfold InS.left; simp only [List.length_nil]; omega
theorem tail_stays {p : InS} (q : Req) (h : p.ok) (h0 : p.st = 0) (hs : (tailI p q).s ≠ 200) : (tailI p q).q = req0 ∧ (tailI p q).p.st = (tailI p q).s := by
  cases hc : p.chk with
  | none =>
    rcases Nat.lt_or_ge p.inp.length p.skip with hlt | hge
    · rw [tail_none' q hc hlt]; exact ⟨rfl, h0⟩
    · rw [tail_none q hc hge] at hs; exact absurd rfl hs
  | some c =>
    have ke := h.bad c h0 hc
    have d5 := addC_ne17 (c := c) p.inp (by rw [ke]; decide)
    by_cases e1 : (addC c p.inp).err = 0
    · by_cases e2 : (addC c p.inp).st = 4
      · rw [tail_done q hc e1 e2] at hs; exact absurd rfl hs
      · rw [tail_more q hc e1 e2]; exact ⟨rfl, h0⟩
    · rw [tail_bad q hc e1 d5]; exact ⟨rfl, rfl⟩
theorem next_left {p : InS} (h : p.ok) (h0 : p.st = 0) (hs : (nextI p).s ≠ 200) : (nextI p).p.left = p.left ∧ (nextI p).p.st = (nextI p).s := by
  cases hr : p.req with
  | some q => rw [next_some h0 hr] at hs ⊢; exact ⟨tail_left q h h0 hs, (tail_stays q h h0 hs).2⟩
  | none =>
    rw [next_none h0 hr] at hs ⊢
    by_cases h1 : (headM p.inp).s = 0
    · rw [if_neg (by simp [h1])] at hs ⊢
      cases hg : (headM p.inp).got with
      | false => exact ⟨rfl, h0⟩
      | true =>
        rw [hg, if_pos rfl] at hs
        rw [if_pos rfl]
        have hok := headed_ok h h0 hr hg
        refine ⟨(tail_left _ hok h0 hs).trans ?_, (tail_stays _ hok h0 hs).2⟩
        have hb := (head_bounds p.inp).2.1 hg
        have hh := (h.req h0 hr).2
        unfold InS.left
        show (p.inp.drop (headM p.inp).n).length + (headM p.inp).n = p.inp.length + p.held
        rw [List.length_drop]; omega
    · rw [if_pos h1]; exact ⟨rfl, rfl⟩
/-- what holds of an inlet and the bytes that have come and that no request has taken -/
structure Iv (G : InS) (l : List UInt8) : Prop where
  ok : G.ok
  st : G.st = 0
  lf : G.left = l.length
  nx : ∀ t, nextI (G.add t) = nextI (fr (l ++ t))
theorem add_nil (G : InS) : G.add [] = G := by unfold InS.add; rw [List.append_nil]
theorem Iv.next {G : InS} {l : List UInt8} (h : Iv G l) : nextI G = nextI (fr l) := by
  have := h.nx []
  rwa [add_nil, List.append_nil] at this
theorem fr_ok (l : List UInt8) (h : l.length ≤ 16384) : (fr l).ok := ⟨by simpa [in0, InS.add, fr] using h, by simp [in0, InS.add, fr], by simp [in0, InS.add, fr], by simp [in0, InS.add, fr], by simp [in0, InS.add, fr], by simp [in0, InS.add, fr]⟩
theorem Iv.fresh (l : List UInt8) (h : l.length ≤ 16384) : Iv (fr l) l := ⟨fr_ok l h, rfl, by simp [fr, InS.left, in0, InS.add], fun t => by
  have : (fr l).add t = fr (l ++ t) := by simp [fr, InS.add, in0]
  rw [this]⟩
theorem Iv.nil : Iv in0 [] := Iv.fresh [] (by decide)
theorem Iv.add {G : InS} {l : List UInt8} (h : Iv G l) (s : List UInt8) (hl : l.length + s.length ≤ 16384) : inAdd G s = (G.add s, 0) ∧ Iv (G.add s) (l ++ s) := by
  have h1 := h.lf
  have he : inAdd G s = (G.add s, 0) := by
    unfold inAdd
    rw [if_neg (by simp [h.st]), if_neg (by omega)]
    rfl
  refine ⟨he, ?_, h.st, ?_, fun t => ?_⟩
  · have := inAdd_ok h.ok s
    rwa [he] at this
  · unfold InS.left at h1 ⊢
    simp only [InS.add, List.length_append]; omega
  · have : (G.add s).add t = G.add (s ++ t) := by simp [InS.add]
    rw [this, h.nx, List.append_assoc]
/-- what Next says is what Read says; what holds behind it -/
theorem Iv.step {G : InS} {l : List UInt8} (h : Iv G l) (hl : l.length ≤ 16384) : (nextI G).s = (rdM l).s ∧ (nextI G).q = (rdM l).q ∧ (nextI G).p.ok ∧ (nextI G).p.left = (l.drop (rdM l).n).length ∧
    ((rdM l).s = 200 → Iv (nextI G).p (l.drop (rdM l).n)) ∧ ((rdM l).s = 0 → Iv (nextI G).p (l.drop (rdM l).n)) ∧ ((rdM l).s ≠ 200 → (rdM l).n = 0 ∧ (rdM l).q = req0 ∧ (nextI G).p.st = (rdM l).s) := by
  obtain ⟨e1, e2, e3, e4⟩ := fr_rd l
  have hn := h.next
  rw [← hn] at e1 e2 e3
  have hok := next_ok h.ok
  by_cases hs : (rdM l).s = 200
  · obtain ⟨e5, e6⟩ := e3 hs
    have hf := Iv.fresh (l.drop (rdM l).n) (by rw [List.length_drop]; omega)
    rw [← e5] at hf
    exact ⟨e1, e2, hok, hf.lf, fun _ => hf, fun _ => hf, fun hh => absurd hs hh⟩
  · obtain ⟨e7, e8⟩ := e4 hs
    obtain ⟨l1, l2⟩ := next_left h.ok h.st (by rw [e1]; exact hs)
    refine ⟨e1, e2, hok, by rw [l1, e7, h.lf]; rfl, fun hh => absurd hh hs, fun h0 => ?_, fun _ => ⟨e7, e8, by rw [l2, e1]⟩⟩
    rw [e7]
    refine ⟨hok, by rw [l2, e1, h0], by rw [l1, h.lf]; rfl, fun t => ?_⟩
    have hw := ((next_app h.ok h.st t).wait (by rw [e1]; exact h0)).1
    rw [← hw]
    exact h.nx t
/-- with something wrong all stays so -/
theorem bad_add {G : InS} (h : G.st ≠ 0) (s : List UInt8) : inAdd G s = (G, 8) := by unfold inAdd; rw [if_pos h]
theorem bad_next {G : InS} (h : G.st ≠ 0) : nextI G = ⟨G, req0, G.st⟩ := by unfold nextI; rw [if_pos h]
theorem rd_max (l : List UInt8) : (rdM l).n ≤ l.length := by
  obtain ⟨_, _, e3, e4⟩ := fr_rd l
  by_cases hs : (rdM l).s = 200
  · exact (e3 hs).2
  · rw [(e4 hs).1]; omega
end Go.Proofs.YtpimfoohpfkciaaDoor

/- Layer 12, plain laws: what may be read in two ways is refused. No program. No conditions but those that each theorem states. -/
namespace Go.Proofs.YtpimfoohpfkciaaDoor
open Go.RowKit

def keepS (f : Fld) : Bool := decide (getN [f] nHost + getN [f] nCL + getN [f] nTE = 0) && goodF f && decide (f.name.length + f.value.length < 100)
def strK (L : List Fld) : List Fld := L.filter keepS
def strE (j : Nat) : List Fld :=
  if j = 0 then [⟨nHost, [97]⟩, ⟨nCL, [48]⟩, ⟨nCL, [48]⟩] else if j = 1 then [⟨nHost, [97]⟩, ⟨nCL, [53]⟩, ⟨nTE, nChunked⟩] else if j = 2 then [⟨nHost, [97]⟩, ⟨nHost, [97]⟩] else []
def strB : List UInt8 := [71, 69, 84, 32, 47, 32, 72, 84, 84, 80, 47, 49, 46, 49]
def strZ (L : List Fld) (j : Nat) : List UInt8 := headT strB (strK L ++ strE j) ++ [48, 13, 10, 13, 10]
theorem getN_consS (f : Fld) (L : List Fld) (n : List UInt8) : getN (f :: L) n = getN [f] n + getN L n := by
  unfold getN getS
  rw [List.filter_cons, List.filter_cons]
  split <;> simp <;> omega
theorem getN_appS (n : List UInt8) : ∀ A B : List Fld, getN (A ++ B) n = getN A n + getN B n
  | [], B => by simp [getN, getS]
  | f :: A, B => by rw [List.cons_append, getN_consS, getN_appS n A B, getN_consS f A]; omega
theorem keepS_n {f : Fld} (h : keepS f = true) : getN [f] nHost = 0 ∧ getN [f] nCL = 0 ∧ getN [f] nTE = 0 ∧ goodF f = true ∧ f.name.length + f.value.length < 100 := by
  unfold keepS at h
  simp only [Bool.and_eq_true, decide_eq_true_eq] at h
  exact ⟨by omega, by omega, by omega, h.1.2, h.2⟩
theorem strK_n (n : List UInt8) (h : ∀ f : Fld, keepS f = true → getN [f] n = 0) : ∀ L : List Fld, getN (strK L) n = 0
  | [] => rfl
  | f :: L => by
    have ih := strK_n n h L
    unfold strK at ih ⊢
    rw [List.filter_cons]
    split
    · rename_i hf
      rw [getN_consS, h f hf, ih]
    · exact ih
theorem body_app (A B : List Fld) : bodyT (A ++ B) = bodyT A ++ bodyT B := by unfold bodyT; rw [List.flatMap_append]
theorem body_lenS : ∀ (K : List Fld), (∀ f ∈ K, f.name.length + f.value.length < 100) → (bodyT K).length ≤ 104 * K.length
  | [], _ => by simp [bodyT]
  | f :: K, h => by
    have h1 := h f (by simp)
    have ih := body_lenS K (fun g hg => h g (by simp [hg]))
    have e : bodyT (f :: K) = printF f ++ [13, 10] ++ bodyT K := by unfold bodyT; simp
    rw [e]
    unfold printF
    simp only [List.length_append, List.length_cons, List.length_nil]
    omega
theorem strE_ok (j : Nat) (hj : j < 4) : (strE j).all goodF = true ∧ (strE j).length ≤ 3 ∧ (bodyT (strE j)).length ≤ 60 ∧
    (1 < getN (strE j) nHost ∨ getN (strE j) nHost = 0 ∨ (getN (strE j) nHost = 1 ∧ (1 < getN (strE j) nTE ∨ 1 < getN (strE j) nCL ∨ 1 < getN (strE j) nTE + getN (strE j) nCL))) := by
  have key : ∀ j : Fin 4, (strE j.1).all goodF = true ∧ (strE j.1).length ≤ 3 ∧ (bodyT (strE j.1)).length ≤ 60 ∧
    (1 < getN (strE j.1) nHost ∨ getN (strE j.1) nHost = 0 ∨ (getN (strE j.1) nHost = 1 ∧ (1 < getN (strE j.1) nTE ∨ 1 < getN (strE j.1) nCL ∨ 1 < getN (strE j.1) nTE + getN (strE j.1) nCL))) := by decide +kernel
  exact key ⟨j, hj⟩
theorem strB_ln : lnM strB = ⟨[71, 69, 84], [47], 1, 200⟩ := by kernel_rfl
theorem strK_len (L : List Fld) (h : L.length ≤ 20) : (bodyT (strK L)).length ≤ 2080 ∧ (strK L).length ≤ 20 := by
  have h1 : (strK L).length ≤ L.length := List.length_filter_le _ _
  have h2 := body_lenS (strK L) (fun f hf => (keepS_n (List.mem_filter.1 hf).2).2.2.2.2)
  omega
theorem strZ_len (L : List Fld) (j : Nat) (hL : L.length ≤ 20) (hj : j < 4) : (strZ L j).length ≤ 2200 := by
  have h1 := (strK_len L hL).1
  have h2 := (strE_ok j hj).2.2.1
  unfold strZ headT
  rw [body_app]
  simp only [List.length_append, List.length_cons, List.length_nil, strB]
  omega
theorem str_head (L : List Fld) (j : Nat) (hL : L.length ≤ 20) (hj : j < 4) : headM (strZ L j) = hr0 400 := by
  obtain ⟨e1, e2, e3, e4⟩ := strE_ok j hj
  obtain ⟨k1, k2⟩ := strK_len L hL
  have hg : ∀ f ∈ strK L ++ strE j, goodF f = true := by
    intro f hf
    rcases List.mem_append.1 hf with hf | hf
    · exact (keepS_n (List.mem_filter.1 hf).2).2.2.2.1
    · exact List.all_eq_true.1 e1 f hf
  have hsp := split_head strB (strK L ++ strE j) [48, 13, 10, 13, 10] (by intro x hx; revert x; decide) (by decide) (by decide) hg (by rw [List.length_append]; omega) (by
    unfold headT
    rw [body_app]
    simp only [List.length_append, List.length_cons, List.length_nil, strB]
    omega)
  have n1 := strK_n nHost (fun f h => (keepS_n h).1) L
  have n2 := strK_n nCL (fun f h => (keepS_n h).2.1) L
  have n3 := strK_n nTE (fun f h => (keepS_n h).2.2.1) L
  have g1 := getN_appS nHost (strK L) (strE j)
  have g2 := getN_appS nCL (strK L) (strE j)
  have g3 := getN_appS nTE (strK L) (strE j)
  have hsp2 : splitM (strZ L j) = ⟨strB, strK L ++ strE j, (headT strB (strK L ++ strE j)).length, 0⟩ := hsp
  unfold headM
  rw [hsp2]
  dsimp only
  rw [if_neg (by simp), strB_ln]
  dsimp only
  rw [if_neg (by simp)]
  by_cases hh : 1 < getN (strK L ++ strE j) nHost ∨ (getN (strK L ++ strE j) nHost : Int) < 1
  · rw [if_pos hh]
  · rw [if_neg hh]
    have hf : frameM (strK L ++ strE j) 4096 = ⟨0, false, 3⟩ := by
      unfold frameM
      rw [if_pos (by omega)]
    rw [hf, if_pos (by simp)]
    rfl
theorem str_next (L : List Fld) (j : Nat) (hL : L.length ≤ 20) (hj : j < 4) : nextI (fr (strZ L j)) = ⟨{ fr (strZ L j) with st := 400 }, req0, 400⟩ := by
  rw [next_none (p := fr (strZ L j)) rfl rfl, fr_inp, str_head L j hL hj]
  rfl
theorem str_again (L : List Fld) (j : Nat) : nextI { fr (strZ L j) with st := 400 } = ⟨{ fr (strZ L j) with st := 400 }, req0, 400⟩ := bad_next (by simp)
theorem strK_take {L : List Fld} {k : Nat} {x : Fld} (h : L[k]? = some x) : bodyT (strK (L.take (k + 1))) = if keepS x then bodyT (strK (L.take k)) ++ (printF x ++ [13, 10]) else bodyT (strK (L.take k)) := by
  have e : L.take (k + 1) = L.take k ++ [x] := by rw [List.take_add_one, h]; rfl
  unfold strK
  rw [e, List.filter_append, body_app, List.filter_cons]
  split <;> simp [bodyT]
end Go.Proofs.YtpimfoohpfkciaaDoor

/- Layer 12: the walk of the statement InletStrict. No conditions. -/
namespace Go.Proofs.YtpimfoohpfkciaaDoor
open Go.RowKit Go.Shelf

theorem one_fieldS (w : World) (f : Fld) : Sl Fld.cells 2 (w.alloc (.cells #[.string (S f.name), .string (S f.value)] 44)) (.slice (some ⟨w.heap.size, 0, Option.none⟩) 1 1) [f] :=
  (show Own Fld.cells 2 0 44 (w.alloc (.cells #[.string (S f.name), .string (S f.value)] 44)) (.slice (some ⟨w.heap.size, 0, Option.none⟩) 1 1) [f] from ⟨rfl, .inr ⟨w.heap.size, 1, #[.string (S f.name), .string (S f.value)], rfl, Nat.zero_le _, heap_alloc_new w _, Nat.le_refl _, by decide, rfl, rfl⟩⟩).sl Fld.cells_length
set_option maxRecDepth 100000 in
set_option maxHeartbeats 8000000 in
theorem inletStrict_walk (va : Value) (L : List Fld) (c : Int) (w : World) (hm : ML w) (hv : Sl Fld.cells 2 w va L) (hg : ∀ x ∈ L, x.near) :
    Calls Tryd.prog 4 #[va, .int .i64 c] w fun e w' => e = .returned (.bool true) ∧ Keep [] w w' := by
  obtain ⟨aa, ca, rfl, hal⟩ := hv.shape
  have hal' : L.length ≤ 9223372036854775807 := hal
  have hbig := hm.lt
  have HAw := Lib.hid (inlet_awake w hm)
  have HM := Lib.hid hm
  by_cases hl : 20 < L.length
  · have q : decide ((L.length : Int) > 20) = true := by simp; omega
    clear hl hm hg hv
    go_enter Tryd.func4, Tryd.ntmps4
    go_wp2_with fail
    refine HAw.out.mono ?_
    rintro e w1 ⟨rfl, k1⟩
    have K1 := Lib.hid k1
    clear k1
    go_wp2_with fail
    go_ret
    exact ⟨rfl, K1.out⟩
  have q : decide ((L.length : Int) > 20) = false := by simp; omega
  have hl2 : L.length ≤ 20 := by omega
  have HV := Lib.hid hv
  have HG := Lib.hid hg
  have HG0 := Lib.hid (fun w' (x : Fld) (hx : x ∈ L) => field_Get _ [x] nHost _ (one_fieldS w' x) (by intro y hy; have h9 : y = x := (by simpa using hy); have := (hg x hx).1; rw [h9]; unfold maxLen; omega) (by decide))
  have HG1 := Lib.hid (fun w' (x : Fld) (hx : x ∈ L) => field_Get _ [x] nCL _ (one_fieldS w' x) (by intro y hy; have h9 : y = x := (by simpa using hy); have := (hg x hx).1; rw [h9]; unfold maxLen; omega) (by decide))
  have HG2 := Lib.hid (fun w' (x : Fld) (hx : x ∈ L) => field_Get _ [x] nTE _ (one_fieldS w' x) (by intro y hy; have h9 : y = x := (by simpa using hy); have := (hg x hx).1; rw [h9]; unfold maxLen; omega) (by decide))
  unfold GetOut at HG0 HG1 HG2
  have HGd := Lib.hid (fun w' (x : Fld) (hx : x ∈ L) => field_Good x w' (by have := (hg x hx).1; unfold maxLen; omega) (by have := (hg x hx).2; unfold maxLen; omega))
  clear hl hm hg hv
  go_enter Tryd.func4, Tryd.ntmps4
  go_wp2_with fail
  refine HAw.out.mono ?_
  rintro e w1 ⟨rfl, k1⟩
  have HK1 := Lib.hid k1
  clear k1 HAw
  go_wp2_with fail
  go_loopg [5, 6] L.length (fun g sv iv wr => ∃ (k : Nat) (s : List UInt8), sv = .string (S s) ∧ iv = .int .i64 (k : Nat) ∧ k ≤ L.length ∧ g = L.length - k ∧ Hid (s = strB ++ [13, 10] ++ bodyT (strK (L.take k)) ∧ s.length ≤ 2096) ∧ Hid (Keep [] w wr))
  case atStart => exact ⟨0, strB ++ [13, 10], rfl, rfl, by omega, rfl, Lib.hid ⟨by simp [strK, bodyT], by decide⟩, HK1⟩
  case round =>
    obtain ⟨k, s, rfl, rfl, hk, hgm, HS, HK⟩ := hrel
    have sS := S_size s
    have wk := IntWalk.i64_in ((k : Int) + 1) (by omega)
    by_cases hlt : k < L.length
    · obtain ⟨x, hx⟩ : ∃ x, L[k]? = some x := ⟨_, List.getElem?_eq_getElem hlt⟩
      have hmem := List.mem_of_getElem? hx
      obtain ⟨x1, x2⟩ := HG.out x hmem
      obtain ⟨ba, oa, ca', hva, _, hca, hcell⟩ := HV.out.cell hx
      cases hva
      have hc0 := hcell 0 (by omega)
      have hc1 := hcell 1 (by omega)
      simp only [Fld.cells, List.getElem?_cons_zero, List.getElem?_cons_succ, Nat.add_zero] at hc0 hc1
      have A0 := Lib.hid hc0
      have A1 := Lib.hid hc1
      have HE := Lib.hid (strK_take hx)
      have HLn := Lib.hid (strK_len (L.take (k + 1)) (by rw [List.length_take]; omega)).1
      have h1 := Lib.hid (HG0.out wr x hmem)
      have G1 := Lib.hid (fun w' => HG1.out w' x hmem)
      have G2 := Lib.hid (fun w' => HG2.out w' x hmem)
      have GD := Lib.hid (fun w' => HGd.out w' x hmem)
      have s1 := S_size x.name
      have s2 := S_size x.value
      have b1 : getN [x] nHost ≤ 1 := getN_le [x] nHost
      have b2 : getN [x] nCL ≤ 1 := getN_le [x] nCL
      have b3 : getN [x] nTE ≤ 1 := getN_le [x] nTE
      have hkf : keepS x = (decide (getN [x] nHost + getN [x] nCL + getN [x] nTE = 0) && goodF x && decide (x.name.length + x.value.length < 100)) := rfl
      generalize getN [x] nHost = m1 at *
      generalize getN [x] nCL = m2 at *
      generalize getN [x] nTE = m3 at *
      have c0 := HK.out.load A0.out
      have c1 := HK.out.load A1.out
      clear hcell hx hca hc0 hc1 hmem
      go_wp2_with fail
      refine h1.out.mono ?_
      rintro e w2 ⟨rfl, k2⟩
      have K2 := Lib.hid (((Keep.refl [] wr).alloc _).trans k2)
      have h2 := Lib.hid (G1.out w2)
      have c0 := (HK.out.trans K2.out).load A0.out
      have c1 := (HK.out.trans K2.out).load A1.out
      clear k2 h1
      go_wp2_with fail
      refine h2.out.mono ?_
      rintro e w3 ⟨rfl, k3⟩
      have K3 := Lib.hid ((K2.out.alloc _).trans k3)
      have h3 := Lib.hid (G2.out w3)
      have c0 := (HK.out.trans K3.out).load A0.out
      have c1 := (HK.out.trans K3.out).load A1.out
      clear k3 h2 K2
      go_wp2_with fail
      refine h3.out.mono ?_
      rintro e w4 ⟨rfl, k4⟩
      have K4 := Lib.hid ((K3.out.alloc _).trans k4)
      have c0 := (HK.out.trans K4.out).load A0.out
      have c1 := (HK.out.trans K4.out).load A1.out
      have w12 := IntWalk.i64_in ((m1 : Int) + (m2 : Int)) (by omega)
      have w123 := IntWalk.i64_in ((m1 : Int) + (m2 : Int) + (m3 : Int)) (by omega)
      have wnv := IntWalk.i64_in ((x.name.length : Int) + (x.value.length : Int)) (by omega)
      have HX1 := Lib.hid x1
      have HX2 := Lib.hid x2
      clear k4 h3 K3 G1 G2 x1 x2
      by_cases hz : m1 + m2 + m3 = 0
      case neg =>
        have q3 : (((m1 : Int) + (m2 : Int) + (m3 : Int)) == 0) = false := by simp; omega
        have HS2 := Lib.hid (show s = strB ++ [13, 10] ++ bodyT (strK (L.take (k + 1))) ∧ s.length ≤ 2096 from by rw [HE.out, hkf, decide_eq_false hz]; exact HS.out)
        clear hz hkf
        go_wp2_with fail
        go_quiet (fail)
        go_wp2_with fail
        go_roundg (L.length - (k + 1))
        case measure => omega
        case rel => exact ⟨k + 1, s, rfl, by go_num, by omega, rfl, HS2, Lib.hid ((HK.out.trans K4.out).drewN _)⟩
      have q3 : (((m1 : Int) + (m2 : Int) + (m3 : Int)) == 0) = true := by simp; omega
      have e0 : ∀ n, (ext w4 n).cell? ⟨ba, oa + k * 2, none⟩ = some (.string (S x.name)) := fun n => (ext_keep w4 n).load c0
      have e1 : ∀ n, (ext w4 n).cell? ⟨ba, oa + k * 2 + 1, none⟩ = some (.string (S x.value)) := fun n => (ext_keep w4 n).load c1
      cases hgo : goodF x with
      | false =>
        rw [hgo] at GD
        have HS2 := Lib.hid (show s = strB ++ [13, 10] ++ bodyT (strK (L.take (k + 1))) ∧ s.length ≤ 2096 from by rw [HE.out, hkf, hgo, Bool.and_false, Bool.false_and]; exact HS.out)
        have GDx := GD
        clear hz hkf GD
        go_wp2_with fail
        refine wp_region_ext_lit (by kernel_rfl) (by kernel_rfl) ?_
        repeat (go_big_quiet_step ((go_at_call 14; exact Calls.quiet_ext (GDx.out _))))
        refine wpQuiet_nil ?_
        intro _ hw'
        obtain ⟨nq, hw''⟩ := hw'
        subst hw''
        go_wp2_with fail
        go_roundg (L.length - (k + 1))
        case measure => omega
        case rel => exact ⟨k + 1, s, rfl, by go_num, by omega, rfl, HS2, Lib.hid ((HK.out.trans K4.out).trans (ext_keep w4 nq))⟩
      | true =>
        rw [hgo] at GD
        by_cases hs : x.name.length + x.value.length < 100
        case neg =>
          have q4 : decide ((x.name.length : Int) + (x.value.length : Int) < 100) = false := by simp; omega
          have HS2 := Lib.hid (show s = strB ++ [13, 10] ++ bodyT (strK (L.take (k + 1))) ∧ s.length ≤ 2096 from by rw [HE.out, hkf, decide_eq_false hs, Bool.and_false]; exact HS.out)
          have GDx := GD
          clear hz hkf GD
          go_wp2_with fail
          refine wp_region_ext_lit (by kernel_rfl) (by kernel_rfl) ?_
          repeat (go_big_quiet_step ((go_at_call 14; exact Calls.quiet_ext (GDx.out _))))
          refine wpQuiet_nil ?_
          intro _ hw'
          obtain ⟨nq, hw''⟩ := hw'
          subst hw''
          go_wp2_with fail
          go_roundg (L.length - (k + 1))
          case measure => omega
          case rel => exact ⟨k + 1, s, rfl, by go_num, by omega, rfl, HS2, Lib.hid ((HK.out.trans K4.out).trans (ext_keep w4 nq))⟩
        have q4 : decide ((x.name.length : Int) + (x.value.length : Int) < 100) = true := by simp; omega
        have HS2 := Lib.hid (show s ++ printF x ++ [13, 10] = strB ++ [13, 10] ++ bodyT (strK (L.take (k + 1))) from by rw [HE.out, hkf, hgo, decide_eq_true hs, decide_eq_true hz]; show _ = strB ++ [13, 10] ++ (bodyT (strK (L.take k)) ++ (printF x ++ [13, 10])); rw [HS.out.1]; simp)
        have HPr := Lib.hid (fun w' => field_Print x w' (by omega))
        have hp := show (printF x).length = x.name.length + 2 + x.value.length from by unfold printF; simp; omega
        have hsl := HS.out.2
        have hcat1 : S s ++ S (printF x) = S (s ++ printF x) := S_append _ _
        have hcat2 : S (s ++ printF x) ++ (⟨#[13, 10]⟩ : ByteArray) = S (s ++ printF x ++ [13, 10]) := S_append _ [13, 10]
        have hs12 : (s ++ printF x).length ≤ 3000 := by rw [List.length_append]; omega
        have sP := S_size (printF x)
        have sSP := S_size (s ++ printF x)
        have HL3 := Lib.hid (show (s ++ printF x ++ [13, 10]).length ≤ 2096 from by rw [HS2.out]; have := HLn.out; simp only [List.length_append, List.length_cons, List.length_nil, strB]; omega)
        have hov1 : ¬ 9223372036854775807 < s.length + (printF x).length := by omega
        have hov2 : ¬ 9223372036854775807 < (s ++ printF x).length + 2 := by omega
        generalize s ++ printF x ++ [13, 10] = s3 at *
        generalize s ++ printF x = s12 at *
        generalize printF x = px at *
        have GDx := GD
        clear hz hkf hs GD hgo
        go_wp2_with fail
        refine wp_region_ext_lit (by kernel_rfl) (by kernel_rfl) ?_
        repeat (go_big_quiet_step ((go_at_call 14; exact Calls.quiet_ext (GDx.out _))))
        refine wpQuiet_nil ?_
        intro _ hw'
        obtain ⟨nq, hw''⟩ := hw'
        subst hw''
        have c0 := e0 nq
        have c1 := e1 nq
        have K5 := Lib.hid ((HK.out.trans K4.out).trans (ext_keep w4 nq))
        generalize ext w4 nq = w5 at *
        clear e0 e1
        go_wp2_with fail
        refine (HPr.out _).mono ?_
        rintro e w6 ⟨rfl, k6⟩
        have K6 := Lib.hid (K5.out.trans k6)
        clear k6
        go_wp2_with fail
        go_roundg (L.length - (k + 1))
        case measure => omega
        case rel => exact ⟨k + 1, s3, rfl, by go_num, by omega, rfl, Lib.hid ⟨HS2.out, HL3.out⟩, K6⟩
    · have qe : decide ((k : Int) < (L.length : Int)) = false := by simp; omega
      have hke : L.take k = L := List.take_of_length_le (by omega)
      have hsl := HS.out.2
      have hs1 := HS.out.1
      rw [hke] at hs1
      have HSS := Lib.hid hs1
      have HNw := Lib.hid (fun w' (k : Keep [] w w') => inlet_New w.heap.size w' k.size)
      obtain ⟨j, hj, ej⟩ := u64_mod c 4 (by omega)
      replace ej : (IntKind.u64.wrap c).tmod 4 = (j : Int) := ej
      have HZl := Lib.hid (strZ_len L j hl2 hj)
      have HZn := Lib.hid (str_next L j hl2 hj)
      have HZa := Lib.hid (str_again L j)
      clear hke hs1 hgm wk hal' HG HV HG0 HG1 HG2 HGd HS
      have hj4 : j = 0 ∨ j = 1 ∨ j = 2 ∨ j = 3 := by omega
      clear hj
      rcases hj4 with rfl | rfl | rfl | rfl
      · have hcat : S s ++ (⟨#[72, 111, 115, 116, 58, 32, 97, 13, 10, 67, 111, 110, 116, 101, 110, 116, 45, 76, 101, 110, 103, 116, 104, 58, 32, 48, 13, 10, 67, 111, 110, 116, 101, 110, 116, 45, 76, 101, 110, 103, 116, 104, 58, 32, 48, 13, 10]⟩ : ByteArray) = S (s ++ [72, 111, 115, 116, 58, 32, 97, 13, 10, 67, 111, 110, 116, 101, 110, 116, 45, 76, 101, 110, 103, 116, 104, 58, 32, 48, 13, 10, 67, 111, 110, 116, 101, 110, 116, 45, 76, 101, 110, 103, 116, 104, 58, 32, 48, 13, 10]) := S_append _ _
        have hz : s ++ [72, 111, 115, 116, 58, 32, 97, 13, 10, 67, 111, 110, 116, 101, 110, 116, 45, 76, 101, 110, 103, 116, 104, 58, 32, 48, 13, 10, 67, 111, 110, 116, 101, 110, 116, 45, 76, 101, 110, 103, 116, 104, 58, 32, 48, 13, 10] ++ [13, 10, 48, 13, 10, 13, 10] = strZ L 0 := by rw [HSS.out]; unfold strZ headT; rw [body_app]; simp [strE, bodyT, printF, nHost, nCL]
        have hl3 : (s ++ [72, 111, 115, 116, 58, 32, 97, 13, 10, 67, 111, 110, 116, 101, 110, 116, 45, 76, 101, 110, 103, 116, 104, 58, 32, 48, 13, 10, 67, 111, 110, 116, 101, 110, 116, 45, 76, 101, 110, 103, 116, 104, 58, 32, 48, 13, 10]).length = s.length + 47 := by simp
        have hov3 : ¬ 9223372036854775807 < s.length + 47 := by omega
        generalize s ++ [72, 111, 115, 116, 58, 32, 97, 13, 10, 67, 111, 110, 116, 101, 110, 116, 45, 76, 101, 110, 103, 116, 104, 58, 32, 48, 13, 10, 67, 111, 110, 116, 101, 110, 116, 45, 76, 101, 110, 103, 116, 104, 58, 32, 48, 13, 10] = s4 at *
        have hcat2 : S s4 ++ (⟨#[13, 10, 48, 13, 10, 13, 10]⟩ : ByteArray) = S (strZ L 0) := by rw [← hz]; exact S_append _ [13, 10, 48, 13, 10, 13, 10]
        have hov4 : ¬ 9223372036854775807 < s4.length + 7 := by omega
        have s4S := S_size s4
        have hadd : inAdd in0 (strZ L 0) = (fr (strZ L 0), 0) := (Iv.nil.add (strZ L 0) (by have := HZl.out; simp; omega)).1
        have hok1 := fr_ok (strZ L 0) (by have := HZl.out; omega)
        have hok2 : ({ fr (strZ L 0) with st := 400 } : InS).ok := by have h9 := next_ok hok1; rw [HZn.out] at h9; exact h9
        have HH := Lib.hid (And.intro hadd (And.intro hok1 hok2))
        clear hz hl3 hadd hok1 hok2
        generalize strZ L 0 = z at *
        go_wp2_with fail
        refine (HNw.out _ HK.out).mono ?_
        rintro e w2 ⟨p, rfl, hp, hx, k2⟩
        have K2 := Lib.hid (HK.out.trans k2)
        have HA := Lib.hid (inlet_Add z hx (by decide) (by have := HZl.out; omega))
        rw [HH.out.1] at HA
        have HB2 := Lib.hid hx.base
        clear hx k2 hp
        go_wp2_with fail
        refine HA.out.mono ?_
        rintro e w3 ⟨rfl, hx, k3⟩
        have K3 := Lib.hid (K2.out.above k3 (by intro y hh; have h9 : y = p := (by simpa using hh); have := HB2.out; omega))
        have HX := Lib.hid (inlet_Next hx (HM.out.keep K3.out (by simp)) K3.out.size hbig HH.out.2.1)
        rw [HZn.out] at HX
        unfold NextOut at HX
        dsimp only at HX
        have P3 := Lib.hid hx
        clear hx k3 HA
        go_wp2_with fail
        refine HX.out.mono ?_
        rintro e w4 ⟨v, X4, R4, rfl, hx, k4, n4, r4, ho, hg4⟩
        obtain ⟨sa, sc, rfl, _⟩ := ho.shape
        have K4 := Lib.hid (K3.out.above k4 (fun x hh => (P3.out.lo x hh).1))
        have kA := (Keep.refl [] w4).alloc (.cells (reqC req0.m req0.t (.slice sa req0.F.length sc) req0.cl).toArray 37)
        have bA := Blk.newA w4 (reqC req0.m req0.t (.slice sa req0.F.length sc) req0.cl).toArray 37
        generalize hwA : w4.alloc (.cells (reqC req0.m req0.t (.slice sa req0.F.length sc) req0.cl).toArray 37) = wA at kA bA
        have P4 := Lib.hid (hx.keep0 kA)
        have KA := Lib.hid (K4.out.trans kA)
        have BA := Lib.hid (show Blk wA w4.heap.size 37 (reqC req0.m req0.t (.slice sa req0.F.length sc) req0.cl) from bA)
        have hnX := Lib.hid (show w4.heap.size ∉ X4 from fun hh => by have := (hx.lo _ hh).2; omega)
        have HX2 := Lib.hid (inlet_Next P4.out (HM.out.keep KA.out (by simp)) KA.out.size hbig HH.out.2.2)
        rw [HZa.out] at HX2
        unfold NextOut at HX2
        dsimp only at HX2
        have HO1 := Lib.hid (reqC_one req0.m req0.t (v := .slice sa req0.F.length sc) req0.cl rfl)
        clear hx k4 n4 r4 ho hg4 kA bA HX P3
        go_wp2_with (first
          | (with_reducible (show wpList _ _ _ ((⟨none, .store _ (.tmp 14) (.tmp 117), _, _, _, none⟩ : Oper) :: _) _ _)
             refine wpList_store_fresh rfl 37 (.tmp 14) (.tmp 117) rfl _ (reqC req0.m req0.t (.slice sa req0.F.length sc) req0.cl) (by rfl) (by rfl) req_size (by rfl) HO1.out ?_
             rw [hwA]
             try simp only [Act.put])
          | fail)
        refine HX2.out.mono ?_
        rintro e w5 ⟨v, X5, R5, rfl, hx, k5, n5, r5, ho, hg5⟩
        obtain ⟨sb, sd, rfl, _⟩ := ho.shape
        have K5 := Lib.hid (KA.out.above k5 (fun x hh => (P4.out.lo x hh).1))
        have b5 := k5.blk BA.out hnX.out
        have kB := (Keep.refl [] w5).alloc (.cells (reqC req0.m req0.t (.slice sb req0.F.length sd) req0.cl).toArray 37)
        generalize hwB : w5.alloc (.cells (reqC req0.m req0.t (.slice sb req0.F.length sd) req0.cl).toArray 37) = wB at kB
        have KB := Lib.hid (K5.out.trans kB)
        have b6 := kB.blk b5 (by simp)
        have r0 := b6.get (k := 0) (v := .string ⟨#[]⟩) rfl
        have HA := Lib.hid (inlet_Add [] (hx.keep0 kB) (by have := HH.out.2.2.len; exact Nat.le_trans this (by decide)) (by decide))
        rw [bad_add (by simp) []] at HA
        have PLo := Lib.hid (fun x (hh : x ∈ [p]) => (show w.heap.size ≤ x from by have h9 : x = p := (by simpa using hh); have := HB2.out; omega))
        have HO2 := Lib.hid (reqC_one req0.m req0.t (v := .slice sb req0.F.length sd) req0.cl rfl)
        clear hx k5 n5 r5 ho hg5 kB b5 b6 HX2 P4 hwA BA hnX
        go_wp2_with (first
          | (with_reducible (show wpList _ _ _ ((⟨none, .store _ (.tmp 16) (.tmp 122), _, _, _, none⟩ : Oper) :: _) _ _)
             refine wpList_store_fresh rfl 37 (.tmp 16) (.tmp 122) rfl _ (reqC req0.m req0.t (.slice sb req0.F.length sd) req0.cl) (by rfl) (by rfl) req_size (by rfl) HO2.out ?_
             rw [hwB]
             try simp only [Act.put])
          | fail)
        refine HA.out.mono ?_
        rintro e w6 ⟨rfl, _, k6⟩
        have K6 := Lib.hid (KB.out.above k6 PLo.out)
        clear k6
        go_wp2_with fail
        go_ret
        exact ⟨rfl, K6.out⟩
      · have hcat : S s ++ (⟨#[72, 111, 115, 116, 58, 32, 97, 13, 10, 67, 111, 110, 116, 101, 110, 116, 45, 76, 101, 110, 103, 116, 104, 58, 32, 53, 13, 10, 84, 114, 97, 110, 115, 102, 101, 114, 45, 69, 110, 99, 111, 100, 105, 110, 103, 58, 32, 99, 104, 117, 110, 107, 101, 100, 13, 10]⟩ : ByteArray) = S (s ++ [72, 111, 115, 116, 58, 32, 97, 13, 10, 67, 111, 110, 116, 101, 110, 116, 45, 76, 101, 110, 103, 116, 104, 58, 32, 53, 13, 10, 84, 114, 97, 110, 115, 102, 101, 114, 45, 69, 110, 99, 111, 100, 105, 110, 103, 58, 32, 99, 104, 117, 110, 107, 101, 100, 13, 10]) := S_append _ _
        have hz : s ++ [72, 111, 115, 116, 58, 32, 97, 13, 10, 67, 111, 110, 116, 101, 110, 116, 45, 76, 101, 110, 103, 116, 104, 58, 32, 53, 13, 10, 84, 114, 97, 110, 115, 102, 101, 114, 45, 69, 110, 99, 111, 100, 105, 110, 103, 58, 32, 99, 104, 117, 110, 107, 101, 100, 13, 10] ++ [13, 10, 48, 13, 10, 13, 10] = strZ L 1 := by rw [HSS.out]; unfold strZ headT; rw [body_app]; simp [strE, bodyT, printF, nHost, nCL, nTE, nChunked]
        have hl3 : (s ++ [72, 111, 115, 116, 58, 32, 97, 13, 10, 67, 111, 110, 116, 101, 110, 116, 45, 76, 101, 110, 103, 116, 104, 58, 32, 53, 13, 10, 84, 114, 97, 110, 115, 102, 101, 114, 45, 69, 110, 99, 111, 100, 105, 110, 103, 58, 32, 99, 104, 117, 110, 107, 101, 100, 13, 10]).length = s.length + 56 := by simp
        have hov3 : ¬ 9223372036854775807 < s.length + 56 := by omega
        generalize s ++ [72, 111, 115, 116, 58, 32, 97, 13, 10, 67, 111, 110, 116, 101, 110, 116, 45, 76, 101, 110, 103, 116, 104, 58, 32, 53, 13, 10, 84, 114, 97, 110, 115, 102, 101, 114, 45, 69, 110, 99, 111, 100, 105, 110, 103, 58, 32, 99, 104, 117, 110, 107, 101, 100, 13, 10] = s4 at *
        have hcat2 : S s4 ++ (⟨#[13, 10, 48, 13, 10, 13, 10]⟩ : ByteArray) = S (strZ L 1) := by rw [← hz]; exact S_append _ [13, 10, 48, 13, 10, 13, 10]
        have hov4 : ¬ 9223372036854775807 < s4.length + 7 := by omega
        have s4S := S_size s4
        have hadd : inAdd in0 (strZ L 1) = (fr (strZ L 1), 0) := (Iv.nil.add (strZ L 1) (by have := HZl.out; simp; omega)).1
        have hok1 := fr_ok (strZ L 1) (by have := HZl.out; omega)
        have hok2 : ({ fr (strZ L 1) with st := 400 } : InS).ok := by have h9 := next_ok hok1; rw [HZn.out] at h9; exact h9
        have HH := Lib.hid (And.intro hadd (And.intro hok1 hok2))
        clear hz hl3 hadd hok1 hok2
        generalize strZ L 1 = z at *
        go_wp2_with fail
        refine (HNw.out _ HK.out).mono ?_
        rintro e w2 ⟨p, rfl, hp, hx, k2⟩
        have K2 := Lib.hid (HK.out.trans k2)
        have HA := Lib.hid (inlet_Add z hx (by decide) (by have := HZl.out; omega))
        rw [HH.out.1] at HA
        have HB2 := Lib.hid hx.base
        clear hx k2 hp
        go_wp2_with fail
        refine HA.out.mono ?_
        rintro e w3 ⟨rfl, hx, k3⟩
        have K3 := Lib.hid (K2.out.above k3 (by intro y hh; have h9 : y = p := (by simpa using hh); have := HB2.out; omega))
        have HX := Lib.hid (inlet_Next hx (HM.out.keep K3.out (by simp)) K3.out.size hbig HH.out.2.1)
        rw [HZn.out] at HX
        unfold NextOut at HX
        dsimp only at HX
        have P3 := Lib.hid hx
        clear hx k3 HA
        go_wp2_with fail
        refine HX.out.mono ?_
        rintro e w4 ⟨v, X4, R4, rfl, hx, k4, n4, r4, ho, hg4⟩
        obtain ⟨sa, sc, rfl, _⟩ := ho.shape
        have K4 := Lib.hid (K3.out.above k4 (fun x hh => (P3.out.lo x hh).1))
        have kA := (Keep.refl [] w4).alloc (.cells (reqC req0.m req0.t (.slice sa req0.F.length sc) req0.cl).toArray 37)
        have bA := Blk.newA w4 (reqC req0.m req0.t (.slice sa req0.F.length sc) req0.cl).toArray 37
        generalize hwA : w4.alloc (.cells (reqC req0.m req0.t (.slice sa req0.F.length sc) req0.cl).toArray 37) = wA at kA bA
        have P4 := Lib.hid (hx.keep0 kA)
        have KA := Lib.hid (K4.out.trans kA)
        have BA := Lib.hid (show Blk wA w4.heap.size 37 (reqC req0.m req0.t (.slice sa req0.F.length sc) req0.cl) from bA)
        have hnX := Lib.hid (show w4.heap.size ∉ X4 from fun hh => by have := (hx.lo _ hh).2; omega)
        have HX2 := Lib.hid (inlet_Next P4.out (HM.out.keep KA.out (by simp)) KA.out.size hbig HH.out.2.2)
        rw [HZa.out] at HX2
        unfold NextOut at HX2
        dsimp only at HX2
        have HO1 := Lib.hid (reqC_one req0.m req0.t (v := .slice sa req0.F.length sc) req0.cl rfl)
        clear hx k4 n4 r4 ho hg4 kA bA HX P3
        go_wp2_with (first
          | (with_reducible (show wpList _ _ _ ((⟨none, .store _ (.tmp 14) (.tmp 117), _, _, _, none⟩ : Oper) :: _) _ _)
             refine wpList_store_fresh rfl 37 (.tmp 14) (.tmp 117) rfl _ (reqC req0.m req0.t (.slice sa req0.F.length sc) req0.cl) (by rfl) (by rfl) req_size (by rfl) HO1.out ?_
             rw [hwA]
             try simp only [Act.put])
          | fail)
        refine HX2.out.mono ?_
        rintro e w5 ⟨v, X5, R5, rfl, hx, k5, n5, r5, ho, hg5⟩
        obtain ⟨sb, sd, rfl, _⟩ := ho.shape
        have K5 := Lib.hid (KA.out.above k5 (fun x hh => (P4.out.lo x hh).1))
        have b5 := k5.blk BA.out hnX.out
        have kB := (Keep.refl [] w5).alloc (.cells (reqC req0.m req0.t (.slice sb req0.F.length sd) req0.cl).toArray 37)
        generalize hwB : w5.alloc (.cells (reqC req0.m req0.t (.slice sb req0.F.length sd) req0.cl).toArray 37) = wB at kB
        have KB := Lib.hid (K5.out.trans kB)
        have b6 := kB.blk b5 (by simp)
        have r0 := b6.get (k := 0) (v := .string ⟨#[]⟩) rfl
        have HA := Lib.hid (inlet_Add [] (hx.keep0 kB) (by have := HH.out.2.2.len; exact Nat.le_trans this (by decide)) (by decide))
        rw [bad_add (by simp) []] at HA
        have PLo := Lib.hid (fun x (hh : x ∈ [p]) => (show w.heap.size ≤ x from by have h9 : x = p := (by simpa using hh); have := HB2.out; omega))
        have HO2 := Lib.hid (reqC_one req0.m req0.t (v := .slice sb req0.F.length sd) req0.cl rfl)
        clear hx k5 n5 r5 ho hg5 kB b5 b6 HX2 P4 hwA BA hnX
        go_wp2_with (first
          | (with_reducible (show wpList _ _ _ ((⟨none, .store _ (.tmp 16) (.tmp 122), _, _, _, none⟩ : Oper) :: _) _ _)
             refine wpList_store_fresh rfl 37 (.tmp 16) (.tmp 122) rfl _ (reqC req0.m req0.t (.slice sb req0.F.length sd) req0.cl) (by rfl) (by rfl) req_size (by rfl) HO2.out ?_
             rw [hwB]
             try simp only [Act.put])
          | fail)
        refine HA.out.mono ?_
        rintro e w6 ⟨rfl, _, k6⟩
        have K6 := Lib.hid (KB.out.above k6 PLo.out)
        clear k6
        go_wp2_with fail
        go_ret
        exact ⟨rfl, K6.out⟩
      · have hcat : S s ++ (⟨#[72, 111, 115, 116, 58, 32, 97, 13, 10, 72, 111, 115, 116, 58, 32, 97, 13, 10]⟩ : ByteArray) = S (s ++ [72, 111, 115, 116, 58, 32, 97, 13, 10, 72, 111, 115, 116, 58, 32, 97, 13, 10]) := S_append _ _
        have hz : s ++ [72, 111, 115, 116, 58, 32, 97, 13, 10, 72, 111, 115, 116, 58, 32, 97, 13, 10] ++ [13, 10, 48, 13, 10, 13, 10] = strZ L 2 := by rw [HSS.out]; unfold strZ headT; rw [body_app]; simp [strE, bodyT, printF, nHost]
        have hl3 : (s ++ [72, 111, 115, 116, 58, 32, 97, 13, 10, 72, 111, 115, 116, 58, 32, 97, 13, 10]).length = s.length + 18 := by simp
        have hov3 : ¬ 9223372036854775807 < s.length + 18 := by omega
        generalize s ++ [72, 111, 115, 116, 58, 32, 97, 13, 10, 72, 111, 115, 116, 58, 32, 97, 13, 10] = s4 at *
        have hcat2 : S s4 ++ (⟨#[13, 10, 48, 13, 10, 13, 10]⟩ : ByteArray) = S (strZ L 2) := by rw [← hz]; exact S_append _ [13, 10, 48, 13, 10, 13, 10]
        have hov4 : ¬ 9223372036854775807 < s4.length + 7 := by omega
        have s4S := S_size s4
        have hadd : inAdd in0 (strZ L 2) = (fr (strZ L 2), 0) := (Iv.nil.add (strZ L 2) (by have := HZl.out; simp; omega)).1
        have hok1 := fr_ok (strZ L 2) (by have := HZl.out; omega)
        have hok2 : ({ fr (strZ L 2) with st := 400 } : InS).ok := by have h9 := next_ok hok1; rw [HZn.out] at h9; exact h9
        have HH := Lib.hid (And.intro hadd (And.intro hok1 hok2))
        clear hz hl3 hadd hok1 hok2
        generalize strZ L 2 = z at *
        go_wp2_with fail
        refine (HNw.out _ HK.out).mono ?_
        rintro e w2 ⟨p, rfl, hp, hx, k2⟩
        have K2 := Lib.hid (HK.out.trans k2)
        have HA := Lib.hid (inlet_Add z hx (by decide) (by have := HZl.out; omega))
        rw [HH.out.1] at HA
        have HB2 := Lib.hid hx.base
        clear hx k2 hp
        go_wp2_with fail
        refine HA.out.mono ?_
        rintro e w3 ⟨rfl, hx, k3⟩
        have K3 := Lib.hid (K2.out.above k3 (by intro y hh; have h9 : y = p := (by simpa using hh); have := HB2.out; omega))
        have HX := Lib.hid (inlet_Next hx (HM.out.keep K3.out (by simp)) K3.out.size hbig HH.out.2.1)
        rw [HZn.out] at HX
        unfold NextOut at HX
        dsimp only at HX
        have P3 := Lib.hid hx
        clear hx k3 HA
        go_wp2_with fail
        refine HX.out.mono ?_
        rintro e w4 ⟨v, X4, R4, rfl, hx, k4, n4, r4, ho, hg4⟩
        obtain ⟨sa, sc, rfl, _⟩ := ho.shape
        have K4 := Lib.hid (K3.out.above k4 (fun x hh => (P3.out.lo x hh).1))
        have kA := (Keep.refl [] w4).alloc (.cells (reqC req0.m req0.t (.slice sa req0.F.length sc) req0.cl).toArray 37)
        have bA := Blk.newA w4 (reqC req0.m req0.t (.slice sa req0.F.length sc) req0.cl).toArray 37
        generalize hwA : w4.alloc (.cells (reqC req0.m req0.t (.slice sa req0.F.length sc) req0.cl).toArray 37) = wA at kA bA
        have P4 := Lib.hid (hx.keep0 kA)
        have KA := Lib.hid (K4.out.trans kA)
        have BA := Lib.hid (show Blk wA w4.heap.size 37 (reqC req0.m req0.t (.slice sa req0.F.length sc) req0.cl) from bA)
        have hnX := Lib.hid (show w4.heap.size ∉ X4 from fun hh => by have := (hx.lo _ hh).2; omega)
        have HX2 := Lib.hid (inlet_Next P4.out (HM.out.keep KA.out (by simp)) KA.out.size hbig HH.out.2.2)
        rw [HZa.out] at HX2
        unfold NextOut at HX2
        dsimp only at HX2
        have HO1 := Lib.hid (reqC_one req0.m req0.t (v := .slice sa req0.F.length sc) req0.cl rfl)
        clear hx k4 n4 r4 ho hg4 kA bA HX P3
        go_wp2_with (first
          | (with_reducible (show wpList _ _ _ ((⟨none, .store _ (.tmp 14) (.tmp 117), _, _, _, none⟩ : Oper) :: _) _ _)
             refine wpList_store_fresh rfl 37 (.tmp 14) (.tmp 117) rfl _ (reqC req0.m req0.t (.slice sa req0.F.length sc) req0.cl) (by rfl) (by rfl) req_size (by rfl) HO1.out ?_
             rw [hwA]
             try simp only [Act.put])
          | fail)
        refine HX2.out.mono ?_
        rintro e w5 ⟨v, X5, R5, rfl, hx, k5, n5, r5, ho, hg5⟩
        obtain ⟨sb, sd, rfl, _⟩ := ho.shape
        have K5 := Lib.hid (KA.out.above k5 (fun x hh => (P4.out.lo x hh).1))
        have b5 := k5.blk BA.out hnX.out
        have kB := (Keep.refl [] w5).alloc (.cells (reqC req0.m req0.t (.slice sb req0.F.length sd) req0.cl).toArray 37)
        generalize hwB : w5.alloc (.cells (reqC req0.m req0.t (.slice sb req0.F.length sd) req0.cl).toArray 37) = wB at kB
        have KB := Lib.hid (K5.out.trans kB)
        have b6 := kB.blk b5 (by simp)
        have r0 := b6.get (k := 0) (v := .string ⟨#[]⟩) rfl
        have HA := Lib.hid (inlet_Add [] (hx.keep0 kB) (by have := HH.out.2.2.len; exact Nat.le_trans this (by decide)) (by decide))
        rw [bad_add (by simp) []] at HA
        have PLo := Lib.hid (fun x (hh : x ∈ [p]) => (show w.heap.size ≤ x from by have h9 : x = p := (by simpa using hh); have := HB2.out; omega))
        have HO2 := Lib.hid (reqC_one req0.m req0.t (v := .slice sb req0.F.length sd) req0.cl rfl)
        clear hx k5 n5 r5 ho hg5 kB b5 b6 HX2 P4 hwA BA hnX
        go_wp2_with (first
          | (with_reducible (show wpList _ _ _ ((⟨none, .store _ (.tmp 16) (.tmp 122), _, _, _, none⟩ : Oper) :: _) _ _)
             refine wpList_store_fresh rfl 37 (.tmp 16) (.tmp 122) rfl _ (reqC req0.m req0.t (.slice sb req0.F.length sd) req0.cl) (by rfl) (by rfl) req_size (by rfl) HO2.out ?_
             rw [hwB]
             try simp only [Act.put])
          | fail)
        refine HA.out.mono ?_
        rintro e w6 ⟨rfl, _, k6⟩
        have K6 := Lib.hid (KB.out.above k6 PLo.out)
        clear k6
        go_wp2_with fail
        go_ret
        exact ⟨rfl, K6.out⟩
      · have hz : s ++ [13, 10, 48, 13, 10, 13, 10] = strZ L 3 := by rw [HSS.out]; unfold strZ headT; rw [body_app]; simp [strE, bodyT]
        have hl3 : s.length = s.length := rfl
        obtain ⟨s4, hs4⟩ : ∃ s4, s = s4 := ⟨_, rfl⟩
        subst hs4
        have hcat2 : S s ++ (⟨#[13, 10, 48, 13, 10, 13, 10]⟩ : ByteArray) = S (strZ L 3) := by rw [← hz]; exact S_append _ [13, 10, 48, 13, 10, 13, 10]
        have hov4 : ¬ 9223372036854775807 < s.length + 7 := by omega
        have s4S := S_size s
        have hadd : inAdd in0 (strZ L 3) = (fr (strZ L 3), 0) := (Iv.nil.add (strZ L 3) (by have := HZl.out; simp; omega)).1
        have hok1 := fr_ok (strZ L 3) (by have := HZl.out; omega)
        have hok2 : ({ fr (strZ L 3) with st := 400 } : InS).ok := by have h9 := next_ok hok1; rw [HZn.out] at h9; exact h9
        have HH := Lib.hid (And.intro hadd (And.intro hok1 hok2))
        clear hz hl3 hadd hok1 hok2
        generalize strZ L 3 = z at *
        go_wp2_with fail
        refine (HNw.out _ HK.out).mono ?_
        rintro e w2 ⟨p, rfl, hp, hx, k2⟩
        have K2 := Lib.hid (HK.out.trans k2)
        have HA := Lib.hid (inlet_Add z hx (by decide) (by have := HZl.out; omega))
        rw [HH.out.1] at HA
        have HB2 := Lib.hid hx.base
        clear hx k2 hp
        go_wp2_with fail
        refine HA.out.mono ?_
        rintro e w3 ⟨rfl, hx, k3⟩
        have K3 := Lib.hid (K2.out.above k3 (by intro y hh; have h9 : y = p := (by simpa using hh); have := HB2.out; omega))
        have HX := Lib.hid (inlet_Next hx (HM.out.keep K3.out (by simp)) K3.out.size hbig HH.out.2.1)
        rw [HZn.out] at HX
        unfold NextOut at HX
        dsimp only at HX
        have P3 := Lib.hid hx
        clear hx k3 HA
        go_wp2_with fail
        refine HX.out.mono ?_
        rintro e w4 ⟨v, X4, R4, rfl, hx, k4, n4, r4, ho, hg4⟩
        obtain ⟨sa, sc, rfl, _⟩ := ho.shape
        have K4 := Lib.hid (K3.out.above k4 (fun x hh => (P3.out.lo x hh).1))
        have kA := (Keep.refl [] w4).alloc (.cells (reqC req0.m req0.t (.slice sa req0.F.length sc) req0.cl).toArray 37)
        have bA := Blk.newA w4 (reqC req0.m req0.t (.slice sa req0.F.length sc) req0.cl).toArray 37
        generalize hwA : w4.alloc (.cells (reqC req0.m req0.t (.slice sa req0.F.length sc) req0.cl).toArray 37) = wA at kA bA
        have P4 := Lib.hid (hx.keep0 kA)
        have KA := Lib.hid (K4.out.trans kA)
        have BA := Lib.hid (show Blk wA w4.heap.size 37 (reqC req0.m req0.t (.slice sa req0.F.length sc) req0.cl) from bA)
        have hnX := Lib.hid (show w4.heap.size ∉ X4 from fun hh => by have := (hx.lo _ hh).2; omega)
        have HX2 := Lib.hid (inlet_Next P4.out (HM.out.keep KA.out (by simp)) KA.out.size hbig HH.out.2.2)
        rw [HZa.out] at HX2
        unfold NextOut at HX2
        dsimp only at HX2
        have HO1 := Lib.hid (reqC_one req0.m req0.t (v := .slice sa req0.F.length sc) req0.cl rfl)
        clear hx k4 n4 r4 ho hg4 kA bA HX P3
        go_wp2_with (first
          | (with_reducible (show wpList _ _ _ ((⟨none, .store _ (.tmp 14) (.tmp 117), _, _, _, none⟩ : Oper) :: _) _ _)
             refine wpList_store_fresh rfl 37 (.tmp 14) (.tmp 117) rfl _ (reqC req0.m req0.t (.slice sa req0.F.length sc) req0.cl) (by rfl) (by rfl) req_size (by rfl) HO1.out ?_
             rw [hwA]
             try simp only [Act.put])
          | fail)
        refine HX2.out.mono ?_
        rintro e w5 ⟨v, X5, R5, rfl, hx, k5, n5, r5, ho, hg5⟩
        obtain ⟨sb, sd, rfl, _⟩ := ho.shape
        have K5 := Lib.hid (KA.out.above k5 (fun x hh => (P4.out.lo x hh).1))
        have b5 := k5.blk BA.out hnX.out
        have kB := (Keep.refl [] w5).alloc (.cells (reqC req0.m req0.t (.slice sb req0.F.length sd) req0.cl).toArray 37)
        generalize hwB : w5.alloc (.cells (reqC req0.m req0.t (.slice sb req0.F.length sd) req0.cl).toArray 37) = wB at kB
        have KB := Lib.hid (K5.out.trans kB)
        have b6 := kB.blk b5 (by simp)
        have r0 := b6.get (k := 0) (v := .string ⟨#[]⟩) rfl
        have HA := Lib.hid (inlet_Add [] (hx.keep0 kB) (by have := HH.out.2.2.len; exact Nat.le_trans this (by decide)) (by decide))
        rw [bad_add (by simp) []] at HA
        have PLo := Lib.hid (fun x (hh : x ∈ [p]) => (show w.heap.size ≤ x from by have h9 : x = p := (by simpa using hh); have := HB2.out; omega))
        have HO2 := Lib.hid (reqC_one req0.m req0.t (v := .slice sb req0.F.length sd) req0.cl rfl)
        clear hx k5 n5 r5 ho hg5 kB b5 b6 HX2 P4 hwA BA hnX
        go_wp2_with (first
          | (with_reducible (show wpList _ _ _ ((⟨none, .store _ (.tmp 16) (.tmp 122), _, _, _, none⟩ : Oper) :: _) _ _)
             refine wpList_store_fresh rfl 37 (.tmp 16) (.tmp 122) rfl _ (reqC req0.m req0.t (.slice sb req0.F.length sd) req0.cl) (by rfl) (by rfl) req_size (by rfl) HO2.out ?_
             rw [hwB]
             try simp only [Act.put])
          | fail)
        refine HA.out.mono ?_
        rintro e w6 ⟨rfl, _, k6⟩
        have K6 := Lib.hid (KB.out.above k6 PLo.out)
        clear k6
        go_wp2_with fail
        go_ret
        exact ⟨rfl, K6.out⟩
end Go.Proofs.YtpimfoohpfkciaaDoor
