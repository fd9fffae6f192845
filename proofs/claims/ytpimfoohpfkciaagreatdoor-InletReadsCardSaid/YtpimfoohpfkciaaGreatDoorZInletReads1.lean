/- Parts of the proof of InletReads, in order. No conditions but those that each theorem states. -/
import Derived.Test.YtpimfoohpfkciaaGreatDoorZB5
import Derived.Deep.DeepHandedRow
import Derived.Great.Walk
/- Layer 10: the first look that the statements take: it answers true. No conditions. -/
namespace Go.Proofs.YtpimfoohpfkciaaGreatDoor
open Go.RowKit Go.Shelf

theorem aw_p1 : parseV [72, 111, 115, 116, 58, 32, 97, 32, 98, 32] = ⟨[72, 111, 115, 116], [97, 32, 98]⟩ := by decide +kernel
theorem aw_e1 : parseE [72, 111, 115, 116, 58, 32, 97, 32, 98, 32] = 0 := by decide +kernel
theorem aw_p2 : parseV [72, 111, 115, 116, 32, 58, 32, 97] = ⟨[], []⟩ := by decide +kernel
theorem aw_e2 : parseE [72, 111, 115, 116, 32, 58, 32, 97] = 3 := by decide +kernel
theorem aw_els : elsM [⟨[88], [97, 44, 32, 34, 98, 44, 99, 34, 32, 44, 44, 100]⟩] [120] = [[97], [34, 98, 44, 99, 34], [100]] := by decide +kernel
theorem aw_s1 : splitM [71, 69, 84, 32, 47, 32, 72, 84, 84, 80, 47, 49, 46, 49, 13, 10, 65, 58, 32, 49, 13, 10, 13, 10, 114, 101, 115, 116] = ⟨[71, 69, 84, 32, 47, 32, 72, 84, 84, 80, 47, 49, 46, 49], [⟨[65], [49]⟩], 24, 0⟩ := by kernel_rfl
theorem aw_s2 : splitM [71, 69, 84, 32, 47, 13, 10, 65, 58, 32, 49, 13, 10, 13] = ⟨[], [], 0, 17⟩ := by kernel_rfl

/-- a slice over a block that is known -/
theorem Blk.sl {α : Type} {enc : α → List Value} {n : Nat} (hn : ∀ x, (enc x).length = n) {w : World} {b : Nat} {T : TypeId} {L : List α} (h : Blk w b T (rows enc L)) {l cap : Nat} (hl : l = L.length) (hc : l ≤ cap) (hm : cap ≤ maxLen) : Sl enc n w (.slice (some ⟨b, 0, none⟩) l cap) L := by
  subst hl
  exact .inr ⟨b, 0, cap, rfl, hc, hm, fun i x hx k hk => by rw [Nat.zero_add, h.cell, rows_get' hn L i k x hx hk]⟩
theorem parse_is {l n v : List UInt8} {k : Int} {w w1 : World} (hm : ML w) (hk : Keep [] w w1) (hl : l.length < 4294967281) (hv : parseV l = ⟨n, v⟩) (he : parseE l = k) :
    Calls Tryz.prog 100 #[.string (S l)] w1 fun e w' => e = .returned (.tuple #[.agg #[.string (S n), .string (S v)], .int .i64 k]) ∧ Keep [] w1 w' := by
  have h := field_Parse l w1 (hm.keep hk (by simp)) hl
  rw [hv, he] at h
  exact h
theorem split_is {l : List UInt8} {r : Rd} {w w1 : World} (hm : ML w) (hk : Keep [] w w1) (hl : l.length ≤ 1048576) (hv : splitM l = r) :
    Calls Tryz.prog 36 #[.string (S l)] w1 (SplitOut w1 r) := by
  have h := field_Split l w1 (hm.keep hk (by simp)) hl
  rw [hv] at h
  exact h

end Go.Proofs.YtpimfoohpfkciaaGreatDoor

/- How fields that come in are read; the worlds that meet the rows' conditions. No conditions. -/
namespace Go.Proofs.YtpimfoohpfkciaaGreatDoor
open Go.RowKit Go.ChangeShapes Go.WideShapes

theorem fld_cells : Tryz.prog.cellsOf 40 = 2 := by kernel_rfl
theorem str_cells : Tryz.prog.cellsOf 9 = 1 := by kernel_rfl
def Fld.good (f : Fld) : Prop := f.name.length ≤ maxLen ∧ f.value.length ≤ maxLen
theorem read_fld {H : Type} {enc : TypeId × Value → H} {w : World} {base : Nat} {spare : Nat → Bool} {held : Bool} (m : Nat) (cs : List Value) (x : DataW H × List MemPlace)
    (h : DataW.trod enc Tryz.prog w base spare held m 40 cs = some x) : ∃ a : Fld, cs = a.cells ∧ a.good := by
  obtain ⟨hl, n, hf⟩ := trod_fields Tryz.underlying40 h
  rw [fld_cells] at hl
  obtain ⟨y0, h0⟩ := hf 0 _ rfl
  obtain ⟨y1, h1⟩ := hf 1 _ rfl
  obtain ⟨v0, c0, w0⟩ := field_string Tryz.underlying9 str_cells h0
  obtain ⟨v1, c1, w1⟩ := field_string Tryz.underlying9 str_cells h1
  refine ⟨⟨v0.data.toList, v1.data.toList⟩, list_eq_of hl rfl ?_, by rw [← Lib.size_eq]; exact w0, by rw [← Lib.size_eq]; exact w1⟩
  intro i hi
  simp only [Fld.cells, S_of]
  match i, hi with
  | 0, _ => exact c0
  | 1, _ => exact c1
/-- a struct that comes in by value -/
theorem read_agg {H : Type} {enc : TypeId × Value → H} {P : Program} {w : World} {base : Nat} {spare : Nat → Bool} {held : Bool} {α : Type} {en : α → List Value} {good : α → Prop}
    {t : TypeId} {v : Value} {d : DataW H} {ps : List MemPlace} (one : ∀ (m : Nat) (cs : List Value) (x : DataW H × List MemPlace), DataW.trod enc P w base spare held m t cs = some x → ∃ a, cs = en a ∧ good a)
    (h : DataW.Trod enc P w base spare held t v d ps) (hv : ∃ cs, v = .agg cs ∧ cs.size = P.cellsOf t) : ∃ a, v = .agg (en a).toArray ∧ good a := by
  obtain ⟨fuel, hf⟩ := h
  obtain ⟨cs, rfl, _⟩ := hv
  obtain ⟨a, ha, hg⟩ := one _ _ _ hf
  exact ⟨a, by rw [← ha]; simp [Value.cells], hg⟩

theorem Calls.below {P : Program} {f : FuncId} {args : Array Value} {w : World} {v : Value} (h : Calls P f args w fun e w' => e = .returned v ∧ Keep [] w w') : Calls P f args w fun e w' => e = .returned v ∧ Below w.heap.size w w' :=
  h.mono fun _ _ h => ⟨h.1, h.2.below (by simp)⟩
theorem ML.shape {W : World} (h : W.ShapedOpen Tryz.prog) : ML W :=
  Go.Proofs.cell_of_shapedOpen_int (zero := #[.int .i64 0]) (t := 3) h (of_decide_eq_true (by kernel_rfl)) (by kernel_rfl) rfl (by kernel_rfl) (by kernel_rfl) Tryz.underlying3

/-- a datum's cells -/
def flatD : Nat → DataW Unit → List Value
  | 0, _ => []
  | n + 1, .agg l => l.flatMap (flatD n)
  | _ + 1, .lit (.int k z) => [.int k z]
  | _ + 1, .lit (.bool b) => [.bool b]
  | _ + 1, .lit (.string s) => [.string ⟨s.toArray⟩]
  | _ + 1, _ => []
/-- the listed variables hold what is listed -/
noncomputable def laidHeap (l : List (String × DataW Unit)) (h : Array Obj) : Array Obj :=
  l.foldl (fun h x => match Tryz.prog.globalNamed x.1 with
    | some g => h.modify g fun
      | .cells _ t fr => .cells (flatD 6 x.2).toArray t fr
      | o => o
    | none => h) h
noncomputable def laidWorld (os : Os) (l : List (String × DataW Unit)) : World :=
  { World.holding Tryz.prog os ⟨#[], #[], []⟩ with heap := laidHeap l (World.holding Tryz.prog os ⟨#[], #[], []⟩).heap }
end Go.Proofs.YtpimfoohpfkciaaGreatDoor

/- Layer 12, plain laws: what Next says of bytes that came in pieces is what the document's Read says of them at once. No program. No conditions but those that each theorem states. -/
namespace Go.Proofs.YtpimfoohpfkciaaGreatDoor
open Go.RowKit

/-- what the document's Read says: the request, its bytes, the number -/
structure RdI where
  q : Req
  n : Nat
  s : Int
def rdM (l : List UInt8) : RdI :=
  if (headM l).s ≠ 0 then ⟨req0, 0, (headM l).s⟩
  else if (headM l).got then
    if (headM l).ch then
      (if (addC (ck0 4096) (l.drop (headM l).n)).err ≠ 0 then ⟨req0, 0, toldE (addC (ck0 4096) (l.drop (headM l).n)).err 413⟩
       else if (addC (ck0 4096) (l.drop (headM l).n)).st ≠ 4 then ⟨req0, 0, 0⟩
       else ⟨(headM l).q, (headM l).n + ((l.drop (headM l).n).length - (addC (ck0 4096) (l.drop (headM l).n)).inp.length), 200⟩)
    else if (l.drop (headM l).n).length < (headM l).skip then ⟨req0, 0, 0⟩
    else ⟨(headM l).q, (headM l).n + (headM l).skip, 200⟩
  else ⟨req0, 0, 0⟩
theorem head_ch_skip (l : List UInt8) : (headM l).ch = true → (headM l).skip = 0 := by
  unfold headM
  split
  · intro h; cases h
  split
  · intro h; cases h
  split
  · intro h; cases h
  split
  · intro h; cases h
  · dsimp only
    unfold frameM
    split
    · intro h; cases h
    split
    · split
      · intro _; rfl
      · intro h; cases h
    split
    · intro h; cases h
    · intro h; cases h
theorem told_413 (e : Int) : toldE e 413 ≠ 200 := by unfold toldE; split; (simp); split <;> simp
def fr (l : List UInt8) : InS := in0.add l
theorem fr_inp (l : List UInt8) : (fr l).inp = l := rfl
theorem fr_rd (l : List UInt8) : (nextI (fr l)).s = (rdM l).s ∧ (nextI (fr l)).q = (rdM l).q ∧ ((rdM l).s = 200 → (nextI (fr l)).p = fr (l.drop (rdM l).n) ∧ (rdM l).n ≤ l.length) ∧ ((rdM l).s ≠ 200 → (rdM l).n = 0 ∧ (rdM l).q = req0) := by
  have hN := next_none (p := fr l) rfl rfl
  rw [fr_inp] at hN
  have hb := head_bounds l
  have hck := head_ch_skip l
  have hR : rdM l = if (headM l).s ≠ 0 then ⟨req0, 0, (headM l).s⟩
    else if (headM l).got then
      if (headM l).ch then
        (if (addC (ck0 4096) (l.drop (headM l).n)).err ≠ 0 then ⟨req0, 0, toldE (addC (ck0 4096) (l.drop (headM l).n)).err 413⟩
         else if (addC (ck0 4096) (l.drop (headM l).n)).st ≠ 4 then ⟨req0, 0, 0⟩
         else ⟨(headM l).q, (headM l).n + ((l.drop (headM l).n).length - (addC (ck0 4096) (l.drop (headM l).n)).inp.length), 200⟩)
      else if (l.drop (headM l).n).length < (headM l).skip then ⟨req0, 0, 0⟩
      else ⟨(headM l).q, (headM l).n + (headM l).skip, 200⟩
    else ⟨req0, 0, 0⟩ := rfl
  by_cases hs : (headM l).s = 0
  · rw [if_neg (by simp [hs])] at hN hR
    cases hg : (headM l).got with
    | false =>
      rw [hg, if_neg (by simp)] at hN hR
      rw [hN, hR]
      exact ⟨rfl, rfl, fun h => by simp at h, fun _ => ⟨rfl, rfl⟩⟩
    | true =>
      have hn := hb.2.1 hg
      rw [hg, if_pos rfl] at hN hR
      cases hc : (headM l).ch with
      | false =>
        have hch : (headed (fr l) (headM l)).chk = none := by unfold headed; rw [hc]; rfl
        have hin : (headed (fr l) (headM l)).inp = l.drop (headM l).n := rfl
        have hsk : (headed (fr l) (headM l)).skip = (headM l).skip := rfl
        rw [hc, if_neg (by simp)] at hR
        rcases Nat.lt_or_ge (l.drop (headM l).n).length (headM l).skip with hlt | hge
        · rw [tail_none' _ hch (by rw [hin, hsk]; exact hlt)] at hN
          rw [if_pos hlt] at hR
          rw [hN, hR]
          exact ⟨rfl, rfl, fun h => by simp at h, fun _ => ⟨rfl, rfl⟩⟩
        · rw [tail_none _ hch (by rw [hin, hsk]; exact hge)] at hN
          rw [if_neg (by omega)] at hR
          rw [hN, hR]
          refine ⟨rfl, rfl, fun _ => ⟨inS_ext ?_ rfl rfl rfl hch rfl, ?_⟩, fun h => absurd rfl h⟩
          · show (l.drop (headM l).n).drop (headM l).skip = l.drop ((headM l).n + (headM l).skip)
            rw [List.drop_drop]
          · rw [List.length_drop] at hge; simp only; omega
      | true =>
        have h0 := hck hc
        have hch : (headed (fr l) (headM l)).chk = some (ck0 4096) := by unfold headed; rw [hc]; rfl
        have hin : (headed (fr l) (headM l)).inp = l.drop (headM l).n := rfl
        have hsk : (headed (fr l) (headM l)).skip = 0 := h0
        rw [hc, if_pos rfl] at hR
        have hrd := addC_rd (m := 4096) (l.drop (headM l).n)
        obtain ⟨d, e, h1, h2, h3, h4, h5, h6⟩ := hrd.body
        have hsd := hrd.sound
        by_cases e1 : (addC (ck0 4096) (l.drop (headM l).n)).err = 0
        · rw [if_neg (by simp [e1])] at hR
          by_cases e2 : (addC (ck0 4096) (l.drop (headM l).n)).st = 4
          · rw [tail_done _ hch (by rw [hin]; exact e1) (by rw [hin]; exact e2)] at hN
            rw [if_neg (by simp [e2])] at hR
            rw [hN, hR]
            refine ⟨rfl, rfl, fun _ => ⟨inS_ext ?_ rfl rfl hsk rfl rfl, ?_⟩, fun h => absurd rfl h⟩
            · show (addC (ck0 4096) (l.drop (headM l).n)).inp = l.drop ((headM l).n + _)
              rw [← List.drop_drop, h6 e2]
            · have := hsd.2.2.1
              rw [List.length_drop] at this ⊢
              simp only; omega
          · rw [tail_more _ hch (by rw [hin]; exact e1) (by rw [hin]; exact e2)] at hN
            rw [if_pos e2] at hR
            rw [hN, hR]
            exact ⟨rfl, rfl, fun h => by simp at h, fun _ => ⟨rfl, rfl⟩⟩
        · have h17 := addC_ne17 (c := ck0 4096) (l.drop (headM l).n) (by decide)
          rw [tail_bad _ hch (by rw [hin]; exact e1) (by rw [hin]; exact h17)] at hN
          rw [if_pos e1] at hR
          rw [hN, hR]
          exact ⟨rfl, rfl, fun h => absurd h (told_413 _), fun _ => ⟨rfl, rfl⟩⟩
  · rw [if_pos hs] at hN hR
    rw [hN, hR]
    exact ⟨rfl, rfl, fun h => absurd h (head_ne200 l), fun _ => ⟨rfl, rfl⟩⟩
theorem tail_left {p : InS} (q : Req) (h : p.ok) (h0 : p.st = 0) (hs : (tailI p q).s ≠ 200) : (tailI p q).p.left = p.left := by
  cases hc : p.chk with
  | none =>
    rcases Nat.lt_or_ge p.inp.length p.skip with hlt | hge
    · rw [tail_none' q hc hlt]; unfold InS.left; simp only [List.length_nil]; omega
    · rw [tail_none q hc hge] at hs; exact absurd rfl hs
  | some c =>
    have ke := h.bad c h0 hc
    have d5 := addC_ne17 (c := c) p.inp (by rw [ke]; decide)
    by_cases e1 : (addC c p.inp).err = 0
    · by_cases e2 : (addC c p.inp).st = 4
      · rw [tail_done q hc e1 e2] at hs; exact absurd rfl hs
      · rw [tail_more q hc e1 e2]; unfold InS.left; simp only [List.length_nil]; omega
    · rw [tail_bad q hc e1 d5]; unfold InS.left; simp only [List.length_nil]; omega
theorem tail_stays {p : InS} (q : Req) (h : p.ok) (h0 : p.st = 0) (hs : (tailI p q).s ≠ 200) : (tailI p q).q = req0 ∧ (tailI p q).p.st = (tailI p q).s := by
  cases hc : p.chk with
  | none =>
    rcases Nat.lt_or_ge p.inp.length p.skip with hlt | hge
    · rw [tail_none' q hc hlt]; exact ⟨rfl, h0⟩
    · rw [tail_none q hc hge] at hs; exact absurd rfl hs
  | some c =>
    have ke := h.bad c h0 hc
    have d5 := addC_ne17 (c := c) p.inp (by rw [ke]; decide)
    by_cases e1 : (addC c p.inp).err = 0
    · by_cases e2 : (addC c p.inp).st = 4
      · rw [tail_done q hc e1 e2] at hs; exact absurd rfl hs
      · rw [tail_more q hc e1 e2]; exact ⟨rfl, h0⟩
    · rw [tail_bad q hc e1 d5]; exact ⟨rfl, rfl⟩
theorem next_left {p : InS} (h : p.ok) (h0 : p.st = 0) (hs : (nextI p).s ≠ 200) : (nextI p).p.left = p.left ∧ (nextI p).p.st = (nextI p).s := by
  cases hr : p.req with
  | some q => rw [next_some h0 hr] at hs ⊢; exact ⟨tail_left q h h0 hs, (tail_stays q h h0 hs).2⟩
  | none =>
    rw [next_none h0 hr] at hs ⊢
    by_cases h1 : (headM p.inp).s = 0
    · rw [if_neg (by simp [h1])] at hs ⊢
      cases hg : (headM p.inp).got with
      | false => exact ⟨rfl, h0⟩
      | true =>
        rw [hg, if_pos rfl] at hs
        rw [if_pos rfl]
        have hok := headed_ok h h0 hr hg
        refine ⟨(tail_left _ hok h0 hs).trans ?_, (tail_stays _ hok h0 hs).2⟩
        have hb := (head_bounds p.inp).2.1 hg
        have hh := (h.req h0 hr).2
        unfold InS.left
        show (p.inp.drop (headM p.inp).n).length + (headM p.inp).n = p.inp.length + p.held
        rw [List.length_drop]; omega
    · rw [if_pos h1]; exact ⟨rfl, rfl⟩
/-- what holds of an inlet and the bytes that have come and that no request has taken -/
structure Iv (G : InS) (l : List UInt8) : Prop where
  ok : G.ok
  st : G.st = 0
  lf : G.left = l.length
  nx : ∀ t, nextI (G.add t) = nextI (fr (l ++ t))
theorem add_nil (G : InS) : G.add [] = G := by unfold InS.add; rw [List.append_nil]
theorem Iv.next {G : InS} {l : List UInt8} (h : Iv G l) : nextI G = nextI (fr l) := by
  have := h.nx []
  rwa [add_nil, List.append_nil] at this
theorem fr_ok (l : List UInt8) (h : l.length ≤ 16384) : (fr l).ok := ⟨by simpa [in0, InS.add, fr] using h, by simp [in0, InS.add, fr], by simp [in0, InS.add, fr], by simp [in0, InS.add, fr], by simp [in0, InS.add, fr], by simp [in0, InS.add, fr]⟩
theorem Iv.fresh (l : List UInt8) (h : l.length ≤ 16384) : Iv (fr l) l := ⟨fr_ok l h, rfl, by simp [fr, InS.left, in0, InS.add], fun t => by
  have : (fr l).add t = fr (l ++ t) := by simp [fr, InS.add, in0]
  rw [this]⟩
theorem Iv.nil : Iv in0 [] := Iv.fresh [] (by decide)
theorem Iv.add {G : InS} {l : List UInt8} (h : Iv G l) (s : List UInt8) (hl : l.length + s.length ≤ 16384) : inAdd G s = (G.add s, 0) ∧ Iv (G.add s) (l ++ s) := by
  have h1 := h.lf
  have he : inAdd G s = (G.add s, 0) := by
    unfold inAdd
    rw [if_neg (by simp [h.st]), if_neg (by omega)]
    rfl
  refine ⟨he, ?_, h.st, ?_, fun t => ?_⟩
  · have := inAdd_ok h.ok s
    rwa [he] at this
  · unfold InS.left at h1 ⊢
    simp only [InS.add, List.length_append]; omega
  · have : (G.add s).add t = G.add (s ++ t) := by simp [InS.add]
    rw [this, h.nx, List.append_assoc]
/-- what Next says is what Read says; what holds behind it -/
theorem Iv.step {G : InS} {l : List UInt8} (h : Iv G l) (hl : l.length ≤ 16384) : (nextI G).s = (rdM l).s ∧ (nextI G).q = (rdM l).q ∧ (nextI G).p.ok ∧ (nextI G).p.left = (l.drop (rdM l).n).length ∧
    ((rdM l).s = 200 → Iv (nextI G).p (l.drop (rdM l).n)) ∧ ((rdM l).s = 0 → Iv (nextI G).p (l.drop (rdM l).n)) ∧ ((rdM l).s ≠ 200 → (rdM l).n = 0 ∧ (rdM l).q = req0 ∧ (nextI G).p.st = (rdM l).s) := by
  obtain ⟨e1, e2, e3, e4⟩ := fr_rd l
  have hn := h.next
  rw [← hn] at e1 e2 e3
  have hok := next_ok h.ok
  by_cases hs : (rdM l).s = 200
  · obtain ⟨e5, e6⟩ := e3 hs
    have hf := Iv.fresh (l.drop (rdM l).n) (by rw [List.length_drop]; omega)
    rw [← e5] at hf
    exact ⟨e1, e2, hok, hf.lf, fun _ => hf, fun _ => hf, fun hh => absurd hs hh⟩
  · obtain ⟨e7, e8⟩ := e4 hs
    obtain ⟨l1, l2⟩ := next_left h.ok h.st (by rw [e1]; exact hs)
    refine ⟨e1, e2, hok, by rw [l1, e7, h.lf]; rfl, fun hh => absurd hh hs, fun h0 => ?_, fun _ => ⟨e7, e8, by rw [l2, e1]⟩⟩
    rw [e7]
    refine ⟨hok, by rw [l2, e1, h0], by rw [l1, h.lf]; rfl, fun t => ?_⟩
    have hw := ((next_app h.ok h.st t).wait (by rw [e1]; exact h0)).1
    rw [← hw]
    exact h.nx t
/-- with something wrong all stays so -/
theorem bad_add {G : InS} (h : G.st ≠ 0) (s : List UInt8) : inAdd G s = (G, 8) := by unfold inAdd; rw [if_pos h]
theorem bad_next {G : InS} (h : G.st ≠ 0) : nextI G = ⟨G, req0, G.st⟩ := by unfold nextI; rw [if_pos h]
theorem rd_max (l : List UInt8) : (rdM l).n ≤ l.length := by
  obtain ⟨_, _, e3, e4⟩ := fr_rd l
  by_cases hs : (rdM l).s = 200
  · exact (e3 hs).2
  · rw [(e4 hs).1]; omega
end Go.Proofs.YtpimfoohpfkciaaGreatDoor

/- Layer 10: the statement FieldNames: its function answers true for every input. No conditions. -/
namespace Go.Proofs.YtpimfoohpfkciaaGreatDoor
open Go.RowKit Go.Shelf

def upB (b : UInt8) : UInt8 := if 97 ≤ b.toNat ∧ b.toNat ≤ 122 then b - 32 else b
def upTo (l : List UInt8) (k : Nat) : List UInt8 := (l.take k).map upB ++ l.drop k
theorem upTo_length (l : List UInt8) (k : Nat) : (upTo l k).length = l.length := by simp [upTo]; omega
theorem upTo_at {l : List UInt8} {k : Nat} {c : UInt8} (h : l[k]? = some c) : (upTo l k)[k]? = some c := by
  have hlt := (List.getElem?_eq_some_iff.1 h).1
  unfold upTo
  rw [List.getElem?_append_right (by simp; omega)]
  simp
  have : min k l.length = k := by omega
  rw [this]
  simp [h]
theorem upTo_succ {l : List UInt8} {k : Nat} {c : UInt8} (h : l[k]? = some c) : upTo l (k + 1) = (upTo l k).set k (upB c) := by
  have hlt := (List.getElem?_eq_some_iff.1 h).1
  unfold upTo
  rw [take_snoc h, drop_at h, List.map_append, List.set_append_right _ _ (by simp; omega)]
  have : k - ((l.take k).map upB).length = 0 := by simp; omega
  rw [this]
  simp
theorem upTo_end (l : List UInt8) : upTo l l.length = l.map upB := by simp [upTo]
theorem low_up (c : UInt8) : lowB (upB c) = lowB c := by
  unfold upB
  by_cases h : 97 ≤ c.toNat ∧ c.toNat ≤ 122
  · rw [if_pos h]
    have e : (c - 32).toNat = c.toNat - 32 := by
      rw [UInt8.toNat_sub_of_le]
      · rfl
      · rw [UInt8.le_iff_toNat_le]; have : (32 : UInt8).toNat = 32 := rfl; omega
    unfold lowB
    rw [if_pos (by omega), if_neg (by omega)]
    exact UInt8.sub_add_cancel c 32
  · rw [if_neg h]
theorem low_low (c : UInt8) : lowB (lowB c) = lowB c := by
  unfold lowB
  by_cases h : 65 ≤ c.toNat ∧ c.toNat ≤ 90
  · rw [if_pos h]
    have e : (c + 32).toNat = c.toNat + 32 := by
      rw [UInt8.toNat_add]
      have : (32 : UInt8).toNat = 32 := rfl
      omega
    rw [if_neg (by omega)]
  · rw [if_neg h, if_neg h]
theorem lowW_up (l : List UInt8) : lowW (l.map upB) = lowW l := by
  unfold lowW
  rw [List.map_map]
  congr 1
  funext c
  exact low_up c
theorem lowW_low (l : List UInt8) : lowW (lowW l) = lowW l := by
  unfold lowW
  rw [List.map_map]
  congr 1
  funext c
  exact low_low c
theorem get_congr {n m : List UInt8} (L : List Fld) (h : lowW n = lowW m) : getV L n = getV L m ∧ getN L n = getN L m := by
  have : sameN n = sameN m := by funext f; unfold sameN; rw [h]
  unfold getV getN getS
  rw [this]
  exact ⟨rfl, rfl⟩
theorem get_one {L : List Fld} {x : Fld} (h : x ∈ L) : 1 ≤ getN L x.name := by
  unfold getN getS
  exact List.length_pos_iff.2 (List.ne_nil_of_mem (List.mem_filter.2 ⟨h, by simp [sameN]⟩))
theorem Bytes.keep {S : List Nat} {w w' : World} {b : Nat} {l : List UInt8} (h : Bytes w b l) (k : Keep S w w') (hb : b < w.heap.size) (hn : b ∉ S) : Bytes w' b l :=
  ⟨fun j c hc => (k.cell (p := ⟨b, j, none⟩) hb hn).trans (h.1 j c hc), fun j hj => (k.frozen (p := ⟨b, j, none⟩) hb hn).trans (h.2 j hj)⟩

theorem Bytes.setOther {w : World} {b : Nat} {l : List UInt8} (h : Bytes w b l) {a : Addr} (hb : b ≠ a.block) (v : Value) : Bytes (w.setCell a v) b l :=
  ⟨fun j c hc => by rw [World.cell?_setCell_other w _ _ _ (by intro h'; exact hb (congrArg Addr.block h').symm)]; exact h.1 j c hc, fun j hj => by rw [World.frozen?_setCell]; exact h.2 j hj⟩
theorem up_yes {c : UInt8} (h : 97 ≤ c.toNat ∧ c.toNat ≤ 122) : (upB c).toNat = c.toNat - 32 := by
  unfold upB
  rw [if_pos h, UInt8.toNat_sub_of_le]
  · rfl
  · rw [UInt8.le_iff_toNat_le]; have : (32 : UInt8).toNat = 32 := rfl; omega
theorem low_yes {c : UInt8} (h : 65 ≤ c.toNat ∧ c.toNat ≤ 90) : (lowB c).toNat = c.toNat + 32 := by
  unfold lowB
  rw [if_pos h, UInt8.toNat_add]
  have : (32 : UInt8).toNat = 32 := rfl
  omega
theorem up_no {c : UInt8} (h : ¬ (97 ≤ c.toNat ∧ c.toNat ≤ 122)) : upB c = c := if_neg h
theorem low_no {c : UInt8} (h : ¬ (65 ≤ c.toNat ∧ c.toNat ≤ 90)) : lowB c = c := if_neg h

end Go.Proofs.YtpimfoohpfkciaaGreatDoor

/- Layer 10: the document's Frame. No conditions but on lengths. -/
namespace Go.Proofs.YtpimfoohpfkciaaGreatDoor
open Go.RowKit Go.Shelf

set_option maxRecDepth 100000 in
set_option maxHeartbeats 1000000 in
theorem ref_Frame (va : Value) (L : List Fld) (most : Int) (w : World) (ha : Sl Fld.cells 2 w va L) (hg : ∀ x ∈ L, x.name.length ≤ 70368744177664) (hv : ∀ x ∈ L, x.value.length ≤ 70368744177664) (_hl : L.length ≤ 4611686018427387904) :
    Calls Tryz.prog 25 #[va, .int .i64 most] w fun e w' => e = .returned (.tuple #[.int .i64 (frameM L most).n, .bool (frameM L most).ch, .int .i64 (frameM L most).e]) ∧ Keep [] w w' := by
  have hG1 := ref_Get va L [116, 114, 97, 110, 115, 102, 101, 114, 45, 101, 110, 99, 111, 100, 105, 110, 103] w ha hg (by decide)
  have hG2 := fun w1 (k : Keep [] w w1) => ref_Get va L [99, 111, 110, 116, 101, 110, 116, 45, 108, 101, 110, 103, 116, 104] w1 (ha.keep Fld.cells_length (by omega) ha k (by simp) (Nat.le_refl _)) hg (by decide)
  have hL := fun w1 => ref_Low (getV L nTE) w1 (getV_len hv)
  have hU := fun w1 => ref_Undec (getV L nCL) most w1 (show _ ≤ 9223372036854775807 from Nat.le_trans (getV_len hv) (by omega))
  have hF : frameM L most = if 1 < getN L nTE ∨ 1 < getN L nCL ∨ 1 < getN L nTE + getN L nCL then ⟨0, false, 3⟩
    else if getN L nTE = 1 then (if lowW (getV L nTE) = nChunked then ⟨0, true, 0⟩ else ⟨0, false, 3⟩)
    else if getN L nCL = 0 then ⟨-1, false, 0⟩
    else ⟨undecV (getV L nCL) most, false, if undecE (getV L nCL) most = 14 then 4 else undecE (getV L nCL) most⟩ := rfl
  have hR := undec_range (getV L nCL) most
  have b1 := getN_le L nTE
  have b2 := getN_le L nCL
  unfold GetOut at hG1 hG2
  obtain ⟨g1, g2⟩ := get_congr (n := [116, 114, 97, 110, 115, 102, 101, 114, 45, 101, 110, 99, 111, 100, 105, 110, 103]) (m := nTE) L (by decide)
  obtain ⟨g3, g4⟩ := get_congr (n := [99, 111, 110, 116, 101, 110, 116, 45, 108, 101, 110, 103, 116, 104]) (m := nCL) L (by decide)
  rw [g1, g2] at hG1
  rw [g3, g4] at hG2
  generalize frameM L most = f at hF
  generalize getV L nTE = tv at hL hF hG1
  generalize getV L nCL = cv at hU hF hG2 hR
  generalize getN L nTE = tn at hF b1 hG1
  generalize getN L nCL = cn at hF b2 hG2
  obtain ⟨fn, fc, fe⟩ := f
  dsimp only
  have HG1 := Lib.hid hG1
  have HG2 := Lib.hid hG2
  clear ha hg hv hG1 hG2 g1 g2 g3 g4
  by_cases t0 : 0 < tn
  · by_cases t1 : 1 < tn
    · rw [if_pos (.inl t1)] at hF
      have HF := Lib.hid hF
      clear hF hL hU hR
      go_enter Tryz.func25, Tryz.ntmps25
      go_wp2_with fail
      refine HG1.out.mono ?_
      rintro e w1 ⟨rfl, hk1⟩
      have K1 := Lib.hid hk1
      clear hk1
      go_wp2_with fail
      refine (HG2.out _ K1.out).mono ?_
      rintro e w2 ⟨rfl, hk2⟩
      have K2 := Lib.hid (K1.out.trans hk2)
      clear hk2
      go_wp2_with fail
      go_ret3
      exact ⟨frm_ret (by cases HF.out; rfl) (by cases HF.out; rfl) (by cases HF.out; rfl), K2.out⟩
    · have t2 : tn = 1 := by omega
      by_cases t3 : 0 < cn
      · rw [if_pos (.inr (.inr (by omega)))] at hF
        have HF := Lib.hid hF
        have t4 : tn ≤ 1 := by omega
        clear hF hL hU hR t2
        go_enter Tryz.func25, Tryz.ntmps25
        go_wp2_with fail
        refine HG1.out.mono ?_
        rintro e w1 ⟨rfl, hk1⟩
        have K1 := Lib.hid hk1
        clear hk1
        go_wp2_with fail
        refine (HG2.out _ K1.out).mono ?_
        rintro e w2 ⟨rfl, hk2⟩
        have K2 := Lib.hid (K1.out.trans hk2)
        clear hk2
        go_wp2_with fail
        go_ret3
        exact ⟨frm_ret (by cases HF.out; rfl) (by cases HF.out; rfl) (by cases HF.out; rfl), K2.out⟩
      · rw [if_neg (by omega), if_pos t2] at hF
        have t4 : tn ≤ 1 := by omega
        have HL := Lib.hid hL
        have q5 := S_toList (lowW tv)
        by_cases hc : lowW tv = nChunked
        · rw [if_pos hc] at hF
          have q3 : (lowW tv == [99, 104, 117, 110, 107, 101, 100]) = true := by rw [hc]; rfl
          have q4 : (lowW tv != [99, 104, 117, 110, 107, 101, 100]) = false := by rw [hc]; rfl
          have HF := Lib.hid hF
          clear hF hL hU hR t2 hc
          go_enter Tryz.func25, Tryz.ntmps25
          go_wp2_with fail
          refine HG1.out.mono ?_
          rintro e w1 ⟨rfl, hk1⟩
          have K1 := Lib.hid hk1
          clear hk1
          go_wp2_with fail
          refine (HG2.out _ K1.out).mono ?_
          rintro e w2 ⟨rfl, hk2⟩
          have K2 := Lib.hid (K1.out.trans hk2)
          clear hk2
          go_wp2_with fail
          refine (HL.out _).mono ?_
          rintro e w3 ⟨rfl, hk3⟩
          have K3 := Lib.hid (K2.out.trans hk3)
          clear hk3
          go_wp2_with fail
          go_ret3
          exact ⟨frm_ret (by cases HF.out; rfl) (by cases HF.out; rfl) (by cases HF.out; rfl), K3.out⟩
        · rw [if_neg hc] at hF
          have q3 : (lowW tv == [99, 104, 117, 110, 107, 101, 100]) = false := beq_eq_false_iff_ne.2 hc
          have q4 : (lowW tv != [99, 104, 117, 110, 107, 101, 100]) = true := bne_iff_ne.2 hc
          have HF := Lib.hid hF
          clear hF hL hU hR t2 hc
          go_enter Tryz.func25, Tryz.ntmps25
          go_wp2_with fail
          refine HG1.out.mono ?_
          rintro e w1 ⟨rfl, hk1⟩
          have K1 := Lib.hid hk1
          clear hk1
          go_wp2_with fail
          refine (HG2.out _ K1.out).mono ?_
          rintro e w2 ⟨rfl, hk2⟩
          have K2 := Lib.hid (K1.out.trans hk2)
          clear hk2
          go_wp2_with fail
          refine (HL.out _).mono ?_
          rintro e w3 ⟨rfl, hk3⟩
          have K3 := Lib.hid (K2.out.trans hk3)
          clear hk3
          go_wp2_with fail
          go_ret3
          exact ⟨frm_ret (by cases HF.out; rfl) (by cases HF.out; rfl) (by cases HF.out; rfl), K3.out⟩
  · have t1 : tn = 0 := by omega
    have HU := Lib.hid hU
    by_cases t5 : cn = 0
    · rw [if_neg (by omega), if_neg (by omega), if_pos t5] at hF
      obtain ⟨q3, q4⟩ := int_eq (show ((cn : Nat) : Int) = 0 by omega)
      have HF := Lib.hid hF
      clear hF hL hU hR t1 t5
      go_enter Tryz.func25, Tryz.ntmps25
      go_wp2_with fail
      refine HG1.out.mono ?_
      rintro e w1 ⟨rfl, hk1⟩
      have K1 := Lib.hid hk1
      clear hk1
      go_wp2_with fail
      refine (HG2.out _ K1.out).mono ?_
      rintro e w2 ⟨rfl, hk2⟩
      have K2 := Lib.hid (K1.out.trans hk2)
      clear hk2
      go_wp2_with fail
      go_ret3
      exact ⟨frm_ret (by cases HF.out; rfl) (by cases HF.out; rfl) (by cases HF.out; rfl), K2.out⟩
    · obtain ⟨q3, q4⟩ := int_ne (show ((cn : Nat) : Int) ≠ 0 by omega)
      by_cases t6 : 1 < cn
      · rw [if_pos (.inr (.inl t6))] at hF
        have HF := Lib.hid hF
        clear hF hL hU hR t1 t5
        go_enter Tryz.func25, Tryz.ntmps25
        go_wp2_with fail
        refine HG1.out.mono ?_
        rintro e w1 ⟨rfl, hk1⟩
        have K1 := Lib.hid hk1
        clear hk1
        go_wp2_with fail
        refine (HG2.out _ K1.out).mono ?_
        rintro e w2 ⟨rfl, hk2⟩
        have K2 := Lib.hid (K1.out.trans hk2)
        clear hk2
        go_wp2_with fail
        refine (HU.out _).mono ?_
        rintro e w3 ⟨rfl, rfl⟩
        go_wp2_with fail
        go_ret3
        exact ⟨frm_ret (by cases HF.out; rfl) (by cases HF.out; rfl) (by cases HF.out; rfl), K2.out⟩
      · rw [if_neg (by omega), if_neg (by omega), if_neg t5] at hF
        have t7 : cn ≤ 1 := by omega
        generalize undecV cv most = uv at hF HU hR
        generalize undecE cv most = ue at hF HU hR
        by_cases h0 : ue = 0
        · rw [if_neg (by omega), h0] at hF
          obtain ⟨z1, z2⟩ := int_eq h0
          obtain ⟨z3, z4⟩ := int_ne (show ue ≠ 3 by omega)
          have HF := Lib.hid hF
          clear hF hL hU hR t1 t5 t6 h0
          go_enter Tryz.func25, Tryz.ntmps25
          go_wp2_with fail
          refine HG1.out.mono ?_
          rintro e w1 ⟨rfl, hk1⟩
          have K1 := Lib.hid hk1
          clear hk1
          go_wp2_with fail
          refine (HG2.out _ K1.out).mono ?_
          rintro e w2 ⟨rfl, hk2⟩
          have K2 := Lib.hid (K1.out.trans hk2)
          clear hk2
          go_wp2_with fail
          refine (HU.out _).mono ?_
          rintro e w3 ⟨rfl, rfl⟩
          go_wp2_with fail
          go_ret3
          exact ⟨frm_ret (by cases HF.out; rfl) (by cases HF.out; rfl) (by cases HF.out; rfl), K2.out⟩
        · obtain ⟨r1, r2⟩ := hR.2 h0
          obtain ⟨z1, z2⟩ := int_ne h0
          rcases r2 with h14 | h3
          · rw [if_pos h14, r1] at hF
            obtain ⟨z3, z4⟩ := int_ne (show ue ≠ 3 by omega)
            have HF := Lib.hid hF
            clear hF hL hU hR t1 t5 t6 h0 h14 r1
            go_enter Tryz.func25, Tryz.ntmps25
            go_wp2_with fail
            refine HG1.out.mono ?_
            rintro e w1 ⟨rfl, hk1⟩
            have K1 := Lib.hid hk1
            clear hk1
            go_wp2_with fail
            refine (HG2.out _ K1.out).mono ?_
            rintro e w2 ⟨rfl, hk2⟩
            have K2 := Lib.hid (K1.out.trans hk2)
            clear hk2
            go_wp2_with fail
            refine (HU.out _).mono ?_
            rintro e w3 ⟨rfl, rfl⟩
            go_wp2_with fail
            go_ret3
            exact ⟨frm_ret (by cases HF.out; rfl) (by cases HF.out; rfl) (by cases HF.out; rfl), K2.out⟩
          · rw [if_neg (by omega), r1, h3] at hF
            obtain ⟨z3, z4⟩ := int_eq h3
            have HF := Lib.hid hF
            clear hF hL hU hR t1 t5 t6 h0 h3 r1
            go_enter Tryz.func25, Tryz.ntmps25
            go_wp2_with fail
            refine HG1.out.mono ?_
            rintro e w1 ⟨rfl, hk1⟩
            have K1 := Lib.hid hk1
            clear hk1
            go_wp2_with fail
            refine (HG2.out _ K1.out).mono ?_
            rintro e w2 ⟨rfl, hk2⟩
            have K2 := Lib.hid (K1.out.trans hk2)
            clear hk2
            go_wp2_with fail
            refine (HU.out _).mono ?_
            rintro e w3 ⟨rfl, rfl⟩
            go_wp2_with fail
            go_ret3
            exact ⟨frm_ret (by cases HF.out; rfl) (by cases HF.out; rfl) (by cases HF.out; rfl), K2.out⟩
end Go.Proofs.YtpimfoohpfkciaaGreatDoor

/- Layer 11: the document's last. No conditions but on lengths. -/
namespace Go.Proofs.YtpimfoohpfkciaaGreatDoor
open Go.RowKit Go.Shelf

theorem Bdy.one (b : Bdy) : ∀ v ∈ b.cells, v.oneCell' = true := by
  intro v hv
  simp [Bdy.cells] at hv
  rcases hv with rfl | rfl | rfl | rfl <;> rfl
def zB : List Value := [.string ⟨#[]⟩, .bool false, .int .i64 0, .int .i64 0]
def bdy0 (D : List UInt8) : Bdy := ⟨D, false, 0, 0⟩
theorem bdy_st (x : Bdy) : (Tryz.prog.info? 62).map (·.size) = some x.cells.toArray.size ∧ x.cells.toArray.all (·.oneCell') = true := ⟨by rw [List.size_toArray]; exact bdy_size x, all_oneCell_toArray x.one⟩
theorem ref_parse2 (l : List UInt8) (w : World) (hl : l.length ≤ 4611686018427387904) : Calls Tryz.prog 45 #[.string (S l)] w fun e w' => e = .returned (.tuple #[.agg #[.string (S (parseV l).name), .string (S (parseV l).value)], .int .i64 (parseE l)]) ∧ Keep [] w w' := ref_parse_is w hl rfl rfl

set_option maxRecDepth 100000 in
set_option maxHeartbeats 8000000 in
theorem ref11_last (D s : List UInt8) (a lf most : Nat) (d : Ck) (e0 : Int) (w : World) (hs : s.length ≤ 1048576) (ha : a ≤ s.length) (hr : Runs ⟨3, lf, most, 0, s.drop a, D, 0⟩ d e0) :
    Calls Tryz.prog 52 #[.agg (bdy0 D).cells.toArray, .string (S s), .int .i64 (a : Nat)] w fun e w' => e = .returned (.agg (bodyOf s d e0).cells.toArray) ∧ Keep [] w w' := by
  have hkA := ((Keep.refl [] w).alloc (.cells (bdy0 D).cells.toArray 62)).alloc (.cells zB.toArray 62)
  have hbA := (Blk.newA w (bdy0 D).cells.toArray 62).alloc (.cells zB.toArray 62)
  have hbR := Blk.newA (w.alloc (.cells (bdy0 D).cells.toArray 62)) zB.toArray 62
  have hsz : (w.alloc (.cells (bdy0 D).cells.toArray 62)).heap.size = w.heap.size + 1 := by simp
  rw [hsz] at hbR
  have HR := Lib.hid hr
  clear hr hsz
  generalize hwA : (w.alloc (.cells (bdy0 D).cells.toArray 62)).alloc (.cells #[.string ⟨#[]⟩, .bool false, .int .i64 0, .int .i64 0] 62) = wA
  have hwA' : (w.alloc (.cells (bdy0 D).cells.toArray 62)).alloc (.cells zB.toArray 62) = wA := hwA
  rw [hwA'] at hkA hbA hbR
  clear hwA'
  have HKA := Lib.hid hkA
  have HBA := Lib.hid (show Blk wA w.heap.size 62 (bdy0 D).cells from hbA)
  have HBR0 := Lib.hid (show Blk wA (w.heap.size + 1) 62 zB from hbR)
  clear hkA hbA hbR
  go_enter Tryz.func52, Tryz.ntmps52
  go_wp2_with fail
  try rw [hwA]
  clear hwA
  generalize hnb : w.heap.size = nb at *
  have hnb1 : w.heap.size ≤ nb := by omega
  clear hnb
  have hs2 := S_size s
  go_loopg [2, 7] (s.length - a) (fun g av kv wr => ∃ (a k : Nat), av = .int .i64 (a : Nat) ∧ kv = .int .i64 (k : Nat) ∧ a ≤ s.length ∧ k ≤ 16 ∧ g = s.length - a ∧ Hid (Blk wr nb 62 (bdy0 D).cells) ∧ Hid (Blk wr (nb + 1) 62 zB) ∧ Hid (Runs ⟨3, lf, most, k, s.drop a, D, 0⟩ d e0) ∧ Hid (Keep [] w wr))
  case atStart => exact ⟨a, 0, rfl, rfl, ha, by omega, by omega, HBA, HBR0, HR, HKA⟩
  case round =>
    obtain ⟨a, k, rfl, rfl, ha, hk, hg, HB, HBR1, HR, HK⟩ := hrel
    have HL := Lib.hid (fun w1 => ref11_line s a w1 ha hs)
    have hrt := runs_trail HR.out rfl
    dsimp only at hrt
    have hnx := nxt_drop (s := s) (a := a)
    have hne : nxt s a = if (lnC (s.drop a)).e = 0 then s.length - (lnC (s.drop a)).r.length else 0 := rfl
    have hle := line_le (s.drop a)
    have HP := Lib.hid (fun w1 => ref_parse2 (lnC (s.drop a)).t w1 (by omega))
    have hld : (s.drop a).length = s.length - a := List.length_drop
    have st := S_size (lnC (s.drop a)).t
    have sl := S_toList (lnC (s.drop a)).t
    clear HR
    generalize nxt s a = nx at *
    generalize hLe : (lnC (s.drop a)).e = le at *
    generalize hLr : (lnC (s.drop a)).r = lr at *
    generalize hLt : (lnC (s.drop a)).t = lt at *
    generalize (parseV lt).name = pn at *
    generalize (parseV lt).value = pw at *
    generalize hpe : parseE lt = pe at *
    clear hLe hLr hLt hpe
    rcases hrt with ⟨h0, hd, he⟩ | ⟨h0, ht, hd, he⟩ | ⟨h0, ht, hp, hd, he⟩ | ⟨h0, ht, hp, hk16, hd, he⟩ | ⟨h0, ht, hp, hk16, hr2⟩
    · have q1 := (int_ne h0).2
      have HBR := HBR1
      have HE := Lib.hid (And.intro hd he)
      clear hd he
      clear hne hnx hle h0
      go_wp2_with fail
      refine (HL.out _).mono ?_
      rintro e w1 ⟨rfl, rfl⟩
      go_wp2_with (first
        | (refine wpList_load_mid rfl 62 (.tmp 3) rfl nb 0 (by rfl) (bdy0 D).cells _ HB.out.range' Tryz.underlying62 rfl (bdy_size _) ?_)
        | fail)
      try simp only [Act.put, List.setIfInBounds_toArray, List.set_cons_succ, List.set_cons_zero]
      try go_wp2_with fail
      refine (ref11_ended (bdy0 D) le _).mono ?_
      rintro e wq ⟨rfl, kq⟩
      have HBq := Lib.hid (kq.blk HBR.out (by simp))
      have HKq := Lib.hid (HK.out.trans kq)
      clear kq
      have HSq := Lib.hid (bdy_st (endB (bdy0 D) le))
      go_wp2_with (first
        | (refine wpList_store_mid rfl 62 (.tmp 6) (.tmp 26) rfl (nb + 1) 0 (endB (bdy0 D) le).cells.toArray (by rfl) (by first | rfl | kernel_rfl) (HBq.out.there' 0 4 (by simp [zB])) HSq.out.1 HSq.out.2 ?_)
        | fail)
      have hload := bdy_load (World.rangeAt_setCells_same wq (nb + 1) 0 (endB (bdy0 D) le).cells (HBq.out.there' 0 4 (by simp [zB])))
      have hfin : endB (bdy0 D) le = bodyOf s d e0 := by rw [HE.out.1, HE.out.2]; rfl
      rw [← hfin]
      refine bodyPost_ret (v := .agg (endB (bdy0 D) le).cells.toArray) (by simp [Act.put, results, Tryz.results52, asAddr, hload]) rfl ⟨rfl, ?_⟩
      exact Keep.setCells' _ (fun hh => absurd hh (by omega)) _ _ _ HKq.out
    · subst h0
      have HE := Lib.hid (And.intro hd he)
      clear hd he
      have ht' : lt.isEmpty = true := by rw [ht]; rfl
      rw [if_pos rfl] at hne
      have HNE := Lib.hid hne
      have f1 := HB.out.frozen 1
      have f2 := HB.out.frozen 2
      have c1 := HB.out.get (k := 1) rfl
      have c2 := HB.out.get (k := 2) rfl
      have hB2 := Lib.hid (show Blk ((wr.setCell ⟨nb, 1, none⟩ (.bool true)).setCell ⟨nb, 2, none⟩ (.int .i64 (nx : Nat))) nb 62 (Bdy.cells ⟨D, true, nx, 0⟩) from (HB.out.set 1 (.bool true)).set 2 (.int .i64 (nx : Nat)))
      have hR2 := Lib.hid (show Blk ((wr.setCell ⟨nb, 1, none⟩ (.bool true)).setCell ⟨nb, 2, none⟩ (.int .i64 (nx : Nat))) (nb + 1) 62 zB from (HBR1.out.setOther (by simp) _).setOther (by simp) _)
      have hK2 := Lib.hid ((HK.out.setCell ⟨nb, 1, none⟩ (.bool true) (fun hh => absurd hh (Nat.not_lt.2 hnb1))).setCell ⟨nb, 2, none⟩ (.int .i64 (nx : Nat)) (fun hh => absurd hh (Nat.not_lt.2 hnb1)))
      clear hne hnx hle ht
      go_wp2_with fail
      refine (HL.out _).mono ?_
      rintro e w1 ⟨rfl, rfl⟩
      have HSq := Lib.hid (bdy_st ((⟨D, true, nx, 0⟩ : Bdy)))
      go_wp2_with (first
        | (refine wpList_load_mid rfl 62 (.tmp 3) rfl nb 0 (by rfl) ((⟨D, true, nx, 0⟩ : Bdy)).cells _ hB2.out.range' Tryz.underlying62 rfl (bdy_size _) ?_
           try simp only [Act.put, List.setIfInBounds_toArray, List.set_cons_succ, List.set_cons_zero])
        | (refine wpList_store_mid rfl 62 (.tmp 6) (.tmp 33) rfl (nb + 1) 0 ((⟨D, true, nx, 0⟩ : Bdy)).cells.toArray (by rfl) (by first | rfl | kernel_rfl) (hR2.out.there' 0 4 (by simp [zB])) HSq.out.1 HSq.out.2 ?_)
        | fail)
      have hload := bdy_load (World.rangeAt_setCells_same (_) (nb + 1) 0 ((⟨D, true, nx, 0⟩ : Bdy)).cells (hR2.out.there' 0 4 (by simp [zB])))
      have hfin : (⟨D, true, nx, 0⟩ : Bdy) = bodyOf s d e0 := by rw [HE.out.1, HE.out.2, HNE.out]; rfl
      rw [← hfin]
      refine bodyPost_ret (v := .agg ((⟨D, true, nx, 0⟩ : Bdy)).cells.toArray) (by simp [Act.put, results, Tryz.results52, asAddr, hload]) rfl ⟨rfl, ?_⟩
      exact Keep.setCells' _ (fun hh => absurd hh (by omega)) _ _ _ hK2.out
    · subst h0
      have HE := Lib.hid (And.intro hd he)
      clear hd he
      have ht' : lt.isEmpty = false := by cases lt with | nil => exact absurd rfl ht | cons => rfl
      have q1 := (int_ne hp).2
      have hk3 := fun (w1 : World) (k1 : Keep [] wr w1) => k1.alloc (.cells #[.string (S pn), .string (S pw)] 40)
      clear hne hnx hle ht hp
      go_wp2_with fail
      refine (HL.out _).mono ?_
      rintro e w1 ⟨rfl, rfl⟩
      go_wp2_with fail
      refine (HP.out _).mono ?_
      rintro e w1 ⟨rfl, k1⟩
      have k2 := hk3 _ k1
      have HB2 := Lib.hid (k2.blk HB.out (by simp))
      have HBR := Lib.hid (k2.blk HBR1.out (by simp))
      have HK2 := Lib.hid (HK.out.trans k2)
      clear k1 k2 hk3
      go_wp2_with (first
        | (refine wpList_load_mid rfl 62 (.tmp 3) rfl nb 0 (by rfl) (bdy0 D).cells _ HB2.out.range' Tryz.underlying62 rfl (bdy_size _) ?_)
        | fail)
      try simp only [Act.put, List.setIfInBounds_toArray, List.set_cons_succ, List.set_cons_zero]
      try go_wp2_with fail
      refine (ref11_ended (bdy0 D) 3 _).mono ?_
      rintro e wq ⟨rfl, kq⟩
      have HBq := Lib.hid (kq.blk HBR.out (by simp))
      have HKq := Lib.hid (HK2.out.trans kq)
      clear kq
      have HSq := Lib.hid (bdy_st (endB (bdy0 D) 3))
      go_wp2_with (first
        | (refine wpList_store_mid rfl 62 (.tmp 6) (.tmp 42) rfl (nb + 1) 0 (endB (bdy0 D) 3).cells.toArray (by rfl) (by first | rfl | kernel_rfl) (HBq.out.there' 0 4 (by simp [zB])) HSq.out.1 HSq.out.2 ?_)
        | fail)
      have hload := bdy_load (World.rangeAt_setCells_same wq (nb + 1) 0 (endB (bdy0 D) 3).cells (HBq.out.there' 0 4 (by simp [zB])))
      have hfin : endB (bdy0 D) 3 = bodyOf s d e0 := by rw [HE.out.1, HE.out.2]; rfl
      rw [← hfin]
      refine bodyPost_ret (v := .agg (endB (bdy0 D) 3).cells.toArray) (by simp [Act.put, results, Tryz.results52, asAddr, hload]) rfl ⟨rfl, ?_⟩
      exact Keep.setCells' _ (fun hh => absurd hh (by omega)) _ _ _ HKq.out
    · subst h0 hp
      have HE := Lib.hid (And.intro hd he)
      clear hd he
      have ht' : lt.isEmpty = false := by cases lt with | nil => exact absurd rfl ht | cons => rfl
      have q1 : decide ((k : Int) ≥ 16) = true := by simp; omega
      have hk3 := fun (w1 : World) (k1 : Keep [] wr w1) => k1.alloc (.cells #[.string (S pn), .string (S pw)] 40)
      clear hne hnx hle ht
      go_wp2_with fail
      refine (HL.out _).mono ?_
      rintro e w1 ⟨rfl, rfl⟩
      go_wp2_with fail
      refine (HP.out _).mono ?_
      rintro e w1 ⟨rfl, k1⟩
      have k2 := hk3 _ k1
      have HB2 := Lib.hid (k2.blk HB.out (by simp))
      have HBR := Lib.hid (k2.blk HBR1.out (by simp))
      have HK2 := Lib.hid (HK.out.trans k2)
      clear k1 k2 hk3
      go_wp2_with (first
        | (refine wpList_load_mid rfl 62 (.tmp 3) rfl nb 0 (by rfl) (bdy0 D).cells _ HB2.out.range' Tryz.underlying62 rfl (bdy_size _) ?_)
        | fail)
      try simp only [Act.put, List.setIfInBounds_toArray, List.set_cons_succ, List.set_cons_zero]
      try go_wp2_with fail
      refine (ref11_ended (bdy0 D) 4 _).mono ?_
      rintro e wq ⟨rfl, kq⟩
      have HBq := Lib.hid (kq.blk HBR.out (by simp))
      have HKq := Lib.hid (HK2.out.trans kq)
      clear kq
      have HSq := Lib.hid (bdy_st (endB (bdy0 D) 4))
      go_wp2_with (first
        | (refine wpList_store_mid rfl 62 (.tmp 6) (.tmp 46) rfl (nb + 1) 0 (endB (bdy0 D) 4).cells.toArray (by rfl) (by first | rfl | kernel_rfl) (HBq.out.there' 0 4 (by simp [zB])) HSq.out.1 HSq.out.2 ?_)
        | fail)
      have hload := bdy_load (World.rangeAt_setCells_same wq (nb + 1) 0 (endB (bdy0 D) 4).cells (HBq.out.there' 0 4 (by simp [zB])))
      have hfin : endB (bdy0 D) 4 = bodyOf s d e0 := by rw [HE.out.1, HE.out.2]; rfl
      rw [← hfin]
      refine bodyPost_ret (v := .agg (endB (bdy0 D) 4).cells.toArray) (by simp [Act.put, results, Tryz.results52, asAddr, hload]) rfl ⟨rfl, ?_⟩
      exact Keep.setCells' _ (fun hh => absurd hh (by omega)) _ _ _ HKq.out
    · subst h0 hp
      have ht' : lt.isEmpty = false := by cases lt with | nil => exact absurd rfl ht | cons => rfl
      have q1 : decide ((k : Int) ≥ 16) = false := by simp; omega
      have q2 := IntWalk.i64_in ((k : Int) + 1) (by omega)
      have hk3 := fun (w1 : World) (k1 : Keep [] wr w1) => k1.alloc (.cells #[.string (S pn), .string (S pw)] 40)
      obtain ⟨x1, x2, x3⟩ := hnx rfl
      have x3 := x3 ha
      have HR2 := Lib.hid (show Runs ⟨3, lf, most, k + 1, s.drop nx, D, 0⟩ d e0 by rw [x1]; exact hr2)
      clear hne hle ht hr2 x1
      go_wp2_with fail
      refine (HL.out _).mono ?_
      rintro e w1 ⟨rfl, rfl⟩
      go_wp2_with fail
      refine (HP.out _).mono ?_
      rintro e w1 ⟨rfl, k1⟩
      have k2 := hk3 _ k1
      have HB2 := Lib.hid (k2.blk HB.out (by simp))
      have HBR := Lib.hid (k2.blk HBR1.out (by simp))
      have HK2 := Lib.hid (HK.out.trans k2)
      clear k1 k2 hk3
      go_wp2_with fail
      go_roundg (s.length - nx)
      case measure => omega
      case rel => exact ⟨nx, k + 1, rfl, by go_num, x2, by omega, rfl, HB2, HBR, HR2, HK2⟩
end Go.Proofs.YtpimfoohpfkciaaGreatDoor

/- Layer 11: the document's Read. No conditions but on lengths. -/
namespace Go.Proofs.YtpimfoohpfkciaaGreatDoor
open Go.RowKit Go.Shelf

theorem numV2_ok {t : List UInt8} {m : Int} (h : numE t m = 0) : numV2 t m = numV t m := by
  unfold numE at h
  unfold numV2 numV
  cases hr : restOk (numRest t) with
  | true => rfl
  | false => rw [hr] at h; simp at h
theorem bdy_set (b : Bdy) (t : List UInt8) : b.cells.set 0 (.string (S t)) = (⟨t, b.done, b.size, b.err⟩ : Bdy).cells := rfl

set_option maxRecDepth 100000 in
set_option maxHeartbeats 8000000 in
theorem ref11_Read (s : List UInt8) (m : Int) (d : Ck) (e0 : Int) (w : World) (hs : s.length ≤ 1048576) (hm : m ≤ 9223372036854775807) (hr : Runs ((ck0 m).add s) d e0) :
    Calls Tryz.prog 26 #[.string (S s), .int .i64 m] w fun e w' => e = .returned (.agg (bodyOf s d e0).cells.toArray) ∧ Keep [] w w' := by
  have mixed : Tryz.prog.follows .mixedOrders = true := by kernel_rfl
  obtain ⟨most, hmo⟩ : ∃ most : Nat, (max m 0) = (most : Nat) := ⟨(max m 0).toNat, by omega⟩
  have hmo2 : (most : Int) ≤ 9223372036854775807 := by omega
  have HR := Lib.hid (show Runs ⟨0, 0, most, 0, s.drop 0, [], 0⟩ d e0 by
    have : (ck0 m).add s = ⟨0, 0, most, 0, s.drop 0, [], 0⟩ := by unfold ck0 Ck.add; rw [hmo]; simp
    rw [← this]; exact hr)
  have hkA := ((Keep.refl [] w).alloc (.cells zB.toArray 62)).alloc (.cells zB.toArray 62)
  have hbA := (Blk.newA w zB.toArray 62).alloc (.cells zB.toArray 62)
  have hbR := Blk.newA (w.alloc (.cells zB.toArray 62)) zB.toArray 62
  have hsz : (w.alloc (.cells zB.toArray 62)).heap.size = w.heap.size + 1 := by simp
  rw [hsz] at hbR
  clear hr hsz
  generalize hwA : (w.alloc (.cells #[.string ⟨#[]⟩, .bool false, .int .i64 0, .int .i64 0] 62)).alloc (.cells #[.string ⟨#[]⟩, .bool false, .int .i64 0, .int .i64 0] 62) = wA
  have hwA' : (w.alloc (.cells zB.toArray 62)).alloc (.cells zB.toArray 62) = wA := hwA
  rw [hwA'] at hkA hbA hbR
  clear hwA'
  have HKA := Lib.hid hkA
  have HBR0 := Lib.hid (show Blk wA w.heap.size 62 zB from hbA)
  have HBA := Lib.hid (show Blk wA (w.heap.size + 1) 62 (bdy0 []).cells from hbR)
  have HS0 := Lib.hid (bdy_st (bdy0 []))
  have HBA0 := HBA
  have HBA := Lib.hid (show Blk (wA.setCells (w.heap.size + 1) 0 zB) (w.heap.size + 1) 62 (bdy0 []).cells from (((HBA.out.set 0 (.string (S []))).set 1 (.bool false)).set 2 (.int .i64 0)).set 3 (.int .i64 0))
  have HBR0 := Lib.hid (show Blk (wA.setCells (w.heap.size + 1) 0 zB) w.heap.size 62 zB from (((HBR0.out.setOther (by simp) _).setOther (by simp) _).setOther (by simp) _).setOther (by simp) _)
  have HKA := Lib.hid (show Keep [] w (wA.setCells (w.heap.size + 1) 0 zB) from Keep.setCells' _ (fun hh => absurd hh (by omega)) _ _ _ HKA.out)
  clear hkA hbA hbR
  have hs2 := S_size s
  go_enter Tryz.func26, Tryz.ntmps26
  go_wp2_with (first
    | (refine wpList_store_mid rfl 62 (.tmp 5) (.tmp 13) rfl (w.heap.size + 1) 0 zB.toArray (by rfl) (by first | rfl | kernel_rfl) (HBA0.out.there' 0 4 (by simp [bdy0, Bdy.cells])) HS0.out.1 HS0.out.2 ?_
       try simp only [Act.put])
    | fail)
  generalize hwB : wA.setCells (w.heap.size + 1) 0 zB = wB at *
  try rw [hwB]
  clear hwA hwB
  generalize hnb : w.heap.size = nb at *
  have hnb1 : w.heap.size ≤ nb := by omega
  clear hnb
  go_loopg [6] s.length (fun g av wr => ∃ (a lf : Nat) (Dc : List UInt8), av = .int .i64 (a : Nat) ∧ a ≤ s.length ∧ g = s.length - a ∧ Dc.length ≤ a ∧ Dc.length ≤ most ∧ Hid (Blk wr (nb + 1) 62 (bdy0 Dc).cells) ∧ Hid (Blk wr nb 62 zB) ∧ Hid (Runs ⟨0, lf, most, 0, s.drop a, Dc, 0⟩ d e0) ∧ Hid (Keep [] w wr))
  case atStart => exact ⟨0, 0, [], rfl, Nat.zero_le _, by omega, by simp, by simp, HBA, HBR0, HR, HKA⟩
  case round =>
    obtain ⟨a, lf, Dc, rfl, ha, hg, hDa, hDm, HB, HBR1, HR, HK⟩ := hrel
    have HL := Lib.hid (fun w1 => ref11_line s a w1 ha hs)
    have hrt := runs_begin HR.out rfl
    dsimp only at hrt
    have hnx := nxt_drop (s := s) (a := a)
    have hle := line_le (s.drop a)
    have HN := Lib.hid (fun w1 => ref11_number (lnC (s.drop a)).t ((most : Int) - Dc.length) w1 (by omega))
    have hnv := numV2_ok (t := (lnC (s.drop a)).t) (m := (most : Int) - Dc.length)
    have hnr := numV_range (t := (lnC (s.drop a)).t) (m := (most : Int) - Dc.length)
    have c0 : wr.cell? ⟨nb + 1, 0, none⟩ = some (.string (S Dc)) := HB.out.get (k := 0) rfl
    have f0 := HB.out.frozen 0
    have szD := S_size Dc
    have wm := IntWalk.i64_in ((most : Int) - Dc.length) (by omega)
    have hc0 : w.heap.size ≤ nb + 1 := by omega
    clear HR
    generalize hnx0 : nxt s a = nx at *
    generalize hLe : (lnC (s.drop a)).e = le at *
    generalize hLr : (lnC (s.drop a)).r = lr at *
    generalize hLt : (lnC (s.drop a)).t = lt at *
    generalize numV2 lt ((most : Int) - Dc.length) = nv2 at *
    generalize numV lt ((most : Int) - Dc.length) = nv at *
    generalize numE lt ((most : Int) - Dc.length) = ne at *
    clear hLe hLr hLt hle hnx0
    rcases hrt with ⟨h0, hd, he⟩ | ⟨h0, h1, hd, he⟩ | ⟨h0, h1, hr2⟩
    · have q1 := (int_ne h0).2
      have HE := Lib.hid (And.intro hd he)
      clear hd he
      clear hnx hnv hnr h0
      go_wp2_with fail
      refine (HL.out _).mono ?_
      rintro e w1 ⟨rfl, rfl⟩
      go_wp2_with (first
        | (refine wpList_load_mid rfl 62 (.tmp 5) rfl (nb + 1) 0 (by rfl) (bdy0 Dc).cells _ HB.out.range' Tryz.underlying62 rfl (bdy_size _) ?_)
        | fail)
      try simp only [Act.put, List.setIfInBounds_toArray, List.set_cons_succ, List.set_cons_zero]
      try go_wp2_with fail
      refine (ref11_ended (bdy0 Dc) le _).mono ?_
      rintro e wq ⟨rfl, kq⟩
      have HBq := Lib.hid (kq.blk HBR1.out (by simp))
      have HKq := Lib.hid (HK.out.trans kq)
      clear kq
      have HSq := Lib.hid (bdy_st (endB (bdy0 Dc) le))
      go_wp2_with (first
        | (refine wpList_store_mid rfl 62 (.tmp 4) (.tmp 27) rfl nb 0 (endB (bdy0 Dc) le).cells.toArray (by rfl) (by first | rfl | kernel_rfl) (HBq.out.there' 0 4 (by simp [zB])) HSq.out.1 HSq.out.2 ?_)
        | fail)
      have hload := bdy_load (World.rangeAt_setCells_same wq nb 0 (endB (bdy0 Dc) le).cells (HBq.out.there' 0 4 (by simp [zB])))
      have hfin : endB (bdy0 Dc) le = bodyOf s d e0 := by rw [HE.out.1, HE.out.2]; rfl
      rw [← hfin]
      refine bodyPost_ret (v := .agg (endB (bdy0 Dc) le).cells.toArray) (by simp [Act.put, results, Tryz.results26, asAddr, Result.andThen, hload]) rfl ⟨rfl, ?_⟩
      exact Keep.setCells' _ (fun hh => absurd hh (by omega)) _ _ _ HKq.out
    · subst h0
      have HE := Lib.hid (And.intro hd he)
      clear hd he
      have q1 := (int_ne h1).2
      clear hnx hnv hnr h1
      go_wp2_with fail
      refine (HL.out _).mono ?_
      rintro e w1 ⟨rfl, rfl⟩
      go_wp2_with fail
      refine (HN.out _).mono ?_
      rintro e w1 ⟨rfl, rfl⟩
      go_wp2_with (first
        | (refine wpList_load_mid rfl 62 (.tmp 5) rfl (nb + 1) 0 (by rfl) (bdy0 Dc).cells _ HB.out.range' Tryz.underlying62 rfl (bdy_size _) ?_)
        | fail)
      try simp only [Act.put, List.setIfInBounds_toArray, List.set_cons_succ, List.set_cons_zero]
      try go_wp2_with fail
      refine (ref11_ended (bdy0 Dc) ne _).mono ?_
      rintro e wq ⟨rfl, kq⟩
      have HBq := Lib.hid (kq.blk HBR1.out (by simp))
      have HKq := Lib.hid (HK.out.trans kq)
      clear kq
      have HSq := Lib.hid (bdy_st (endB (bdy0 Dc) ne))
      go_wp2_with (first
        | (refine wpList_store_mid rfl 62 (.tmp 4) (.tmp 42) rfl nb 0 (endB (bdy0 Dc) ne).cells.toArray (by rfl) (by first | rfl | kernel_rfl) (HBq.out.there' 0 4 (by simp [zB])) HSq.out.1 HSq.out.2 ?_)
        | fail)
      have hload := bdy_load (World.rangeAt_setCells_same wq nb 0 (endB (bdy0 Dc) ne).cells (HBq.out.there' 0 4 (by simp [zB])))
      have hfin : endB (bdy0 Dc) ne = bodyOf s d e0 := by rw [HE.out.1, HE.out.2]; rfl
      rw [← hfin]
      refine bodyPost_ret (v := .agg (endB (bdy0 Dc) ne).cells.toArray) (by simp [Act.put, results, Tryz.results26, asAddr, Result.andThen, hload]) rfl ⟨rfl, ?_⟩
      exact Keep.setCells' _ (fun hh => absurd hh (by omega)) _ _ _ HKq.out
    · subst h0 h1
      obtain ⟨x1, x2, x3⟩ := hnx rfl
      have x3 := x3 ha
      have hnv := hnv rfl
      have hnr := hnr rfl
      subst hnv
      obtain ⟨n, rfl⟩ : ∃ n : Nat, nv2 = (n : Nat) := ⟨nv2.toNat, by omega⟩
      have htn : ((n : Nat) : Int).toNat = n := by omega
      rw [htn, ← x1] at hr2
      clear hnx x1 htn
      by_cases hn0 : n = 0
      · rw [if_pos (by omega), hn0] at hr2
        have HLs := Lib.hid (fun w1 => ref11_last Dc s nx 0 most d e0 w1 hs x2 hr2)
        have q1 : (((n : Nat) : Int) == 0) = true := by simp; omega
        clear hr2 hn0
        go_wp2_with fail
        refine (HL.out _).mono ?_
        rintro e w1 ⟨rfl, rfl⟩
        go_wp2_with fail
        refine (HN.out _).mono ?_
        rintro e w1 ⟨rfl, rfl⟩
        go_wp2_with (first
          | (refine wpList_load_mid rfl 62 (.tmp 5) rfl (nb + 1) 0 (by rfl) (bdy0 Dc).cells _ HB.out.range' Tryz.underlying62 rfl (bdy_size _) ?_)
          | fail)
        try simp only [Act.put, List.setIfInBounds_toArray, List.set_cons_succ, List.set_cons_zero]
        try go_wp2_with fail
        refine (HLs.out _).mono ?_
        rintro e wq ⟨rfl, kq⟩
        have HBq := Lib.hid (kq.blk HBR1.out (by simp))
        have HKq := Lib.hid (HK.out.trans kq)
        clear kq
        have HSq := Lib.hid (bdy_st (bodyOf s d e0))
        go_wp2_with (first
          | (refine wpList_store_mid rfl 62 (.tmp 4) (.tmp 49) rfl nb 0 (bodyOf s d e0).cells.toArray (by rfl) (by first | rfl | kernel_rfl) (HBq.out.there' 0 4 (by simp [zB])) HSq.out.1 HSq.out.2 ?_)
          | fail)
        have hload := bdy_load (World.rangeAt_setCells_same wq nb 0 (bodyOf s d e0).cells (HBq.out.there' 0 4 (by simp [zB])))
        have hfin : bodyOf s d e0 = bodyOf s d e0 := rfl
        rw [← hfin]
        refine bodyPost_ret (v := .agg (bodyOf s d e0).cells.toArray) (by simp [Act.put, results, Tryz.results26, asAddr, Result.andThen, hload]) rfl ⟨rfl, ?_⟩
        exact Keep.setCells' _ (fun hh => absurd hh (by omega)) _ _ _ HKq.out
      · rw [if_neg (by omega)] at hr2
        have q1 : (((n : Nat) : Int) == 0) = false := by simp; omega
        have hsn : (s.drop nx).length = s.length - nx := List.length_drop
        have hrd := runs_data hr2 rfl
        dsimp only at hrd
        have wl := IntWalk.i64_in ((s.length : Int) - (nx : Int)) (by omega)
        clear hr2
        rcases hrd with ⟨hlt, hd, he⟩ | ⟨hge, hr3⟩
        · have HE := Lib.hid (And.intro hd he)
          clear hd he
          obtain ⟨hv, hhv⟩ : ∃ hv : Nat, s.length - nx = hv := ⟨_, rfl⟩
          have hlt3 : hv < n := by omega
          have hmn : min ((n : Nat) : Int) ((s.length : Int) - (nx : Int)) = ((hv : Nat) : Int) := by omega
          have wa : IntKind.i64.wrap ((nx : Int) + ((hv : Nat) : Int)) = (s.length : Int) := by rw [IntWalk.i64_in _ (by omega)]; omega
          have hx : (S s).extract nx s.length = S (s.drop nx) := by rw [S_extract, List.take_length]
          have hcat := S_append Dc (s.drop nx)
          have i0 : (0 : Int) ≤ (nx : Int) := by omega
          have i1 : (nx : Int) ≤ (s.length : Int) := by omega
          have hlt2 : decide (((hv : Nat) : Int) < ((n : Nat) : Int)) = true := by simp; omega
          have szp := S_size (s.drop nx)
          have hov : ¬ 9223372036854775807 < Dc.length + (s.drop nx).length := by omega
          have hB2 := Lib.hid (show Blk (wr.setCell ⟨nb + 1, 0, none⟩ (.string (S (Dc ++ s.drop nx)))).drew (nb + 1) 62 (bdy0 (Dc ++ s.drop nx)).cells from (HB.out.set 0 (.string (S (Dc ++ s.drop nx)))).drew)
          have hR2 := Lib.hid (show Blk (wr.setCell ⟨nb + 1, 0, none⟩ (.string (S (Dc ++ s.drop nx)))).drew nb 62 zB from (HBR1.out.setOther (by simp) _).drew)
          have hK2 := Lib.hid ((HK.out.setCell ⟨nb + 1, 0, none⟩ (.string (S (Dc ++ s.drop nx))) (fun hh => absurd hh (Nat.not_lt.2 hc0))).drew)
          clear hlt hn0 hnr hhv
          go_wp2_with fail
          refine (HL.out _).mono ?_
          rintro e w1 ⟨rfl, rfl⟩
          go_wp2_with fail
          refine (HN.out _).mono ?_
          rintro e w1 ⟨rfl, rfl⟩
          go_wp2_with fail
          go_region
          generalize (wr.setCell ⟨nb + 1, 0, none⟩ (.string (S (Dc ++ s.drop nx)))).drew = wp at *
          have HSq := Lib.hid (bdy_st (bdy0 (Dc ++ s.drop nx)))
          go_wp2_with (first
            | (refine wpList_load_mid rfl 62 (.tmp 5) rfl (nb + 1) 0 (by rfl) (bdy0 (Dc ++ s.drop nx)).cells _ hB2.out.range' Tryz.underlying62 rfl (bdy_size _) ?_
               try simp only [Act.put, List.setIfInBounds_toArray, List.set_cons_succ, List.set_cons_zero])
            | (refine wpList_store_mid rfl 62 (.tmp 4) (.tmp 72) rfl nb 0 (bdy0 (Dc ++ s.drop nx)).cells.toArray (by rfl) (by first | rfl | kernel_rfl) (hR2.out.there' 0 4 (by simp [zB])) HSq.out.1 HSq.out.2 ?_)
            | fail)
          have hload := bdy_load (World.rangeAt_setCells_same (_) nb 0 (bdy0 (Dc ++ s.drop nx)).cells (hR2.out.there' 0 4 (by simp [zB])))
          have hfin : bdy0 (Dc ++ s.drop nx) = bodyOf s d e0 := by rw [HE.out.1, HE.out.2]; rfl
          rw [← hfin]
          refine bodyPost_ret (v := .agg (bdy0 (Dc ++ s.drop nx)).cells.toArray) (by simp [Act.put, results, Tryz.results26, asAddr, Result.andThen, hload]) rfl ⟨rfl, ?_⟩
          exact Keep.setCells' _ (fun hh => absurd hh (by omega)) _ _ _ hK2.out
        · have hmn : min ((n : Nat) : Int) ((s.length : Int) - (nx : Int)) = ((n : Nat) : Int) := by omega
          have wa : IntKind.i64.wrap ((nx : Int) + ((n : Nat) : Int)) = ((nx + n : Nat) : Int) := by rw [IntWalk.i64_in _ (by omega)]; omega
          have hx : (S s).extract nx (nx + n) = S ((s.drop nx).take n) := by rw [S_extract, List.drop_take, show nx + n - nx = n by omega]
          have hcat := S_append Dc ((s.drop nx).take n)
          have i0 : (0 : Int) ≤ (nx : Int) := by omega
          have i1 : (nx : Int) ≤ ((nx + n : Nat) : Int) := by omega
          have i2 : ((nx + n : Nat) : Int) ≤ (s.length : Int) := by omega
          have hlt2 : decide (((n : Nat) : Int) < ((n : Nat) : Int)) = false := by simp
          have ltk : ((s.drop nx).take n).length = n := by rw [List.length_take]; omega
          have szp := S_size ((s.drop nx).take n)
          have hov : ¬ 9223372036854775807 < Dc.length + ((s.drop nx).take n).length := by omega
          have hB2 := Lib.hid (show Blk (wr.setCell ⟨nb + 1, 0, none⟩ (.string (S (Dc ++ (s.drop nx).take n)))).drew (nb + 1) 62 (bdy0 (Dc ++ (s.drop nx).take n)).cells from (HB.out.set 0 (.string (S (Dc ++ (s.drop nx).take n)))).drew)
          have hR2 := Lib.hid (show Blk (wr.setCell ⟨nb + 1, 0, none⟩ (.string (S (Dc ++ (s.drop nx).take n)))).drew nb 62 zB from (HBR1.out.setOther (by simp) _).drew)
          have hK2 := Lib.hid ((HK.out.setCell ⟨nb + 1, 0, none⟩ (.string (S (Dc ++ (s.drop nx).take n))) (fun hh => absurd hh (Nat.not_lt.2 hc0))).drew)
          have hrc := runs_close hr3 rfl
          dsimp only at hrc
          rw [List.drop_drop] at hrc
          have lcat : (Dc ++ (s.drop nx).take n).length = Dc.length + n := by rw [List.length_append, ltk]
          generalize hDn : Dc ++ (s.drop nx).take n = Dn at *
          generalize (s.drop nx).take n = pc at *
          obtain ⟨b, hb⟩ : ∃ b : Nat, nx + n = b := ⟨_, rfl⟩
          have hbl : b ≤ s.length := by omega
          have hld : (s.drop b).length = s.length - b := List.length_drop
          rw [hb] at hrc
          obtain ⟨z, hz⟩ : ∃ z : Nat, min s.length (b + 2) = z := ⟨_, rfl⟩
          have wz := IntWalk.i64_in ((b : Int) + 2) (by omega)
          have hmz : min ((s.length : Nat) : Int) ((b : Int) + 2) = ((z : Nat) : Int) := by omega
          have hxz : (S s).extract b z = S ((s.drop b).take 2) := by
            rw [S_extract, List.drop_take]
            congr 1
            rcases Nat.le_total s.length (b + 2) with hh | hh
            · rw [List.take_of_length_le (by omega), List.take_of_length_le (by omega)]
            · rw [show z - b = 2 by omega]
          have k0 : (0 : Int) ≤ (b : Int) := by omega
          have k1 : (b : Int) ≤ (z : Int) := by omega
          have k2 : (z : Int) ≤ (s.length : Int) := by omega
          have wb : IntKind.i64.wrap ((nx : Int) + ((n : Nat) : Int)) = (b : Int) := by rw [wa, hb]
          have hx' : (S s).extract nx b = S pc := by rw [← hb]; exact hx
          have j1 : (nx : Int) ≤ (b : Int) := by omega
          have j2 : (b : Int) ≤ (s.length : Int) := by omega
          have hten : ((s.drop b).take 2).length = min 2 (s.drop b).length := List.length_take
          have hcrx : (⟨#[13, 10]⟩ : ByteArray).extract 0 ((s.drop b).take 2).length = S (crlfC.take ((s.drop b).take 2).length) := by
            rw [show (⟨#[13, 10]⟩ : ByteArray) = S crlfC from rfl, S_extract, List.drop_zero]
          have hcrt : crlfC.take ((s.drop b).take 2).length = crlfC.take (s.drop b).length := by
            rw [hten]
            rcases Nat.le_total (s.drop b).length 2 with hh | hh
            · rw [Nat.min_eq_right hh]
            · rw [Nat.min_eq_left hh, List.take_of_length_le (by simp [crlfC]), List.take_of_length_le (by simp [crlfC]; omega)]
          have sze := S_size ((s.drop b).take 2)
          rw [hcrt] at hcrx
          have e2 : ((s.drop b).take 2).length ≤ 2 := by omega
          have e2' : (((s.drop b).take 2).length : Int) ≤ 2 := by omega
          have tlA := S_toList ((s.drop b).take 2)
          have tlB := S_toList (crlfC.take (s.drop b).length)
          obtain ⟨ℓ, hℓ⟩ : ∃ ℓ, ((s.drop b).take 2).length = ℓ := ⟨_, rfl⟩
          have hl2 : (s.drop b).length < 2 ↔ ℓ < 2 := by omega
          have hl3 : ¬ (s.drop b).length < 2 → b + 2 ≤ s.length := by omega
          rw [hℓ] at hcrx sze e2 e2'
          generalize hen : (s.drop b).take 2 = en at *
          generalize hct : crlfC.take (s.drop b).length = ct at *
          clear hr3 wa i1 i2 hx hDn hz hcrt hen hct hten hld hℓ
          rcases hrc with ⟨g1, hd, he⟩ | ⟨g1, g2, hd, he⟩ | ⟨g1, g2, hr4⟩
          · have HE := Lib.hid (And.intro hd he)
            clear hd he
            have p1 : (!(en == ct)) = true := by simp; exact g1
            clear g1 hl2 hl3
            go_wp2_with fail
            refine (HL.out _).mono ?_
            rintro e w1 ⟨rfl, rfl⟩
            go_wp2_with fail
            refine (HN.out _).mono ?_
            rintro e w1 ⟨rfl, rfl⟩
            go_wp2_with fail
            go_region
            generalize (wr.setCell ⟨nb + 1, 0, none⟩ (.string (S Dn))).drew = wp at *
            go_wp2_with (first
              | (refine wpList_load_mid rfl 62 (.tmp 5) rfl (nb + 1) 0 (by rfl) (bdy0 Dn).cells _ hB2.out.range' Tryz.underlying62 rfl (bdy_size _) ?_)
              | fail)
            try simp only [Act.put, List.setIfInBounds_toArray, List.set_cons_succ, List.set_cons_zero]
            try go_wp2_with fail
            refine (ref11_ended (bdy0 Dn) 3 _).mono ?_
            rintro e wq ⟨rfl, kq⟩
            have HBq := Lib.hid (kq.blk hR2.out (by simp))
            have HKq := Lib.hid (hK2.out.trans kq)
            clear kq
            have HSq := Lib.hid (bdy_st (endB (bdy0 Dn) 3))
            go_wp2_with (first
              | (refine wpList_store_mid rfl 62 (.tmp 4) (.tmp 87) rfl nb 0 (endB (bdy0 Dn) 3).cells.toArray (by rfl) (by first | rfl | kernel_rfl) (HBq.out.there' 0 4 (by simp [zB])) HSq.out.1 HSq.out.2 ?_)
              | fail)
            have hload := bdy_load (World.rangeAt_setCells_same wq nb 0 (endB (bdy0 Dn) 3).cells (HBq.out.there' 0 4 (by simp [zB])))
            have hfin : endB (bdy0 Dn) 3 = bodyOf s d e0 := by rw [HE.out.1, HE.out.2]; rfl
            rw [← hfin]
            refine bodyPost_ret (v := .agg (endB (bdy0 Dn) 3).cells.toArray) (by simp [Act.put, results, Tryz.results26, asAddr, Result.andThen, hload]) rfl ⟨rfl, ?_⟩
            exact Keep.setCells' _ (fun hh => absurd hh (by omega)) _ _ _ HKq.out
          · have HE := Lib.hid (And.intro hd he)
            clear hd he
            have p1 : (!(en == ct)) = false := by simp; exact g1
            have g3 := hl2.1 g2
            have p2 : decide (((ℓ : Nat) : Int) < 2) = true := by simp; omega
            clear g1 g2 hl2 hl3
            go_wp2_with fail
            refine (HL.out _).mono ?_
            rintro e w1 ⟨rfl, rfl⟩
            go_wp2_with fail
            refine (HN.out _).mono ?_
            rintro e w1 ⟨rfl, rfl⟩
            go_wp2_with fail
            go_region
            generalize (wr.setCell ⟨nb + 1, 0, none⟩ (.string (S Dn))).drew = wp at *
            have HSq := Lib.hid (bdy_st (bdy0 Dn))
            go_wp2_with (first
              | (refine wpList_load_mid rfl 62 (.tmp 5) rfl (nb + 1) 0 (by rfl) (bdy0 Dn).cells _ hB2.out.range' Tryz.underlying62 rfl (bdy_size _) ?_
                 try simp only [Act.put, List.setIfInBounds_toArray, List.set_cons_succ, List.set_cons_zero])
              | (refine wpList_store_mid rfl 62 (.tmp 4) (.tmp 91) rfl nb 0 (bdy0 Dn).cells.toArray (by rfl) (by first | rfl | kernel_rfl) (hR2.out.there' 0 4 (by simp [zB])) HSq.out.1 HSq.out.2 ?_)
              | fail)
            have hload := bdy_load (World.rangeAt_setCells_same (_) nb 0 (bdy0 Dn).cells (hR2.out.there' 0 4 (by simp [zB])))
            have hfin : bdy0 Dn = bodyOf s d e0 := by rw [HE.out.1, HE.out.2]; rfl
            rw [← hfin]
            refine bodyPost_ret (v := .agg (bdy0 Dn).cells.toArray) (by simp [Act.put, results, Tryz.results26, asAddr, Result.andThen, hload]) rfl ⟨rfl, ?_⟩
            exact Keep.setCells' _ (fun hh => absurd hh (by omega)) _ _ _ hK2.out
          · have p1 : (!(en == ct)) = false := by simp; exact g1
            have g3 : ¬ ℓ < 2 := fun hh => absurd (hl2.2 hh) (by omega)
            have hb2 := hl3 (by omega)
            have p2 : decide (((ℓ : Nat) : Int) < 2) = false := by simp; omega
            have HR4 := Lib.hid (show Runs ⟨0, 0, most, 0, s.drop (b + 2), Dn, 0⟩ d e0 by rw [List.drop_drop] at hr4; exact hr4)
            clear g1 g2 hr4 hl2 hl3
            go_wp2_with fail
            refine (HL.out _).mono ?_
            rintro e w1 ⟨rfl, rfl⟩
            go_wp2_with fail
            refine (HN.out _).mono ?_
            rintro e w1 ⟨rfl, rfl⟩
            go_wp2_with fail
            go_region
            generalize (wr.setCell ⟨nb + 1, 0, none⟩ (.string (S Dn))).drew = wp at *
            go_wp2_with fail
            go_roundg (s.length - (b + 2))
            case measure => omega
            case rel => exact ⟨b + 2, 0, Dn, by go_num, by omega, rfl, by omega, by omega, hB2, hR2, HR4, hK2⟩
end Go.Proofs.YtpimfoohpfkciaaGreatDoor

/- Layer 12: the document's Read. No conditions but on lengths. -/
namespace Go.Proofs.YtpimfoohpfkciaaGreatDoor
open Go.RowKit Go.Shelf

theorem minV_01 {l : List UInt8} (h : minS l = 200) : minV l = 0 ∨ minV l = 1 := by
  unfold minV
  rw [if_pos h]
  unfold minS at h
  split at h
  · rename_i hv
    split at h
    · rename_i h2
      unfold verOk digB at hv
      simp only [Bool.and_eq_true, decide_eq_true_eq] at hv
      have := hv.2
      have := h2.2
      omega
    · simp at h
  · simp at h
theorem ln_v01 {l : List UInt8} (h : (lnM l).s = 200) : (lnM l).v = 0 ∨ (lnM l).v = 1 := by
  have hL : lnM l = if ((Lib.cut l [32]).2.2 && (Lib.cut (Lib.cut l [32]).2.1 [32]).2.2 && isTok (Lib.cut l [32]).1 && isTgt (Lib.cut (Lib.cut l [32]).2.1 [32]).1) = true then (if minS (Lib.cut (Lib.cut l [32]).2.1 [32]).2.1 = 200 then ⟨(Lib.cut l [32]).1, (Lib.cut (Lib.cut l [32]).2.1 [32]).1, minV (Lib.cut (Lib.cut l [32]).2.1 [32]).2.1, 200⟩ else ⟨[], [], 0, minS (Lib.cut (Lib.cut l [32]).2.1 [32]).2.1⟩) else ⟨[], [], 0, 400⟩ := rfl
  by_cases h1 : ((Lib.cut l [32]).2.2 && (Lib.cut (Lib.cut l [32]).2.1 [32]).2.2 && isTok (Lib.cut l [32]).1 && isTgt (Lib.cut (Lib.cut l [32]).2.1 [32]).1) = true
  · by_cases h2 : minS (Lib.cut (Lib.cut l [32]).2.1 [32]).2.1 = 200
    · rw [if_pos h1, if_pos h2] at hL
      rw [hL]
      exact minV_01 h2
    · rw [if_pos h1, if_neg h2] at hL
      rw [hL] at h
      exact absurd h h2
  · rw [if_neg h1] at hL
    rw [hL] at h
    exact absurd h (by decide)
/-- Read, case by case -/
theorem rd_eq (l : List UInt8) : rdM l =
    if (splitM l).e ≠ 0 then ⟨req0, 0, toldE (splitM l).e 431⟩
    else if (lnM (splitM l).st).s ≠ 200 then ⟨req0, 0, (lnM (splitM l).st).s⟩
    else if 1 < getN (splitM l).F nHost ∨ (getN (splitM l).F nHost : Int) < (lnM (splitM l).st).v then ⟨req0, 0, 400⟩
    else if (frameM (splitM l).F 4096).e ≠ 0 then ⟨req0, 0, toldE (frameM (splitM l).F 4096).e 413⟩
    else if (frameM (splitM l).F 4096).ch then
      (if (addC (ck0 4096) (l.drop (splitM l).n)).st ≠ 4 then ⟨req0, 0, toldE (addC (ck0 4096) (l.drop (splitM l).n)).err 413⟩
       else ⟨⟨(lnM (splitM l).st).m, (lnM (splitM l).st).t, (splitM l).F, closesM (splitM l).F (lnM (splitM l).st).v⟩, (splitM l).n + ((l.drop (splitM l).n).length - (addC (ck0 4096) (l.drop (splitM l).n)).inp.length), 200⟩)
    else if (l.drop (splitM l).n).length < (max (frameM (splitM l).F 4096).n 0).toNat then ⟨req0, 0, 0⟩
    else ⟨⟨(lnM (splitM l).st).m, (lnM (splitM l).st).t, (splitM l).F, closesM (splitM l).F (lnM (splitM l).st).v⟩, (splitM l).n + (max (frameM (splitM l).F 4096).n 0).toNat, 200⟩ := by
  have h0 : ∀ s : Int, headM l = hr0 s → rdM l = ⟨req0, 0, s⟩ := fun s h => by
    unfold rdM
    rw [h]
    by_cases hs : s = 0
    · subst hs; rfl
    · rw [if_pos (by exact hs)]; rfl
  by_cases e1 : (splitM l).e = 0
  case neg => rw [if_pos e1]; exact h0 _ (by unfold headM; rw [if_pos e1])
  rw [if_neg (by simp [e1])]
  by_cases e2 : (lnM (splitM l).st).s = 200
  case neg => rw [if_pos e2]; exact h0 _ (by unfold headM; rw [if_neg (by simp [e1]), if_pos e2])
  rw [if_neg (by simp [e2])]
  by_cases e3 : 1 < getN (splitM l).F nHost ∨ (getN (splitM l).F nHost : Int) < (lnM (splitM l).st).v
  case pos => rw [if_pos e3]; exact h0 _ (by unfold headM; rw [if_neg (by simp [e1]), if_neg (by simp [e2]), if_pos e3])
  rw [if_neg e3]
  by_cases e4 : (frameM (splitM l).F 4096).e = 0
  case neg => rw [if_pos e4]; exact h0 _ (by unfold headM; rw [if_neg (by simp [e1]), if_neg (by simp [e2]), if_neg e3, if_pos e4])
  rw [if_neg (by simp [e4])]
  have hH : headM l = ⟨0, true, (splitM l).n, ⟨(lnM (splitM l).st).m, (lnM (splitM l).st).t, (splitM l).F, closesM (splitM l).F (lnM (splitM l).st).v⟩, (max (frameM (splitM l).F 4096).n 0).toNat, (frameM (splitM l).F 4096).ch⟩ := by
    unfold headM; rw [if_neg (by simp [e1]), if_neg (by simp [e2]), if_neg e3, if_neg (by simp [e4])]
  unfold rdM
  rw [hH]
  dsimp only
  rw [if_neg (by simp), if_pos rfl]
  cases (frameM (splitM l).F 4096).ch with
  | false => rfl
  | true =>
    rw [if_pos rfl, if_pos rfl]
    have hsd := (addC_rd (m := 4096) (l.drop (splitM l).n)).sound
    by_cases e5 : (addC (ck0 4096) (l.drop (splitM l).n)).err = 0
    · rw [if_neg (by simp [e5]), e5]; rfl
    · rw [if_pos e5, if_pos (fun h4 => e5 (hsd.2.2.2.2.1 h4))]
def bodC (d : List UInt8) (dn : Bool) (sz : Nat) (er : Int) : List Value := [.string (S d), .bool dn, .int .i64 (sz : Nat), .int .i64 er]
theorem rd_ReadC {m : Int} {all : List UInt8} {c : Ck} (h : Rdc m all c) (w : World) (hs : all.length ≤ 1048576) (hm : m ≤ 9223372036854775807) :
    Calls Tryz.prog 26 #[.string (S all), .int .i64 m] w fun e w' => e = .returned (.agg #[.string (S c.dat), .bool (decide (c.st = 4)), .int .i64 ((if c.st = 4 then all.length - c.inp.length else 0 : Nat) : Int), .int .i64 c.err]) ∧ Keep [] w w' := by
  obtain ⟨d, e, hr, h1, h2, h3, h4, _⟩ := h.body
  refine (ref11_Read all m d e w hs hm hr).mono ?_
  rintro e1 w1 ⟨rfl, k⟩
  refine ⟨?_, k⟩
  rw [← h1, ← h2, ← h3, ← h4]
  rfl
/-- what the document's Read comes to -/
def Rd12 (w : World) (r : RdI) (e : Ending) (w' : World) : Prop :=
  ∃ v, e = .returned (.tuple #[.agg (reqC r.q.m r.q.t v r.q.cl).toArray, .int .i64 (r.n : Nat), .int .i64 r.s]) ∧ Keep [] w w' ∧ Own Fld.cells 2 w.heap.size 40 w' v r.q.F
theorem rd12_fin {w wt : World} {r r' : RdI} {v : Value} (hr : r' = r) (k : Keep [] w wt) (_hb : Blk wt w.heap.size 30 reqZ) (ho : Own Fld.cells 2 w.heap.size 40 wt v r.q.F) (hg : ∀ g, v.ownBlock = some g → g ≠ w.heap.size) :
    Rd12 w r' (.returned (.tuple #[.agg (reqC r.q.m r.q.t v r.q.cl).toArray, .int .i64 (r.n : Nat), .int .i64 r.s])) (wt.setCells w.heap.size 0 (reqC r.q.m r.q.t v r.q.cl)) := by
  subst hr
  have kk : Keep [w.heap.size] wt (wt.setCells w.heap.size 0 (reqC r'.q.m r'.q.t v r'.q.cl)) := Keep.setCells' (S := [w.heap.size]) _ (by simp) _ _ _ (Keep.refl _ _)
  exact ⟨v, rfl, k.trans' kk (fun x hx hlt => by simp at hx; omega), ho.keep kk (fun g hh => by simpa using hg g hh)⟩
theorem rd12_none {w wt : World} {r : RdI} {s : Int} (hr : r = ⟨req0, 0, s⟩) (k : Keep [] w wt) (hb : Blk wt w.heap.size 30 reqZ) :
    Rd12 w r (.returned (.tuple #[.agg reqZ.toArray, .int .i64 0, .int .i64 s])) (wt.setCells w.heap.size 0 reqZ) :=
  rd12_fin (r := ⟨req0, 0, s⟩) (v := .slice none 0 0) hr k hb (Own.nil _ _ _ _ _) (by simp [Value.ownBlock])

set_option maxRecDepth 100000 in
set_option maxHeartbeats 2000000 in
theorem ref12_wrong (e0 long : Int) (w : World) :
    Calls Tryz.prog 22 #[.int .i64 e0, .int .i64 long] w fun e w' => e = .returned (.int .i64 (toldE e0 long)) ∧ w = w' := by
  have hT : toldE e0 long = if e0 = 0 ∨ e0 = 17 then 0 else if e0 = 4 then long else 400 := rfl
  by_cases h0 : e0 = 0
  · rw [if_pos (.inl h0)] at hT
    have HT := Lib.hid hT
    have q := (int_eq h0).1
    have q2 := (int_ne (show e0 ≠ 17 by omega)).1
    clear h0 hT
    go_enter Tryz.func22, Tryz.ntmps22
    go_wp2_with fail
    go_ret
    exact ⟨ret_int HT.out.symm, rfl⟩
  · by_cases h17 : e0 = 17
    · rw [if_pos (.inr h17)] at hT
      have HT := Lib.hid hT
      subst h17
      clear h0 hT
      go_enter Tryz.func22, Tryz.ntmps22
      go_wp2_with fail
      go_ret
      exact ⟨ret_int HT.out.symm, rfl⟩
    · rw [if_neg (by omega)] at hT
      have q := (int_ne h0).1
      have q2 := (int_ne h17).1
      by_cases h4 : e0 = 4
      · rw [if_pos h4] at hT
        have HT := Lib.hid hT
        have q3 := (int_eq h4).1
        clear h0 hT h17 h4
        go_enter Tryz.func22, Tryz.ntmps22
        go_wp2_with fail
        go_ret
        exact ⟨ret_int HT.out.symm, rfl⟩
      · rw [if_neg h4] at hT
        have HT := Lib.hid hT
        have q3 := (int_ne h4).1
        clear h0 hT h17 h4
        go_enter Tryz.func22, Tryz.ntmps22
        go_wp2_with fail
        go_ret
        exact ⟨ret_int HT.out.symm, rfl⟩
end Go.Proofs.YtpimfoohpfkciaaGreatDoor

/- Layer 12: the walk of the document's Read. No conditions but on lengths. -/
namespace Go.Proofs.YtpimfoohpfkciaaGreatDoor
open Go.RowKit Go.Shelf

set_option maxRecDepth 100000 in
set_option maxHeartbeats 4000000 in
theorem ref12_Read (l : List UInt8) (w : World) (hl : l.length ≤ 65536) :
    Calls Tryz.prog 9 #[.string (S l)] w (Rd12 w (rdM l)) := by
  have sz := S_size l
  have kA := ((Keep.refl [] w).alloc (.cells reqZ.toArray 30)).alloc (.cells reqZ.toArray 30)
  have bR := (Blk.newA w reqZ.toArray 30).alloc (.cells reqZ.toArray 30)
  have bT := Blk.newA (w.alloc (.cells reqZ.toArray 30)) reqZ.toArray 30
  have hsz : (w.alloc (.cells reqZ.toArray 30)).heap.size = w.heap.size + 1 := by simp
  rw [hsz] at bT
  clear hsz
  generalize hwA : (w.alloc (.cells #[.string ⟨#[]⟩, .string ⟨#[]⟩, .slice none 0 0, .bool false] 30)).alloc (.cells #[.string ⟨#[]⟩, .string ⟨#[]⟩, .slice none 0 0, .bool false] 30) = wA
  have hwA' : (w.alloc (.cells reqZ.toArray 30)).alloc (.cells reqZ.toArray 30) = wA := hwA
  have hszA : wA.heap.size = w.heap.size + 2 := by rw [← hwA']; simp
  rw [hwA'] at kA bR bT
  have bR : Blk wA w.heap.size 30 reqZ := bR
  have bT : Blk wA (w.heap.size + 1) 30 reqZ := bT
  have ZST := Lib.hid (req_st [] [] (v := .slice none 0 0) false rfl)
  have HTA := Lib.hid (bT.there' 0 4 (by simp [reqZ, reqC]))
  have kS : Keep [w.heap.size + 1] wA (wA.setCells (w.heap.size + 1) 0 reqZ) := Keep.setCells' (S := [w.heap.size + 1]) _ (by simp) _ _ _ (Keep.refl _ _)
  have K0 := Lib.hid (show Keep [] w (wA.setCells (w.heap.size + 1) 0 reqZ) from kA.trans' kS (fun x hx hlt => by simp at hx; omega))
  have R0 := Lib.hid (kS.blk bR (by simp))
  have T0 := Lib.hid (show Blk (wA.setCells (w.heap.size + 1) 0 reqZ) (w.heap.size + 1) 30 reqZ from (((bT.set 0 (.string (S []))).set 1 (.string (S []))).set 2 (.slice none 0 0)).set 3 (.bool false))
  have hsz0 : w.heap.size + 2 ≤ (wA.setCells (w.heap.size + 1) 0 reqZ).heap.size := by have := kS.size; omega
  clear kA bR bT hwA' kS hszA
  have HSp := Lib.hid (fun w' => ref_Split l w' (by omega))
  have hsm := split_small l
  have hH := rd_eq l
  have HT := Lib.hid (fun e0 long w' => ref12_wrong e0 long w')
  have hv01 := ln_v01 (l := (splitM l).st)
  generalize rdM l = rdl at *
  generalize splitM l = r at *
  obtain ⟨rs, rF, rn, re⟩ := r
  dsimp only at hsm hH hv01
  obtain ⟨⟨hf1, hf2⟩, hs1, hn1⟩ := hsm
  have HLn := Lib.hid (fun w' => ref12_Line rs w' (by omega))
  have HG := Lib.hid (fun w' va (ha : Sl Fld.cells 2 w' va rF) => ref_Get va rF [104, 111, 115, 116] w' ha (fun x hx => by have := (hf2 x hx).1; omega) (by decide))
  have HFr := Lib.hid (fun w' va (ha : Sl Fld.cells 2 w' va rF) => ref_Frame va rF 4096 w' ha (fun x hx => by have := (hf2 x hx).1; omega) (fun x hx => by have := (hf2 x hx).2; omega) (by omega))
  have HCl := Lib.hid (fun w' va mi (ha : Sl Fld.cells 2 w' va rF) => ref_Closes va rF mi w' ha (fun x hx => ⟨by have := (hf2 x hx).1; omega, by have := (hf2 x hx).2; omega⟩) (by omega))
  have hNr : getN rF nHost ≤ rF.length := getN_le _ _
  have hgc := (get_congr (n := [104, 111, 115, 116]) (m := nHost) rF (by decide)).2
  unfold SplitOut at HSp
  unfold GetOut at HG
  rw [hgc] at HG
  unfold Ln.out at HLn
  dsimp only at HSp
  have hx : (S l).extract rn l.length = S (l.drop rn) := by rw [S_extract, List.take_length]
  have i0 : (0 : Int) ≤ (rn : Int) := by omega
  have i1 : (rn : Int) ≤ (l.length : Int) := by omega
  have hdl : (l.drop rn).length = l.length - rn := List.length_drop
  have HRd := Lib.hid (addC_rd (m := 4096) (l.drop rn))
  have hsd := HRd.out.sound.2.2.1
  have HRc := Lib.hid (fun w' => rd_ReadC (m := 4096) HRd.out w' (by omega) (by decide))
  generalize addC (ck0 4096) (l.drop rn) = ck at *
  clear hf2 hgc
  have HHH := Lib.hid hH
  have HV := Lib.hid hv01
  clear hH hv01
  go_enter Tryz.func9, Tryz.ntmps9
  go_wp2_with (first
    | (with_reducible (show wpList _ _ _ ((⟨none, .store _ (.tmp 5) (.tmp 19), _, _, _, none⟩ : Oper) :: _) _ _)
       refine wpList_store_mid rfl 30 (.tmp 5) (.tmp 19) rfl (w.heap.size + 1) 0 reqZ.toArray (by rfl) (by first | rfl | kernel_rfl) HTA.out ZST.out.1 ZST.out.2 ?_
       try simp only [Act.put])
    | fail)
  generalize hwB : wA.setCells (w.heap.size + 1) 0 reqZ = w0 at *
  try rw [hwB]
  clear hwA hwB HTA
  refine (HSp.out _).mono ?_
  rintro e w1 ⟨v1, rfl, ho, k1⟩
  obtain ⟨sa, sc, rfl, hml⟩ := ho.shape
  clear hml
  have K1 := Lib.hid (K0.out.trans k1)
  have R1 := Lib.hid (k1.blk R0.out (by simp))
  have T1 := Lib.hid (k1.blk T0.out (by simp))
  have HOg := Lib.hid (show ∀ g, (Value.slice sa rF.length sc).ownBlock = some g → g ≠ w.heap.size from fun g hg => by have := (ho.lt g hg).1; omega)
  have O1 := Lib.hid (ho.lower (base' := w.heap.size) (by omega))
  clear k1 ho HSp hsz0
  have hH := HHH.out
  clear HHH
  by_cases e1 : re = 0
  case neg =>
    rw [if_pos e1] at hH
    have q1 := (int_ne e1).2
    have HH := Lib.hid hH
    have HTe := Lib.hid (HT.out re 431)
    clear hH e1 hNr
    have kD : Keep [] w w1.drew := K1.out.drew
    have kd : Keep [] w1 w1.drew := (Keep.refl [] w1).drew
    have bD := kd.blk R1.out (by simp)
    have tD := kd.blk T1.out (by simp)
    have HTT := Lib.hid (bD.there' 0 4 (by simp [reqZ, reqC]))
    have HLd := Lib.hid (reqZ_back HTT.out)
    have RNG := Lib.hid tD.range'
    have kS : Keep [w.heap.size] w1.drew (World.setCells w1.drew w.heap.size 0 reqZ) := Keep.setCells' (S := [w.heap.size]) _ (by simp) _ _ _ (Keep.refl _ _)
    have RNG2 := Lib.hid (kS.blk tD (by simp)).range'
    have HF := Lib.hid (rd12_none HH.out kD bD)
    clear kD kd bD tD kS
    go_wp2_with fail
    refine wp_region_noPanic ?_
    refine wp_region_held_drew (S := fun w' => w'.rangeAt (w.heap.size + 1) 0 reqZ) (by kernel_rfl) RNG.out (fun hHeld => ?_)
    refine wpAnyH_take (i := 0) (oi := ⟨some 29, .load _ (.tmp 5), _, _, _, none⟩) (v := _) rfl (by kernel_rfl) (by kernel_rfl) (by kernel_rfl) (fun _ _ _ h => h) (yieldsIf_load_mid (by rfl) 30 (.tmp 5) rfl (w.heap.size + 1) 0 rfl reqZ _ (fun _ h => h) Tryz.underlying30 rfl req_size) (by assumption) ?_
    try simp only [Act.put, List.setIfInBounds_toArray, List.set_cons_zero, List.set_cons_succ]
    refine wpAnyH_take (i := 1) (oi := ⟨some 30, .move (.tmp 9), _, _, _, none⟩) (v := ?_) rfl (by kernel_rfl) (by kernel_rfl) (by kernel_rfl) (fun _ _ _ h => h) (Or.inl ⟨by rfl, ?_⟩) (by assumption) ?_
    rotate_left
    · (intro w' hSw; go_simp) <;> (with_reducible rfl)
    try simp only [Act.put, List.setIfInBounds_toArray, List.set_cons_zero, List.set_cons_succ]
    refine wpAnyH_ready (rs := [2]) (by kernel_rfl) (by simp) ?_
    refine AllReadyH.cons rfl (fun K hK => ?_) ?_
    rotate_left
    · exact AllReadyH.nil
    go_simp
    refine (HTe.out _).mono ?_
    rintro e wq ⟨rfl, rfl⟩
    try go_wp2_with fail
    refine hK.out _ _ (by assumption) (fun hHeld2 => ?_)
    clear hK K
    try simp only [Act.put, List.setIfInBounds_toArray, List.set_cons_zero, List.set_cons_succ]
    refine wpAnyH_ready (rs := [3]) (by kernel_rfl) (by simp) ?_
    refine AllReadyH.cons (o := ⟨none, .store _ (.tmp 2) (.tmp 29), _, _, _, none⟩) rfl (fun K hK => ?_) AllReadyH.nil
    rw [if_pos (by rfl)]
    refine wp_store_mid 30 (.tmp 2) (.tmp 29) rfl w.heap.size 0 reqZ.toArray (by rfl) (by first | rfl | kernel_rfl) HTT.out ZST.out.1 ZST.out.2 ?_
    refine hK.out _ _ RNG2.out (fun hHeld3 => ?_)
    clear hK K
    try simp only [Act.put]
    refine wpAnyH_take (i := 4) (oi := ⟨some 3, .assign _, _, _, _, none⟩) (v := ?_) rfl (by kernel_rfl) (by kernel_rfl) (by kernel_rfl) (fun _ _ _ h => h) (Or.inl ⟨by rfl, ?_⟩) (by assumption) ?_
    rotate_left
    · (intro w' hSw; go_simp) <;> (with_reducible rfl)
    try simp only [Act.put, List.setIfInBounds_toArray, List.set_cons_zero, List.set_cons_succ]
    refine wpAnyH_take (i := 5) (oi := ⟨some 4, .assign _, _, _, _, none⟩) (v := ?_) rfl (by kernel_rfl) (by kernel_rfl) (by kernel_rfl) (fun _ _ _ h => h) (Or.inl ⟨by rfl, ?_⟩) (by assumption) ?_
    rotate_left
    · (intro w' hSw; go_simp) <;> (with_reducible rfl)
    try simp only [Act.put, List.setIfInBounds_toArray, List.set_cons_zero, List.set_cons_succ]
    refine wpAnyH_done (by kernel_rfl) ?_ _
    refine NoPanic.normal ?_
    go_wp2_with fail
    refine bodyPost_ret (v := .tuple #[.agg reqZ.toArray, .int .i64 0, .int .i64 (toldE re 431)]) (by have hl := HLd.out; simp [results, Tryz.results9, asAddr, Result.andThen, hl]) rfl HF.out
  rw [if_neg (by simp [e1])] at hH
  subst e1
  generalize lnM rs = ln at *
  obtain ⟨lm, lt, lv, ls⟩ := ln
  dsimp only at hH HLn HV
  have HHH := Lib.hid hH
  clear hH
  go_wp2_with fail
  refine (HLn.out _).mono ?_
  rintro e w2 ⟨rfl, k2⟩
  have K2 := Lib.hid (K1.out.trans k2)
  have R2 := Lib.hid (k2.blk R1.out (by simp))
  have T2 := Lib.hid (k2.blk T1.out (by simp))
  have O2 := Lib.hid (O1.out.keep0 k2)
  clear k2
  have hH := HHH.out
  clear HHH
  by_cases e2 : ls = 200
  case neg =>
    rw [if_pos e2] at hH
    have q1 := (int_ne e2).2
    have HH := Lib.hid hH
    clear hH e2 hNr
    have kD : Keep [] w w2 := K2.out
    have kd : Keep [] w2 w2 := Keep.refl _ _
    have bD := kd.blk R2.out (by simp)
    have tD := kd.blk T2.out (by simp)
    have HTT := Lib.hid (bD.there' 0 4 (by simp [reqZ, reqC]))
    have HLd := Lib.hid (reqZ_back HTT.out)
    have RNG := Lib.hid tD.range'
    have kS : Keep [w.heap.size] w2 (World.setCells w2 w.heap.size 0 reqZ) := Keep.setCells' (S := [w.heap.size]) _ (by simp) _ _ _ (Keep.refl _ _)
    have RNG2 := Lib.hid (kS.blk tD (by simp)).range'
    have HF := Lib.hid (rd12_none HH.out kD bD)
    clear kD kd bD tD kS
    go_wp2_with (first
      | (with_reducible (show wpList _ _ _ ((⟨_, .load _ (.tmp 5), _, _, _, none⟩ : Oper) :: _) _ _)
         refine wpList_load_mid rfl 30 (.tmp 5) rfl (w.heap.size + 1) 0 (by rfl) reqZ _ RNG.out Tryz.underlying30 rfl req_size ?_
         try simp only [Act.put, List.setIfInBounds_toArray, List.set_cons_succ, List.set_cons_zero])
      | (with_reducible (show wpList _ _ _ ((⟨none, .store _ (.tmp 2) (.tmp 41), _, _, _, none⟩ : Oper) :: _) _ _)
         refine wpList_store_mid rfl 30 (.tmp 2) (.tmp 41) rfl w.heap.size 0 reqZ.toArray (by rfl) (by first | rfl | kernel_rfl) HTT.out ZST.out.1 ZST.out.2 ?_
         try simp only [Act.put])
      | fail)
    refine bodyPost_ret (v := .tuple #[.agg reqZ.toArray, .int .i64 0, .int .i64 ls]) (by have hl := HLd.out; simp [results, Tryz.results9, asAddr, Result.andThen, hl]) rfl HF.out
  rw [if_neg (by simp [e2])] at hH
  have HV2 := Lib.hid (HV.out e2)
  clear HV
  subst e2
  have HHH := Lib.hid hH
  clear hH
  go_wp2_with fail
  refine (HG.out _ _ (O2.out.sl Fld.cells_length)).mono ?_
  rintro e w3 ⟨rfl, k3⟩
  have K3 := Lib.hid (K2.out.trans k3)
  have R3 := Lib.hid (k3.blk R2.out (by simp))
  have T3 := Lib.hid (k3.blk T2.out (by simp))
  have O3 := Lib.hid (O2.out.keep0 k3)
  clear k3
  have hH := HHH.out
  have hv01 := HV2.out
  clear HHH HV2
  generalize getN rF nHost = nh at *
  by_cases e3 : 1 < nh ∨ (nh : Int) < lv
  case pos =>
    rw [if_pos e3] at hH
    have HH := Lib.hid hH
    have q3 : decide ((nh : Int) > 1) = decide (1 < nh) := by rw [decide_eq_decide]; omega
    by_cases e4 : 1 < nh
    · rw [decide_eq_true e4] at q3
      clear hH e3 hv01 hNr
      have kD : Keep [] w w3 := K3.out
      have kd : Keep [] w3 w3 := Keep.refl _ _
      have bD := kd.blk R3.out (by simp)
      have tD := kd.blk T3.out (by simp)
      have HTT := Lib.hid (bD.there' 0 4 (by simp [reqZ, reqC]))
      have HLd := Lib.hid (reqZ_back HTT.out)
      have RNG := Lib.hid tD.range'
      have kS : Keep [w.heap.size] w3 (World.setCells w3 w.heap.size 0 reqZ) := Keep.setCells' (S := [w.heap.size]) _ (by simp) _ _ _ (Keep.refl _ _)
      have RNG2 := Lib.hid (kS.blk tD (by simp)).range'
      have HF := Lib.hid (rd12_none HH.out kD bD)
      clear kD kd bD tD kS
      go_wp2_with (first
        | (with_reducible (show wpList _ _ _ ((⟨_, .load _ (.tmp 5), _, _, _, none⟩ : Oper) :: _) _ _)
           refine wpList_load_mid rfl 30 (.tmp 5) rfl (w.heap.size + 1) 0 (by rfl) reqZ _ RNG.out Tryz.underlying30 rfl req_size ?_
           try simp only [Act.put, List.setIfInBounds_toArray, List.set_cons_succ, List.set_cons_zero])
        | (with_reducible (show wpList _ _ _ ((⟨none, .store _ (.tmp 2) (.tmp 58), _, _, _, none⟩ : Oper) :: _) _ _)
           refine wpList_store_mid rfl 30 (.tmp 2) (.tmp 58) rfl w.heap.size 0 reqZ.toArray (by rfl) (by first | rfl | kernel_rfl) HTT.out ZST.out.1 ZST.out.2 ?_
           try simp only [Act.put])
        | fail)
      refine bodyPost_ret (v := .tuple #[.agg reqZ.toArray, .int .i64 0, .int .i64 400]) (by have hl := HLd.out; simp [results, Tryz.results9, asAddr, Result.andThen, hl]) rfl HF.out
    · have q4 := (int_eq (show (nh : Int) = 0 by omega)).1
      have q5 := (int_eq (show lv = 1 by omega)).1
      rw [decide_eq_false e4] at q3
      clear hH e3 hv01 hNr
      have kD : Keep [] w w3 := K3.out
      have kd : Keep [] w3 w3 := Keep.refl _ _
      have bD := kd.blk R3.out (by simp)
      have tD := kd.blk T3.out (by simp)
      have HTT := Lib.hid (bD.there' 0 4 (by simp [reqZ, reqC]))
      have HLd := Lib.hid (reqZ_back HTT.out)
      have RNG := Lib.hid tD.range'
      have kS : Keep [w.heap.size] w3 (World.setCells w3 w.heap.size 0 reqZ) := Keep.setCells' (S := [w.heap.size]) _ (by simp) _ _ _ (Keep.refl _ _)
      have RNG2 := Lib.hid (kS.blk tD (by simp)).range'
      have HF := Lib.hid (rd12_none HH.out kD bD)
      clear kD kd bD tD kS
      go_wp2_with (first
        | (with_reducible (show wpList _ _ _ ((⟨_, .load _ (.tmp 5), _, _, _, none⟩ : Oper) :: _) _ _)
           refine wpList_load_mid rfl 30 (.tmp 5) rfl (w.heap.size + 1) 0 (by rfl) reqZ _ RNG.out Tryz.underlying30 rfl req_size ?_
           try simp only [Act.put, List.setIfInBounds_toArray, List.set_cons_succ, List.set_cons_zero])
        | (with_reducible (show wpList _ _ _ ((⟨none, .store _ (.tmp 2) (.tmp 58), _, _, _, none⟩ : Oper) :: _) _ _)
           refine wpList_store_mid rfl 30 (.tmp 2) (.tmp 58) rfl w.heap.size 0 reqZ.toArray (by rfl) (by first | rfl | kernel_rfl) HTT.out ZST.out.1 ZST.out.2 ?_
           try simp only [Act.put])
        | fail)
      refine bodyPost_ret (v := .tuple #[.agg reqZ.toArray, .int .i64 0, .int .i64 400]) (by have hl := HLd.out; simp [results, Tryz.results9, asAddr, Result.andThen, hl]) rfl HF.out
  rw [if_neg e3] at hH
  have q3 : decide ((nh : Int) > 1) = false := by simp; omega
  have q4 : ((nh : Int) == 0) = decide (nh = 0) := by by_cases h : nh = 0 <;> simp [h]
  have q5 : (nh = 0 → (lv == 1) = false) := fun h => (int_ne (show lv ≠ 1 by omega)).1
  have HFr2 := Lib.hid (HFr.out _ _ (O3.out.sl Fld.cells_length))
  have hcase : (((nh : Int) == 0) = false) ∨ (((nh : Int) == 0) = true ∧ (lv == 1) = false) := by
    by_cases h : nh = 0
    · exact .inr ⟨by rw [q4]; simp [h], q5 h⟩
    · exact .inl (by rw [q4]; simp [h])
  clear q4 q5 e3 hv01 hNr
  generalize frameM rF 4096 = fr at *
  obtain ⟨fn, fch, fe⟩ := fr
  dsimp only at hH HFr2 HFr
  have HHH := Lib.hid hH
  clear hH
  rcases hcase with q4 | ⟨q4, q5⟩
  · go_wp2_with fail
    refine (HFr2.out).mono ?_
    rintro e w4 ⟨rfl, k4⟩
    have K4 := Lib.hid (K3.out.trans k4)
    have R4 := Lib.hid (k4.blk R3.out (by simp))
    have T4 := Lib.hid (k4.blk T3.out (by simp))
    have O4 := Lib.hid (O3.out.keep0 k4)
    clear k4
    have hH := HHH.out
    clear HHH
    by_cases e5 : fe = 0
    case neg =>
      rw [if_pos e5] at hH
      have q6 := (int_ne e5).2
      have HH := Lib.hid hH
      have HTe := Lib.hid (HT.out fe 413)
      clear hH e5
      have kD : Keep [] w w4.drew := K4.out.drew
      have kd : Keep [] w4 w4.drew := (Keep.refl [] w4).drew
      have bD := kd.blk R4.out (by simp)
      have tD := kd.blk T4.out (by simp)
      have HTT := Lib.hid (bD.there' 0 4 (by simp [reqZ, reqC]))
      have HLd := Lib.hid (reqZ_back HTT.out)
      have RNG := Lib.hid tD.range'
      have kS : Keep [w.heap.size] w4.drew (World.setCells w4.drew w.heap.size 0 reqZ) := Keep.setCells' (S := [w.heap.size]) _ (by simp) _ _ _ (Keep.refl _ _)
      have RNG2 := Lib.hid (kS.blk tD (by simp)).range'
      have HF := Lib.hid (rd12_none HH.out kD bD)
      clear kD kd bD tD kS
      go_wp2_with fail
      refine wp_region_noPanic ?_
      refine wp_region_held_drew (S := fun w' => w'.rangeAt (w.heap.size + 1) 0 reqZ) (by kernel_rfl) RNG.out (fun hHeld => ?_)
      refine wpAnyH_take (i := 0) (oi := ⟨some 67, .load _ (.tmp 5), _, _, _, none⟩) (v := _) rfl (by kernel_rfl) (by kernel_rfl) (by kernel_rfl) (fun _ _ _ h => h) (yieldsIf_load_mid (by rfl) 30 (.tmp 5) rfl (w.heap.size + 1) 0 rfl reqZ _ (fun _ h => h) Tryz.underlying30 rfl req_size) (by assumption) ?_
      try simp only [Act.put, List.setIfInBounds_toArray, List.set_cons_zero, List.set_cons_succ]
      refine wpAnyH_take (i := 1) (oi := ⟨some 68, .move (.tmp 9), _, _, _, none⟩) (v := ?_) rfl (by kernel_rfl) (by kernel_rfl) (by kernel_rfl) (fun _ _ _ h => h) (Or.inl ⟨by rfl, ?_⟩) (by assumption) ?_
      rotate_left
      · (intro w' hSw; go_simp) <;> (with_reducible rfl)
      try simp only [Act.put, List.setIfInBounds_toArray, List.set_cons_zero, List.set_cons_succ]
      refine wpAnyH_ready (rs := [2]) (by kernel_rfl) (by simp) ?_
      refine AllReadyH.cons rfl (fun K hK => ?_) ?_
      rotate_left
      · exact AllReadyH.nil
      go_simp
      refine (HTe.out _).mono ?_
      rintro e wq ⟨rfl, rfl⟩
      try go_wp2_with fail
      refine hK.out _ _ (by assumption) (fun hHeld2 => ?_)
      clear hK K
      try simp only [Act.put, List.setIfInBounds_toArray, List.set_cons_zero, List.set_cons_succ]
      refine wpAnyH_ready (rs := [3]) (by kernel_rfl) (by simp) ?_
      refine AllReadyH.cons (o := ⟨none, .store _ (.tmp 2) (.tmp 67), _, _, _, none⟩) rfl (fun K hK => ?_) AllReadyH.nil
      rw [if_pos (by rfl)]
      refine wp_store_mid 30 (.tmp 2) (.tmp 67) rfl w.heap.size 0 reqZ.toArray (by rfl) (by first | rfl | kernel_rfl) HTT.out ZST.out.1 ZST.out.2 ?_
      refine hK.out _ _ RNG2.out (fun hHeld3 => ?_)
      clear hK K
      try simp only [Act.put]
      refine wpAnyH_take (i := 4) (oi := ⟨some 3, .assign _, _, _, _, none⟩) (v := ?_) rfl (by kernel_rfl) (by kernel_rfl) (by kernel_rfl) (fun _ _ _ h => h) (Or.inl ⟨by rfl, ?_⟩) (by assumption) ?_
      rotate_left
      · (intro w' hSw; go_simp) <;> (with_reducible rfl)
      try simp only [Act.put, List.setIfInBounds_toArray, List.set_cons_zero, List.set_cons_succ]
      refine wpAnyH_take (i := 5) (oi := ⟨some 4, .assign _, _, _, _, none⟩) (v := ?_) rfl (by kernel_rfl) (by kernel_rfl) (by kernel_rfl) (fun _ _ _ h => h) (Or.inl ⟨by rfl, ?_⟩) (by assumption) ?_
      rotate_left
      · (intro w' hSw; go_simp) <;> (with_reducible rfl)
      try simp only [Act.put, List.setIfInBounds_toArray, List.set_cons_zero, List.set_cons_succ]
      refine wpAnyH_done (by kernel_rfl) ?_ _
      refine NoPanic.normal ?_
      go_wp2_with fail
      refine bodyPost_ret (v := .tuple #[.agg reqZ.toArray, .int .i64 0, .int .i64 (toldE fe 413)]) (by have hl := HLd.out; simp [results, Tryz.results9, asAddr, Result.andThen, hl]) rfl HF.out
    rw [if_neg (by simp [e5])] at hH
    subst e5
    obtain ⟨sk, hsk⟩ : ∃ sk : Nat, (max fn 0).toNat = sk := ⟨_, rfl⟩
    have hmx : max fn 0 = ((sk : Nat) : Int) := by omega
    rw [hsk] at hH
    cases fch with
    | false =>
      rw [if_neg (by simp)] at hH
      by_cases e6 : (l.drop rn).length < sk
      · rw [if_pos e6] at hH
        have q7 : decide ((l.length : Int) - (rn : Int) < (sk : Int)) = true := by simp; omega
        have wl := IntWalk.i64_in ((l.length : Int) - (rn : Int)) (by omega)
        have HH := Lib.hid hH
        clear hH e6 hsk
        have kD : Keep [] w w4 := K4.out
        have kd : Keep [] w4 w4 := Keep.refl _ _
        have bD := kd.blk R4.out (by simp)
        have tD := kd.blk T4.out (by simp)
        have HTT := Lib.hid (bD.there' 0 4 (by simp [reqZ, reqC]))
        have HLd := Lib.hid (reqZ_back HTT.out)
        have RNG := Lib.hid tD.range'
        have kS : Keep [w.heap.size] w4 (World.setCells w4 w.heap.size 0 reqZ) := Keep.setCells' (S := [w.heap.size]) _ (by simp) _ _ _ (Keep.refl _ _)
        have RNG2 := Lib.hid (kS.blk tD (by simp)).range'
        have HF := Lib.hid (rd12_none HH.out kD bD)
        clear kD kd bD tD kS
        go_wp2_with (first
          | (with_reducible (show wpList _ _ _ ((⟨_, .load _ (.tmp 5), _, _, _, none⟩ : Oper) :: _) _ _)
             refine wpList_load_mid rfl 30 (.tmp 5) rfl (w.heap.size + 1) 0 (by rfl) reqZ _ RNG.out Tryz.underlying30 rfl req_size ?_
             try simp only [Act.put, List.setIfInBounds_toArray, List.set_cons_succ, List.set_cons_zero])
          | (with_reducible (show wpList _ _ _ ((⟨none, .store _ (.tmp 2) (.tmp 92), _, _, _, none⟩ : Oper) :: _) _ _)
             refine wpList_store_mid rfl 30 (.tmp 2) (.tmp 92) rfl w.heap.size 0 reqZ.toArray (by rfl) (by first | rfl | kernel_rfl) HTT.out ZST.out.1 ZST.out.2 ?_
             try simp only [Act.put])
          | fail)
        refine bodyPost_ret (v := .tuple #[.agg reqZ.toArray, .int .i64 0, .int .i64 0]) (by have hl := HLd.out; simp [results, Tryz.results9, asAddr, Result.andThen, hl]) rfl HF.out
      · rw [if_neg e6] at hH
        have q7 : decide ((l.length : Int) - (rn : Int) < (sk : Int)) = false := by simp; omega
        have hle : rn + sk ≤ l.length := by omega
        have wk := IntWalk.i64_in ((rn : Int) + (sk : Int)) (by omega)
        have wl := IntWalk.i64_in ((l.length : Int) - (rn : Int)) (by omega)
        have HH := Lib.hid hH
        clear hH e6 hsk
        have HCl2 := Lib.hid (HCl.out _ _ lv (O4.out.sl Fld.cells_length))
        generalize closesM rF lv = cl at *
        go_wp2_with fail
        refine (HCl2.out).mono ?_
        rintro e w9 ⟨rfl, k9⟩
        have K9 := Lib.hid (K4.out.trans k9)
        have R9 := Lib.hid (k9.blk R4.out (by simp))
        have T9 := Lib.hid (k9.blk T4.out (by simp))
        have O9 := Lib.hid (O4.out.keep0 k9)
        clear k9
        have HTT := Lib.hid (R9.out.there' 0 4 (by simp [reqZ, reqC]))
        have HLd := Lib.hid (req_back (m := lm) (t := lt) (v := .slice sa rF.length sc) (cl := cl) HTT.out)
        have ST := Lib.hid (req_st lm lt (v := .slice sa rF.length sc) cl rfl)
        have HF := Lib.hid (rd12_fin (r := ⟨⟨lm, lt, rF, cl⟩, rn + sk, 200⟩) (v := .slice sa rF.length sc) HH.out K9.out R9.out O9.out HOg.out)
        go_wp2_with (first
          | (with_reducible (show wpList _ _ _ ((⟨none, .store _ (.tmp 2) (.tmp 99), _, _, _, none⟩ : Oper) :: _) _ _)
             refine wpList_store_mid rfl 30 (.tmp 2) (.tmp 99) rfl w.heap.size 0 (reqC lm lt (.slice sa rF.length sc) cl).toArray (by rfl) (by first | rfl | kernel_rfl) HTT.out ST.out.1 ST.out.2 ?_
             try simp only [Act.put])
          | fail)
        refine bodyPost_ret (v := .tuple #[.agg (reqC lm lt (.slice sa rF.length sc) cl).toArray, .int .i64 ((rn + sk : Nat) : Int), .int .i64 200]) (by have hl := HLd.out; simp [results, Tryz.results9, asAddr, Result.andThen, hl]) rfl HF.out
    | true =>
      rw [if_pos rfl] at hH
      have hRc := HRc.out
      by_cases h4 : ck.st = 4
      · rw [if_neg (by simp [h4])] at hH
        rw [if_pos h4, decide_eq_true h4] at hRc
        obtain ⟨sz, hsz⟩ : ∃ sz : Nat, (l.drop rn).length - ck.inp.length = sz := ⟨_, rfl⟩
        rw [hsz] at hH hRc
        have hszl : rn + sz ≤ l.length := by omega
        have hmx : max (sz : Int) 0 = (sz : Int) := by omega
        have q7 : decide ((l.length : Int) - (rn : Int) < (sz : Int)) = false := by simp; omega
        have wk := IntWalk.i64_in ((rn : Int) + (sz : Int)) (by omega)
        have wl := IntWalk.i64_in ((l.length : Int) - (rn : Int)) (by omega)
        have HH := Lib.hid hH
        clear hH h4 hsz hsk
        have HRc2 := Lib.hid hRc
        clear hRc
        go_wp2_with fail
        refine (HRc2.out _).mono ?_
        rintro e w5 ⟨rfl, k5⟩
        have K5 := Lib.hid (K4.out.trans k5)
        have R5 := Lib.hid (k5.blk R4.out (by simp))
        have T5 := Lib.hid (k5.blk T4.out (by simp))
        have O5 := Lib.hid (O4.out.keep0 k5)
        clear k5
        have kA := (Keep.refl [] w5).alloc (.cells (bodC ck.dat true sz ck.err).toArray 62)
        have bA := Blk.newA w5 (bodC ck.dat true sz ck.err).toArray 62
        generalize hwA : w5.alloc (.cells #[.string (S ck.dat), .bool true, .int .i64 (sz : Nat), .int .i64 ck.err] 62) = w6
        have hwA' : w5.alloc (.cells (bodC ck.dat true sz ck.err).toArray 62) = w6 := hwA
        rw [hwA'] at kA bA
        have K6 := Lib.hid (K5.out.trans kA)
        have R6 := Lib.hid (kA.blk R5.out (by simp))
        have T6 := Lib.hid (kA.blk T5.out (by simp))
        have O6 := Lib.hid (O5.out.keep0 kA)
        have bA : Blk w6 w5.heap.size 62 (bodC ck.dat true sz ck.err) := bA
        have B6 := Lib.hid bA
        have hne6 : w5.heap.size ≠ w.heap.size := by have := R5.out.lt; omega
        have b1 := bA.get (k := 1) rfl
        have b2 := bA.get (k := 2) rfl
        have b3 := bA.get (k := 3) rfl
        clear kA bA hwA'
        have HCl2 := Lib.hid (HCl.out _ _ lv (O6.out.sl Fld.cells_length))
        generalize closesM rF lv = cl at *
        go_wp2_with fail
        refine (HCl2.out).mono ?_
        rintro e w9 ⟨rfl, k9⟩
        have K9 := Lib.hid (K6.out.trans k9)
        have R9 := Lib.hid (k9.blk R6.out (by simp))
        have T9 := Lib.hid (k9.blk T6.out (by simp))
        have O9 := Lib.hid (O6.out.keep0 k9)
        clear k9
        have HTT := Lib.hid (R9.out.there' 0 4 (by simp [reqZ, reqC]))
        have HLd := Lib.hid (req_back (m := lm) (t := lt) (v := .slice sa rF.length sc) (cl := cl) HTT.out)
        have ST := Lib.hid (req_st lm lt (v := .slice sa rF.length sc) cl rfl)
        have HF := Lib.hid (rd12_fin (r := ⟨⟨lm, lt, rF, cl⟩, rn + sz, 200⟩) (v := .slice sa rF.length sc) HH.out K9.out R9.out O9.out HOg.out)
        go_wp2_with (first
          | (with_reducible (show wpList _ _ _ ((⟨none, .store _ (.tmp 2) (.tmp 99), _, _, _, none⟩ : Oper) :: _) _ _)
             refine wpList_store_mid rfl 30 (.tmp 2) (.tmp 99) rfl w.heap.size 0 (reqC lm lt (.slice sa rF.length sc) cl).toArray (by rfl) (by first | rfl | kernel_rfl) HTT.out ST.out.1 ST.out.2 ?_
             try simp only [Act.put])
          | fail)
        refine bodyPost_ret (v := .tuple #[.agg (reqC lm lt (.slice sa rF.length sc) cl).toArray, .int .i64 ((rn + sz : Nat) : Int), .int .i64 200]) (by have hl := HLd.out; simp [results, Tryz.results9, asAddr, Result.andThen, hl]) rfl HF.out
      · rw [if_pos h4] at hH
        generalize (if ck.st = 4 then (l.drop rn).length - ck.inp.length else 0 : Nat) = sz at hRc
        rw [decide_eq_false h4] at hRc
        have HH := Lib.hid hH
        have HTe := Lib.hid (HT.out ck.err 413)
        clear hH h4 hsk
        have HRc2 := Lib.hid hRc
        clear hRc
        go_wp2_with fail
        refine (HRc2.out _).mono ?_
        rintro e w5 ⟨rfl, k5⟩
        have K5 := Lib.hid (K4.out.trans k5)
        have R5 := Lib.hid (k5.blk R4.out (by simp))
        have T5 := Lib.hid (k5.blk T4.out (by simp))
        have O5 := Lib.hid (O4.out.keep0 k5)
        clear k5
        have kA := (Keep.refl [] w5).alloc (.cells (bodC ck.dat false sz ck.err).toArray 62)
        have bA := Blk.newA w5 (bodC ck.dat false sz ck.err).toArray 62
        generalize hwA : w5.alloc (.cells #[.string (S ck.dat), .bool false, .int .i64 (sz : Nat), .int .i64 ck.err] 62) = w6
        have hwA' : w5.alloc (.cells (bodC ck.dat false sz ck.err).toArray 62) = w6 := hwA
        rw [hwA'] at kA bA
        have K6 := Lib.hid (K5.out.trans kA)
        have R6 := Lib.hid (kA.blk R5.out (by simp))
        have T6 := Lib.hid (kA.blk T5.out (by simp))
        have O6 := Lib.hid (O5.out.keep0 kA)
        have bA : Blk w6 w5.heap.size 62 (bodC ck.dat false sz ck.err) := bA
        have B6 := Lib.hid bA
        have hne6 : w5.heap.size ≠ w.heap.size := by have := R5.out.lt; omega
        have b1 := bA.get (k := 1) rfl
        have b2 := bA.get (k := 2) rfl
        have b3 := bA.get (k := 3) rfl
        clear kA bA hwA'
        go_wp2_with fail
        try clear hwA
        have kD : Keep [] w w6.drew := K6.out.drew
        have kd : Keep [] w6 w6.drew := (Keep.refl [] w6).drew
        have bD := kd.blk R6.out (by simp)
        have tD := kd.blk T6.out (by simp)
        have HTT := Lib.hid (bD.there' 0 4 (by simp [reqZ, reqC]))
        have HLd := Lib.hid (reqZ_back HTT.out)
        have RNG := Lib.hid tD.range'
        have kS : Keep [w.heap.size] w6.drew (World.setCells w6.drew w.heap.size 0 reqZ) := Keep.setCells' (S := [w.heap.size]) _ (by simp) _ _ _ (Keep.refl _ _)
        have RNG2 := Lib.hid (kS.blk tD (by simp)).range'
        have hbD := kd.blk B6.out (by simp)
        have RS := Lib.hid (And.intro RNG.out (hbD.get (k := 3) rfl))
        have RS2 := Lib.hid (And.intro RNG2.out ((kS.blk hbD (by simpa using hne6)).get (k := 3) rfl))
        have HF := Lib.hid (rd12_none HH.out kD bD)
        clear kD kd bD tD kS hbD
        refine wp_region_noPanic ?_
        refine wp_region_held_drew (S := fun w' => w'.rangeAt (w.heap.size + 1) 0 reqZ ∧ w'.cell? ⟨w5.heap.size, 3, none⟩ = some (.int .i64 ck.err)) (by kernel_rfl) RS.out (fun hHeld => ?_)
        refine wpAnyH_take (i := 0) (oi := ⟨some 78, .load _ (.tmp 5), _, _, _, none⟩) (v := _) rfl (by kernel_rfl) (by kernel_rfl) (by kernel_rfl) (fun _ _ _ h => h) (yieldsIf_load_mid (by rfl) 30 (.tmp 5) rfl (w.heap.size + 1) 0 rfl reqZ _ (fun _ h => h.1) Tryz.underlying30 rfl req_size) (by assumption) ?_
        try simp only [Act.put, List.setIfInBounds_toArray, List.set_cons_zero, List.set_cons_succ]
        refine wpAnyH_take (i := 1) (oi := ⟨some 79, .fieldAddr _ (.tmp 18) 3, _, _, _, none⟩) (v := ?_) rfl (by kernel_rfl) (by kernel_rfl) (by kernel_rfl) (fun _ _ _ h => h) (Or.inl ⟨by rfl, ?_⟩) (by assumption) ?_
        rotate_left
        · (intro w' hSw; obtain ⟨_, hSa⟩ := hSw; go_simp) <;> (with_reducible rfl)
        try simp only [Act.put, List.setIfInBounds_toArray, List.set_cons_zero, List.set_cons_succ]
        refine wpAnyH_take (i := 2) (oi := ⟨some 80, .load _ (.tmp 79), _, _, _, none⟩) (v := ?_) rfl (by kernel_rfl) (by kernel_rfl) (by kernel_rfl) (fun _ _ _ h => h) (Or.inl ⟨by rfl, ?_⟩) (by assumption) ?_
        rotate_left
        · (intro w' hSw; obtain ⟨_, hSa⟩ := hSw; go_simp) <;> (with_reducible rfl)
        try simp only [Act.put, List.setIfInBounds_toArray, List.set_cons_zero, List.set_cons_succ]
        refine wpAnyH_ready (rs := [3]) (by kernel_rfl) (by simp) ?_
        refine AllReadyH.cons rfl (fun K hK => ?_) ?_
        rotate_left
        · exact AllReadyH.nil
        go_simp
        refine (HTe.out _).mono ?_
        rintro e wq ⟨rfl, rfl⟩
        try go_wp2_with fail
        refine hK.out _ _ (by assumption) (fun hHeld2 => ?_)
        clear hK K
        try simp only [Act.put, List.setIfInBounds_toArray, List.set_cons_zero, List.set_cons_succ]
        refine wpAnyH_ready (rs := [4]) (by kernel_rfl) (by simp) ?_
        refine AllReadyH.cons (o := ⟨none, .store _ (.tmp 2) (.tmp 78), _, _, _, none⟩) rfl (fun K hK => ?_) AllReadyH.nil
        rw [if_pos (by rfl)]
        refine wp_store_mid 30 (.tmp 2) (.tmp 78) rfl w.heap.size 0 reqZ.toArray (by rfl) (by first | rfl | kernel_rfl) HTT.out ZST.out.1 ZST.out.2 ?_
        refine hK.out _ _ RS2.out (fun hHeld3 => ?_)
        clear hK K
        try simp only [Act.put]
        refine wpAnyH_take (i := 5) (oi := ⟨some 3, .assign _, _, _, _, none⟩) (v := ?_) rfl (by kernel_rfl) (by kernel_rfl) (by kernel_rfl) (fun _ _ _ h => h) (Or.inl ⟨by rfl, ?_⟩) (by assumption) ?_
        rotate_left
        · (intro w' hSw; obtain ⟨_, hSa⟩ := hSw; go_simp) <;> (with_reducible rfl)
        try simp only [Act.put, List.setIfInBounds_toArray, List.set_cons_zero, List.set_cons_succ]
        refine wpAnyH_take (i := 6) (oi := ⟨some 4, .assign _, _, _, _, none⟩) (v := ?_) rfl (by kernel_rfl) (by kernel_rfl) (by kernel_rfl) (fun _ _ _ h => h) (Or.inl ⟨by rfl, ?_⟩) (by assumption) ?_
        rotate_left
        · (intro w' hSw; obtain ⟨_, hSa⟩ := hSw; go_simp) <;> (with_reducible rfl)
        try simp only [Act.put, List.setIfInBounds_toArray, List.set_cons_zero, List.set_cons_succ]
        refine wpAnyH_done (by kernel_rfl) ?_ _
        refine NoPanic.normal ?_
        go_wp2_with fail
        refine bodyPost_ret (v := .tuple #[.agg reqZ.toArray, .int .i64 0, .int .i64 (toldE ck.err 413)]) (by have hl := HLd.out; simp [results, Tryz.results9, asAddr, Result.andThen, hl]) rfl HF.out
  · go_wp2_with fail
    refine (HFr2.out).mono ?_
    rintro e w4 ⟨rfl, k4⟩
    have K4 := Lib.hid (K3.out.trans k4)
    have R4 := Lib.hid (k4.blk R3.out (by simp))
    have T4 := Lib.hid (k4.blk T3.out (by simp))
    have O4 := Lib.hid (O3.out.keep0 k4)
    clear k4
    have hH := HHH.out
    clear HHH
    by_cases e5 : fe = 0
    case neg =>
      rw [if_pos e5] at hH
      have q6 := (int_ne e5).2
      have HH := Lib.hid hH
      have HTe := Lib.hid (HT.out fe 413)
      clear hH e5
      have kD : Keep [] w w4.drew := K4.out.drew
      have kd : Keep [] w4 w4.drew := (Keep.refl [] w4).drew
      have bD := kd.blk R4.out (by simp)
      have tD := kd.blk T4.out (by simp)
      have HTT := Lib.hid (bD.there' 0 4 (by simp [reqZ, reqC]))
      have HLd := Lib.hid (reqZ_back HTT.out)
      have RNG := Lib.hid tD.range'
      have kS : Keep [w.heap.size] w4.drew (World.setCells w4.drew w.heap.size 0 reqZ) := Keep.setCells' (S := [w.heap.size]) _ (by simp) _ _ _ (Keep.refl _ _)
      have RNG2 := Lib.hid (kS.blk tD (by simp)).range'
      have HF := Lib.hid (rd12_none HH.out kD bD)
      clear kD kd bD tD kS
      go_wp2_with fail
      refine wp_region_noPanic ?_
      refine wp_region_held_drew (S := fun w' => w'.rangeAt (w.heap.size + 1) 0 reqZ) (by kernel_rfl) RNG.out (fun hHeld => ?_)
      refine wpAnyH_take (i := 0) (oi := ⟨some 67, .load _ (.tmp 5), _, _, _, none⟩) (v := _) rfl (by kernel_rfl) (by kernel_rfl) (by kernel_rfl) (fun _ _ _ h => h) (yieldsIf_load_mid (by rfl) 30 (.tmp 5) rfl (w.heap.size + 1) 0 rfl reqZ _ (fun _ h => h) Tryz.underlying30 rfl req_size) (by assumption) ?_
      try simp only [Act.put, List.setIfInBounds_toArray, List.set_cons_zero, List.set_cons_succ]
      refine wpAnyH_take (i := 1) (oi := ⟨some 68, .move (.tmp 9), _, _, _, none⟩) (v := ?_) rfl (by kernel_rfl) (by kernel_rfl) (by kernel_rfl) (fun _ _ _ h => h) (Or.inl ⟨by rfl, ?_⟩) (by assumption) ?_
      rotate_left
      · (intro w' hSw; go_simp) <;> (with_reducible rfl)
      try simp only [Act.put, List.setIfInBounds_toArray, List.set_cons_zero, List.set_cons_succ]
      refine wpAnyH_ready (rs := [2]) (by kernel_rfl) (by simp) ?_
      refine AllReadyH.cons rfl (fun K hK => ?_) ?_
      rotate_left
      · exact AllReadyH.nil
      go_simp
      refine (HTe.out _).mono ?_
      rintro e wq ⟨rfl, rfl⟩
      try go_wp2_with fail
      refine hK.out _ _ (by assumption) (fun hHeld2 => ?_)
      clear hK K
      try simp only [Act.put, List.setIfInBounds_toArray, List.set_cons_zero, List.set_cons_succ]
      refine wpAnyH_ready (rs := [3]) (by kernel_rfl) (by simp) ?_
      refine AllReadyH.cons (o := ⟨none, .store _ (.tmp 2) (.tmp 67), _, _, _, none⟩) rfl (fun K hK => ?_) AllReadyH.nil
      rw [if_pos (by rfl)]
      refine wp_store_mid 30 (.tmp 2) (.tmp 67) rfl w.heap.size 0 reqZ.toArray (by rfl) (by first | rfl | kernel_rfl) HTT.out ZST.out.1 ZST.out.2 ?_
      refine hK.out _ _ RNG2.out (fun hHeld3 => ?_)
      clear hK K
      try simp only [Act.put]
      refine wpAnyH_take (i := 4) (oi := ⟨some 3, .assign _, _, _, _, none⟩) (v := ?_) rfl (by kernel_rfl) (by kernel_rfl) (by kernel_rfl) (fun _ _ _ h => h) (Or.inl ⟨by rfl, ?_⟩) (by assumption) ?_
      rotate_left
      · (intro w' hSw; go_simp) <;> (with_reducible rfl)
      try simp only [Act.put, List.setIfInBounds_toArray, List.set_cons_zero, List.set_cons_succ]
      refine wpAnyH_take (i := 5) (oi := ⟨some 4, .assign _, _, _, _, none⟩) (v := ?_) rfl (by kernel_rfl) (by kernel_rfl) (by kernel_rfl) (fun _ _ _ h => h) (Or.inl ⟨by rfl, ?_⟩) (by assumption) ?_
      rotate_left
      · (intro w' hSw; go_simp) <;> (with_reducible rfl)
      try simp only [Act.put, List.setIfInBounds_toArray, List.set_cons_zero, List.set_cons_succ]
      refine wpAnyH_done (by kernel_rfl) ?_ _
      refine NoPanic.normal ?_
      go_wp2_with fail
      refine bodyPost_ret (v := .tuple #[.agg reqZ.toArray, .int .i64 0, .int .i64 (toldE fe 413)]) (by have hl := HLd.out; simp [results, Tryz.results9, asAddr, Result.andThen, hl]) rfl HF.out
    rw [if_neg (by simp [e5])] at hH
    subst e5
    obtain ⟨sk, hsk⟩ : ∃ sk : Nat, (max fn 0).toNat = sk := ⟨_, rfl⟩
    have hmx : max fn 0 = ((sk : Nat) : Int) := by omega
    rw [hsk] at hH
    cases fch with
    | false =>
      rw [if_neg (by simp)] at hH
      by_cases e6 : (l.drop rn).length < sk
      · rw [if_pos e6] at hH
        have q7 : decide ((l.length : Int) - (rn : Int) < (sk : Int)) = true := by simp; omega
        have wl := IntWalk.i64_in ((l.length : Int) - (rn : Int)) (by omega)
        have HH := Lib.hid hH
        clear hH e6 hsk
        have kD : Keep [] w w4 := K4.out
        have kd : Keep [] w4 w4 := Keep.refl _ _
        have bD := kd.blk R4.out (by simp)
        have tD := kd.blk T4.out (by simp)
        have HTT := Lib.hid (bD.there' 0 4 (by simp [reqZ, reqC]))
        have HLd := Lib.hid (reqZ_back HTT.out)
        have RNG := Lib.hid tD.range'
        have kS : Keep [w.heap.size] w4 (World.setCells w4 w.heap.size 0 reqZ) := Keep.setCells' (S := [w.heap.size]) _ (by simp) _ _ _ (Keep.refl _ _)
        have RNG2 := Lib.hid (kS.blk tD (by simp)).range'
        have HF := Lib.hid (rd12_none HH.out kD bD)
        clear kD kd bD tD kS
        go_wp2_with (first
          | (with_reducible (show wpList _ _ _ ((⟨_, .load _ (.tmp 5), _, _, _, none⟩ : Oper) :: _) _ _)
             refine wpList_load_mid rfl 30 (.tmp 5) rfl (w.heap.size + 1) 0 (by rfl) reqZ _ RNG.out Tryz.underlying30 rfl req_size ?_
             try simp only [Act.put, List.setIfInBounds_toArray, List.set_cons_succ, List.set_cons_zero])
          | (with_reducible (show wpList _ _ _ ((⟨none, .store _ (.tmp 2) (.tmp 92), _, _, _, none⟩ : Oper) :: _) _ _)
             refine wpList_store_mid rfl 30 (.tmp 2) (.tmp 92) rfl w.heap.size 0 reqZ.toArray (by rfl) (by first | rfl | kernel_rfl) HTT.out ZST.out.1 ZST.out.2 ?_
             try simp only [Act.put])
          | fail)
        refine bodyPost_ret (v := .tuple #[.agg reqZ.toArray, .int .i64 0, .int .i64 0]) (by have hl := HLd.out; simp [results, Tryz.results9, asAddr, Result.andThen, hl]) rfl HF.out
      · rw [if_neg e6] at hH
        have q7 : decide ((l.length : Int) - (rn : Int) < (sk : Int)) = false := by simp; omega
        have hle : rn + sk ≤ l.length := by omega
        have wk := IntWalk.i64_in ((rn : Int) + (sk : Int)) (by omega)
        have wl := IntWalk.i64_in ((l.length : Int) - (rn : Int)) (by omega)
        have HH := Lib.hid hH
        clear hH e6 hsk
        have HCl2 := Lib.hid (HCl.out _ _ lv (O4.out.sl Fld.cells_length))
        generalize closesM rF lv = cl at *
        go_wp2_with fail
        refine (HCl2.out).mono ?_
        rintro e w9 ⟨rfl, k9⟩
        have K9 := Lib.hid (K4.out.trans k9)
        have R9 := Lib.hid (k9.blk R4.out (by simp))
        have T9 := Lib.hid (k9.blk T4.out (by simp))
        have O9 := Lib.hid (O4.out.keep0 k9)
        clear k9
        have HTT := Lib.hid (R9.out.there' 0 4 (by simp [reqZ, reqC]))
        have HLd := Lib.hid (req_back (m := lm) (t := lt) (v := .slice sa rF.length sc) (cl := cl) HTT.out)
        have ST := Lib.hid (req_st lm lt (v := .slice sa rF.length sc) cl rfl)
        have HF := Lib.hid (rd12_fin (r := ⟨⟨lm, lt, rF, cl⟩, rn + sk, 200⟩) (v := .slice sa rF.length sc) HH.out K9.out R9.out O9.out HOg.out)
        go_wp2_with (first
          | (with_reducible (show wpList _ _ _ ((⟨none, .store _ (.tmp 2) (.tmp 99), _, _, _, none⟩ : Oper) :: _) _ _)
             refine wpList_store_mid rfl 30 (.tmp 2) (.tmp 99) rfl w.heap.size 0 (reqC lm lt (.slice sa rF.length sc) cl).toArray (by rfl) (by first | rfl | kernel_rfl) HTT.out ST.out.1 ST.out.2 ?_
             try simp only [Act.put])
          | fail)
        refine bodyPost_ret (v := .tuple #[.agg (reqC lm lt (.slice sa rF.length sc) cl).toArray, .int .i64 ((rn + sk : Nat) : Int), .int .i64 200]) (by have hl := HLd.out; simp [results, Tryz.results9, asAddr, Result.andThen, hl]) rfl HF.out
    | true =>
      rw [if_pos rfl] at hH
      have hRc := HRc.out
      by_cases h4 : ck.st = 4
      · rw [if_neg (by simp [h4])] at hH
        rw [if_pos h4, decide_eq_true h4] at hRc
        obtain ⟨sz, hsz⟩ : ∃ sz : Nat, (l.drop rn).length - ck.inp.length = sz := ⟨_, rfl⟩
        rw [hsz] at hH hRc
        have hszl : rn + sz ≤ l.length := by omega
        have hmx : max (sz : Int) 0 = (sz : Int) := by omega
        have q7 : decide ((l.length : Int) - (rn : Int) < (sz : Int)) = false := by simp; omega
        have wk := IntWalk.i64_in ((rn : Int) + (sz : Int)) (by omega)
        have wl := IntWalk.i64_in ((l.length : Int) - (rn : Int)) (by omega)
        have HH := Lib.hid hH
        clear hH h4 hsz hsk
        have HRc2 := Lib.hid hRc
        clear hRc
        go_wp2_with fail
        refine (HRc2.out _).mono ?_
        rintro e w5 ⟨rfl, k5⟩
        have K5 := Lib.hid (K4.out.trans k5)
        have R5 := Lib.hid (k5.blk R4.out (by simp))
        have T5 := Lib.hid (k5.blk T4.out (by simp))
        have O5 := Lib.hid (O4.out.keep0 k5)
        clear k5
        have kA := (Keep.refl [] w5).alloc (.cells (bodC ck.dat true sz ck.err).toArray 62)
        have bA := Blk.newA w5 (bodC ck.dat true sz ck.err).toArray 62
        generalize hwA : w5.alloc (.cells #[.string (S ck.dat), .bool true, .int .i64 (sz : Nat), .int .i64 ck.err] 62) = w6
        have hwA' : w5.alloc (.cells (bodC ck.dat true sz ck.err).toArray 62) = w6 := hwA
        rw [hwA'] at kA bA
        have K6 := Lib.hid (K5.out.trans kA)
        have R6 := Lib.hid (kA.blk R5.out (by simp))
        have T6 := Lib.hid (kA.blk T5.out (by simp))
        have O6 := Lib.hid (O5.out.keep0 kA)
        have bA : Blk w6 w5.heap.size 62 (bodC ck.dat true sz ck.err) := bA
        have B6 := Lib.hid bA
        have hne6 : w5.heap.size ≠ w.heap.size := by have := R5.out.lt; omega
        have b1 := bA.get (k := 1) rfl
        have b2 := bA.get (k := 2) rfl
        have b3 := bA.get (k := 3) rfl
        clear kA bA hwA'
        have HCl2 := Lib.hid (HCl.out _ _ lv (O6.out.sl Fld.cells_length))
        generalize closesM rF lv = cl at *
        go_wp2_with fail
        refine (HCl2.out).mono ?_
        rintro e w9 ⟨rfl, k9⟩
        have K9 := Lib.hid (K6.out.trans k9)
        have R9 := Lib.hid (k9.blk R6.out (by simp))
        have T9 := Lib.hid (k9.blk T6.out (by simp))
        have O9 := Lib.hid (O6.out.keep0 k9)
        clear k9
        have HTT := Lib.hid (R9.out.there' 0 4 (by simp [reqZ, reqC]))
        have HLd := Lib.hid (req_back (m := lm) (t := lt) (v := .slice sa rF.length sc) (cl := cl) HTT.out)
        have ST := Lib.hid (req_st lm lt (v := .slice sa rF.length sc) cl rfl)
        have HF := Lib.hid (rd12_fin (r := ⟨⟨lm, lt, rF, cl⟩, rn + sz, 200⟩) (v := .slice sa rF.length sc) HH.out K9.out R9.out O9.out HOg.out)
        go_wp2_with (first
          | (with_reducible (show wpList _ _ _ ((⟨none, .store _ (.tmp 2) (.tmp 99), _, _, _, none⟩ : Oper) :: _) _ _)
             refine wpList_store_mid rfl 30 (.tmp 2) (.tmp 99) rfl w.heap.size 0 (reqC lm lt (.slice sa rF.length sc) cl).toArray (by rfl) (by first | rfl | kernel_rfl) HTT.out ST.out.1 ST.out.2 ?_
             try simp only [Act.put])
          | fail)
        refine bodyPost_ret (v := .tuple #[.agg (reqC lm lt (.slice sa rF.length sc) cl).toArray, .int .i64 ((rn + sz : Nat) : Int), .int .i64 200]) (by have hl := HLd.out; simp [results, Tryz.results9, asAddr, Result.andThen, hl]) rfl HF.out
      · rw [if_pos h4] at hH
        generalize (if ck.st = 4 then (l.drop rn).length - ck.inp.length else 0 : Nat) = sz at hRc
        rw [decide_eq_false h4] at hRc
        have HH := Lib.hid hH
        have HTe := Lib.hid (HT.out ck.err 413)
        clear hH h4 hsk
        have HRc2 := Lib.hid hRc
        clear hRc
        go_wp2_with fail
        refine (HRc2.out _).mono ?_
        rintro e w5 ⟨rfl, k5⟩
        have K5 := Lib.hid (K4.out.trans k5)
        have R5 := Lib.hid (k5.blk R4.out (by simp))
        have T5 := Lib.hid (k5.blk T4.out (by simp))
        have O5 := Lib.hid (O4.out.keep0 k5)
        clear k5
        have kA := (Keep.refl [] w5).alloc (.cells (bodC ck.dat false sz ck.err).toArray 62)
        have bA := Blk.newA w5 (bodC ck.dat false sz ck.err).toArray 62
        generalize hwA : w5.alloc (.cells #[.string (S ck.dat), .bool false, .int .i64 (sz : Nat), .int .i64 ck.err] 62) = w6
        have hwA' : w5.alloc (.cells (bodC ck.dat false sz ck.err).toArray 62) = w6 := hwA
        rw [hwA'] at kA bA
        have K6 := Lib.hid (K5.out.trans kA)
        have R6 := Lib.hid (kA.blk R5.out (by simp))
        have T6 := Lib.hid (kA.blk T5.out (by simp))
        have O6 := Lib.hid (O5.out.keep0 kA)
        have bA : Blk w6 w5.heap.size 62 (bodC ck.dat false sz ck.err) := bA
        have B6 := Lib.hid bA
        have hne6 : w5.heap.size ≠ w.heap.size := by have := R5.out.lt; omega
        have b1 := bA.get (k := 1) rfl
        have b2 := bA.get (k := 2) rfl
        have b3 := bA.get (k := 3) rfl
        clear kA bA hwA'
        go_wp2_with fail
        try clear hwA
        have kD : Keep [] w w6.drew := K6.out.drew
        have kd : Keep [] w6 w6.drew := (Keep.refl [] w6).drew
        have bD := kd.blk R6.out (by simp)
        have tD := kd.blk T6.out (by simp)
        have HTT := Lib.hid (bD.there' 0 4 (by simp [reqZ, reqC]))
        have HLd := Lib.hid (reqZ_back HTT.out)
        have RNG := Lib.hid tD.range'
        have kS : Keep [w.heap.size] w6.drew (World.setCells w6.drew w.heap.size 0 reqZ) := Keep.setCells' (S := [w.heap.size]) _ (by simp) _ _ _ (Keep.refl _ _)
        have RNG2 := Lib.hid (kS.blk tD (by simp)).range'
        have hbD := kd.blk B6.out (by simp)
        have RS := Lib.hid (And.intro RNG.out (hbD.get (k := 3) rfl))
        have RS2 := Lib.hid (And.intro RNG2.out ((kS.blk hbD (by simpa using hne6)).get (k := 3) rfl))
        have HF := Lib.hid (rd12_none HH.out kD bD)
        clear kD kd bD tD kS hbD
        refine wp_region_noPanic ?_
        refine wp_region_held_drew (S := fun w' => w'.rangeAt (w.heap.size + 1) 0 reqZ ∧ w'.cell? ⟨w5.heap.size, 3, none⟩ = some (.int .i64 ck.err)) (by kernel_rfl) RS.out (fun hHeld => ?_)
        refine wpAnyH_take (i := 0) (oi := ⟨some 78, .load _ (.tmp 5), _, _, _, none⟩) (v := _) rfl (by kernel_rfl) (by kernel_rfl) (by kernel_rfl) (fun _ _ _ h => h) (yieldsIf_load_mid (by rfl) 30 (.tmp 5) rfl (w.heap.size + 1) 0 rfl reqZ _ (fun _ h => h.1) Tryz.underlying30 rfl req_size) (by assumption) ?_
        try simp only [Act.put, List.setIfInBounds_toArray, List.set_cons_zero, List.set_cons_succ]
        refine wpAnyH_take (i := 1) (oi := ⟨some 79, .fieldAddr _ (.tmp 18) 3, _, _, _, none⟩) (v := ?_) rfl (by kernel_rfl) (by kernel_rfl) (by kernel_rfl) (fun _ _ _ h => h) (Or.inl ⟨by rfl, ?_⟩) (by assumption) ?_
        rotate_left
        · (intro w' hSw; obtain ⟨_, hSa⟩ := hSw; go_simp) <;> (with_reducible rfl)
        try simp only [Act.put, List.setIfInBounds_toArray, List.set_cons_zero, List.set_cons_succ]
        refine wpAnyH_take (i := 2) (oi := ⟨some 80, .load _ (.tmp 79), _, _, _, none⟩) (v := ?_) rfl (by kernel_rfl) (by kernel_rfl) (by kernel_rfl) (fun _ _ _ h => h) (Or.inl ⟨by rfl, ?_⟩) (by assumption) ?_
        rotate_left
        · (intro w' hSw; obtain ⟨_, hSa⟩ := hSw; go_simp) <;> (with_reducible rfl)
        try simp only [Act.put, List.setIfInBounds_toArray, List.set_cons_zero, List.set_cons_succ]
        refine wpAnyH_ready (rs := [3]) (by kernel_rfl) (by simp) ?_
        refine AllReadyH.cons rfl (fun K hK => ?_) ?_
        rotate_left
        · exact AllReadyH.nil
        go_simp
        refine (HTe.out _).mono ?_
        rintro e wq ⟨rfl, rfl⟩
        try go_wp2_with fail
        refine hK.out _ _ (by assumption) (fun hHeld2 => ?_)
        clear hK K
        try simp only [Act.put, List.setIfInBounds_toArray, List.set_cons_zero, List.set_cons_succ]
        refine wpAnyH_ready (rs := [4]) (by kernel_rfl) (by simp) ?_
        refine AllReadyH.cons (o := ⟨none, .store _ (.tmp 2) (.tmp 78), _, _, _, none⟩) rfl (fun K hK => ?_) AllReadyH.nil
        rw [if_pos (by rfl)]
        refine wp_store_mid 30 (.tmp 2) (.tmp 78) rfl w.heap.size 0 reqZ.toArray (by rfl) (by first | rfl | kernel_rfl) HTT.out ZST.out.1 ZST.out.2 ?_
        refine hK.out _ _ RS2.out (fun hHeld3 => ?_)
        clear hK K
        try simp only [Act.put]
        refine wpAnyH_take (i := 5) (oi := ⟨some 3, .assign _, _, _, _, none⟩) (v := ?_) rfl (by kernel_rfl) (by kernel_rfl) (by kernel_rfl) (fun _ _ _ h => h) (Or.inl ⟨by rfl, ?_⟩) (by assumption) ?_
        rotate_left
        · (intro w' hSw; obtain ⟨_, hSa⟩ := hSw; go_simp) <;> (with_reducible rfl)
        try simp only [Act.put, List.setIfInBounds_toArray, List.set_cons_zero, List.set_cons_succ]
        refine wpAnyH_take (i := 6) (oi := ⟨some 4, .assign _, _, _, _, none⟩) (v := ?_) rfl (by kernel_rfl) (by kernel_rfl) (by kernel_rfl) (fun _ _ _ h => h) (Or.inl ⟨by rfl, ?_⟩) (by assumption) ?_
        rotate_left
        · (intro w' hSw; obtain ⟨_, hSa⟩ := hSw; go_simp) <;> (with_reducible rfl)
        try simp only [Act.put, List.setIfInBounds_toArray, List.set_cons_zero, List.set_cons_succ]
        refine wpAnyH_done (by kernel_rfl) ?_ _
        refine NoPanic.normal ?_
        go_wp2_with fail
        refine bodyPost_ret (v := .tuple #[.agg reqZ.toArray, .int .i64 0, .int .i64 (toldE ck.err 413)]) (by have hl := HLd.out; simp [results, Tryz.results9, asAddr, Result.andThen, hl]) rfl HF.out
end Go.Proofs.YtpimfoohpfkciaaGreatDoor

/- Layer 12: all the requests that an inlet has, gathered. No conditions but on lengths. -/
namespace Go.Proofs.YtpimfoohpfkciaaGreatDoor
open Go.RowKit Go.Shelf

/-- 'out = append(out, x)' and 'out = append(out, more...)', out the call's own; whatever the call has done elsewhere -/
theorem wpList_append_any {P : Program} {ops : Array Oper} {rest : List Oper} {o : Oper} {a : Act} {w : World} {Q : Exit → Act → World → Prop} (hgd : o.guard = none) (s x : Operand) (t : TypeId)
    (ho : o.op = .call { callee := .builtin .append, args := #[s, x], argTypes := #[t, t] })
    {α : Type} {enc : α → List Value} {n base : Nat} {E : TypeId} {L : List α} {v : Value}
    (i : TypeInfo) (z : Value) (bytes : Nat) (ht : P.underlying t = some (.slice E)) (HI : Hid (P.info? E = some i ∧ i.zero = some z ∧ i.size = n ∧ i.bytes = bytes)) (hzs : z.cells.size = n) (hn0 : 0 < n)
    (hn : ∀ x, (enc x).length = n) (h1 : ∀ x, ∀ u ∈ enc x, u.oneCell' = true)
    (hb0 : base ≤ w.heap.size) (hs : a.eval s = v) (hown : Own enc n base E w v L) (M : List α) (ad : Addr) (c : Nat) (hx : a.eval x = .slice (some ad) M.length c)
    (hM : ∀ j u, (rows enc M)[j]? = some u → w.cell? (ad.add j) = some u)
    (h63 : L.length + M.length ≤ maxLen) (hbytes : (L.length + M.length) * bytes ≤ 140737488355328)
    (h : ∀ v' w', Own enc n base E w' v' (L ++ M) → w.grownBy w' v.ownBlock → (v' = .slice none 0 0 ↔ v = .slice none 0 0 ∧ M.length = 0) → (v'.ownBlock = v.ownBlock ∨ v'.ownBlock = some w.heap.size) → wpList P ops Q rest (a.put o.dst v') w') : wpList P ops Q (o :: rest) a w := by
  refine wpList_append_own_at _ hgd s x t ho base E i z n bytes ht HI.out.1 HI.out.2.1 HI.out.2.2.1 HI.out.2.2.2 hzs hn0 v L.length (rows enc L) hs hown ad M.length c (rows enc M) hx (by rw [rows_length hn, Nat.mul_comm]) hM (fun u hu => ?_) h63 hbytes hb0 ?_
  · unfold rows at hu
    obtain ⟨y, _, hy⟩ := List.mem_flatMap.1 hu
    exact h1 y u hy
  · intro v' w' hown' hg hnil hat
    refine h v' w' ?_ hg hnil hat
    unfold Own
    have : rows enc (L ++ M) = rows enc L ++ rows enc M := by simp [rows]
    rw [this, List.length_append]
    exact hown'
/-- a request as a row of cells -/
structure RqE where
  m : List UInt8
  t : List UInt8
  a : Option Addr
  l : Nat
  c : Nat
  cl : Bool
  deriving Inhabited
def RqE.v (x : RqE) : Value := .slice x.a x.l x.c
def RqE.cells (x : RqE) : List Value := reqC x.m x.t (.slice x.a x.l x.c) x.cl
theorem RqE.len (x : RqE) : x.cells.length = 4 := rfl
theorem RqE.one (x : RqE) : ∀ u ∈ x.cells, u.oneCell' = true := reqC_one _ _ _ rfl
theorem reqinfo : (Tryz.prog.info? 30).map (fun i => (i.zero, i.size, i.bytes)) = some (some (.agg reqZ.toArray), 4, 64) := by kernel_rfl
theorem reqinfo' : ∃ i0, Hid (Tryz.prog.info? 30 = some i0 ∧ i0.zero = some (.agg reqZ.toArray) ∧ i0.size = 4 ∧ i0.bytes = 64) := by
  obtain ⟨i0, hi, hz0, hz1, hz2⟩ := info_parts reqinfo
  exact ⟨i0, hi, hz0, hz1, hz2⟩
theorem wpList_buildReq {ops : Array Oper} {rest : List Oper} {o : Oper} {a : Act} {w : World} {Q : Exit → Act → World → Prop} (hg : o.guard = none) (t : TypeId) (x : Operand) (ho : o.op = .buildSlice t 1 #[(0, x)])
    {is : TypeInfo} (Hs : Hid (Tryz.prog.info? 30 = some is ∧ is.zero = some (.agg reqZ.toArray) ∧ is.size = 4 ∧ is.bytes = 64)) (hu : Tryz.prog.underlying t = some (.slice 30)) (j : RqE) (hx : a.eval x = .agg j.cells.toArray)
    (h : wpList Tryz.prog ops Q rest (a.put o.dst (.slice (some ⟨w.heap.size, 0, none⟩) 1 1)) (w.alloc (.cells j.cells.toArray 30))) : wpList Tryz.prog ops Q (o :: rest) a w := by
  refine wpList_buildSlice hg t 30 1 #[(0, x)] ho j.cells.toArray is _ hu Hs.out.1 Hs.out.2.1 (by rw [Hs.out.2.2.1]; omega) (by rw [Hs.out.2.2.1]; omega) ?_ h
  rw [Hs.out.2.2.1]
  have := Great.fill_whole (s := 4) (by omega) [.agg j.cells.toArray] ((Array.range (1 * 4)).map fun k => (Value.agg reqZ.toArray).cells[k % (Value.agg reqZ.toArray).cells.size]!) (by
    intro v hv
    simp at hv
    subst hv
    show j.cells.toArray.size = 4
    simp [RqE.len]) (by simp)
  simp only [List.zipIdx_cons, List.zipIdx_nil, List.map_cons, List.map_nil, List.flatMap_cons, List.flatMap_nil, List.append_nil] at this
  have e : (#[(0, x)].map fun (i, x) => (i, a.eval x)).toList = [((0 : Nat), Value.agg j.cells.toArray)] := by simp [hx]
  rw [e]
  exact this
/-- one row says one request -/
def El1 (B : Nat) (w : World) (x : RqE) (q : Req) : Prop := x.m = q.m ∧ x.t = q.t ∧ x.cl = q.cl ∧ Own Fld.cells 2 B 40 w x.v q.F
/-- a list of requests in memory: its own row, and what is only read (Z) -/
structure Rs (B : Nat) (w : World) (vo : Value) (Z : List Nat) (EL : List RqE) (L : List Req) : Prop where
  own : Own RqE.cells 4 B 30 w vo EL
  len : EL.length = L.length
  el : ∀ (i : Nat) x q, EL[i]? = some x → L[i]? = some q → El1 B w x q
  rd : ∀ x ∈ EL, ∀ g, x.v.ownBlock = some g → g ∈ Z
  sep : ∀ g, vo.ownBlock = some g → g ∉ Z
  lo : ∀ z ∈ Z, z < w.heap.size
  nn : vo ≠ .slice none 0 0
theorem Rs.keep {B : Nat} {w w' : World} {vo : Value} {Z S : List Nat} {EL : List RqE} {L : List Req} (h : Rs B w vo Z EL L) (k : Keep S w w') (hv : ∀ g, vo.ownBlock = some g → g ∉ S) (hZ : ∀ z ∈ Z, z ∉ S) : Rs B w' vo Z EL L :=
  ⟨h.own.keep k hv, h.len, fun i x q hx hq => let ⟨a, b, c, d⟩ := h.el i x q hx hq; ⟨a, b, c, d.keep k (fun g hg => hZ g (h.rd x (List.mem_of_getElem? hx) g hg))⟩, h.rd, h.sep, fun z hz => Nat.lt_of_lt_of_le (h.lo z hz) k.size, h.nn⟩
theorem Rs.keep0 {B : Nat} {w w' : World} {vo : Value} {Z : List Nat} {EL : List RqE} {L : List Req} (h : Rs B w vo Z EL L) (k : Keep [] w w') : Rs B w' vo Z EL L := h.keep k (by simp) (by simp)
theorem Keep.ofGrown {w w' : World} {row : Option Nat} (h : w.grownBy w' row) : Keep row.toList w w' := (Keep.refl _ w).grown h (fun k hk _ => by rw [hk]; simp)
/-- the path of whole requests so far -/
def Steps (I : InS) (L : List Req) (J : InS) : Prop := ∀ L2 n p', Alls J L2 n p' → Alls I (L ++ L2) n p'
theorem Steps.more {I J : InS} {L : List Req} (h : Steps I L J) (hs : (nextI J).s = 200) : Steps I (L ++ [(nextI J).q]) (nextI J).p := fun L2 n p' k => by
  have := h _ _ _ (Alls.more hs k)
  simpa using this
/-- where a gathering stands: V: the list's own row -/
structure AllS (B : Nat) (w : World) (p : Nat) (X R : List Nat) (I : InS) (wt : World) (vo : Value) (Z : List Nat) (EL : List RqE) (L : List Req) (J : InS) (X1 R1 : List Nat) : Prop where
  it : It B wt p X1 R1 J
  kp : Keep X w wt
  nx : ∀ x ∈ X1, x ∈ X ∨ w.heap.size ≤ x
  nr : ∀ x ∈ R1, x ∈ R ∨ w.heap.size ≤ x
  rs : Rs B wt vo Z EL L
  nz : ∀ z ∈ Z, z ∉ X1 ∧ (z ∈ R ∨ w.heap.size ≤ z)
  nv : ∀ g, vo.ownBlock = some g → w.heap.size ≤ g ∧ g < wt.heap.size ∧ g ∉ X1 ∧ g ∉ R1
  st : Steps I L J
  ok : J.ok
  s0 : J.st = 0
  lf : J.left + 2 * L.length ≤ I.left
/-- what 'all' comes to -/
def AllOut (B : Nat) (w : World) (p : Nat) (X R : List Nat) (I : InS) (e : Ending) (w' : World) : Prop :=
  ∃ vo Z EL L n J' X' R', e = .returned (.tuple #[vo, .int .i64 n]) ∧ Alls I L n J' ∧ It B w' p X' R' J' ∧ Keep X w w' ∧ (∀ x ∈ X', x ∈ X ∨ w.heap.size ≤ x) ∧ (∀ x ∈ R', x ∈ R ∨ w.heap.size ≤ x) ∧ Rs B w' vo Z EL L ∧ (∀ z ∈ Z, z ∉ X' ∧ (z ∈ R ∨ w.heap.size ≤ z)) ∧ (∀ g, vo.ownBlock = some g → w.heap.size ≤ g ∧ g ∉ X' ∧ g ∉ R') ∧ J'.left + 2 * L.length ≤ I.left ∧ J'.ok
theorem AllS.next {B p : Nat} {w wt w1 : World} {X R X1 R1 : List Nat} {I J : InS} {vo : Value} {Z : List Nat} {EL : List RqE} {L : List Req} (h : AllS B w p X R I wt vo Z EL L J X1 R1) {X2 R2 : List Nat} (k : Keep X1 wt w1) (hi : It B w1 p X2 R2 (nextI J).p)
    (n2 : ∀ x ∈ X2, x ∈ X1 ∨ wt.heap.size ≤ x) (r2 : ∀ x ∈ R2, x ∈ R1 ∨ wt.heap.size ≤ x) : It B w1 p X2 R2 (nextI J).p ∧ Keep X w w1 ∧ (∀ x ∈ X2, x ∈ X ∨ w.heap.size ≤ x) ∧ (∀ x ∈ R2, x ∈ R ∨ w.heap.size ≤ x) ∧ Rs B w1 vo Z EL L ∧ (∀ z ∈ Z, z ∉ X2 ∧ (z ∈ R ∨ w.heap.size ≤ z)) ∧ (∀ g, vo.ownBlock = some g → w.heap.size ≤ g ∧ g < w1.heap.size ∧ g ∉ X2 ∧ g ∉ R2) := by
  have hsz := h.kp.size
  have hk := k.size
  refine ⟨hi, h.kp.trans' k (fun x hx hlt => (h.nx x hx).elim id (fun hh => by omega)), fun x hx => ?_, fun x hx => ?_, h.rs.keep k (fun g hg => (h.nv g hg).2.2.1) (fun z hz => (h.nz z hz).1), fun z hz => ⟨fun hh => ?_, (h.nz z hz).2⟩, fun g hg => ⟨(h.nv g hg).1, by have := (h.nv g hg).2.1; omega, fun hh => ?_, fun hh => ?_⟩⟩
  · rcases n2 x hx with h1 | h1
    · exact h.nx x h1
    · exact .inr (by omega)
  · rcases r2 x hx with h1 | h1
    · exact h.nr x h1
    · exact .inr (by omega)
  · rcases n2 z hh with h1 | h1
    · exact (h.nz z hz).1 h1
    · have := h.rs.lo z hz; omega
  · rcases n2 g hh with h1 | h1
    · exact (h.nv g hg).2.2.1 h1
    · have := (h.nv g hg).2.1; omega
  · rcases r2 g hh with h1 | h1
    · exact (h.nv g hg).2.2.2 h1
    · have := (h.nv g hg).2.1; omega
theorem AllS.stop {B p : Nat} {w wt w1 : World} {X R X1 R1 : List Nat} {I J : InS} {vo : Value} {Z : List Nat} {EL : List RqE} {L : List Req} (h : AllS B w p X R I wt vo Z EL L J X1 R1) {X2 R2 : List Nat} (k : Keep X1 wt w1) (hi : It B w1 p X2 R2 (nextI J).p)
    (n2 : ∀ x ∈ X2, x ∈ X1 ∨ wt.heap.size ≤ x) (r2 : ∀ x ∈ R2, x ∈ R1 ∨ wt.heap.size ≤ x) (hs : (nextI J).s ≠ 200) {w2 : World} (k2 : Keep [] w1 w2) : AllOut B w p X R I (.returned (.tuple #[vo, .int .i64 (nextI J).s])) w2 := by
  obtain ⟨h1, h2, h3, h4, h5, h6, h7⟩ := h.next k hi n2 r2
  have ha := h.st _ _ _ (Alls.stop hs)
  rw [List.append_nil] at ha
  exact ⟨vo, Z, EL, L, _, _, X2, R2, rfl, ha, h1.keep0 k2, h2.trans (k2.mono (by simp)), h3, h4, h5.keep0 k2, h6, fun g hg => ⟨(h7 g hg).1, (h7 g hg).2.2⟩, by have := h.lf; have := next_le h.ok; omega, next_ok h.ok⟩
/-- one request more -/
theorem AllS.more {B p : Nat} {w wt w1 w2 w3 : World} {X R X1 R1 : List Nat} {I J : InS} {vo vo' : Value} {Z : List Nat} {EL : List RqE} {L : List Req} (h : AllS B w p X R I wt vo Z EL L J X1 R1) {X2 R2 : List Nat} (k : Keep X1 wt w1) (hi : It B w1 p X2 R2 (nextI J).p)
    (n2 : ∀ x ∈ X2, x ∈ X1 ∨ wt.heap.size ≤ x) (r2 : ∀ x ∈ R2, x ∈ R1 ∨ wt.heap.size ≤ x) (hs : (nextI J).s = 200) (x : RqE) (hx : El1 B w1 x (nextI J).q) (hg : ∀ g, x.v.ownBlock = some g → (g ∈ R1 ∨ wt.heap.size ≤ g) ∧ g ∉ X2)
    (k2 : Keep [] w1 w2) (ho : Own RqE.cells 4 B 30 w3 vo' (EL ++ [x])) (hgr : w2.grownBy w3 vo.ownBlock) (hnn : vo' ≠ .slice none 0 0) (hat : vo'.ownBlock = vo.ownBlock ∨ vo'.ownBlock = some w2.heap.size) :
    AllS B w p X R I w3 vo' (x.v.ownBlock.toList ++ Z) (EL ++ [x]) (L ++ [(nextI J).q]) (nextI J).p X2 R2 := by
  obtain ⟨h1, h2, h3, h4, h5, h6, h7⟩ := h.next k hi n2 r2
  have k3 := Keep.ofGrown hgr
  have hz2 := k2.size
  have hz3 := k3.size
  have hzt := k.size
  have hzw := h.kp.size
  have hVX : ∀ y ∈ X2, y ∉ vo.ownBlock.toList := fun y hy hh => by
    have hv : vo.ownBlock = some y := by simpa using hh
    exact (h7 y hv).2.2.1 hy
  have hVR : ∀ y ∈ R2, y ∉ vo.ownBlock.toList := fun y hy hh => by
    have hv : vo.ownBlock = some y := by simpa using hh
    exact (h7 y hv).2.2.2 hy
  have hxv : ∀ g, x.v.ownBlock = some g → g ∉ vo.ownBlock.toList := fun g hg' hh => by
    have hv : vo.ownBlock = some g := by simpa using hh
    rcases (hg g hg').1 with h8 | h8
    · exact (h.nv g hv).2.2.2 h8
    · have := (h.nv g hv).2.1; omega
  have hxlt : ∀ g, x.v.ownBlock = some g → g < w1.heap.size := fun g hg' => (hx.2.2.2.lt g hg').2
  have h200 := next_200 h.ok h.s0 hs
  have hv' : ∀ g, vo'.ownBlock = some g → (vo.ownBlock = some g ∨ g = w2.heap.size) ∧ g < w3.heap.size := fun g hg' => by
    refine ⟨?_, (ho.lt g hg').2⟩
    rcases hat with e | e
    · exact .inl (e ▸ hg')
    · rw [e] at hg'; exact .inr (by simpa using hg'.symm)
  refine ⟨(h1.keep0 k2).keep k3 hVX hVR, (h2.trans (k2.mono (by simp))).trans' k3 (fun y hy hlt => ?_), h3, h4, ⟨ho, by simp [h5.len], ?_, ?_, ?_, ?_, hnn⟩, ?_, ?_, h.st.more hs, next_ok h.ok, h200.1, ?_⟩
  · have hv : vo.ownBlock = some y := by simpa using hy
    have := (h7 y hv).1; omega
  · intro i y q hy hq
    rcases Nat.lt_trichotomy i EL.length with hi' | hi' | hi'
    · rw [List.getElem?_append_left hi'] at hy
      rw [List.getElem?_append_left (by rw [← h5.len]; exact hi')] at hq
      have he := h5.el i y q hy hq
      refine ⟨he.1, he.2.1, he.2.2.1, (he.2.2.2.keep0 k2).keep k3 (fun g hg' hh => ?_)⟩
      have hv : vo.ownBlock = some g := by simpa using hh
      exact h5.sep g hv (h5.rd y (List.mem_of_getElem? hy) g hg')
    · rw [List.getElem?_append_right (by omega), hi', Nat.sub_self] at hy
      rw [List.getElem?_append_right (by rw [← h5.len]; omega), hi', h5.len, Nat.sub_self] at hq
      obtain rfl : x = y := by simpa using hy
      obtain rfl : (nextI J).q = q := by simpa using hq
      exact ⟨hx.1, hx.2.1, hx.2.2.1, (hx.2.2.2.keep0 k2).keep k3 hxv⟩
    · rw [List.getElem?_append_right (by omega), List.getElem?_eq_none (by simp; omega)] at hy
      cases hy
  · intro y hy g hg'
    rcases List.mem_append.1 hy with hy | hy
    · exact List.mem_append_right _ (h5.rd y hy g hg')
    · have : y = x := by simpa using hy
      subst this
      exact List.mem_append_left _ (by rw [hg']; simp)
  · intro g hg' hh
    rcases List.mem_append.1 hh with hh | hh
    · have hxg : x.v.ownBlock = some g := by simpa using hh
      rcases (hv' g hg').1 with h8 | h8
      · exact hxv g hxg (by rw [h8]; simp)
      · have := hxlt g hxg; omega
    · rcases (hv' g hg').1 with h8 | h8
      · exact h5.sep g h8 hh
      · have := h5.lo g hh; omega
  · intro z hz
    rcases List.mem_append.1 hz with hz | hz
    · have := hxlt z (by simpa using hz); omega
    · have := h5.lo z hz; omega
  · intro z hz
    rcases List.mem_append.1 hz with hz | hz
    · have hxg : x.v.ownBlock = some z := by simpa using hz
      refine ⟨(hg z hxg).2, ?_⟩
      rcases (hg z hxg).1 with h8 | h8
      · exact h.nr z h8
      · exact .inr (by omega)
    · exact h6 z hz
  · intro g hg'
    obtain ⟨h8, h9⟩ := hv' g hg'
    rcases h8 with h8 | h8
    · exact ⟨(h7 g h8).1, h9, (h7 g h8).2.2⟩
    · refine ⟨by omega, h9, fun hh => ?_, fun hh => ?_⟩
      · have := (h1.lo g hh).2; omega
      · have := (h1.ro g hh).2.1; omega
  · rw [List.length_append, List.length_singleton]
    have := h.lf
    omega
end Go.Proofs.YtpimfoohpfkciaaGreatDoor
