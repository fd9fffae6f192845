/- Parts of the proof, in order. No conditions but those that each theorem states. -/
import Derived.Test.YtdmffbefppjllaaGreatDoorZB5
import Derived.Deep.DeepHandedRow
/- Layer 14, plain laws: a round of bytes and of what is told. No program. No conditions but those that each theorem states. -/
namespace Go.Proofs.YtdmffbefppjllaaGreatDoor
open Go.RowKit

/-- what is told of the bytes l, at once -/
def Told (N : ReS) (l : List UInt8) (a : Option Ans) (d : List UInt8) (k : Int) : Prop := (reAll (N.add l)).ans = a ∧ (reAll (N.add l)).dat = d ∧ (reFinish (reAll (N.add l))).2 = k
theorem new_shut {N : ReS} (hN : ∃ hd most, N = reNew hd most ∧ in64 most) (l : List UInt8) : (reAll (N.add l)).shut = false := by
  obtain ⟨hd, most, rfl, hm⟩ := hN
  exact reAll_shut (n := 0 + 2 * l.length) (add_okR (reNew_ok hd hm) l)
theorem cut_round {N P : ReS} {l : List UInt8} {a : Option Ans} {f : List UInt8} (hN : ∃ hd most, N = reNew hd most ∧ in64 most) (hS : Seen N l P a f) (t : List UInt8) (hl : l.length + t.length ≤ 16384) :
    ∃ Pz w d kz a', reAdd P t = (P.add t, 0) ∧ comeR 9 (P.add t) ans0 [] = ⟨Pz, w, d, kz⟩ ∧ pickA (a.getD ans0) w = a'.getD ans0 ∧ (a = none → w = a'.getD ans0) ∧ Told N (l ++ t) a' (f ++ d) kz ∧ (kz = 0 → Seen N (l ++ t) Pz a' (f ++ d)) ∧ (kz ≠ 0 → ∀ rest, Told N (l ++ t ++ rest) a' (f ++ d) kz) := by
  obtain ⟨s1, s2, s3, s4, s5, s6⟩ := seen_step hN hS t
  have hPok := add_okR hS.ok t
  have hc := come_all hPok (show (P.add t).ans = none from hS.bare.1) (show (P.add t).dat = [] from hS.bare.2) 6 ans0 []
  have hst5 := s5.st
  obtain ⟨p1, p2, p3⟩ := told_parts s1
  have hB := fin_0 s4 hst5
  have hB' := fin_0 (P := (reAll (P.add t)).with' none []) s4 hst5
  have hfw := fin_with (reAll (P.add t)) none []
  have hk : (reFinish (reAll (N.add (l ++ t)))).2 = (reFinish (reAll (P.add t))).2 := by
    rw [fin_eq (Q := (reAll (P.add t)).with' (a.or (reAll (P.add t)).ans) (f ++ (reAll (P.add t)).dat)) p1 ((new_shut hN _).trans s4.symm), fin_with]
  have hT : Told N (l ++ t) (a.or (reAll (P.add t)).ans) (f ++ (reAll (P.add t)).dat) (reFinish (reAll (P.add t))).2 := ⟨p3, p2, hk⟩
  refine ⟨_, _, _, _, a.or (reAll (P.add t)).ans, ?_, hc, (pick_or s2 s3).symm, fun ha => by rw [ha]; rfl, by rw [List.nil_append]; exact hT, fun h0 => ?_, fun h0 rest => ?_⟩
  · have hw := hS.ok.wt
    have hlen : 2 * P.inp.length + P.dat.length ≤ 2 * l.length := by unfold ReS.wt at hw; omega
    have hst := hS.st
    unfold reAdd
    rw [if_neg (by rw [hS.bare.2] at hlen ⊢; simp at hlen ⊢; omega), if_neg (by simp [hS.sh]; omega)]
    rfl
  · rw [List.nil_append, hB'.2 (by rw [hfw]; exact h0)]
    exact s6 (hB.1.1 h0)
  · rw [List.nil_append]
    have h3 : ¬ (reAll (N.add (l ++ t))).st ≤ 3 := by
      rw [p1]
      exact fun hh => h0 (hB.1.2 hh)
    obtain ⟨e1, e2, e3⟩ := seen_end hN h3 rest
    exact ⟨e3.trans hT.1, e2.trans hT.2.1, (fin_eq e1 ((new_shut hN _).trans (new_shut hN _).symm)).trans hT.2.2⟩
theorem told_seen {N P : ReS} {l : List UInt8} {a : Option Ans} {d : List UInt8} (h : Seen N l P a d) : Told N l a d 0 := by
  have h0 := (fin_0 h.sh (by have := h.st; omega)).1.2 h.st
  refine ⟨by rw [h.all]; rfl, by rw [h.all]; rfl, by rw [h.all, fin_with]; exact h0⟩
end Go.Proofs.YtdmffbefppjllaaGreatDoor

/- Layer 14: the statement ReplyCuts. No conditions. -/
namespace Go.Proofs.YtdmffbefppjllaaGreatDoor
open Go.RowKit Go.Shelf

theorem wpList_load_mG {P : Program} {ops : Array Oper} {rest : List Oper} {op : Oper} {a : Act} {w : World} {Q : Exit → Act → World → Prop} (hw : Region.wanted op (yielded ops a.tmps) = true) (ty : TypeId) (x : Operand) (ho : op.op = .load ty x)
    (b o : Nat) (hx : a.eval x = .pointer (some ⟨b, o, Option.none⟩)) (cs : List Value) (d : TypeDesc) (hc : w.rangeAt b o cs) (hu : P.underlying ty = some d) (hd : d.isRow = true) (hi : (P.info? ty).map (·.size) = some cs.length)
    (h : wpList P ops Q rest (a.put op.dst (.agg cs.toArray)) w) : wpList P ops Q (op :: rest) a w :=
  wpList_step fun K hK => by rw [if_pos hw]; exact wp_load_mid ty x ho b o hx cs d hc hu hd hi (hK _ _ h)
/-- an answer in a block of its own, made since the heap was m blocks -/
structure La (w0 w : World) (m b : Nat) (a : Ans) (G : List Nat) : Prop where
  at' : ∃ sa sl sc, Blk w b 47 (ansC a.st (.slice sa sl sc) a.len a.ch a.cl) ∧ Own Fld.cells 2 w0.heap.size 26 w (.slice sa sl sc) a.F ∧ ∀ g, (Value.slice sa sl sc).ownBlock = some g → g ∈ G
  lo : m ≤ b ∧ b < w.heap.size
  gs : ∀ g ∈ G, m ≤ g ∧ g < w.heap.size
theorem La.keep {w0 w w' : World} {m b : Nat} {a : Ans} {G S : List Nat} (h : La w0 w m b a G) (k : Keep S w w') (hb : b ∉ S) (hG : ∀ g ∈ G, g ∉ S) : La w0 w' m b a G := by
  obtain ⟨⟨sa, sl, sc, h1, h2, h3⟩, h4, h5⟩ := h
  exact ⟨⟨sa, sl, sc, k.blk h1 hb, h2.keep k (fun g hg => hG g (h3 g hg)), h3⟩, ⟨h4.1, Nat.lt_of_lt_of_le h4.2 k.size⟩, fun g hg => ⟨(h5 g hg).1, Nat.lt_of_lt_of_le (h5 g hg).2 k.size⟩⟩
theorem La.keep0 {w0 w w' : World} {m b : Nat} {a : Ans} {G : List Nat} (h : La w0 w m b a G) (k : Keep [] w w') : La w0 w' m b a G := h.keep k (by simp) (by simp)
theorem La.by' {w0 w w' : World} {m b p n : Nat} {a : Ans} {G X L : List Nat} {P : ReS} (h : La w0 w m b a G) (r : Rp w0 w p X P n L) (k : Keep X w w') (hb : b ∈ L) (hG : ∀ g ∈ G, g ∈ L) : La w0 w' m b a G := h.keep k (r.ap b hb).1 (fun g hg => (r.ap g (hG g hg)).1)
theorem Rp.by' {w0 w w' : World} {p n q k' : Nat} {X L Y L' : List Nat} {P Q : ReS} (h : Rp w0 w q Y Q k' L') (r : Rp w0 w p X P n L) (k : Keep X w w') (hY : ∀ y ∈ Y, y ∈ L) : Rp w0 w' q Y Q k' L' :=
  h.keep k (fun x hx => (r.re.lo x hx).1) (fun y hy hh => (r.ap y (hY y hy)).1 hh)
theorem Rp.more {w0 w : World} {p n m b : Nat} {X L G : List Nat} {P : ReS} {a : Ans} (h : Rp w0 w p X P n L) (x : La w0 w m b a G) (hX : ∀ x ∈ X, x < m) : Rp w0 w p X P n (b :: (G ++ L)) :=
  ⟨h.re, h.ok, h.kp, fun l hl => by
    rcases List.mem_cons.1 hl with rfl | hl
    · exact ⟨fun hh => by have := hX _ hh; have := x.lo.1; omega, x.lo.2⟩
    · rcases List.mem_append.1 hl with hl | hl
      · exact ⟨fun hh => by have := hX _ hh; have := (x.gs l hl).1; omega, (x.gs l hl).2⟩
      · exact h.ap l hl⟩
theorem Rp.more2 {w0 w : World} {p n : Nat} {X L G : List Nat} {P : ReS} (h : Rp w0 w p X P n L) (hG : ∀ g ∈ G, g ∉ X ∧ g < w.heap.size) : Rp w0 w p X P n (G ++ L) :=
  ⟨h.re, h.ok, h.kp, fun l hl => by
    rcases List.mem_append.1 hl with hl | hl
    · exact hG l hl
    · exact h.ap l hl⟩
/-- the answer that a call gave is laid into a block just made -/
theorem La.new {w0 w : World} {m : Nat} {a : Ans} {sa : Option Addr} {sl sc : Nat} (ho : Own Fld.cells 2 w0.heap.size 26 w (.slice sa sl sc) a.F) (hm : m ≤ w.heap.size) (hg : ∀ g, (Value.slice sa sl sc).ownBlock = some g → m ≤ g) :
    La w0 (w.alloc (.cells (ansC a.st (.slice sa sl sc) a.len a.ch a.cl).toArray 47)) m w.heap.size a (Value.slice sa sl sc).ownBlock.toList := by
  have kA := (Keep.refl [] w).alloc (.cells (ansC a.st (.slice sa sl sc) a.len a.ch a.cl).toArray 47)
  refine ⟨⟨sa, sl, sc, Blk.newA w (ansC a.st (.slice sa sl sc) a.len a.ch a.cl).toArray 47, ho.keep0 kA, fun g hg => by rw [hg]; simp⟩, ⟨hm, by simp⟩, fun g hg' => ?_⟩
  have hg2 : (Value.slice sa sl sc).ownBlock = some g := by simpa using hg'
  exact ⟨hg g hg2, Nat.lt_of_lt_of_le (ho.lt g hg2).2 kA.size⟩
/-- another answer is stored over it -/
theorem La.over {w0 w : World} {m b t : Nat} {a c : Ans} {G H : List Nat} {sa : Option Addr} {sl sc : Nat} (h : La w0 w m b a G) (x : La w0 w m t c H) (ho : Own Fld.cells 2 w0.heap.size 26 w (.slice sa sl sc) c.F) (hx : ∀ g, (Value.slice sa sl sc).ownBlock = some g → g ∈ H) (hb : b ∉ H) :
    La w0 (w.setCells b 0 (ansC c.st (.slice sa sl sc) c.len c.ch c.cl)) m b c H := by
  obtain ⟨⟨_, _, _, h1, _, _⟩, h4, _⟩ := h
  have kS : Keep [b] w (w.setCells b 0 (ansC c.st (.slice sa sl sc) c.len c.ch c.cl)) := Keep.setCells' (S := [b]) _ (by simp) _ _ _ (Keep.refl _ _)
  refine ⟨⟨sa, sl, sc, h1.over0 (by simp [ansC]), ho.keep kS (fun g hg => by simp only [List.mem_singleton]; rintro rfl; exact hb (hx _ hg)), hx⟩, ⟨h4.1, Nat.lt_of_lt_of_le h4.2 kS.size⟩, fun g hg => ⟨(x.gs g hg).1, Nat.lt_of_lt_of_le (x.gs g hg).2 kS.size⟩⟩
theorem rp_addX {w0 w : World} {p n : Nat} {X L : List Nat} {P P' : ReS} {r : Int} (s : List UInt8) (h : Rp w0 w p X P n L) (hn : n ≤ 60000) (hs : s.length ≤ 1048576) (he : reAdd P s = (P', r)) :
    Calls Tryz.prog 17 #[.pointer (some ⟨p, 0, Option.none⟩), .string (S s)] w fun e w' => e = .returned (.int .i64 r) ∧ Rp w0 w' p X P' (n + 2 * s.length) L ∧ Keep X w w' := by
  refine (rp_add s h hn hs).mono ?_
  rintro e w' ⟨rfl, h1, h2⟩
  rw [he] at h1 ⊢
  exact ⟨rfl, h1, h.re.keepX h2⟩
theorem reply_comeX {w0 w : World} {p n : Nat} {X L : List Nat} {P : ReS} (h : Rp w0 w p X P n L) (hm : ML w0) (hn : n ≤ 60000) {r : CmR} (hr : comeR 9 P ans0 [] = r) :
    Calls Tryz.prog 18 #[.pointer (some ⟨p, 0, Option.none⟩), .int .i64 9] w (CmOut w0 w p X n L r) := by
  subst hr
  exact reply_come 9 h hm hn (by omega)
theorem told_len {N : ReS} (hN : ∃ hd most, N = reNew hd most ∧ in64 most) {l : List UInt8} {a : Option Ans} {d : List UInt8} {k : Int} (h : Told N l a d k) : d.length ≤ 2 * l.length := by
  obtain ⟨hd, most, rfl, hm⟩ := hN
  have hw := (reAll_ok (add_okR (reNew_ok hd hm) l)).wt
  rw [← h.2.1]
  unfold ReS.wt at hw
  omega
theorem told_det {N : ReS} {l : List UInt8} {a b : Option Ans} {d f : List UInt8} {k i : Int} (h : Told N l a d k) (h' : Told N l b f i) : a = b ∧ d = f ∧ k = i := ⟨h.1.symm.trans h'.1, h.2.1.symm.trans h'.2.1, h.2.2.symm.trans h'.2.2⟩
theorem kx2 {w w' : World} {b : Nat} {T : TypeId} {xs : List Value} (h : Blk w b T xs) (k : Keep [] w w') : Blk w' b T xs := k.blk h (by simp)
/-- where the second reply has been heard -/
def CutB (w0 : World) (c m xb yb : Nat) (N : ReS) (A : Ans) (wx : World) : Prop :=
  ∃ Gx Gy, La w0 wx m xb A Gx ∧ La w0 wx m yb A Gy ∧ Rp w0 wx c [c] N 0 []
/-- where the bytes come one by one -/
def CutC (w0 : World) (s : List UInt8) (N : ReS) (m c xb yb zb : Nat) (aA : Option Ans) (dA : List UInt8) (kA : Int) (k : Nat) (f : List UInt8) (i : Int) (wr : World) : Prop :=
  ∃ X Gx Gy Gz P z, Rp w0 wr c X P (2 * k) (xb :: yb :: zb :: (Gx ++ Gy ++ Gz)) ∧ La w0 wr m xb (aA.getD ans0) Gx ∧ La w0 wr m yb (aA.getD ans0) Gy ∧ La w0 wr m zb z Gz ∧ (xb ≠ zb ∧ yb ≠ zb ∧ ∀ g, g ∈ Gx ∨ g ∈ Gy → g ≠ zb) ∧
    ((i = 0 ∧ ∃ a, Seen N (s.take k) P a f ∧ z = a.getD ans0) ∨ (i ≠ 0 ∧ z = aA.getD ans0 ∧ f = dA ∧ i = kA))
end Go.Proofs.YtdmffbefppjllaaGreatDoor

/- Layer 13: laid: a head that is written. No conditions but on lengths. -/
namespace Go.Proofs.YtdmffbefppjllaaGreatDoor
open Go.RowKit Go.Shelf

def fin (l : List UInt8) (e : Int) : Value := .tuple #[.string (S l), .int .i64 e]
theorem laid_many {st : List UInt8} {L : List Fld} (h : 32 < L.length) : laidE st L = 1 ∧ laidS st L = [] := by
  have h0 : laidOk L = false := by unfold laidOk; simp; omega
  have h1 : laidE st L = 1 := by unfold laidE; rw [h0]; rfl
  exact ⟨h1, by unfold laidS; rw [h1]; rfl⟩
theorem laid_bad {st : List UInt8} {L : List Fld} {x : Fld} (hx : x ∈ L) (hg : goodF x = false) : laidE st L = 1 ∧ laidS st L = [] := by
  have h0 : laidOk L = false := by
    unfold laidOk
    rw [show L.all goodF = false from by rw [List.all_eq_false]; exact ⟨x, hx, by simp [hg]⟩, Bool.and_false]
  have h1 : laidE st L = 1 := by unfold laidE; rw [h0]; rfl
  exact ⟨h1, by unfold laidS; rw [h1]; rfl⟩
theorem laid_good {st : List UInt8} {L : List Fld} (h : L.length ≤ 32) (hg : L.all goodF = true) : laidE st L = (if (headT st L).length ≤ 4096 then 0 else 4) ∧ laidS st L = (if (headT st L).length ≤ 4096 then headT st L else []) := by
  have h0 : laidOk L = true := by unfold laidOk; rw [hg]; simp [h]
  have h1 : laidE st L = (if (headT st L).length ≤ 4096 then 0 else 4) := by unfold laidE; rw [h0]; rfl
  refine ⟨h1, ?_⟩
  unfold laidS
  rw [h1]
  by_cases h2 : (headT st L).length ≤ 4096
  · rw [if_pos h2, if_pos h2, if_pos rfl]
  · rw [if_neg h2, if_neg h2, if_neg (by decide)]
theorem body_take {L : List Fld} {k : Nat} {x : Fld} (h : L[k]? = some x) : bodyT (L.take (k + 1)) = bodyT (L.take k) ++ (printF x ++ [13, 10]) := by
  have e : L.take (k + 1) = L.take k ++ [x] := by rw [List.take_add_one, h]; rfl
  rw [e]
  simp [bodyT]

set_option maxRecDepth 100000 in
set_option maxHeartbeats 2000000 in
theorem outlet_laid (st : List UInt8) (va : Value) (L : List Fld) (w : World) (ha : Sl Fld.cells 2 w va L) (hg : L.length ≤ 32 → ∀ x ∈ L, x.name.length + x.value.length ≤ 1048576) (hst : st.length ≤ 1048576) :
    Calls Tryz.prog 26 #[.string (S st), va] w fun e w' => e = .returned (fin (laidS st L) (laidE st L)) ∧ Keep [] w w' := by
  obtain ⟨aa, ca, rfl, hal⟩ := ha.shape
  have hal' : L.length ≤ 9223372036854775807 := hal
  by_cases h32 : 32 < L.length
  · have h := laid_many (st := st) h32
    have HX := Lib.hid h
    clear h ha hg
    go_enter Tryz.func26, Tryz.ntmps26
    go_wp2_with fail
    go_ret2
    exact ⟨by rw [HX.out.1, HX.out.2]; rfl, Keep.refl _ _⟩
  · have hst2 : S st ++ ⟨#[13, 10]⟩ = S (st ++ [13, 10]) := S_append st [13, 10]
    have hsz := S_size st
    have HG := Lib.hid (hg (by omega))
    have HA := Lib.hid ha
    have hB := Lib.hid (bld_new (Keep.refl [] w))
    clear ha hg hal
    go_enter Tryz.func26, Tryz.ntmps26
    go_wp2_with fail
    refine (bld_write hB.out (st ++ [13, 10]) (by simp; omega)).mono ?_
    rintro e w1 ⟨rfl, hb1⟩
    rw [List.nil_append] at hb1
    have HB := Lib.hid hb1
    clear hb1 hB hst2
    go_wp2_with fail
    generalize w.heap.size = b at HB
    go_loopg [17] L.length (fun g i wr => ∃ (k : Nat) (T : List UInt8), i = .int .i64 k ∧ k ≤ L.length ∧ g = L.length - k ∧ T.length ≤ 1048578 + k * 1048580 ∧ Hid (T = st ++ [13, 10] ++ bodyT (L.take k) ∧ (L.take k).all goodF = true) ∧ Hid (Bld w wr b T))
    case atStart => exact ⟨0, st ++ [13, 10], rfl, Nat.zero_le _, by omega, by simp; omega, Lib.hid ⟨by simp [bodyT], by simp⟩, HB⟩
    case round =>
      obtain ⟨k, T, rfl, hk, hgk, hT, HE, HB⟩ := hrel
      by_cases hlt : k < L.length
      · obtain ⟨x, hx⟩ : ∃ x, L[k]? = some x := ⟨_, List.getElem?_eq_getElem hlt⟩
        have hxl := HG.out x (List.mem_of_getElem? hx)
        have har := HA.out.keep Fld.cells_length (by omega) HA.out HB.out.kept (by simp) (Nat.le_refl _)
        obtain ⟨ba, oa, ca', hva, _, hca, hcell⟩ := har.cell hx
        cases hva
        have hc0 := hcell 0 (by omega)
        have hc1 := hcell 1 (by omega)
        simp only [Fld.cells, List.getElem?_cons_zero, List.getElem?_cons_succ, Nat.add_zero] at hc0 hc1
        have hca' : ca ≤ 9223372036854775807 := hca
        have hGd := fun w1 => field_Good x w1 (show x.name.length ≤ 9223372036854775807 by omega) (show x.value.length ≤ 9223372036854775807 by omega)
        have HX := Lib.hid hx
        have hkA := (Keep.refl [] wr).alloc (.cells #[.string (S x.name), .string (S x.value)] 26)
        have hbA : Blk (wr.alloc (.cells #[.string (S x.name), .string (S x.value)] 26)) wr.heap.size 26 x.cells := Blk.newA wr _ _
        have HKA := Lib.hid (And.intro hkA hbA)
        clear hcell hx har hca hkA hbA
        cases hgx : goodF x with
        | false =>
          rw [hgx] at hGd
          have HGd := Lib.hid hGd
          have HF := Lib.hid (laid_bad (st := st) (List.mem_of_getElem? HX.out) hgx)
          clear hGd hgx
          go_wp2_with fail
          refine (HGd.out _).mono ?_
          rintro e w2 ⟨rfl, hk2⟩
          have HK2 := Lib.hid ((HB.out.kept.trans HKA.out.1).trans hk2)
          clear hk2
          go_wp2_with fail
          go_ret2
          exact ⟨by rw [HF.out.1, HF.out.2]; rfl, HK2.out⟩
        | true =>
          rw [hgx] at hGd
          have HGd := Lib.hid hGd
          have HPr := Lib.hid (fun w1 => field_Print x w1 (by omega))
          have hcat : S (printF x) ++ ⟨#[13, 10]⟩ = S (printF x ++ [13, 10]) := S_append _ [13, 10]
          have sP := S_size (printF x)
          have lP : (printF x).length ≤ 1048578 := by simp [printF]; omega
          have HGX := Lib.hid hgx
          clear hGd hgx
          go_wp2_with fail
          refine (HGd.out _).mono ?_
          rintro e w2 ⟨rfl, hk2⟩
          have HB2 := Lib.hid ((HB.out.keep0 HKA.out.1).keep0 hk2)
          have hb2 := hk2.blk HKA.out.2 (by simp)
          have d0 := hb2.get (k := 0) rfl
          have d1 := hb2.get (k := 1) rfl
          clear hk2 hb2
          go_wp2_with fail
          refine (HPr.out _).mono ?_
          rintro e w3 ⟨rfl, hk3⟩
          have HB3 := Lib.hid (HB2.out.keep0 hk3)
          clear hk3 d0 d1
          go_wp2_with fail
          refine (bld_write HB3.out (printF x ++ [13, 10]) (by simp; omega)).mono ?_
          rintro e w4 ⟨rfl, hb4⟩
          have HB4 := Lib.hid hb4
          clear hb4 hcat
          go_wp2_with fail
          go_roundg (L.length - (k + 1))
          case measure => omega
          case rel =>
            refine ⟨k + 1, T ++ (printF x ++ [13, 10]), by go_num, by omega, rfl, by simp; omega, Lib.hid ⟨?_, ?_⟩, HB4⟩
            · rw [body_take HX.out, HE.out.1]; simp
            · rw [show L.take (k + 1) = L.take k ++ [x] from by rw [List.take_add_one, HX.out]; rfl, List.all_append, HE.out.2]; simp [HGX.out]
      · have hkl : k = L.length := by omega
        have hE := HE.out
        rw [hkl, List.take_length] at hE
        have hhd : T ++ [13, 10] = headT st L := by unfold headT; rw [hE.1]
        have hlay := laid_good (st := st) (show L.length ≤ 32 by omega) hE.2
        rw [← hhd] at hlay
        have HL := Lib.hid hlay
        have hT' : (T ++ [13, 10]).length ≤ 70000000 := by simp; omega
        clear hE hhd hlay HE
        go_wp2_with fail
        refine (bld_write HB.out [13, 10] (by simp; omega)).mono ?_
        rintro e w2 ⟨rfl, hb2⟩
        have HB2 := Lib.hid hb2
        clear hb2
        generalize T ++ [13, 10] = H at HL HB2 hT'
        go_wp2_with fail
        refine (bld_len HB2.out).mono ?_
        rintro e w3 ⟨rfl, rfl⟩
        by_cases h4 : H.length ≤ 4096
        · have h4' : decide (4096 < ((H.length : Nat) : Int)) = false := by simp; omega
          have hl := HL.out
          rw [if_pos h4, if_pos h4] at hl
          have HL := Lib.hid hl
          clear hl h4
          go_wp2_with fail
          refine (bld_string HB2.out).mono ?_
          rintro e w4 ⟨rfl, hk4⟩
          go_wp2_with fail
          go_ret2
          exact ⟨by rw [HL.out.1, HL.out.2]; rfl, hk4⟩
        · have h4' : decide (4096 < ((H.length : Nat) : Int)) = true := by simp; omega
          have hl := HL.out
          rw [if_neg h4, if_neg h4] at hl
          have HL := Lib.hid hl
          clear hl h4
          go_wp2_with fail
          go_ret2
          exact ⟨by rw [HL.out.1, HL.out.2]; rfl, HB2.out.kept⟩
end Go.Proofs.YtdmffbefppjllaaGreatDoor

/- Layer 13: Answer, Ask: the program's; the document's laid, Answer. No conditions but on lengths and the library's table. -/
namespace Go.Proofs.YtdmffbefppjllaaGreatDoor
open Go.RowKit Go.Shelf

theorem Sl.keep0 {α : Type} {enc : α → List Value} {n : Nat} {w w' : World} {v : Value} {L : List α} (h : Sl enc n w v L) (hn : ∀ x, (enc x).length = n) (h0 : 0 < n) (k : Keep [] w w') : Sl enc n w' v L := h.keep hn h0 h k (by simp) (Nat.le_refl _)
/-- 'HTTP/1.1 ' -/
def protSp : List UInt8 := [72, 84, 84, 80, 47, 49, 46, 49, 32]
theorem ans_no {s : Int} {L : List Fld} (h : statOk s = false) : ansE s L = 1 ∧ ansS s L = [] := by unfold ansE ansS; rw [h]; exact ⟨rfl, rfl⟩
theorem ans_yes {s : Int} {L : List Fld} (h : statOk s = true) : ansE s L = laidE (stOf s) L ∧ ansS s L = laidS (stOf s) L := by unfold ansE ansS; rw [h]; exact ⟨rfl, rfl⟩
theorem fin_ext {l : List UInt8} {e : Int} {x y : Value} (h1 : x = .string (S l)) (h2 : y = .int .i64 e) : Ending.returned (.tuple #[x, y]) = Ending.returned (fin l e) := by subst h1 h2; rfl

set_option maxRecDepth 100000 in
set_option maxHeartbeats 1000000 in
theorem outlet_Answer (s : Int) (va : Value) (L : List Fld) (w : World) (hs : in64 s) (hp : P10 w) (ha : Sl Fld.cells 2 w va L) (hg : L.length ≤ 32 → ∀ x ∈ L, x.name.length + x.value.length ≤ 1048576) :
    Calls Tryz.prog 14 #[.int .i64 s, va] w fun e w' => e = .returned (fin (ansS s L) (ansE s L)) ∧ Keep [] w w' := by
  by_cases h1 : s < 100
  · have HX := Lib.hid (ans_no (s := s) (L := L) (by unfold statOk; simp; omega))
    clear ha hg hp
    go_enter Tryz.func14, Tryz.ntmps14
    go_wp2_with fail
    go_ret2
    exact ⟨by rw [HX.out.1, HX.out.2]; rfl, Keep.refl _ _⟩
  · by_cases h2 : 599 < s
    · have HX := Lib.hid (ans_no (s := s) (L := L) (by unfold statOk; simp; omega))
      have h2' : decide (s > 599) = true := by simp; omega
      clear ha hg hp h2
      go_enter Tryz.func14, Tryz.ntmps14
      go_wp2_with fail
      go_ret2
      exact ⟨by rw [HX.out.1, HX.out.2]; rfl, Keep.refl _ _⟩
    · have HX := Lib.hid (ans_yes (s := s) (L := L) (by unfold statOk; simp; omega))
      have h2' : decide (s > 599) = false := by simp; omega
      have h1' : decide (s < 100) = false := by simp; omega
      have hst : stOf s = protSp ++ Lib.itoa s ++ [32] ++ reasonM s := rfl
      have hlen := stOf_len s hs
      have HD := Lib.hid (hexa_Dec s w hs hp)
      have HR := Lib.hid (fun w' => outlet_Reason s w')
      have li := itoa_len s hs
      have lr := reason_len s
      generalize stOf s = st at *
      generalize Lib.itoa s = ia at *
      generalize reasonM s = re at *
      have q1 : (⟨#[72, 84, 84, 80, 47, 49, 46, 49, 32]⟩ : ByteArray) ++ S ia = S (protSp ++ ia) := S_append protSp ia
      have q2 : S (protSp ++ ia) ++ (⟨#[32]⟩ : ByteArray) = S (protSp ++ ia ++ [32]) := S_append _ [32]
      have q3 : S (protSp ++ ia ++ [32]) ++ S re = S st := by rw [S_append, hst]
      have t1 : (protSp ++ ia).length = 9 + ia.length := by simp [protSp]; omega
      have t2 : (protSp ++ ia ++ [32]).length = 10 + ia.length := by simp [protSp]; omega
      generalize protSp ++ ia ++ [32] = x2 at *
      generalize protSp ++ ia = x1 at *
      have s1 := S_size ia
      have s2 := S_size re
      have s3 := S_size x1
      have s4 := S_size x2
      have HL := Lib.hid (fun w' (k : Keep [] w w') => outlet_laid st va L w' (ha.keep0 Fld.cells_length (by omega) k) hg (by omega))
      clear ha hg hp h1 h2 hst
      go_enter Tryz.func14, Tryz.ntmps14
      go_wp2_with fail
      refine HD.out.mono ?_
      rintro e w1 ⟨rfl, k1⟩
      go_wp2_with fail
      refine (HR.out _).mono ?_
      rintro e w2 ⟨rfl, rfl⟩
      go_wp2_with fail
      refine (HL.out _ k1).mono ?_
      rintro e w3 ⟨rfl, k3⟩
      unfold fin
      go_wp2_with fail
      go_ret2
      exact ⟨by rw [HX.out.1, HX.out.2]; rfl, k1.trans k3⟩

theorem ask_no {m t : List UInt8} {L : List Fld} (h : askOk m t = false) : askE m t L = 1 ∧ askS m t L = [] := by unfold askE askS; rw [h]; exact ⟨rfl, rfl⟩
theorem ask_yes {m t : List UInt8} {L : List Fld} (h : askOk m t = true) : askE m t L = laidE (askT m t) L ∧ askS m t L = laidS (askT m t) L := by unfold askE askS; rw [h]; exact ⟨rfl, rfl⟩

set_option maxRecDepth 100000 in
set_option maxHeartbeats 1000000 in
theorem outlet_Ask (m t : List UInt8) (va : Value) (L : List Fld) (w : World) (hm : ML w) (hl : m.length + t.length ≤ 1048000) (ha : Sl Fld.cells 2 w va L) (hg : L.length ≤ 32 → ∀ x ∈ L, x.name.length + x.value.length ≤ 1048576) :
    Calls Tryz.prog 8 #[.string (S m), .string (S t), va] w fun e w' => e = .returned (fin (askS m t L) (askE m t L)) ∧ Keep [] w w' := by
  have hst : askT m t = m ++ [32] ++ t ++ [32] ++ protB := rfl
  have hok : askOk m t = (decide ((lnM (askT m t)).s = 200) && decide ((askT m t).length ≤ 1024)) := rfl
  have hno := ask_no (m := m) (t := t) (L := L)
  have hyes := ask_yes (m := m) (t := t) (L := L)
  have hlen : (askT m t).length = m.length + t.length + 10 := by rw [hst]; simp [protB]; omega
  have HLi := Lib.hid (inlet_Line (askT m t) w hm (by omega))
  have HL := Lib.hid (fun w' (k : Keep [] w w') => outlet_laid (askT m t) va L w' (ha.keep0 Fld.cells_length (by omega) k) hg (by omega))
  generalize askE m t L = ae at *
  generalize askS m t L = av at *
  generalize askOk m t = ok at *
  generalize askT m t = st at *
  have q1 : S m ++ (⟨#[32]⟩ : ByteArray) = S (m ++ [32]) := S_append _ [32]
  have q2 : S (m ++ [32]) ++ S t = S (m ++ [32] ++ t) := S_append _ _
  have q3 : S (m ++ [32] ++ t) ++ (⟨#[32]⟩ : ByteArray) = S (m ++ [32] ++ t ++ [32]) := S_append _ [32]
  have q4 : S (m ++ [32] ++ t ++ [32]) ++ (⟨#[72, 84, 84, 80, 47, 49, 46, 49]⟩ : ByteArray) = S st := by rw [hst]; exact S_append _ protB
  have t1 : (m ++ [32]).length = m.length + 1 := by simp
  have t2 : (m ++ [32] ++ t).length = m.length + t.length + 1 := by simp; omega
  have t3 : (m ++ [32] ++ t ++ [32]).length = m.length + t.length + 2 := by simp; omega
  generalize m ++ [32] ++ t ++ [32] = x3 at *
  generalize m ++ [32] ++ t = x2 at *
  generalize m ++ [32] = x1 at *
  have s0 := S_size m
  have s1 := S_size t
  have s2 := S_size x1
  have s3 := S_size x2
  have s4 := S_size x3
  have s5 := S_size st
  generalize lnM st = R at *
  obtain ⟨rm, rt, rv, rs⟩ := R
  dsimp only at hok
  unfold Ln.out at HLi
  dsimp only at HLi
  clear ha hg hst
  by_cases h2 : rs = 200
  · have h2' := (int_eq h2).2
    by_cases h3 : st.length ≤ 1024
    · have h3' : decide (((st.length : Nat) : Int) > 1024) = false := by simp; omega
      have HX := Lib.hid (hyes (by rw [hok]; simp [h2, h3]))
      clear hok hno hyes h2 h3 hlen
      go_enter Tryz.func8, Tryz.ntmps8
      go_wp2_with fail
      refine HLi.out.mono ?_
      rintro e w1 ⟨rfl, k1⟩
      go_wp2_with fail
      refine (HL.out _ k1).mono ?_
      rintro e w3 ⟨rfl, k3⟩
      unfold fin
      go_wp2_with fail
      go_ret2
      exact ⟨by rw [HX.out.1, HX.out.2]; rfl, k1.trans k3⟩
    · have h3' : decide (((st.length : Nat) : Int) > 1024) = true := by simp; omega
      have HX := Lib.hid (hno (by rw [hok]; simp [h3]))
      clear hok hno hyes h2 h3 hlen
      go_enter Tryz.func8, Tryz.ntmps8
      go_wp2_with fail
      refine HLi.out.mono ?_
      rintro e w1 ⟨rfl, k1⟩
      go_wp2_with fail
      go_ret2
      exact ⟨by rw [HX.out.1, HX.out.2]; rfl, k1⟩
  · have h2' := (int_ne h2).2
    have HX := Lib.hid (hno (by rw [hok]; simp [h2]))
    clear hok hno hyes h2 hlen
    go_enter Tryz.func8, Tryz.ntmps8
    go_wp2_with fail
    refine HLi.out.mono ?_
    rintro e w1 ⟨rfl, k1⟩
    go_wp2_with fail
    go_ret2
    exact ⟨by rw [HX.out.1, HX.out.2]; rfl, k1⟩
end Go.Proofs.YtdmffbefppjllaaGreatDoor

/- Layer 13: the document's laid, Answer. No conditions but on lengths. -/
namespace Go.Proofs.YtdmffbefppjllaaGreatDoor
open Go.RowKit Go.Shelf

end Go.Proofs.YtdmffbefppjllaaGreatDoor

/- Layer 12, the document's Line; layer 13, the document's Answer, Ask. No conditions but on lengths. -/
namespace Go.Proofs.YtdmffbefppjllaaGreatDoor
open Go.RowKit Go.Shelf

theorem cut_at {l : List UInt8} {c : UInt8} {k : Nat} (h : Lib.indexByte l c = (k : Nat)) : Lib.cut l [c] = (l.take k, l.drop (k + 1), true) := by
  unfold Lib.cut
  rw [Lib.index_one, h, if_pos (by omega)]
  simp
theorem cut_none {l : List UInt8} {c : UInt8} (h : Lib.indexByte l c = -1) : (Lib.cut l [c]).2.2 = false := by
  unfold Lib.cut
  rw [Lib.index_one, h, if_neg (by decide)]
def lnBad : Ln := ⟨[], [], 0, 400⟩
theorem ln_k {l : List UInt8} (h : Lib.indexByte l 32 = -1) : lnM l = lnBad := ln_no (by rw [cut_none h]; rfl)
theorem ln_tok {l : List UInt8} {k : Nat} (h : Lib.indexByte l 32 = (k : Nat)) (ht : isTok (l.take k) = false) : lnM l = lnBad := ln_no (by rw [cut_at h]; simp [ht])
theorem ln_n {l : List UInt8} {k : Nat} (h : Lib.indexByte l 32 = (k : Nat)) (hn : Lib.indexByte (l.drop (k + 1)) 32 = -1) : lnM l = lnBad := ln_no (by rw [cut_at h]; simp [cut_none hn])
theorem ln_tgt {l : List UInt8} {k n : Nat} (h : Lib.indexByte l 32 = (k : Nat)) (hn : Lib.indexByte (l.drop (k + 1)) 32 = (n : Nat)) (ht : isTgt ((l.drop (k + 1)).take n) = false) : lnM l = lnBad := ln_no (by rw [cut_at h]; simp only; rw [cut_at hn]; simp [ht])
theorem ln_min {l : List UInt8} {k n : Nat} (h : Lib.indexByte l 32 = (k : Nat)) (hn : Lib.indexByte (l.drop (k + 1)) 32 = (n : Nat)) (hm : minS ((l.drop (k + 1)).drop (n + 1)) = 400) : lnM l = lnBad := by
  by_cases hb : (isTok (l.take k) && isTgt ((l.drop (k + 1)).take n)) = true
  · rw [ln_yes (by rw [cut_at h]; simp only; rw [cut_at hn]; simpa using hb)]
    rw [cut_at h]
    simp only
    rw [cut_at hn]
    simp only [hm]
    rfl
  · exact ln_no (by rw [cut_at h]; simp only; rw [cut_at hn]; simpa using hb)
theorem ln_all {l : List UInt8} {k n : Nat} (h : Lib.indexByte l 32 = (k : Nat)) (hn : Lib.indexByte (l.drop (k + 1)) 32 = (n : Nat)) (ht : isTok (l.take k) = true) (hg : isTgt ((l.drop (k + 1)).take n) = true) :
    lnM l = if minS ((l.drop (k + 1)).drop (n + 1)) = 200 then ⟨l.take k, (l.drop (k + 1)).take n, minV ((l.drop (k + 1)).drop (n + 1)), 200⟩ else ⟨[], [], 0, minS ((l.drop (k + 1)).drop (n + 1))⟩ := by
  rw [ln_yes (by rw [cut_at h]; simp only; rw [cut_at hn]; simp [ht, hg])]
  rw [cut_at h]
  simp only
  rw [cut_at hn]
theorem min_http {l : List UInt8} (h : l.take 5 ≠ httpB) : minS l = 400 := (ver_no (.inl (by rw [take5_prefix]; simp [h]))).1
theorem min_len {l : List UInt8} (h : l.length ≠ 8) : minS l = 400 := (ver_no (.inr h)).1

end Go.Proofs.YtdmffbefppjllaaGreatDoor

/- Layer 13: the document's Ask; what the statements are awake to. No conditions but on lengths and the library's table. -/
namespace Go.Proofs.YtdmffbefppjllaaGreatDoor
open Go.RowKit Go.Shelf

/-- ' HTTP/1.1' -/
def spProt : List UInt8 := [32, 72, 84, 84, 80, 47, 49, 46, 49]
theorem itoa_200 : Lib.itoa 200 = [50, 48, 48] := by
  rw [show (200 : Int) = ((200 : Nat) : Int) from rfl, Lib.itoa_nonneg, dec_big (by omega), show 200 / 10 = 20 from rfl, dec_big (by omega), show 20 / 10 = 2 from rfl, dec_small (by omega)]
  rfl
def fAb : Fld := ⟨[65], [98]⟩
theorem awake13_plain : ansS 200 [fAb] = [72, 84, 84, 80, 47, 49, 46, 49, 32, 50, 48, 48, 32, 79, 75, 13, 10, 65, 58, 32, 98, 13, 10, 13, 10] ∧ ansE 200 [fAb] = 0 ∧
    askS [71, 69, 84] [47, 118, 50, 47] [] = [71, 69, 84, 32, 47, 118, 50, 47, 32, 72, 84, 84, 80, 47, 49, 46, 49, 13, 10, 13, 10] ∧ askE [71, 69, 84] [47, 118, 50, 47] [] = 0 ∧ askE [71, 69, 84] [47, 97, 32, 98] [] = 1 := by
  have h1 : stOf 200 = [72, 84, 84, 80, 47, 49, 46, 49, 32, 50, 48, 48, 32, 79, 75] := by unfold stOf; rw [itoa_200]; rfl
  have h2 : ansE 200 [fAb] = laidE (stOf 200) [fAb] ∧ ansS 200 [fAb] = laidS (stOf 200) [fAb] := ans_yes (by decide)
  rw [h1] at h2
  refine ⟨h2.2.trans ?_, h2.1.trans ?_, ?_, ?_, ?_⟩ <;> decide +kernel

set_option maxRecDepth 100000 in
set_option maxHeartbeats 2000000 in
theorem outlet_awake (w : World) (hm : ML w) (hp : P10 w) : Calls Tryz.prog 6 #[] w fun e w' => e = .returned (.bool true) ∧ Keep [] w w' := by
  obtain ⟨a1, a2, a3, a4, a5⟩ := awake13_plain
  have hb := Blk.newA w #[.string (S [65]), .string (S [98])] 26
  have hk := (Keep.refl [] w).alloc (.cells #[.string (S [65]), .string (S [98])] 26)
  have hsl : Sl Fld.cells 2 (w.alloc (.cells #[.string (S [65]), .string (S [98])] 26)) (.slice (some ⟨w.heap.size, 0, none⟩) 1 1) [fAb] := by
    refine .inr ⟨w.heap.size, 0, 1, rfl, Nat.le_refl _, by decide, fun i x hx k hk2 => ?_⟩
    cases i with
    | zero =>
      simp at hx
      subst hx
      have := hb.cell k
      rw [show 0 + 0 * 2 + k = k by omega]
      exact this
    | succ i => simp at hx
  have hA := outlet_Answer 200 _ [fAb] _ ⟨by omega, by omega⟩ (hp.keep0 hk) hsl (by intro _ x hx; simp at hx; subst hx; decide)
  have hB := fun w' (k : Keep [] w w') => outlet_Ask [71, 69, 84] [47, 118, 50, 47] (.slice none 0 0) [] w' (hm.keep k (by simp)) (by decide) (.inl ⟨none, 0, rfl, by omega, rfl⟩) (by intro _ x hx; cases hx)
  have hC := fun w' (k : Keep [] w w') => outlet_Ask [71, 69, 84] [47, 97, 32, 98] (.slice none 0 0) [] w' (hm.keep k (by simp)) (by decide) (.inl ⟨none, 0, rfl, by omega, rfl⟩) (by intro _ x hx; cases hx)
  rw [a1, a2] at hA
  rw [a3, a4] at hB
  rw [a5] at hC
  generalize askS [71, 69, 84] [47, 97, 32, 98] [] = sc at hC
  have HA := Lib.hid hA
  have HB := Lib.hid hB
  have HC := Lib.hid hC
  have HK := Lib.hid hk
  have HN := Lib.hid (fun w' => outlet_Bodyless 304 false w')
  have HO := Lib.hid (fun w' => outlet_Bodyless 200 false w')
  have t1 := S_toList [72, 84, 84, 80, 47, 49, 46, 49, 32, 50, 48, 48, 32, 79, 75, 13, 10, 65, 58, 32, 98, 13, 10, 13, 10]
  have t2 := S_toList [71, 69, 84, 32, 47, 118, 50, 47, 32, 72, 84, 84, 80, 47, 49, 46, 49, 13, 10, 13, 10]
  unfold fin at HA HB HC
  clear a1 a2 a3 a4 a5 hb hk hsl hA hB hC hm hp
  go_enter Tryz.func6, Tryz.ntmps6
  go_wp2_with fail
  refine HA.out.mono ?_
  rintro e w1 ⟨rfl, k1⟩
  have k1 := HK.out.trans k1
  go_wp2_with fail
  refine (HB.out w1 k1).mono ?_
  rintro e w2 ⟨rfl, k2⟩
  have k2 := k1.trans k2
  clear k1
  go_wp2_with fail
  refine (HC.out w2 k2).mono ?_
  rintro e w3 ⟨rfl, k3⟩
  have k3 := k2.trans k3
  clear k2
  go_wp2_with fail
  refine (HN.out w3).mono ?_
  rintro e w4 ⟨rfl, rfl⟩
  go_wp2_with fail
  refine (HO.out _).mono ?_
  rintro e w5 ⟨rfl, rfl⟩
  go_wp2_with fail
  go_ret
  exact ⟨rfl, k3⟩
end Go.Proofs.YtdmffbefppjllaaGreatDoor

/- Layer 10: the first look that the statements take: it answers true. No conditions. -/
namespace Go.Proofs.YtdmffbefppjllaaGreatDoor
open Go.RowKit Go.Shelf

theorem aw_p1 : parseV [72, 111, 115, 116, 58, 32, 97, 32, 98, 32] = ⟨[72, 111, 115, 116], [97, 32, 98]⟩ := by decide +kernel
theorem aw_e1 : parseE [72, 111, 115, 116, 58, 32, 97, 32, 98, 32] = 0 := by decide +kernel
theorem aw_p2 : parseV [72, 111, 115, 116, 32, 58, 32, 97] = ⟨[], []⟩ := by decide +kernel
theorem aw_e2 : parseE [72, 111, 115, 116, 32, 58, 32, 97] = 3 := by decide +kernel
theorem aw_els : elsM [⟨[88], [97, 44, 32, 34, 98, 44, 99, 34, 32, 44, 44, 100]⟩] [120] = [[97], [34, 98, 44, 99, 34], [100]] := by decide +kernel
theorem aw_s1 : splitM [71, 69, 84, 32, 47, 32, 72, 84, 84, 80, 47, 49, 46, 49, 13, 10, 65, 58, 32, 49, 13, 10, 13, 10, 114, 101, 115, 116] = ⟨[71, 69, 84, 32, 47, 32, 72, 84, 84, 80, 47, 49, 46, 49], [⟨[65], [49]⟩], 24, 0⟩ := by kernel_rfl
theorem aw_s2 : splitM [71, 69, 84, 32, 47, 13, 10, 65, 58, 32, 49, 13, 10, 13] = ⟨[], [], 0, 17⟩ := by kernel_rfl

/-- a slice over a block that is known -/
theorem Blk.sl {α : Type} {enc : α → List Value} {n : Nat} (hn : ∀ x, (enc x).length = n) {w : World} {b : Nat} {T : TypeId} {L : List α} (h : Blk w b T (rows enc L)) {l cap : Nat} (hl : l = L.length) (hc : l ≤ cap) (hm : cap ≤ maxLen) : Sl enc n w (.slice (some ⟨b, 0, none⟩) l cap) L := by
  subst hl
  exact .inr ⟨b, 0, cap, rfl, hc, hm, fun i x hx k hk => by rw [Nat.zero_add, h.cell, rows_get' hn L i k x hx hk]⟩
theorem parse_is {l n v : List UInt8} {k : Int} {w w1 : World} (hm : ML w) (hk : Keep [] w w1) (hl : l.length < 4294967281) (hv : parseV l = ⟨n, v⟩) (he : parseE l = k) :
    Calls Tryz.prog 74 #[.string (S l)] w1 fun e w' => e = .returned (.tuple #[.agg #[.string (S n), .string (S v)], .int .i64 k]) ∧ Keep [] w1 w' := by
  have h := field_Parse l w1 (hm.keep hk (by simp)) hl
  rw [hv, he] at h
  exact h
theorem split_is {l : List UInt8} {r : Rd} {w w1 : World} (hm : ML w) (hk : Keep [] w w1) (hl : l.length ≤ 1048576) (hv : splitM l = r) :
    Calls Tryz.prog 47 #[.string (S l)] w1 (SplitOut w1 r) := by
  have h := field_Split l w1 (hm.keep hk (by simp)) hl
  rw [hv] at h
  exact h

end Go.Proofs.YtdmffbefppjllaaGreatDoor

/- How fields that come in are read; the worlds that meet the rows' conditions. No conditions. -/
namespace Go.Proofs.YtdmffbefppjllaaGreatDoor
open Go.RowKit Go.ChangeShapes Go.WideShapes

theorem fld_cells : Tryz.prog.cellsOf 26 = 2 := by kernel_rfl
theorem str_cells : Tryz.prog.cellsOf 9 = 1 := by kernel_rfl
def Fld.good (f : Fld) : Prop := f.name.length ≤ maxLen ∧ f.value.length ≤ maxLen
theorem read_fld {H : Type} {enc : TypeId × Value → H} {w : World} {base : Nat} {spare : Nat → Bool} {held : Bool} (m : Nat) (cs : List Value) (x : DataW H × List MemPlace)
    (h : DataW.trod enc Tryz.prog w base spare held m 26 cs = some x) : ∃ a : Fld, cs = a.cells ∧ a.good := by
  obtain ⟨hl, n, hf⟩ := trod_fields Tryz.underlying26 h
  rw [fld_cells] at hl
  obtain ⟨y0, h0⟩ := hf 0 _ rfl
  obtain ⟨y1, h1⟩ := hf 1 _ rfl
  obtain ⟨v0, c0, w0⟩ := field_string Tryz.underlying9 str_cells h0
  obtain ⟨v1, c1, w1⟩ := field_string Tryz.underlying9 str_cells h1
  refine ⟨⟨v0.data.toList, v1.data.toList⟩, list_eq_of hl rfl ?_, by rw [← Lib.size_eq]; exact w0, by rw [← Lib.size_eq]; exact w1⟩
  intro i hi
  simp only [Fld.cells, S_of]
  match i, hi with
  | 0, _ => exact c0
  | 1, _ => exact c1
/-- a struct that comes in by value -/
theorem read_agg {H : Type} {enc : TypeId × Value → H} {P : Program} {w : World} {base : Nat} {spare : Nat → Bool} {held : Bool} {α : Type} {en : α → List Value} {good : α → Prop}
    {t : TypeId} {v : Value} {d : DataW H} {ps : List MemPlace} (one : ∀ (m : Nat) (cs : List Value) (x : DataW H × List MemPlace), DataW.trod enc P w base spare held m t cs = some x → ∃ a, cs = en a ∧ good a)
    (h : DataW.Trod enc P w base spare held t v d ps) (hv : ∃ cs, v = .agg cs ∧ cs.size = P.cellsOf t) : ∃ a, v = .agg (en a).toArray ∧ good a := by
  obtain ⟨fuel, hf⟩ := h
  obtain ⟨cs, rfl, _⟩ := hv
  obtain ⟨a, ha, hg⟩ := one _ _ _ hf
  exact ⟨a, by rw [← ha]; simp [Value.cells], hg⟩

theorem Calls.below {P : Program} {f : FuncId} {args : Array Value} {w : World} {v : Value} (h : Calls P f args w fun e w' => e = .returned v ∧ Keep [] w w') : Calls P f args w fun e w' => e = .returned v ∧ Below w.heap.size w w' :=
  h.mono fun _ _ h => ⟨h.1, h.2.below (by simp)⟩
theorem ML.shape {W : World} (h : W.ShapedOpen Tryz.prog) : ML W :=
  Go.Proofs.cell_of_shapedOpen_int (zero := #[.int .i64 0]) (t := 3) h (of_decide_eq_true (by kernel_rfl)) (by kernel_rfl) rfl (by kernel_rfl) (by kernel_rfl) Tryz.underlying3

/-- a datum's cells -/
def flatD : Nat → DataW Unit → List Value
  | 0, _ => []
  | n + 1, .agg l => l.flatMap (flatD n)
  | _ + 1, .lit (.int k z) => [.int k z]
  | _ + 1, .lit (.bool b) => [.bool b]
  | _ + 1, .lit (.string s) => [.string ⟨s.toArray⟩]
  | _ + 1, _ => []
/-- the listed variables hold what is listed -/
noncomputable def laidHeap (l : List (String × DataW Unit)) (h : Array Obj) : Array Obj :=
  l.foldl (fun h x => match Tryz.prog.globalNamed x.1 with
    | some g => h.modify g fun
      | .cells _ t fr => .cells (flatD 6 x.2).toArray t fr
      | o => o
    | none => h) h
noncomputable def laidWorld (os : Os) (l : List (String × DataW Unit)) : World :=
  { World.holding Tryz.prog os ⟨#[], #[], []⟩ with heap := laidHeap l (World.holding Tryz.prog os ⟨#[], #[], []⟩).heap }
end Go.Proofs.YtdmffbefppjllaaGreatDoor

/- The statement OutletExact: its function answers true for every input. No conditions but on the library's table. -/
namespace Go.Proofs.YtdmffbefppjllaaGreatDoor
open Go.RowKit Go.Shelf

theorem small_next {L : List Fld} {k n : Nat} {x : Fld} (hx : L[k]? = some x) (h : ∀ y ∈ L.take k, y.name.length ≤ n ∧ y.value.length ≤ n) (h1 : x.name.length ≤ n) (h2 : x.value.length ≤ n) : ∀ y ∈ L.take (k + 1), y.name.length ≤ n ∧ y.value.length ≤ n := by
  have e : L.take (k + 1) = L.take k ++ [x] := by rw [List.take_add_one, hx]; rfl
  rw [e]
  intro y hy
  rcases List.mem_append.1 hy with hy | hy
  · exact h y hy
  · have : y = x := by simpa using hy
    subst this
    exact ⟨h1, h2⟩
def bodyNo (s : Int) : Bool := (decide (100 ≤ s) && decide (s < 200)) || decide (s = 204) || decide (s = 304)

end Go.Proofs.YtdmffbefppjllaaGreatDoor

/- Layer 13, plain laws: a head that is written is read as it was; a request line that is written is read as it was. No program. No conditions but those that each theorem states. -/
namespace Go.Proofs.YtdmffbefppjllaaGreatDoor
open Go.RowKit Go.Shelf

theorem laid_ok {st : List UInt8} {L : List Fld} (h : laidE st L = 0) : laidS st L = headT st L ∧ L.length ≤ 32 ∧ (∀ f ∈ L, goodF f = true) ∧ (headT st L).length ≤ 4096 := by
  have hs : laidS st L = headT st L := by unfold laidS; rw [if_pos h]
  unfold laidE at h
  cases hk : laidOk L with
  | false => rw [hk] at h; simp at h
  | true =>
    rw [hk, if_pos rfl] at h
    have hl : (headT st L).length ≤ 4096 := by
      by_cases hl : (headT st L).length ≤ 4096
      · exact hl
      · rw [if_neg hl] at h; simp at h
    unfold laidOk at hk
    simp at hk
    exact ⟨hs, hk.1, hk.2, hl⟩
theorem clean_app {a b : List UInt8} (ha : clean a) (hb : clean b) : clean (a ++ b) := by
  intro x hx
  rcases List.mem_append.1 hx with h | h
  · exact ha x h
  · exact hb x h
theorem clean_ite {c : Prop} [Decidable c] {a b : List UInt8} (ha : clean a) (hb : clean b) : clean (if c then a else b) := by split <;> assumption
theorem reason_clean (s : Int) : clean (reasonM s) := by
  unfold reasonM
  repeat (refine clean_ite (by intro x hx; revert x; decide) ?_)
  intro x hx; revert x; decide
theorem dec_dig {n : Nat} (h1 : 100 ≤ n) (h2 : n ≤ 599) : (Lib.itoa (n : Int)).length = 3 ∧ clean (Lib.itoa (n : Int)) := by
  rw [Lib.itoa_nonneg, dec_big (by omega), dec_big (by omega), dec_small (by omega)]
  refine ⟨rfl, ?_⟩
  intro x hx
  have hd : ∀ y : Nat, y < 10 → UInt8.ofNat (48 + y) ≠ 13 ∧ UInt8.ofNat (48 + y) ≠ 10 := by decide
  rcases List.mem_append.1 hx with hx | hx
  · rcases List.mem_append.1 hx with hx | hx
    · rw [List.mem_singleton.1 hx]; exact hd _ (by omega)
    · rw [List.mem_singleton.1 hx]; exact hd _ (by omega)
  · rw [List.mem_singleton.1 hx]; exact hd _ (by omega)
theorem stOf_ok {s : Int} (h : statOk s = true) : clean (stOf s) ∧ 13 ≤ (stOf s).length ∧ (stOf s).length ≤ 1024 ∧ (stOf s).take 9 = [72, 84, 84, 80, 47, 49, 46, 49, 32] ∧ (stOf s).drop 13 = reasonM s := by
  unfold statOk at h
  simp at h
  obtain ⟨n, rfl⟩ : ∃ n : Nat, s = n := ⟨s.toNat, by omega⟩
  obtain ⟨h3, hc⟩ := dec_dig (n := n) (by omega) (by omega)
  have hr := reason_len (n : Int)
  have hcr := reason_clean (n : Int)
  unfold stOf
  generalize Lib.itoa (n : Int) = d at *
  generalize reasonM (n : Int) = r at *
  have hp : clean protB := by intro x hx; revert x; decide
  have h32 : clean [32] := by intro x hx; revert x; decide
  refine ⟨clean_app (clean_app (clean_app (clean_app hp h32) hc) h32) hcr, by simp [protB]; omega, by simp [protB]; omega, by simp [protB], ?_⟩
  match d, h3 with
  | [a, b, c], _ => rfl
theorem ans_read {s : Int} {L : List Fld} (more : List UInt8) (h : ansE s L = 0) : splitM (ansS s L ++ more) = ⟨stOf s, L, (ansS s L).length, 0⟩ ∧ (ansS s L).length ≤ 4096 ∧ 13 ≤ (stOf s).length ∧ (stOf s).take 9 = [72, 84, 84, 80, 47, 49, 46, 49, 32] ∧ (stOf s).drop 13 = reasonM s := by
  cases hs : statOk s with
  | false => rw [(ans_no (L := L) hs).1] at h; simp at h
  | true =>
    obtain ⟨h1, h2⟩ := ans_yes (L := L) hs
    rw [h1] at h
    obtain ⟨h3, h4, h5, h6⟩ := laid_ok h
    obtain ⟨c1, c2, c3, c4, c5⟩ := stOf_ok hs
    rw [h2, h3]
    exact ⟨split_head _ L more c1 (by intro h0; rw [h0] at c2; simp at c2) c3 h5 h4 h6, h6, c2, c4, c5⟩

theorem sep_inj : ∀ {a b c d : List UInt8}, (32 : UInt8) ∉ a → (32 : UInt8) ∉ b → a ++ 32 :: c = b ++ 32 :: d → a = b ∧ c = d
  | [], [], _, _, _, _, h => ⟨rfl, by simpa using h⟩
  | [], y :: b, _, _, _, hb, h => by
    simp at h
    exact absurd h.1 (by intro e; exact hb (by simp [e]))
  | x :: a, [], _, _, ha, _, h => by
    simp at h
    exact absurd h.1 (by intro e; exact ha (by simp [e]))
  | x :: a, y :: b, _, _, ha, hb, h => by
    simp at h
    obtain ⟨h1, h2⟩ := sep_inj (fun hh => ha (by simp [hh])) (fun hh => hb (by simp [hh])) h.2
    exact ⟨by rw [h.1, h1], h2⟩
theorem tok_no32 {l : List UInt8} (h : isTok l = true) : (32 : UInt8) ∉ l := by
  intro hm
  have := (isTok_parts h).1 32 hm
  revert this
  decide
theorem tgt_no {l : List UInt8} (h : isTgt l = true) : (∀ b ∈ l, 33 ≤ b.toNat ∧ b.toNat ≤ 126) ∧ l ≠ [] := by
  unfold isTgt at h
  simp [tgtB] at h
  exact ⟨h.1, h.2⟩
theorem cut_parts {l : List UInt8} {k : Nat} (h : Lib.indexByte l 32 = (k : Nat)) : l = l.take k ++ 32 :: l.drop (k + 1) := by
  have hk := (Lib.indexByte_some h).1
  obtain ⟨h1, h2⟩ := List.getElem?_eq_some_iff.1 hk
  have := List.drop_eq_getElem_cons h1
  rw [h2] at this
  rw [← this, List.take_append_drop]
theorem ask_read {m t : List UInt8} (h : (lnM (askT m t)).s = 200) : lnM (askT m t) = ⟨m, t, 1, 200⟩ ∧ isTok m = true ∧ isTgt t = true := by
  have hbad : (lnBad).s ≠ 200 := by decide
  have hdef : askT m t = (m ++ 32 :: t) ++ 32 :: protB := by unfold askT; simp
  have hge := Lib.indexByte_ge (askT m t) 32
  by_cases hk : Lib.indexByte (askT m t) 32 = -1
  · rw [ln_k hk] at h; exact absurd h hbad
  obtain ⟨k, hk'⟩ : ∃ k : Nat, Lib.indexByte (askT m t) 32 = k := ⟨(Lib.indexByte (askT m t) 32).toNat, by omega⟩
  cases ht : isTok ((askT m t).take k) with
  | false => rw [ln_tok hk' ht] at h; exact absurd h hbad
  | true =>
  have hp1 := cut_parts hk'
  have hge2 := Lib.indexByte_ge ((askT m t).drop (k + 1)) 32
  by_cases hn : Lib.indexByte ((askT m t).drop (k + 1)) 32 = -1
  · rw [ln_n hk' hn] at h; exact absurd h hbad
  obtain ⟨n, hn'⟩ : ∃ n : Nat, Lib.indexByte ((askT m t).drop (k + 1)) 32 = n := ⟨(Lib.indexByte ((askT m t).drop (k + 1)) 32).toNat, by omega⟩
  cases hg : isTgt (((askT m t).drop (k + 1)).take n) with
  | false => rw [ln_tgt hk' hn' hg] at h; exact absurd h hbad
  | true =>
  have hp2 := cut_parts hn'
  have hall := ln_all hk' hn' ht hg
  by_cases hl : (((askT m t).drop (k + 1)).drop (n + 1)).length ≠ 8
  · rw [ln_min hk' hn' (min_len hl)] at h; exact absurd h hbad
  have hl8 : (((askT m t).drop (k + 1)).drop (n + 1)).length = 8 := by omega
  rw [hp2] at hp1
  rw [hall] at h ⊢
  generalize ((askT m t).drop (k + 1)).drop (n + 1) = last at *
  generalize ((askT m t).drop (k + 1)).take n = b at *
  generalize (askT m t).take k = a at *
  have he : (m ++ 32 :: t) ++ 32 :: protB = (a ++ 32 :: b) ++ 32 :: last := by rw [← hdef, hp1]; simp
  obtain ⟨e1, e2⟩ := List.append_inj' he (by simp [protB, hl8])
  have e3 : protB = last := by simpa using e2
  have na := tok_no32 ht
  have nb : (32 : UInt8) ∉ b := fun hb => by have := (tgt_no hg).1 32 hb; revert this; decide
  have hc := congrArg (List.count (32 : UInt8)) e1
  rw [List.count_append, List.count_append, List.count_cons_self, List.count_cons_self, List.count_eq_zero.2 na, List.count_eq_zero.2 nb] at hc
  have nm : (32 : UInt8) ∉ m := List.count_eq_zero.1 (by omega)
  obtain ⟨f1, f2⟩ := sep_inj nm na e1
  subst f1 f2 e3
  have hs : minS protB = 200 := by decide
  rw [if_pos hs]
  exact ⟨by rw [show minV protB = 1 from by decide], ht, hg⟩
theorem askE_read {m t : List UInt8} {L : List Fld} (more : List UInt8) (h : askE m t L = 0) : splitM (askS m t L ++ more) = ⟨askT m t, L, (askS m t L).length, 0⟩ ∧ (askS m t L).length ≤ 4096 ∧ (askT m t).length ≤ 1024 ∧ lnM (askT m t) = ⟨m, t, 1, 200⟩ := by
  cases hs : askOk m t with
  | false => rw [(ask_no (L := L) hs).1] at h; simp at h
  | true =>
    obtain ⟨h1, h2⟩ := ask_yes (L := L) hs
    rw [h1] at h
    obtain ⟨h3, h4, h5, h6⟩ := laid_ok h
    unfold askOk at hs
    simp at hs
    obtain ⟨g1, g2, g3⟩ := ask_read hs.1
    rw [h2, h3]
    have hc : clean (askT m t) := by
      have hm : clean m := fun b hb => ⟨(tchar_clean ((isTok_parts g2).1 b hb)).1, (tchar_clean ((isTok_parts g2).1 b hb)).2.1⟩
      have ht : clean t := by
        intro b hb
        have := (tgt_no g3).1 b hb
        refine ⟨?_, ?_⟩ <;> (rintro rfl; revert this; decide)
      have hp : clean protB := by intro x hx; revert x; decide
      have h32 : clean [32] := by intro x hx; revert x; decide
      unfold askT
      exact clean_app (clean_app (clean_app (clean_app hm h32) ht) h32) hp
    exact ⟨split_head _ L more hc (by unfold askT; simp) hs.2 h5 h4 h6, h6, hs.2, g1⟩
end Go.Proofs.YtdmffbefppjllaaGreatDoor

/- Layer 14, plain laws: a response that was written is read as it was. No program. No conditions but those that each theorem states. -/
namespace Go.Proofs.YtdmffbefppjllaaGreatDoor
open Go.RowKit

def nType : List UInt8 := []
theorem wd_ite {c : Prop} [Decidable c] {a b : List UInt8} (ha : wdOk (32 :: a) = true) (hb : wdOk (32 :: b) = true) : wdOk (32 :: if c then a else b) = true := by split <;> assumption
/-- a status line that was written -/
theorem st_line {c : Nat} (h1 : 100 ≤ c) (h2 : c ≤ 599) : slM (stOf (c : Nat)) = ⟨(c : Nat), 1, true⟩ := by
  have hit : Lib.itoa ((c : Nat) : Int) = [UInt8.ofNat (48 + c / 100), UInt8.ofNat (48 + c / 10 % 10), UInt8.ofNat (48 + c % 10)] := by
    rw [Lib.itoa_nonneg, dec_big (by omega), dec_big (by omega), dec_small (by omega)]
    have : c / 10 / 10 = c / 100 := by omega
    rw [this]
    rfl
  have hd : (stOf (c : Nat)).drop 7 = 49 :: 32 :: UInt8.ofNat (48 + c / 100) :: UInt8.ofNat (48 + c / 10 % 10) :: UInt8.ofNat (48 + c % 10) :: (32 :: reasonM (c : Nat)) := by
    unfold stOf
    rw [hit]
    rfl
  have hp : Lib.hasPrefix (stOf (c : Nat)) http1B = true := by
    unfold stOf
    rw [hit]
    rfl
  have dg : ∀ y : Fin 10, digB (UInt8.ofNat (48 + y.1)) = true ∧ ((UInt8.ofNat (48 + y.1)).toNat : Int) - 48 = ((y.1 : Nat) : Int) := by decide
  have dg' : ∀ y : Nat, y < 10 → digB (UInt8.ofNat (48 + y)) = true ∧ ((UInt8.ofNat (48 + y)).toNat : Int) - 48 = ((y : Nat) : Int) := fun y hy => dg ⟨y, hy⟩
  have da : ∀ y : Fin 6, y.1 ≠ 0 → decide (49 ≤ (UInt8.ofNat (48 + y.1)).toNat) = true ∧ decide ((UInt8.ofNat (48 + y.1)).toNat ≤ 53) = true := by decide
  have d1 := dg' (c / 100) (by omega)
  have d2 := dg' (c / 10 % 10) (by omega)
  have d3 := dg' (c % 10) (by omega)
  have d4 := da ⟨c / 100, by omega⟩ (by show c / 100 ≠ 0; omega)
  have hr : wdOk (32 :: reasonM (c : Nat)) = true := by
    unfold reasonM
    repeat' (first | apply wd_ite)
    all_goals decide +kernel
  have hs : sixOk 49 32 (UInt8.ofNat (48 + c / 100)) (UInt8.ofNat (48 + c / 10 % 10)) (UInt8.ofNat (48 + c % 10)) (32 :: reasonM (c : Nat)) = true := by
    have hall : [UInt8.ofNat (48 + c / 100), UInt8.ofNat (48 + c / 10 % 10), UInt8.ofNat (48 + c % 10)].all digB = true := by rw [List.all_cons, List.all_cons, List.all_cons, d1.1, d2.1, d3.1]; rfl
    unfold sixOk
    rw [hr, d4.1, d4.2, hall]
    rfl
  rw [slM_six hp hd, hs, if_pos rfl]
  unfold stN
  simp only [List.foldl_cons, List.foldl_nil]
  rw [d1.2, d2.2, d3.2]
  congr 1
  omega
theorem dropWhile_none {p : UInt8 → Bool} {l : List UInt8} (h : ∀ x ∈ l, p x = false) : l.dropWhile p = l := by
  cases l with
  | nil => rfl
  | cons x r => rw [List.dropWhile_cons_of_neg (by simp [h x (by simp)])]
theorem trimW_plain {l : List UInt8} (h : ∀ b ∈ l, ([32, 9] : List UInt8).contains b = false) : trimW l = l := by
  rw [trimW_eq]
  unfold Lib.trimRightS Lib.trimLeftS
  rw [dropWhile_none h, dropWhile_none (fun x hx => h x (List.mem_reverse.1 hx)), List.reverse_reverse]
theorem dec_plain (u : Nat) : isTxt (Lib.decDigits u) = true ∧ trimW (Lib.decDigits u) = Lib.decDigits u := by
  have hk : ∀ b : UInt8, decB b = true → textB b = true ∧ ([32, 9] : List UInt8).contains b = false := by
    have key : ∀ n : Fin 256, decB (UInt8.ofNat n.1) = true → textB (UInt8.ofNat n.1) = true ∧ ([32, 9] : List UInt8).contains (UInt8.ofNat n.1) = false := by decide +kernel
    intro b
    have := key ⟨b.toNat, UInt8.toNat_lt b⟩
    rw [UInt8.ofNat_toNat] at this
    exact this
  have ha := List.all_eq_true.1 (dec_all u)
  exact ⟨List.all_eq_true.2 (fun b hb => (hk b (ha b hb)).1), trimW_plain (fun b hb => (hk b (ha b hb)).2)⟩
def clL (l : Nat) : List Fld := [⟨nCL, Lib.decDigits l⟩]
def teL : List Fld := [⟨nTE, nChunked⟩]
theorem cl_good (l : Nat) : ∀ f ∈ clL l, goodF f = true := by
  intro f hf
  have h9 : f = ⟨nCL, Lib.decDigits l⟩ := by simpa [clL] using hf
  obtain ⟨h1, h2⟩ := dec_plain l
  rw [h9]
  unfold goodF
  dsimp only
  rw [h1, h2, show isTok nCL = true by decide +kernel]
  simp
theorem cl_frame (l m : Nat) (h : l ≤ m) (hm : m ≤ 4611686018427387904) : (frameM (clL l) (m : Nat)).n = (l : Nat) ∧ (frameM (clL l) (m : Nat)).ch = false ∧ (frameM (clL l) (m : Nat)).e = 0 := by
  obtain ⟨u1, u2⟩ := undec_dec l (m : Nat) (by omega) (by omega)
  have g1 : getN (clL l) nTE = 0 := by kernel_rfl
  have g2 : getN (clL l) nCL = 1 := by kernel_rfl
  have g3 : getV (clL l) nCL = Lib.decDigits l := by kernel_rfl
  unfold frameM
  rw [g1, g2, g3, if_neg (by omega), if_neg (by omega), if_neg (by omega)]
  dsimp only
  rw [u1, u2]
  exact ⟨rfl, rfl, rfl⟩
theorem te_frame (m : Int) : (frameM teL m).ch = true ∧ (frameM teL m).e = 0 := by
  have g1 : getN teL nTE = 1 := by kernel_rfl
  have g2 : getN teL nCL = 0 := by kernel_rfl
  have g3 : lowW (getV teL nTE) = nChunked := by kernel_rfl
  unfold frameM
  rw [g1, g2, if_neg (by omega), if_pos rfl, if_pos g3]
  exact ⟨rfl, rfl⟩
theorem no_frame (m : Int) : (frameM [] m).n = -1 ∧ (frameM [] m).ch = false ∧ (frameM [] m).e = 0 := by
  have g1 : getN [] nTE = 0 := rfl
  have g2 : getN [] nCL = 0 := rfl
  unfold frameM
  rw [g1, g2, if_neg (by omega), if_neg (by omega), if_pos rfl]
  exact ⟨rfl, rfl, rfl⟩
/-- a written head, and what comes behind it -/
structure HeadOf (s : List UInt8) (c : Nat) (L : List Fld) : Prop where
  at' : ∀ more, splitM (s ++ more) = ⟨stOf (c : Nat), L, s.length, 0⟩
  len : s.length ≤ 4096 ∧ 2 ≤ s.length
  code : 200 ≤ c ∧ c ≤ 599
theorem head_of {c : Nat} {L : List Fld} (h : ansE (c : Nat) L = 0) (h1 : 200 ≤ c) (h2 : c ≤ 599) : HeadOf (ansS (c : Nat) L) c L := by
  have hl := ans_read (s := (c : Nat)) (L := L) [] h
  refine ⟨fun more => (ans_read more h).1, ⟨hl.2.1, ?_⟩, h1, h2⟩
  have := split_pos (ansS (c : Nat) L ++ []) (by rw [hl.1])
  rw [hl.1] at this
  exact this
/-- a strict part of it is none -/
theorem HeadOf.part {s : List UInt8} {c : Nat} {L : List Fld} (h : HeadOf s c L) (more : List UInt8) {k : Nat} (hk : k < s.length) : (splitM ((s ++ more).take k)).e = 17 := by
  rcases split_take (s ++ more) k with hh | hh
  · exact hh
  · have h1 := (split_small ((s ++ more).take k)).2.2
    rw [← hh, h.at' more] at h1
    have h2 : ((s ++ more).take k).length ≤ k := by rw [List.length_take]; omega
    have h3 : s.length ≤ ((s ++ more).take k).length := h1
    omega
/-- the head is read -/
theorem HeadOf.read {s : List UInt8} {c : Nat} {L : List Fld} (h : HeadOf s c L) (hd : Bool) {most : Int} (more : List UInt8) (hm : in64 most) (a : Ans) (Q : ReS)
    (hf : reFrame { reNew hd most with inp := more } ⟨(c : Nat), L, 0, false, closesM L 1⟩ = ⟨Q, a, true⟩) :
    reAll ((reNew hd most).add (s ++ more)) = reAll { Q with ans := some a } ∧ (reAll { Q with ans := some a }).ok (2 * (s.length + more.length)) := by
  have hok := add_okR (reNew_ok hd hm) (s ++ more)
  have hs := h.at' more
  have hinp : ((reNew hd most).add (s ++ more)).inp = s ++ more := rfl
  have hP : headP ((reNew hd most).add (s ++ more)) = { reNew hd most with inp := more } := by
    unfold headP
    rw [hinp, hs]
    show ({ (reNew hd most).add (s ++ more) with inp := (s ++ more).drop s.length } : ReS) = _
    rw [List.drop_left]
    rfl
  have hl := st_line (show 100 ≤ c by have := h.code; omega) h.code.2
  have hA : headA ((reNew hd most).add (s ++ more)) = ⟨(c : Nat), L, 0, false, closesM L 1⟩ := by
    unfold headA
    rw [hinp, hs]
    dsimp only
    rw [hl]
  have hr : readR ((reNew hd most).add (s ++ more)) = ({ Q with ans := some a }, true) := by
    unfold readR
    rw [if_pos (show ((reNew hd most).add (s ++ more)).st = 0 from rfl)]
    unfold readHeadR
    rw [hP, hA, hf, hinp, hs]
    dsimp only
    rw [hl]
    dsimp only
    have := h.code
    rw [if_neg (by decide), if_neg (by simp; omega), if_neg (by omega), if_pos rfl]
  have e1 := reAll_read hok
  rw [hr] at e1
  refine ⟨e1, ?_⟩
  rw [← e1]
  exact ok_mono (reAll_ok hok) (by simp)
/-- a body that was told by its length -/
theorem all_length {X : ReS} {n : Nat} (hok : X.ok n) (h2 : X.st = 2) : reAll X = (if X.left ≤ X.inp.length then lenA X X.left else lenB X X.inp.length) := by
  have e1 : readR X = readLengthR X := by unfold readR; rw [if_neg (by omega), if_neg (by omega), if_pos h2]
  have hr := read_ok hok
  rw [reAll_read hok, e1, lengthR_eq]
  rw [e1, lengthR_eq] at hr
  by_cases hl : X.left ≤ X.inp.length
  · rw [show min X.left X.inp.length = X.left by omega, if_pos (by omega), if_pos hl]
    exact reAll5 (P := lenA X X.left) (Nat.le_refl 4)
  · rw [show min X.left X.inp.length = X.inp.length by omega, if_neg (by omega), if_neg hl]
    have q1 : (lenB X X.inp.length).st = 2 := h2
    have q2 : (lenB X X.inp.length).inp = [] := List.drop_length
    have q3 : (lenB X X.inp.length).left = X.left - X.inp.length := rfl
    refine reAll_stop (P := lenB X X.inp.length) ?_
    have e2 : readR (lenB X X.inp.length) = readLengthR (lenB X X.inp.length) := by unfold readR; rw [if_neg (by omega), if_neg (by omega), if_pos q1]
    rw [e2, lengthR_eq, q2, q3]
    show (if X.left - X.inp.length - min (X.left - X.inp.length) 0 = 0 then _ else (_, decide (0 < min (X.left - X.inp.length) 0))).2 = false
    rw [if_neg (by omega)]
    simp
/-- a body to the end of the connection, nothing shut -/
theorem all_close {X : ReS} {n : Nat} (hok : X.ok n) (h3 : X.st = 3) (hsh : X.shut = false) (hl : X.inp.length ≤ X.most - X.size) : reAll X = { X with dat := X.dat ++ X.inp, size := X.size + X.inp.length, inp := [] } := by
  have hm : min (X.most - X.size) X.inp.length = X.inp.length := by omega
  have c0 : closeP X = { X with dat := X.dat ++ X.inp, size := X.size + X.inp.length, inp := [] } := by unfold closeP; rw [hm, List.take_length, List.drop_length]
  have e1 : readR X = readCloseR X := by unfold readR; rw [if_neg (by omega), if_neg (by omega), if_neg (by omega), if_pos h3]
  have e2 : (readCloseR X).1 = { X with dat := X.dat ++ X.inp, size := X.size + X.inp.length, inp := [] } := by
    unfold readCloseR
    rw [c0, if_neg (by simp), if_neg (by simp [hsh])]
  rw [reAll_read hok, e1, e2]
  generalize hY : ({ X with dat := X.dat ++ X.inp, size := X.size + X.inp.length, inp := [] } : ReS) = Y
  have y1 : Y.st = 3 := by rw [← hY]; exact h3
  have y2 : Y.inp = [] := by rw [← hY]
  have y3 : Y.shut = false := by rw [← hY]; exact hsh
  refine reAll_stop ?_
  have e3 : readR Y = readCloseR Y := by unfold readR; rw [if_neg (by omega), if_neg (by omega), if_neg (by omega), if_pos y1]
  have c1 : closeP Y = Y := close_same (by rw [y2]; simp)
  rw [e3]
  unfold readCloseR
  rw [c1, y2, y3]
  simp
/-- a body in chunks -/
theorem all_chunks {X : ReS} {n : Nat} (hok : X.ok n) (h1 : X.st = 1) {c : Ck} (hc : X.chk = some c) (hi : X.inp ≠ []) (he : (addC c X.inp).err = 0) : reAll X = (if (addC c X.inp).st = 4 then chB X c (addC c X.inp) else chC X c (addC c X.inp)) := by
  have e1 : readR X = readChunksR X := by unfold readR; rw [if_neg (by omega), if_pos h1]
  rw [reAll_read hok, e1, chunksR_eq hc hi, if_neg (by simp [he])]
  by_cases h4 : (addC c X.inp).st = 4
  · rw [if_pos h4, if_pos h4]
    exact reAll5 (P := chB X c (addC c X.inp)) (Nat.le_refl 4)
  · rw [if_neg h4, if_neg h4]
    have q1 : (chC X c (addC c X.inp)).st = 1 := h1
    refine reAll_stop (P := chC X c (addC c X.inp)) ?_
    have e2 : readR (chC X c (addC c X.inp)) = readChunksR (chC X c (addC c X.inp)) := by unfold readR; rw [if_neg (by omega), if_pos q1]
    rw [e2]
    unfold readChunksR
    rw [show (chC X c (addC c X.inp)).chk = some (addC c X.inp) from rfl]
    dsimp only
    rw [if_pos (show (chC X c (addC c X.inp)).inp = [] from rfl)]
/-- what comes of it, all told -/
theorem come_told {P R : ReS} {n : Nat} (h : P.ok n) (ha : P.ans = none) (hd : P.dat = []) (hR : reAll P = R) : comeR 9 P ans0 [] = ⟨(reFinish (R.with' none [])).1, R.ans.getD ans0, R.dat, (reFinish R).2⟩ := by
  have := come_all h ha hd 6 ans0 []
  rw [hR, List.nil_append] at this
  exact this
theorem frame_none {P : ReS} {c : Nat} {l : Nat} {cl : Bool} (hb : noBody (c : Nat) P.head = true) (hl : l ≤ 1048576) : reFrame P ⟨(c : Nat), clL l, 0, false, cl⟩ = ⟨{ P with st := 4 }, ⟨(c : Nat), clL l, (l : Nat), false, cl⟩, true⟩ := by
  have hf := (cl_frame l 1048576 hl (by omega)).1
  unfold reFrame
  rw [if_pos hb]
  have e : max (frameM (clL l) 1048576).n 0 = ((l : Nat) : Int) := by
    have h2 : (frameM (clL l) 1048576).n = ((l : Nat) : Int) := hf
    rw [h2]; omega
  show FrR.mk _ ⟨_, _, max (frameM (clL l) 1048576).n 0, _, _⟩ _ = _
  rw [e]
theorem frame_len {P : ReS} {c : Nat} {l : Nat} {cl : Bool} (hb : noBody (c : Nat) P.head = false) (hl : l ≤ P.most) (hm : P.most ≤ 4611686018427387904) : reFrame P ⟨(c : Nat), clL l, 0, false, cl⟩ = ⟨{ P with st := 2, left := l }, ⟨(c : Nat), clL l, (l : Nat), false, cl⟩, true⟩ := by
  obtain ⟨f1, f2, f3⟩ := cl_frame l P.most hl hm
  unfold reFrame
  rw [if_neg (by simp [hb]), if_neg (by simp [f3]), if_neg (by simp [f2]), if_neg (by rw [f1]; omega)]
  simp only [f1, Int.toNat_natCast]
theorem frame_chunks {P : ReS} {c : Nat} {cl : Bool} (hb : noBody (c : Nat) P.head = false) : reFrame P ⟨(c : Nat), teL, 0, false, cl⟩ = ⟨{ P with st := 1, chk := some (ck0 P.most) }, ⟨(c : Nat), teL, 0, true, cl⟩, true⟩ := by
  obtain ⟨f1, f2⟩ := te_frame (P.most : Nat)
  unfold reFrame
  rw [if_neg (by simp [hb]), if_neg (by simp [f2]), if_pos f1]
theorem frame_close {P : ReS} {c : Nat} {cl : Bool} (hb : noBody (c : Nat) P.head = false) : reFrame P ⟨(c : Nat), [], 0, false, cl⟩ = ⟨{ P with st := 3 }, ⟨(c : Nat), [], -1, false, true⟩, true⟩ := by
  obtain ⟨f1, f2, f3⟩ := no_frame (P.most : Nat)
  unfold reFrame
  rw [if_neg (by simp [hb]), if_neg (by simp [f3]), if_neg (by simp [f2]), if_pos (by rw [f1]; omega)]
  simp only [f1]
/-- THE LAW of ReplyHeads: no body -/
theorem heads_none {s : List UInt8} {c l : Nat} (h : HeadOf s c (clL l)) (hd : Bool) {most : Int} (hm : in64 most) (body : List UInt8) (hl : l ≤ 1048576) (hb : noBody (c : Nat) hd = true) :
    ∃ P cl, comeR 9 ((reNew hd most).add (s ++ body)) ans0 [] = ⟨P, ⟨(c : Nat), clL l, (l : Nat), false, cl⟩, [], 3⟩ ∧ reRest P = body := by
  have hf := frame_none (P := { reNew hd most with inp := body }) (c := c) (l := l) (cl := closesM (clL l) 1) hb hl
  obtain ⟨h1, h2⟩ := h.read hd body hm _ _ hf
  have hok := add_okR (reNew_ok hd hm) (s ++ body)
  rw [reAll5 (P := { ({ reNew hd most with inp := body, st := 4 } : ReS) with ans := some ⟨(c : Nat), clL l, (l : Nat), false, closesM (clL l) 1⟩ }) (Nat.le_refl 4)] at h1
  exact ⟨_, closesM (clL l) 1, come_told hok rfl rfl h1, rfl⟩
/-- THE LAW of ReplyHeads: a body of that length -/
theorem heads_len {s : List UInt8} {c l : Nat} (h : HeadOf s c (clL l)) {most : Int} (hm : in64 most) (body : List UInt8) (hl : (l : Int) ≤ most) (hmo : most ≤ 1048576) (hb : noBody (c : Nat) false = false) :
    ∃ P cl, comeR 9 ((reNew false most).add (s ++ body)) ans0 [] = ⟨P, ⟨(c : Nat), clL l, (l : Nat), false, cl⟩, body.take (min l body.length), if l ≤ body.length then 3 else 0⟩ ∧ (l ≤ body.length → reRest P = body.drop l) ∧
      (¬ l ≤ body.length → P.st = 2 ∧ P.inp = [] ∧ P.ans = none ∧ P.dat = [] ∧ l - body.length ≤ P.left ∧ P.shut = false) := by
  have hmn : (reNew false most).most = most.toNat := by show (max most 0).toNat = _; omega
  have hf := frame_len (P := { reNew false most with inp := body }) (c := c) (l := l) (cl := closesM (clL l) 1) hb (by show l ≤ (reNew false most).most; rw [hmn]; omega) (by show (reNew false most).most ≤ _; rw [hmn]; omega)
  obtain ⟨h1, h2⟩ := h.read false body hm _ _ hf
  have hok := add_okR (reNew_ok false hm) (s ++ body)
  generalize hX : ({ ({ ({ reNew false most with inp := body } : ReS) with st := 2, left := l } : ReS) with ans := some ⟨(c : Nat), clL l, (l : Nat), false, closesM (clL l) 1⟩ } : ReS) = X at h1 h2
  have x1 : X.st = 2 := by rw [← hX]
  have x2 : X.left = l := by rw [← hX]
  have x3 : X.inp = body := by rw [← hX]
  have x4 : X.dat = [] := by rw [← hX]; rfl
  have x5 : X.ans = some ⟨(c : Nat), clL l, (l : Nat), false, closesM (clL l) 1⟩ := by rw [← hX]
  have x6 : X.shut = false := by rw [← hX]; rfl
  have hXok : X.ok (2 * (s.length + body.length)) := by
    rw [← hX]
    refine ⟨?_, (reNew_ok false hm).big, (reNew_ok false hm).size, ?_, ?_, fun hh => absurd (show (2 : Nat) = 0 from hh) (by decide), fun hh => absurd (show (2 : Nat) = 1 from hh) (by decide)⟩
    · rw [wt_of (show (2 : Nat) ≠ 1 by decide)]
      show 2 * body.length + 0 ≤ _
      omega
    · show ((l : Nat) : Int) ≤ _
      omega
    · show 2 ≤ 5
      omega
  rw [all_length hXok x1, x2, x3] at h1
  by_cases hlb : l ≤ body.length
  · rw [if_pos hlb] at h1
    refine ⟨(reFinish ((lenA X l).with' none [])).1, closesM (clL l) 1, ?_, fun _ => ?_, fun hh => absurd hlb hh⟩
    · rw [come_told hok rfl rfl h1, if_pos hlb]
      have e1 : (lenA X l).ans = X.ans := rfl
      have e2 : (lenA X l).dat = X.dat ++ X.inp.take l := rfl
      rw [e1, e2, x4, x5, x3, show min l body.length = l by omega]
      rfl
    · show (lenA X l).inp = _
      show X.inp.drop l = _
      rw [x3]
  · rw [if_neg hlb] at h1
    have y1 : (lenB X body.length).st = 2 := x1
    have y2 : (lenB X body.length).shut = false := x6
    have y3 : reFinish (lenB X body.length) = (lenB X body.length, 0) := by
      unfold reFinish
      rw [y1, y2]
      rfl
    have y4 : reFinish ((lenB X body.length).with' none []) = ((lenB X body.length).with' none [], 0) := by
      unfold reFinish
      rw [show ((lenB X body.length).with' none []).st = 2 from x1, show ((lenB X body.length).with' none []).shut = false from x6]
      rfl
    refine ⟨(reFinish ((lenB X body.length).with' none [])).1, closesM (clL l) 1, ?_, fun hh => absurd hh hlb, fun _ => ?_⟩
    · rw [come_told hok rfl rfl h1, if_neg hlb, y3]
      have e1 : (lenB X body.length).ans = X.ans := rfl
      have e2 : (lenB X body.length).dat = X.dat ++ X.inp.take body.length := rfl
      rw [e1, e2, x4, x5, x3, show min l body.length = body.length by omega]
      rfl
    · rw [y4]
      refine ⟨x1, ?_, rfl, rfl, ?_, x6⟩
      · show X.inp.drop body.length = []
        rw [x3, List.drop_length]
      · show l - body.length ≤ X.left - body.length
        rw [x2]
        omega
end Go.Proofs.YtdmffbefppjllaaGreatDoor

/- Layer 14, plain laws: a body in chunks, a body to the end of the connection, a response that is cut off. No program. No conditions but those that each theorem states. -/
namespace Go.Proofs.YtdmffbefppjllaaGreatDoor
open Go.RowKit

/-- where a reply waits for bytes: a head that is not whole, or a body of which all that came was read -/
def Waits (P : ReS) : Prop := P.ans = none ∧ P.dat = [] ∧ P.shut = false ∧ ((P.st = 0 ∧ (splitM P.inp).e = 17) ∨ (P.st = 1 ∧ P.inp = []) ∨ (P.st = 2 ∧ P.inp = [] ∧ 0 < P.left) ∨ (P.st = 3 ∧ P.inp = []))
theorem chunks_nil {P : ReS} (h : P.inp = []) : readChunksR P = (P, false) := by
  unfold readChunksR
  cases P.chk with
  | none => rfl
  | some c => dsimp only; rw [if_pos h]
/-- nothing comes any more -/
theorem shut_come {P : ReS} {n : Nat} (h : P.ok n) (hw : Waits P) : ∃ Q, comeR 9 (reShut P) ans0 [] = ⟨Q, ans0, [], if P.st = 3 then 3 else 4⟩ ∧ (P.st = 3 → reRest Q = []) := by
  obtain ⟨ha, hd, hs, hx⟩ := hw
  have hok : (reShut P).ok n := ⟨h.wt, h.big, h.size, h.left, h.st, h.head, h.chk⟩
  have hst : (reShut P).st = P.st := rfl
  by_cases h3 : P.st = 3
  · have hi : P.inp = [] := by
      rcases hx with ⟨h1, _⟩ | ⟨h1, _⟩ | ⟨h1, _⟩ | ⟨_, h2⟩
      · omega
      · omega
      · omega
      · exact h2
    have c1 : closeP (reShut P) = reShut P := close_same (by show min (P.most - P.size) P.inp.length = 0; rw [hi]; simp)
    have e1 : readR (reShut P) = ({ reShut P with st := 4 }, true) := by
      unfold readR
      rw [if_neg (by omega), if_neg (by omega), if_neg (by omega), if_pos (by omega)]
      unfold readCloseR
      rw [c1, if_neg (by show ¬ P.inp ≠ []; simp [hi]), if_pos (show (reShut P).shut = true from rfl)]
    have e2 : reAll (reShut P) = { reShut P with st := 4 } := by
      rw [reAll_read hok, e1]
      exact reAll5 (P := { reShut P with st := 4 }) (Nat.le_refl 4)
    refine ⟨(reFinish (({ reShut P with st := 4 } : ReS).with' none [])).1, ?_, fun _ => ?_⟩
    · rw [come_told hok ha hd e2, if_pos h3]
      have e3 : ({ reShut P with st := 4 } : ReS).ans = none := ha
      have e4 : ({ reShut P with st := 4 } : ReS).dat = [] := hd
      rw [e3, e4]
      rfl
    · show P.inp = []
      exact hi
  · have e1 : (readR (reShut P)).2 = false := by
      unfold readR
      rcases hx with ⟨h1, h2⟩ | ⟨h1, h2⟩ | ⟨h1, h2, h4⟩ | ⟨h1, _⟩
      · rw [if_pos (by omega)]
        unfold readHeadR
        rw [if_pos (show (splitM (reShut P).inp).e = 17 from h2)]
      · rw [if_neg (by omega), if_pos (by omega), chunks_nil (P := reShut P) h2]
      · rw [if_neg (by omega), if_neg (by omega), if_pos (by omega), lengthR_eq]
        rw [show (reShut P).inp = [] from h2, show (reShut P).left = P.left from rfl, if_neg (by simp; omega)]
        simp
      · exact absurd h1 h3
    have e2 : reAll (reShut P) = reShut P := reAll_stop e1
    have h4 : P.st ≠ 4 := by omega
    have e5 : (reFinish (reShut P)).2 = 4 := by
      unfold reFinish
      rw [if_neg (by rw [hst]; exact h4), if_pos (by show (P.st == 5 || true) = true; simp)]
    refine ⟨(reFinish ((reShut P).with' none [])).1, ?_, fun hh => absurd hh h3⟩
    rw [come_told hok ha hd e2, if_neg h3, e5]
    have e3 : (reShut P).ans = none := ha
    have e4 : (reShut P).dat = [] := hd
    rw [e3, e4]
    rfl
/-- a head that is cut off -/
theorem cut_head {s : List UInt8} {c : Nat} {L : List Fld} (h : HeadOf s c L) {most : Int} (hm : in64 most) (t : List UInt8) {k : Nat} (hk : k < s.length) :
    comeR 9 ((reNew false most).add ((s ++ t).take k)) ans0 [] = ⟨(reNew false most).add ((s ++ t).take k), ans0, [], 0⟩ ∧ Waits ((reNew false most).add ((s ++ t).take k)) ∧ ((reNew false most).add ((s ++ t).take k)).st = 0 := by
  have hp := h.part t hk
  have hok := add_okR (reNew_ok false hm) ((s ++ t).take k)
  generalize (s ++ t).take k = x at hp hok
  have e1 : (readR ((reNew false most).add x)).2 = false := by
    unfold readR
    rw [if_pos (show ((reNew false most).add x).st = 0 from rfl)]
    unfold readHeadR
    rw [if_pos (show (splitM ((reNew false most).add x).inp).e = 17 from hp)]
  refine ⟨come_told hok rfl rfl (reAll_stop e1), ⟨rfl, rfl, rfl, .inl ⟨rfl, hp⟩⟩, rfl⟩
/-- a body in chunks, as far as it has come -/
theorem back_chunks {s : List UInt8} (h : HeadOf s 200 teL) (body : List UInt8) (hl : body.length ≤ 1048576) (x : List UInt8) (he : (addC (ck0 (body.length : Nat)) x).err = 0) (hx : x ≠ []) :
    ∃ P cl, comeR 9 ((reNew false (body.length : Nat)).add (s ++ x)) ans0 [] = ⟨P, ⟨200, teL, 0, true, cl⟩, (addC (ck0 (body.length : Nat)) x).dat, if (addC (ck0 (body.length : Nat)) x).st = 4 then 3 else 0⟩ ∧
      ((addC (ck0 (body.length : Nat)) x).st = 4 → reRest P = (addC (ck0 (body.length : Nat)) x).inp) ∧ ((addC (ck0 (body.length : Nat)) x).st ≠ 4 → Waits P ∧ P.st = 1) := by
  have hm : in64 ((body.length : Nat) : Int) := by unfold in64; omega
  have hmn : (reNew false (body.length : Nat)).most = body.length := by show (max ((body.length : Nat) : Int) 0).toNat = _; omega
  have hf := frame_chunks (P := { reNew false (body.length : Nat) with inp := x }) (c := 200) (cl := closesM teL 1) (by show noBody ((200 : Nat) : Int) false = false; decide)
  obtain ⟨h1, h2⟩ := h.read false x hm _ _ hf
  have hok := add_okR (reNew_ok false hm) (s ++ x)
  generalize hX : ({ ({ ({ reNew false (body.length : Nat) with inp := x } : ReS) with st := 1, chk := some (ck0 ({ reNew false (body.length : Nat) with inp := x } : ReS).most) } : ReS) with ans := some ⟨((200 : Nat) : Int), teL, 0, true, closesM teL 1⟩ } : ReS) = X at h1 h2
  have x1 : X.st = 1 := by rw [← hX]
  have x2 : X.chk = some (ck0 (body.length : Nat)) := by
    rw [← hX]
    show some (ck0 ((reNew false (body.length : Nat)).most : Nat)) = _
    rw [hmn]
  have x3 : X.inp = x := by rw [← hX]
  have x4 : X.dat = [] := by rw [← hX]; rfl
  have x5 : X.ans = some ⟨((200 : Nat) : Int), teL, 0, true, closesM teL 1⟩ := by rw [← hX]
  have x6 : X.shut = false := by rw [← hX]; rfl
  have hXok : X.ok (2 * (s.length + x.length)) := by
    refine ⟨?_, ?_, ?_, ?_, by omega, fun hh => by omega, fun _ => ⟨_, x2, ?_, rfl, ?_⟩⟩
    · unfold ReS.wt
      rw [if_pos x1, x2, x3, x4]
      simp [ckW, ck0]
      omega
    · rw [← hX]; exact (reNew_ok false hm).big
    · rw [← hX]; exact (reNew_ok false hm).size
    · rw [← hX]; exact (reNew_ok false hm).left
    · simp only [ck0]; omega
    · simp [Ck.ok, ck0]
  rw [all_chunks hXok x1 x2 (by rw [x3]; exact hx) (by rw [x3]; exact he), x3] at h1
  generalize addC (ck0 (body.length : Nat)) x = d at h1 he ⊢
  by_cases h4 : d.st = 4
  · rw [if_pos h4] at h1
    refine ⟨(reFinish ((chB X (ck0 (body.length : Nat)) d).with' none [])).1, closesM teL 1, ?_, fun _ => ?_, fun hh => absurd h4 hh⟩
    · rw [come_told hok rfl rfl h1, if_pos h4]
      have e1 : (chB X (ck0 (body.length : Nat)) d).ans = X.ans := rfl
      have e2 : (chB X (ck0 (body.length : Nat)) d).dat = X.dat ++ d.dat.drop (ck0 (body.length : Nat)).dat.length := rfl
      rw [e1, e2, x4, x5]
      rfl
    · rfl
  · rw [if_neg h4] at h1
    have y3 : reFinish (chC X (ck0 (body.length : Nat)) d) = (chC X (ck0 (body.length : Nat)) d, 0) := by
      unfold reFinish
      rw [show (chC X (ck0 (body.length : Nat)) d).st = 1 from x1, show (chC X (ck0 (body.length : Nat)) d).shut = false from x6]
      rfl
    have y4 : reFinish ((chC X (ck0 (body.length : Nat)) d).with' none []) = ((chC X (ck0 (body.length : Nat)) d).with' none [], 0) := by
      unfold reFinish
      rw [show ((chC X (ck0 (body.length : Nat)) d).with' none []).st = 1 from x1, show ((chC X (ck0 (body.length : Nat)) d).with' none []).shut = false from x6]
      rfl
    refine ⟨(reFinish ((chC X (ck0 (body.length : Nat)) d).with' none [])).1, closesM teL 1, ?_, fun hh => absurd hh h4, fun _ => ?_⟩
    · rw [come_told hok rfl rfl h1, if_neg h4, y3]
      have e1 : (chC X (ck0 (body.length : Nat)) d).ans = X.ans := rfl
      have e2 : (chC X (ck0 (body.length : Nat)) d).dat = X.dat ++ d.dat.drop (ck0 (body.length : Nat)).dat.length := rfl
      rw [e1, e2, x4, x5]
      rfl
    · rw [y4]
      exact ⟨⟨rfl, rfl, x6, .inr (.inl ⟨x1, rfl⟩)⟩, x1⟩
/-- a body in chunks of which nothing has come -/
theorem back_chunks0 {s : List UInt8} (h : HeadOf s 200 teL) {most : Int} (hm : in64 most) :
    ∃ P cl, comeR 9 ((reNew false most).add (s ++ [])) ans0 [] = ⟨P, ⟨200, teL, 0, true, cl⟩, [], 0⟩ ∧ Waits P ∧ P.st = 1 := by
  have hf := frame_chunks (P := { reNew false most with inp := [] }) (c := 200) (cl := closesM teL 1) (by show noBody ((200 : Nat) : Int) false = false; decide)
  obtain ⟨h1, h2⟩ := h.read false [] hm _ _ hf
  have hok := add_okR (reNew_ok false hm) (s ++ [])
  generalize hX : ({ ({ ({ reNew false most with inp := [] } : ReS) with st := 1, chk := some (ck0 ({ reNew false most with inp := [] } : ReS).most) } : ReS) with ans := some ⟨((200 : Nat) : Int), teL, 0, true, closesM teL 1⟩ } : ReS) = X at h1 h2
  have x1 : X.st = 1 := by rw [← hX]
  have x3 : X.inp = [] := by rw [← hX]
  have x4 : X.dat = [] := by rw [← hX]; rfl
  have x5 : X.ans = some ⟨((200 : Nat) : Int), teL, 0, true, closesM teL 1⟩ := by rw [← hX]
  have x6 : X.shut = false := by rw [← hX]; rfl
  have e1 : (readR X).2 = false := by
    unfold readR
    rw [if_neg (by omega), if_pos x1, chunks_nil x3]
  rw [reAll_stop e1] at h1
  have y3 : reFinish X = (X, 0) := by
    unfold reFinish
    rw [x1, x6]
    rfl
  have y4 : reFinish (X.with' none []) = (X.with' none [], 0) := by
    unfold reFinish
    rw [show (X.with' none []).st = 1 from x1, show (X.with' none []).shut = false from x6]
    rfl
  refine ⟨X.with' none [], closesM teL 1, ?_, ?_⟩
  · rw [come_told hok rfl rfl h1, y3, y4, x4, x5]
    rfl
  · exact ⟨⟨rfl, rfl, x6, .inr (.inl ⟨x1, x3⟩)⟩, x1⟩
/-- a body to the end of the connection, as far as it has come -/
theorem back_close {s : List UInt8} (h : HeadOf s 200 []) {most : Int} (hm : in64 most) (x : List UInt8) (hx : (x.length : Int) ≤ most) :
    ∃ P, comeR 9 ((reNew false most).add (s ++ x)) ans0 [] = ⟨P, ⟨200, [], -1, false, true⟩, x, 0⟩ ∧ Waits P ∧ P.st = 3 := by
  have hmn : (reNew false most).most = most.toNat := by show (max most 0).toNat = _; omega
  have hf := frame_close (P := { reNew false most with inp := x }) (c := 200) (cl := closesM [] 1) (by show noBody ((200 : Nat) : Int) false = false; decide)
  obtain ⟨h1, h2⟩ := h.read false x hm _ _ hf
  have hok := add_okR (reNew_ok false hm) (s ++ x)
  generalize hX : ({ ({ ({ reNew false most with inp := x } : ReS) with st := 3 } : ReS) with ans := some ⟨((200 : Nat) : Int), [], -1, false, true⟩ } : ReS) = X at h1 h2
  have x1 : X.st = 3 := by rw [← hX]
  have x3 : X.inp = x := by rw [← hX]
  have x4 : X.dat = [] := by rw [← hX]; rfl
  have x5 : X.ans = some ⟨((200 : Nat) : Int), [], -1, false, true⟩ := by rw [← hX]
  have x6 : X.shut = false := by rw [← hX]; rfl
  have x7 : X.most = most.toNat ∧ X.size = 0 := by rw [← hX]; exact ⟨hmn, rfl⟩
  have hXok : X.ok (2 * (s.length + x.length)) := by
    refine ⟨?_, ?_, ?_, ?_, by omega, fun hh => by omega, fun hh => by omega⟩
    · rw [wt_of (by omega), x3, x4]
      simp
      omega
    · rw [← hX]; exact (reNew_ok false hm).big
    · rw [← hX]; exact (reNew_ok false hm).size
    · rw [← hX]; exact (reNew_ok false hm).left
  rw [all_close hXok x1 x6 (by rw [x7.1, x7.2, x3]; omega)] at h1
  generalize hY : ({ X with dat := X.dat ++ X.inp, size := X.size + X.inp.length, inp := [] } : ReS) = Y at h1
  have y1 : Y.st = 3 := by rw [← hY]; exact x1
  have y2 : Y.shut = false := by rw [← hY]; exact x6
  have y5 : Y.ans = X.ans := by rw [← hY]
  have y6 : Y.dat = x := by rw [← hY]; show X.dat ++ X.inp = x; rw [x4, x3]; rfl
  have y7 : Y.inp = [] := by rw [← hY]
  have y3 : reFinish Y = (Y, 0) := by
    unfold reFinish
    rw [y1, y2]
    rfl
  have y4 : reFinish (Y.with' none []) = (Y.with' none [], 0) := by
    unfold reFinish
    rw [show (Y.with' none []).st = 3 from y1, show (Y.with' none []).shut = false from y2]
    rfl
  refine ⟨Y.with' none [], ?_, ⟨rfl, rfl, y2, .inr (.inr (.inr ⟨y1, y7⟩))⟩, y1⟩
  rw [come_told hok rfl rfl h1, y3, y4, y5, y6, x5]
  rfl
end Go.Proofs.YtdmffbefppjllaaGreatDoor

/- Layer 14: Shut (only where the seat holds its body). No conditions. -/
namespace Go.Proofs.YtdmffbefppjllaaGreatDoor
open Go.RowKit Go.Shelf

set_option maxHeartbeats 1000000 in
set_option maxRecDepth 100000 in
theorem reply_Shut {B p : Nat} {X R : List Nat} {P : ReS} {w : World} (h : Re B w p X R P) :
    Calls Tryz.prog 20 #[.pointer (some ⟨p, 0, Option.none⟩)] w fun e w' => e = .returned (.tuple #[]) ∧ Re B w' p X R (reShut P) ∧ Keep [p] w w' := by
  obtain ⟨c0, c1, c2, c3, c4, c5, c6, c7, c10, c11⟩ := h.at_
  have f10 := h.free 10
  have H := Lib.hid h
  clear h
  go_enter Tryz.func20, Tryz.ntmps20
  go_wp2_with fail
  first | go_end0 | refine bodyPost_ret (results_none rfl _ _ _) rfl ?_
  exact ⟨rfl, H.out.set 10 (.bool true) (fun _ _ => rfl) rfl rfl, (Keep.refl _ _).setCell _ _ (by simp)⟩
end Go.Proofs.YtdmffbefppjllaaGreatDoor

/- Layer 14: a number in decimal; calls of no reply; a reply that is shut. No conditions but on lengths. -/
namespace Go.Proofs.YtdmffbefppjllaaGreatDoor
open Go.RowKit Go.Shelf

theorem dec_cut14 {r : Nat} (h : r < 10) : (⟨#[48, 49, 50, 51, 52, 53, 54, 55, 56, 57]⟩ : ByteArray).extract r (r + 1) = S [UInt8.ofNat (48 + r)] := by
  have : ∀ r : Fin 10, (⟨#[48, 49, 50, 51, 52, 53, 54, 55, 56, 57]⟩ : ByteArray).extract r.1 (r.1 + 1) = S [UInt8.ofNat (48 + r.1)] := by decide +kernel
  exact this ⟨r, h⟩
theorem nat_mod14 (m : Nat) : (m : Int).tmod 10 = ((m % 10 : Nat) : Int) ∧ (m : Int) % 10 = ((m % 10 : Nat) : Int) := ⟨by rw [Int.tmod_eq_emod_of_nonneg (by omega)]; omega, by omega⟩
theorem nat_div14 (m : Nat) : (m : Int).tdiv 10 = ((m / 10 : Nat) : Int) ∧ (m : Int) / 10 = ((m / 10 : Nat) : Int) := ⟨by rw [Int.tdiv_eq_ediv_of_nonneg (by omega)]; omega, by omega⟩
theorem dec_len14 (n : Nat) : (Lib.decDigits n).length ≤ n + 1 := by
  induction n using Nat.strongRecOn with
  | ind n ih =>
    by_cases h : n < 10
    · rw [dec_small h]; simp
    · rw [dec_big h, List.length_append]
      have := ih (n / 10) (by omega)
      simp
      omega
/-- the digits so far -/
def DecS (n m : Nat) (first : Bool) (s : List UInt8) : Prop := if first = true then m = n ∧ s = [] else (if m = 0 then s = Lib.decDigits n else Lib.decDigits n = Lib.decDigits m ++ s)
theorem decS_step {n m : Nat} {first : Bool} {s : List UInt8} (h : DecS n m first s) (hc : first = true ∨ 0 < m) : DecS n (m / 10) false (UInt8.ofNat (48 + m % 10) :: s) := by
  have key : Lib.decDigits n = Lib.decDigits m ++ s := by
    unfold DecS at h
    cases hf : first with
    | true =>
      rw [hf, if_pos rfl] at h
      rw [h.1, h.2, List.append_nil]
    | false =>
      rw [hf, if_neg (by simp)] at h
      have hm : 0 < m := hc.resolve_left (by simp [hf])
      rw [if_neg (by omega)] at h
      exact h
  unfold DecS
  rw [if_neg (by simp), key]
  by_cases h10 : m < 10
  · rw [if_pos (by omega), dec_small h10, Nat.mod_eq_of_lt h10]
    rfl
  · rw [if_neg (by omega), dec_big h10]
    simp
set_option maxRecDepth 100000 in
set_option maxHeartbeats 2000000 in
theorem law14_size (n : Nat) (hn : n ≤ 100000) (w : World) : Calls Tryz.prog 15 #[.int .i64 (n : Nat)] w fun e w' => e = .returned (.string (S (Lib.decDigits n))) ∧ w = w' := by
  go_enter Tryz.func15, Tryz.ntmps15
  go_wp2_with fail
  go_loopg [0, 3, 4] (n + 1) (fun g mv sv fv wr => ∃ (m : Nat) (s : List UInt8) (first : Bool), mv = .int .i64 (m : Nat) ∧ sv = .string (S s) ∧ fv = .bool first ∧ m ≤ n ∧ g = m + (if first then 1 else 0) ∧ s.length + m + (if first then 1 else 0) ≤ n + 1 ∧ Hid (DecS n m first s) ∧ w = wr)
  case atStart => exact ⟨n, [], true, rfl, rfl, rfl, Nat.le_refl _, rfl, by simp, Lib.hid (by unfold DecS; simp), rfl⟩
  case round =>
    obtain ⟨m, s, first, rfl, rfl, rfl, hm, hg, hl, hS, rfl⟩ := hrel
    obtain ⟨m1, m1'⟩ := nat_mod14 m
    obtain ⟨d1, d1'⟩ := nat_div14 m
    have ha : m % 10 < 10 := Nat.mod_lt _ (by omega)
    have c1 := dec_cut14 ha
    have happ : S [UInt8.ofNat (48 + m % 10)] ++ S s = S (UInt8.ofNat (48 + m % 10) :: s) := S_append _ _
    have s1 := S_size [UInt8.ofNat (48 + m % 10)]
    simp only [List.length_cons, List.length_nil] at s1
    have s2 := S_size s
    have hgoes := fun hc => Lib.hid (decS_step hS.out hc)
    have hdm : m / 10 < m ∨ m = 0 := by omega
    have hdle : m / 10 + 1 ≤ m ∨ m = 0 := by omega
    generalize hA : m % 10 = a at *
    generalize hD : m / 10 = d at *
    generalize UInt8.ofNat (48 + a) = x at *
    have wa := IntWalk.i64_in ((a : Int) + 1) (by omega)
    have na : ((a : Int) + 1).toNat = a + 1 := by omega
    have a0 : (0 : Int) ≤ (a : Int) := by omega
    have a1 : (a : Int) + 1 ≤ 10 := by omega
    have a2 : (a : Int) ≤ (a : Int) + 1 := by omega
    have hov : ¬ 9223372036854775807 < 1 + s.length := by omega
    clear hA
    cases first with
    | true =>
      have HG := hgoes (.inl rfl)
      have hgm := hg
      rw [if_pos rfl] at hgm hl
      clear hgoes hg hS hD
      go_wp2_with fail
      go_roundg d
      case measure => omega
      case rel => exact ⟨d, x :: s, false, rfl, rfl, rfl, by omega, rfl, by rw [if_neg (by simp), List.length_cons]; omega, HG, rfl⟩
    | false =>
      have hgm := hg
      rw [if_neg (by simp)] at hgm hl
      by_cases h0 : m = 0
      · have q : decide ((m : Int) > 0) = false := by simp; omega
        have q' : decide (0 < m) = false := decide_eq_false (by omega)
        have HF := Lib.hid (show s = Lib.decDigits n from by
          have := hS.out
          unfold DecS at this
          rw [if_neg (by simp), if_pos h0] at this
          exact this)
        clear hgoes hg hS hD h0
        go_wp2_with fail
        go_ret
        exact ⟨by rw [HF.out]; rfl, rfl⟩
      · have q : decide ((m : Int) > 0) = true := by simp; omega
        have q' : decide (0 < m) = true := decide_eq_true (by omega)
        have HG := hgoes (.inr (by omega))
        clear hgoes hg hS hD
        go_wp2_with fail
        go_roundg d
        case measure => omega
        case rel => exact ⟨d, x :: s, false, rfl, rfl, rfl, by omega, rfl, by rw [if_neg (by simp), List.length_cons]; omega, HG, rfl⟩
set_option maxRecDepth 100000 in
theorem nilR_Add (s : List UInt8) (w : World) : Calls Tryz.prog 17 #[.pointer Option.none, .string (S s)] w fun e w' => e = .returned (.int .i64 2) ∧ w = w' := by
  go_enter Tryz.func17, Tryz.ntmps17
  go_wp2_with fail
  go_ret
  exact ⟨rfl, rfl⟩
set_option maxRecDepth 100000 in
theorem nilR_Rest (w : World) : Calls Tryz.prog 19 #[.pointer Option.none] w fun e w' => e = .returned (.string (S [])) ∧ w = w' := by
  go_enter Tryz.func19, Tryz.ntmps19
  go_wp2_with fail
  go_ret
  exact ⟨rfl, rfl⟩
set_option maxRecDepth 100000 in
theorem nilR_Shut (w : World) : Calls Tryz.prog 20 #[.pointer Option.none] w fun e w' => e = .returned (.tuple #[]) ∧ w = w' := by
  go_enter Tryz.func20, Tryz.ntmps20
  go_wp2_with fail
  first | go_end0 | refine bodyPost_ret (results_none rfl _ _ _) rfl ?_
  exact ⟨rfl, rfl⟩
set_option maxRecDepth 100000 in
set_option maxHeartbeats 2000000 in
theorem nilR_Next (w : World) : Calls Tryz.prog 21 #[.pointer Option.none] w fun e w' => e = .returned (.tuple #[.int .i64 0, .agg ansZ.toArray, .string (S [])]) ∧ Keep [] w w' := by
  have kA := (Keep.refl [] w).alloc (.cells ansZ.toArray 47)
  have bA := Blk.newA w ansZ.toArray 47
  generalize hwA : w.alloc (.cells #[.int .i64 0, .slice Option.none 0 0, .int .i64 0, .bool false, .bool false] 47) = wA
  have hwA' : w.alloc (.cells ansZ.toArray 47) = wA := hwA
  rw [hwA'] at kA bA
  have bA : Blk wA w.heap.size 47 ansZ := bA
  have HT := Lib.hid (bA.there' 0 5 (by simp [ansZ, ansC]))
  have HLd := Lib.hid (ansZ_back HT.out)
  have ZST := Lib.hid (ans_st 0 (v := .slice Option.none 0 0) 0 false false rfl)
  have HK := Lib.hid (show Keep [] w (wA.setCells w.heap.size 0 ansZ) from kA.trans' (Keep.setCells' (S := [w.heap.size]) _ (by simp) _ _ _ (Keep.refl _ _)) (fun x hx hlt => by have h9 : x = w.heap.size := (by simpa using hx); omega))
  clear kA bA hwA'
  go_enter Tryz.func21, Tryz.ntmps21
  go_wp2_with fail
  go_step3
  go_wp2_with (first
    | (with_reducible (show wpList _ _ _ ((⟨none, .store _ (.tmp 3) (.tmp 9), _, _, _, none⟩ : Oper) :: _) _ _)
       refine wpList_store_mid rfl 47 (.tmp 3) (.tmp 9) rfl w.heap.size 0 ansZ.toArray (by rfl) (by first | rfl | kernel_rfl) HT.out ZST.out.1 ZST.out.2 ?_
       try simp only [Act.put])
    | fail)
  try rw [Exit.noGoto_ret]
  refine bodyPost_ret (v := .tuple #[.int .i64 0, .agg ansZ.toArray, .string (S [])]) (by have hl := HLd.out; simp [results, Tryz.results21, asAddr, Result.andThen, hl]; rfl) rfl ⟨rfl, HK.out⟩
/-- nothing comes any more -/
theorem rp_shut {w0 w : World} {p n : Nat} {X L : List Nat} {P : ReS} (h : Rp w0 w p X P n L) :
    Calls Tryz.prog 20 #[.pointer (some ⟨p, 0, Option.none⟩)] w fun e w' => e = .returned (.tuple #[]) ∧ Rp w0 w' p X (reShut P) n L ∧ Keep X w w' := by
  refine (reply_Shut h.re).mono ?_
  rintro e w' ⟨rfl, h1, h2⟩
  exact ⟨rfl, ⟨h1, ⟨h.ok.wt, h.ok.big, h.ok.size, h.ok.left, h.ok.st, h.ok.head, h.ok.chk⟩, h.kp.above h2 (fun x hx => by have h9 : x = p := (by simpa using hx); rw [h9]; exact h.re.base), fun l hl => ⟨(h.ap l hl).1, Nat.lt_of_lt_of_le (h.ap l hl).2 h2.size⟩⟩, h.re.keepX h2⟩
end Go.Proofs.YtdmffbefppjllaaGreatDoor

/- Layer 14: the statement ReplyHeads. No conditions. -/
namespace Go.Proofs.YtdmffbefppjllaaGreatDoor
open Go.RowKit Go.Shelf

theorem dec_len4 {l : Nat} (h : l < 10000) : (Lib.decDigits l).length ≤ 4 := by
  by_cases h1 : l < 10
  · rw [dec_small h1]; simp
  rw [dec_big h1, List.length_append]
  by_cases h2 : l / 10 < 10
  · rw [dec_small h2]; simp
  rw [dec_big h2, List.length_append]
  by_cases h3 : l / 10 / 10 < 10
  · rw [dec_small h3]; simp
  rw [dec_big h3, List.length_append, dec_small (by omega)]
  simp
theorem ans_good {c : Nat} {L : List Fld} (h1 : 100 ≤ c) (h2 : c ≤ 599) (hl : L.length ≤ 32) (hg : ∀ f ∈ L, goodF f = true) (hb : (bodyT L).length ≤ 3000) : ansE (c : Nat) L = 0 := by
  have hs : statOk ((c : Nat) : Int) = true := by unfold statOk; simp; omega
  have h3 := (stOf_ok hs).2.2.1
  unfold ansE laidE
  rw [if_pos hs, if_pos (by unfold laidOk; rw [decide_eq_true hl, List.all_eq_true.2 hg]; rfl), if_pos]
  unfold headT
  simp only [List.length_append, List.length_cons, List.length_nil]
  omega
theorem add_new {hd : Bool} {most : Int} (x : List UInt8) (h : x.length ≤ 16384) : reAdd (reNew hd most) x = ((reNew hd most).add x, 0) := by
  unfold reAdd
  rw [if_neg (by show ¬ ((16384 : Int) - (([] : List UInt8).length : Int) - (([] : List UInt8).length : Int) < (x.length : Int)); simp; omega), if_neg (by show ¬ (false || (0 : Nat) == 5) = true; simp)]
  rfl
/-- a slice of one field, just made -/
theorem one_field (w : World) (f : Fld) : Sl Fld.cells 2 (w.alloc (.cells #[.string (S f.name), .string (S f.value)] 26)) (.slice (some ⟨w.heap.size, 0, Option.none⟩) 1 1) [f] := by
  have hb := Blk.newA w #[.string (S f.name), .string (S f.value)] 26
  refine .inr ⟨w.heap.size, 0, 1, rfl, Nat.le_refl _, by decide, fun i x hx k hk2 => ?_⟩
  cases i with
  | zero =>
    simp at hx
    subst hx
    have := hb.cell k
    rw [show 0 + 0 * 2 + k = k by omega]
    exact this
  | succ i => simp at hx
set_option maxRecDepth 100000 in
set_option maxHeartbeats 16000000 in
theorem replyHeads_walk (body : List UInt8) (n status : Int) (w : World) (hm : ML w) (h10 : P10 w) (hs : body.length ≤ maxLen) (_ : in64 n) (_ : in64 status) :
    Calls Tryz.prog 4 #[.string (S body), .int .i64 n, .int .i64 status] w fun e w' => e = .returned (.bool true) ∧ Keep [] w w' := by
  have hs' : body.length ≤ 9223372036854775807 := hs
  have s0 := S_size body
  have HAw := Lib.hid (reply_awake w hm)
  have HM := Lib.hid hm
  by_cases hl : 1024 < body.length
  · have q : decide ((body.length : Int) > 1024) = true := by simp; omega
    clear hl hm h10
    go_enter Tryz.func4, Tryz.ntmps4
    go_wp2_with fail
    refine HAw.out.mono ?_
    rintro e w1 ⟨rfl, k1⟩
    have K1 := Lib.hid k1
    clear k1
    go_wp2_with fail
    go_ret
    exact ⟨rfl, K1.out⟩
  have q : decide ((body.length : Int) > 1024) = false := by simp; omega
  have hl2 : body.length ≤ 1024 := by omega
  obtain ⟨p, hp, ep⟩ := u64_mod status 200 (by omega)
  obtain ⟨l, hll, el⟩ := u64_mod n 10000 (by omega)
  replace ep : (IntKind.u64.wrap status).tmod 200 = (p : Int) := ep
  replace el : (IntKind.u64.wrap n).tmod 10000 = (l : Int) := el
  obtain ⟨c, hc⟩ : ∃ c : Nat, 200 + p = c := ⟨_, rfl⟩
  have hcI : (200 : Int) + (p : Int) = ((c : Nat) : Int) := by omega
  have hc1 : 200 ≤ c := by omega
  have hc2 : c ≤ 399 := by omega
  have hd4 := dec_len4 hll
  have hbt : (bodyT (clL l)).length ≤ 3000 := by
    show ((nCL ++ [58, 32] ++ Lib.decDigits l) ++ [13, 10] ++ []).length ≤ 3000
    simp only [List.length_append, List.length_cons, List.length_nil]
    have : nCL.length = 14 := by decide
    omega
  have hE := ans_good (c := c) (L := clL l) (by omega) (by omega) (by simp [clL]) (cl_good l) hbt
  have hH := head_of (c := c) hE hc1 (by omega)
  have HA := Lib.hid (fun w' (k : Keep [] w w') => outlet_Answer ((c : Nat) : Int) _ (clL l) _ ⟨by omega, by omega⟩ (h10.keep0 (k.alloc (.cells #[.string (S nCL), .string (S (Lib.decDigits l))] 26))) (one_field w' ⟨nCL, Lib.decDigits l⟩) (by
    intro _ x hx
    have h9 : x = ⟨nCL, Lib.decDigits l⟩ := by simpa [clL] using hx
    rw [h9]
    have : nCL.length = 14 := by decide
    show nCL.length + (Lib.decDigits l).length ≤ _
    omega))
  rw [hE] at HA
  unfold fin at HA
  have HSz := Lib.hid (fun w' => law14_size l (by omega) w')
  obtain ⟨s, hse⟩ : ∃ s, ansS ((c : Nat) : Int) (clL l) = s := ⟨_, rfl⟩
  rw [hse] at HA hH
  have hsl := hH.len
  have ss := S_size s
  have happ := S_append s body
  have hov : ¬ 9223372036854775807 < s.length + body.length := by omega
  have hlx : (s ++ body).length ≤ 16384 := by simp; omega
  have in16 : in64 16384 := by unfold in64; omega
  -- the first reply
  obtain ⟨P1, cl1, hA1, hA2⟩ := heads_none hH true in64_100 body (by omega) (by unfold noBody; rfl)
  -- the second
  have hB : ∃ P2 cl2 d2 k2, comeR 9 ((reNew false 16384).add (s ++ body)) ans0 [] = ⟨P2, ⟨(c : Nat), clL l, (l : Nat), false, cl2⟩, d2, k2⟩ ∧
      ((c = 204 ∨ c = 304) → k2 = 3 ∧ d2 = [] ∧ reRest P2 = body) ∧ (¬ (c = 204 ∨ c = 304) → d2 = body.take (min l body.length) ∧ k2 = (if l ≤ body.length then 3 else 0)) := by
    by_cases hcc : c = 204 ∨ c = 304
    · obtain ⟨P2, cl2, h1, h2⟩ := heads_none hH false in16 body (by omega) (by unfold noBody; rcases hcc with h | h <;> simp [h])
      exact ⟨P2, cl2, _, _, h1, fun _ => ⟨rfl, rfl, h2⟩, fun hh => absurd hcc hh⟩
    · obtain ⟨P2, cl2, h1, _, _⟩ := heads_len hH in16 body (by omega) (by omega) (by unfold noBody; simp; omega)
      exact ⟨P2, cl2, _, _, h1, fun hh => absurd hh hcc, fun _ => ⟨rfl, rfl⟩⟩
  obtain ⟨P2, cl2, d2, k2, hB1, hB2, hB3⟩ := hB
  have HPA := Lib.hid (And.intro hA1 hA2)
  have HPB := Lib.hid (And.intro hB1 (And.intro hB2 hB3))
  have hc204 : (((c : Nat) : Int) == 204) = decide (c = 204) := by rw [Bool.eq_iff_iff]; simp; omega
  have hc304 : (((c : Nat) : Int) == 304) = decide (c = 304) := by rw [Bool.eq_iff_iff]; simp; omega
  have HLX := Lib.hid hlx
  have tb := S_toList body
  have tn := S_toList ([] : List UInt8)
  clear hl hm h10 hA1 hA2 hB1 hB2 hB3 hE hH hse hbt hd4 hlx hsl
  go_enter Tryz.func4, Tryz.ntmps4
  go_wp2_with fail
  refine HAw.out.mono ?_
  rintro e w1 ⟨rfl, k1⟩
  have K1 := Lib.hid k1
  clear k1
  go_wp2_with fail
  refine (HSz.out _).mono ?_
  rintro e w2 ⟨rfl, rfl⟩
  go_wp2_with fail
  refine (HA.out _ K1.out).mono ?_
  rintro e w3 ⟨rfl, k3⟩
  have K3 := Lib.hid ((K1.out.alloc _).trans k3)
  clear k3 HA HSz HAw
  have HN := Lib.hid (rp_new (w0 := w) (w := w3) true in64_100 K3.out [] (by simp))
  go_wp2_with fail
  refine HN.out.mono ?_
  rintro e w4 ⟨pa, rfl, _, _, h4, k4⟩
  have HAd := Lib.hid (rp_addX (s ++ body) h4 (by omega) (by have := HLX.out; omega) (add_new (s ++ body) HLX.out))
  clear h4 k4 HN K3
  go_wp2_with fail
  refine HAd.out.mono ?_
  rintro e w5 ⟨rfl, h5, k5⟩
  have HCo := Lib.hid (reply_comeX h5 HM.out (by have := HLX.out; omega) HPA.out.1)
  unfold CmOut at HCo
  dsimp only at HCo
  clear h5 k5 HAd
  go_wp2_with fail
  refine HCo.out.mono ?_
  rintro e w6 ⟨sa, sl, sc, Xa, rfl, h6, k6, _, _, _⟩
  have kA := (Keep.refl [] w6).alloc (.cells (ansC ((c : Nat) : Int) (.slice sa sl sc) ((l : Nat) : Int) false cl1).toArray 47)
  have bA := Blk.newA w6 (ansC ((c : Nat) : Int) (.slice sa sl sc) ((l : Nat) : Int) false cl1).toArray 47
  generalize hwA : w6.alloc (.cells (ansC ((c : Nat) : Int) (.slice sa sl sc) ((l : Nat) : Int) false cl1).toArray 47) = u6 at kA bA
  have bA : Blk u6 w6.heap.size 47 (ansC ((c : Nat) : Int) (.slice sa sl sc) ((l : Nat) : Int) false cl1) := bA
  have h7 := h6.keep0 kA
  have hRe := rp_rest h7
  rw [HPA.out.2] at hRe
  have HRe := Lib.hid hRe
  have x0 := bA.get (k := 0) (v := .int .i64 ((c : Nat) : Int)) rfl
  have x2 := bA.get (k := 2) (v := .int .i64 ((l : Nat) : Int)) rfl
  have HOx := Lib.hid (ansC_one ((c : Nat) : Int) (v := .slice sa sl sc) ((l : Nat) : Int) false cl1 rfl)
  have HN := Lib.hid (rp_new (w0 := w) (w := u6) false in16 h7.kp [] (by simp))
  clear h6 k6 kA bA h7 hRe HCo
  go_wp2_with (first
        | (with_reducible (show wpList _ _ _ ((⟨none, .store _ (.tmp 12) (.tmp 54), _, _, _, none⟩ : Oper) :: _) _ _)
           refine wpList_store_fresh rfl 47 (.tmp 12) (.tmp 54) rfl _ (ansC ((c : Nat) : Int) (.slice sa sl sc) ((l : Nat) : Int) false cl1) (by rfl) (by rfl) ans_size (by rfl) HOx.out ?_
           rw [hwA]
           try simp only [Act.put])
        | fail)
  refine HRe.out.mono ?_
  rintro e w7 ⟨rfl, rfl⟩
  go_wp2_with fail
  refine HN.out.mono ?_
  rintro e w8 ⟨qa, rfl, _, _, h8, k8⟩
  have HAd := Lib.hid (rp_addX (s ++ body) h8 (by omega) (by have := HLX.out; omega) (add_new (s ++ body) HLX.out))
  clear h8 k8 HN HRe x0 x2 hwA
  go_wp2_with fail
  refine HAd.out.mono ?_
  rintro e w9 ⟨rfl, h9, k9⟩
  have HCo := Lib.hid (reply_comeX h9 HM.out (by have := HLX.out; omega) HPB.out.1)
  unfold CmOut at HCo
  dsimp only at HCo
  clear h9 k9 HAd
  go_wp2_with fail
  refine HCo.out.mono ?_
  rintro e w10 ⟨sb, sm, sn, Xb, rfl, h10', k10, _, _, _⟩
  have KQ := Lib.hid h10'.kp
  have td2 := S_toList d2
  by_cases hcc : c = 204 ∨ c = 304
  · obtain ⟨e1, e2, e3⟩ := HPB.out.2.1 hcc
    subst e1 e2
    have hRe := rp_rest h10'
    rw [e3] at hRe
    have HRe := Lib.hid hRe
    clear h10' k10 hRe HCo e3
    by_cases h2 : c = 204
    · rw [decide_eq_true h2] at hc204
      clear h2 hcc
      go_wp2_with fail
      refine HRe.out.mono ?_
      rintro e w11 ⟨rfl, rfl⟩
      go_wp2_with fail
      refine (nilR_Shut _).mono ?_
      rintro e x1 ⟨rfl, rfl⟩
      have HNx := Lib.hid (fun w' => nilR_Next w')
      go_wp2_with fail
      refine (HNx.out _).mono ?_
      rintro e x2 ⟨rfl, kx2⟩
      have KX := Lib.hid (KQ.out.trans kx2)
      have kA := (Keep.refl [] x2).alloc (.cells ansZ.toArray 47)
      have bA := Blk.newA x2 ansZ.toArray 47
      generalize hwA : x2.alloc (.cells #[.int .i64 0, .slice Option.none 0 0, .int .i64 0, .bool false, .bool false] 47) = x3
      have hwA' : x2.alloc (.cells ansZ.toArray 47) = x3 := hwA
      rw [hwA'] at kA bA
      have bA : Blk x3 x2.heap.size 47 ansZ := bA
      have HT := Lib.hid (bA.there' 0 5 (by simp [ansZ, ansC]))
      have ZST := Lib.hid (ans_st 0 (v := .slice Option.none 0 0) 0 false false rfl)
      have KX3 := Lib.hid (show Keep [] w (x3.setCells x2.heap.size 0 ansZ) from (KX.out.trans kA).trans' (Keep.setCells' (S := [x2.heap.size]) _ (by simp) _ _ _ (Keep.refl _ _)) (fun x hx hlt => by have h9 : x = x2.heap.size := (by simpa using hx); have := KX.out.size; omega))
      clear kx2 kA bA hwA' HNx KQ KX
      go_wp2_with (first
            | (with_reducible (show wpList _ _ _ ((⟨none, .store _ (.tmp 18) (.tmp 134), _, _, _, none⟩ : Oper) :: _) _ _)
               refine wpList_store_mid rfl 47 (.tmp 18) (.tmp 134) rfl x2.heap.size 0 (ansZ).toArray (by rfl) (by first | rfl | kernel_rfl) HT.out ZST.out.1 ZST.out.2 ?_
               try simp only [Act.put])
            | fail)
      refine (nilR_Add [120] _).mono ?_
      rintro e x4 ⟨rfl, rfl⟩
      go_wp2_with fail
      refine (nilR_Rest _).mono ?_
      rintro e x5 ⟨rfl, rfl⟩
      go_wp2_with fail
      go_ret
      exact ⟨rfl, KX3.out⟩
    · rw [decide_eq_false h2] at hc204
      rw [decide_eq_true (show c = 304 by omega)] at hc304
      clear h2 hcc
      go_wp2_with fail
      refine HRe.out.mono ?_
      rintro e w11 ⟨rfl, rfl⟩
      go_wp2_with fail
      refine (nilR_Shut _).mono ?_
      rintro e x1 ⟨rfl, rfl⟩
      have HNx := Lib.hid (fun w' => nilR_Next w')
      go_wp2_with fail
      refine (HNx.out _).mono ?_
      rintro e x2 ⟨rfl, kx2⟩
      have KX := Lib.hid (KQ.out.trans kx2)
      have kA := (Keep.refl [] x2).alloc (.cells ansZ.toArray 47)
      have bA := Blk.newA x2 ansZ.toArray 47
      generalize hwA : x2.alloc (.cells #[.int .i64 0, .slice Option.none 0 0, .int .i64 0, .bool false, .bool false] 47) = x3
      have hwA' : x2.alloc (.cells ansZ.toArray 47) = x3 := hwA
      rw [hwA'] at kA bA
      have bA : Blk x3 x2.heap.size 47 ansZ := bA
      have HT := Lib.hid (bA.there' 0 5 (by simp [ansZ, ansC]))
      have ZST := Lib.hid (ans_st 0 (v := .slice Option.none 0 0) 0 false false rfl)
      have KX3 := Lib.hid (show Keep [] w (x3.setCells x2.heap.size 0 ansZ) from (KX.out.trans kA).trans' (Keep.setCells' (S := [x2.heap.size]) _ (by simp) _ _ _ (Keep.refl _ _)) (fun x hx hlt => by have h9 : x = x2.heap.size := (by simpa using hx); have := KX.out.size; omega))
      clear kx2 kA bA hwA' HNx KQ KX
      go_wp2_with (first
            | (with_reducible (show wpList _ _ _ ((⟨none, .store _ (.tmp 18) (.tmp 134), _, _, _, none⟩ : Oper) :: _) _ _)
               refine wpList_store_mid rfl 47 (.tmp 18) (.tmp 134) rfl x2.heap.size 0 (ansZ).toArray (by rfl) (by first | rfl | kernel_rfl) HT.out ZST.out.1 ZST.out.2 ?_
               try simp only [Act.put])
            | fail)
      refine (nilR_Add [120] _).mono ?_
      rintro e x4 ⟨rfl, rfl⟩
      go_wp2_with fail
      refine (nilR_Rest _).mono ?_
      rintro e x5 ⟨rfl, rfl⟩
      go_wp2_with fail
      go_ret
      exact ⟨rfl, KX3.out⟩
  · obtain ⟨e1, e2⟩ := HPB.out.2.2 hcc
    rw [decide_eq_false (show ¬ c = 204 by omega)] at hc204
    rw [decide_eq_false (show ¬ c = 304 by omega)] at hc304
    obtain ⟨j, hj⟩ : ∃ j : Nat, min l body.length = j := ⟨_, rfl⟩
    have hmin : min ((l : Nat) : Int) ((body.length : Nat) : Int) = ((j : Nat) : Int) := by omega
    have hx1 : (S body).extract 0 j = S (body.take j) := by rw [S_extract, List.drop_zero]
    have i0 : (0 : Int) ≤ (j : Int) := by omega
    have i1 : (j : Int) ≤ (body.length : Int) := by omega
    rw [hj] at e1
    subst e1
    clear h10' k10 HCo hcc hj
    by_cases hlb : l ≤ body.length
    · rw [if_pos hlb] at e2
      subst e2
      have q5 : decide (l ≤ body.length) = true := decide_eq_true hlb
      clear hlb
      go_wp2_with fail
      refine (nilR_Shut _).mono ?_
      rintro e x1 ⟨rfl, rfl⟩
      have HNx := Lib.hid (fun w' => nilR_Next w')
      go_wp2_with fail
      refine (HNx.out _).mono ?_
      rintro e x2 ⟨rfl, kx2⟩
      have KX := Lib.hid (KQ.out.trans kx2)
      have kA := (Keep.refl [] x2).alloc (.cells ansZ.toArray 47)
      have bA := Blk.newA x2 ansZ.toArray 47
      generalize hwA : x2.alloc (.cells #[.int .i64 0, .slice Option.none 0 0, .int .i64 0, .bool false, .bool false] 47) = x3
      have hwA' : x2.alloc (.cells ansZ.toArray 47) = x3 := hwA
      rw [hwA'] at kA bA
      have bA : Blk x3 x2.heap.size 47 ansZ := bA
      have HT := Lib.hid (bA.there' 0 5 (by simp [ansZ, ansC]))
      have ZST := Lib.hid (ans_st 0 (v := .slice Option.none 0 0) 0 false false rfl)
      have KX3 := Lib.hid (show Keep [] w (x3.setCells x2.heap.size 0 ansZ) from (KX.out.trans kA).trans' (Keep.setCells' (S := [x2.heap.size]) _ (by simp) _ _ _ (Keep.refl _ _)) (fun x hx hlt => by have h9 : x = x2.heap.size := (by simpa using hx); have := KX.out.size; omega))
      clear kx2 kA bA hwA' HNx KQ KX
      go_wp2_with (first
            | (with_reducible (show wpList _ _ _ ((⟨none, .store _ (.tmp 18) (.tmp 134), _, _, _, none⟩ : Oper) :: _) _ _)
               refine wpList_store_mid rfl 47 (.tmp 18) (.tmp 134) rfl x2.heap.size 0 (ansZ).toArray (by rfl) (by first | rfl | kernel_rfl) HT.out ZST.out.1 ZST.out.2 ?_
               try simp only [Act.put])
            | fail)
      refine (nilR_Add [120] _).mono ?_
      rintro e x4 ⟨rfl, rfl⟩
      go_wp2_with fail
      refine (nilR_Rest _).mono ?_
      rintro e x5 ⟨rfl, rfl⟩
      go_wp2_with fail
      go_ret
      exact ⟨rfl, KX3.out⟩
    · rw [if_neg hlb] at e2
      subst e2
      have q5 : decide (l ≤ body.length) = false := decide_eq_false hlb
      clear hlb
      go_wp2_with fail
      refine (nilR_Shut _).mono ?_
      rintro e x1 ⟨rfl, rfl⟩
      have HNx := Lib.hid (fun w' => nilR_Next w')
      go_wp2_with fail
      refine (HNx.out _).mono ?_
      rintro e x2 ⟨rfl, kx2⟩
      have KX := Lib.hid (KQ.out.trans kx2)
      have kA := (Keep.refl [] x2).alloc (.cells ansZ.toArray 47)
      have bA := Blk.newA x2 ansZ.toArray 47
      generalize hwA : x2.alloc (.cells #[.int .i64 0, .slice Option.none 0 0, .int .i64 0, .bool false, .bool false] 47) = x3
      have hwA' : x2.alloc (.cells ansZ.toArray 47) = x3 := hwA
      rw [hwA'] at kA bA
      have bA : Blk x3 x2.heap.size 47 ansZ := bA
      have HT := Lib.hid (bA.there' 0 5 (by simp [ansZ, ansC]))
      have ZST := Lib.hid (ans_st 0 (v := .slice Option.none 0 0) 0 false false rfl)
      have KX3 := Lib.hid (show Keep [] w (x3.setCells x2.heap.size 0 ansZ) from (KX.out.trans kA).trans' (Keep.setCells' (S := [x2.heap.size]) _ (by simp) _ _ _ (Keep.refl _ _)) (fun x hx hlt => by have h9 : x = x2.heap.size := (by simpa using hx); have := KX.out.size; omega))
      clear kx2 kA bA hwA' HNx KQ KX
      go_wp2_with (first
            | (with_reducible (show wpList _ _ _ ((⟨none, .store _ (.tmp 18) (.tmp 134), _, _, _, none⟩ : Oper) :: _) _ _)
               refine wpList_store_mid rfl 47 (.tmp 18) (.tmp 134) rfl x2.heap.size 0 (ansZ).toArray (by rfl) (by first | rfl | kernel_rfl) HT.out ZST.out.1 ZST.out.2 ?_
               try simp only [Act.put])
            | fail)
      refine (nilR_Add [120] _).mono ?_
      rintro e x4 ⟨rfl, rfl⟩
      go_wp2_with fail
      refine (nilR_Rest _).mono ?_
      rintro e x5 ⟨rfl, rfl⟩
      go_wp2_with fail
      go_ret
      exact ⟨rfl, KX3.out⟩
end Go.Proofs.YtdmffbefppjllaaGreatDoor

/- Layer 14, plain laws: what was written is read as it was, in each of three framings, and cut off anywhere it has no end. No program. No conditions but those that each theorem states. -/
namespace Go.Proofs.YtdmffbefppjllaaGreatDoor
open Go.RowKit

theorem comeR_ok {n : Nat} : ∀ (i : Nat) (P : ReS) (a : Ans) (d : List UInt8), P.ok n → (comeR i P a d).p.ok n
  | 0, _, _, _, h => h
  | i + 1, P, a, d, h => by
    have hn := nextR_ok h
    unfold comeR
    split
    · exact comeR_ok i _ _ _ hn
    · split
      · exact comeR_ok i _ _ _ hn
      · exact hn
/-- what the statement asks of a framing -/
structure BackOf (h : Nat) (s t body : List UInt8) : Prop where
  full : ∃ P a k, comeR 9 ((reNew false (body.length : Nat)).add (s ++ t)) ans0 [] = ⟨P, a, body, k⟩ ∧ a.st = 200 ∧ (h ≠ 2 → k = 3 ∧ reRest P = []) ∧ (h = 2 → k = 0 ∧ ∃ Q, comeR 9 (reShut P) ans0 [] = ⟨Q, ans0, [], 3⟩ ∧ reRest Q = [])
  cut : ∀ j, j < s.length + t.length → ∃ P a d, comeR 9 ((reNew false (body.length : Nat)).add ((s ++ t).take j)) ans0 [] = ⟨P, a, d, 0⟩ ∧ d <+: body ∧ ∃ Q k, comeR 9 (reShut P) ans0 [] = ⟨Q, ans0, [], k⟩ ∧ (k = 4 ∨ (h = 2 ∧ k = 3 ∧ s.length ≤ j))
theorem in64_len (l : List UInt8) (h : l.length ≤ 1048576) : in64 ((l.length : Nat) : Int) := by unfold in64; omega
theorem p_ok {hd : Bool} {most : Int} (hm : in64 most) {x : List UInt8} {P : ReS} {a : Ans} {d : List UInt8} {k : Int} (h : comeR 9 ((reNew hd most).add x) ans0 [] = ⟨P, a, d, k⟩) : P.ok (0 + 2 * x.length) := by
  have := comeR_ok 9 _ ans0 [] (add_okR (reNew_ok hd hm) x)
  rw [h] at this
  exact this
theorem take_past {s t : List UInt8} {j : Nat} (h : s.length ≤ j) : (s ++ t).take j = s ++ t.take (j - s.length) := by
  have := take_more s t (j - s.length)
  rw [show s.length + (j - s.length) = j by omega] at this
  exact this
theorem cut_early {h : Nat} {s : List UInt8} {c : Nat} {L : List Fld} (hH : HeadOf s c L) (t body : List UInt8) (hb : body.length ≤ 1048576) {j : Nat} (hj : j < s.length) :
    ∃ P a d, comeR 9 ((reNew false (body.length : Nat)).add ((s ++ t).take j)) ans0 [] = ⟨P, a, d, 0⟩ ∧ d <+: body ∧ ∃ Q k, comeR 9 (reShut P) ans0 [] = ⟨Q, ans0, [], k⟩ ∧ (k = 4 ∨ (h = 2 ∧ k = 3 ∧ s.length ≤ j)) := by
  obtain ⟨h1, h2, h3⟩ := cut_head hH (in64_len body hb) t hj
  obtain ⟨Q, hq, _⟩ := shut_come (p_ok (in64_len body hb) h1) h2
  rw [h3, if_neg (by decide)] at hq
  exact ⟨_, _, _, h1, List.nil_prefix, Q, 4, hq, .inl rfl⟩
/-- told by its length -/
theorem back_0 {s : List UInt8} (body : List UInt8) (hb : body.length ≤ 1048576) (hH : HeadOf s 200 (clL body.length)) : BackOf 0 s body body := by
  have hm := in64_len body hb
  refine ⟨?_, fun j hj => ?_⟩
  · obtain ⟨P, cl, h1, h2, _⟩ := heads_len hH hm body (Int.le_refl _) (by omega) (by decide)
    rw [if_pos (Nat.le_refl _), Nat.min_self, List.take_length] at h1
    exact ⟨P, _, 3, h1, rfl, fun _ => ⟨rfl, by rw [h2 (Nat.le_refl _), List.drop_length]⟩, fun hh => absurd hh (by decide)⟩
  · by_cases hjs : j < s.length
    · exact cut_early hH body body hb hjs
    · rw [take_past (by omega)]
      have hl : (body.take (j - s.length)).length = j - s.length := by rw [List.length_take]; omega
      obtain ⟨P, cl, h1, _, h2⟩ := heads_len hH hm (body.take (j - s.length)) (Int.le_refl _) (by omega) (by decide)
      rw [if_neg (by omega), show min body.length (body.take (j - s.length)).length = (body.take (j - s.length)).length by omega, List.take_length] at h1
      obtain ⟨y1, y2, y3, y4, y5, y6⟩ := h2 (by omega)
      obtain ⟨Q, hq, _⟩ := shut_come (p_ok hm h1) ⟨y3, y4, y6, .inr (.inr (.inl ⟨y1, y2, by omega⟩))⟩
      rw [y1, if_neg (by decide)] at hq
      exact ⟨P, _, _, h1, List.take_prefix _ _, Q, 4, hq, .inl rfl⟩
/-- in chunks -/
theorem back_1 {s : List UInt8} (k : Nat) (body : List UInt8) (hb : body.length ≤ 1048576) (hH : HeadOf s 200 teL) : BackOf 1 s (wrT k body) body := by
  have hm := in64_len body hb
  have hp := wrT_pos k body
  refine ⟨?_, fun j hj => ?_⟩
  · have hf := back_full k body [] hb
    rw [List.append_nil] at hf
    obtain ⟨P, cl, h1, h2, _⟩ := back_chunks hH body hb (wrT k body) (by rw [hf]) (by intro hh; rw [hh] at hp; simp at hp)
    rw [hf] at h1 h2
    exact ⟨P, _, 3, h1, rfl, fun _ => ⟨rfl, h2 rfl⟩, fun hh => absurd hh (by decide)⟩
  · by_cases hjs : j < s.length
    · exact cut_early hH (wrT k body) body hb hjs
    · rw [take_past (by omega)]
      by_cases h0 : j - s.length = 0
      · rw [h0, List.take_zero]
        obtain ⟨P, cl, h1, h2, h3⟩ := back_chunks0 hH hm
        obtain ⟨Q, hq, _⟩ := shut_come (p_ok hm h1) h2
        rw [h3, if_neg (by decide)] at hq
        exact ⟨P, _, _, h1, List.nil_prefix, Q, 4, hq, .inl rfl⟩
      · obtain ⟨c1, c2, c3, _⟩ := back_cut k body hb (j - s.length) (by omega)
        have hne : (wrT k body).take (j - s.length) ≠ [] := by
          intro hh
          have : ((wrT k body).take (j - s.length)).length = 0 := by rw [hh]; rfl
          rw [List.length_take] at this
          omega
        obtain ⟨P, cl, h1, _, h2⟩ := back_chunks hH body hb _ c1 hne
        rw [if_neg c2] at h1
        obtain ⟨h3, h4⟩ := h2 c2
        obtain ⟨Q, hq, _⟩ := shut_come (p_ok hm h1) h3
        rw [h4, if_neg (by decide)] at hq
        exact ⟨P, _, _, h1, c3, Q, 4, hq, .inl rfl⟩
/-- to the end of the connection -/
theorem back_2 {s : List UInt8} (body : List UInt8) (hb : body.length ≤ 1048576) (hH : HeadOf s 200 []) : BackOf 2 s body body := by
  have hm := in64_len body hb
  refine ⟨?_, fun j hj => ?_⟩
  · obtain ⟨P, h1, h2, h3⟩ := back_close hH hm body (Int.le_refl _)
    obtain ⟨Q, hq, hr⟩ := shut_come (p_ok hm h1) h2
    rw [if_pos h3] at hq
    exact ⟨P, _, 0, h1, rfl, fun hh => absurd rfl hh, fun _ => ⟨rfl, Q, hq, hr h3⟩⟩
  · by_cases hjs : j < s.length
    · exact cut_early hH body body hb hjs
    · rw [take_past (by omega)]
      have hl : (body.take (j - s.length)).length ≤ body.length := by rw [List.length_take]; omega
      obtain ⟨P, h1, h2, h3⟩ := back_close hH hm (body.take (j - s.length)) (by omega)
      obtain ⟨Q, hq, _⟩ := shut_come (p_ok hm h1) h2
      rw [if_pos h3] at hq
      exact ⟨P, _, _, h1, List.take_prefix _ _, Q, 3, hq, .inr ⟨rfl, rfl, by omega⟩⟩
end Go.Proofs.YtdmffbefppjllaaGreatDoor

/- Layer 1: numbers in base 16 are written: FormatInt at base 16, Hexnum. No conditions but on the library's table. -/
namespace Go.Proofs.YtdmffbefppjllaaGreatDoor
open Go.RowKit Go.Shelf

/-- the buffer: zeros, then the digits that stand -/
def bufL (l : List UInt8) : List UInt8 := List.replicate (65 - l.length) 0 ++ l
theorem bufL_len {l : List UInt8} (h : l.length ≤ 65) : (bufL l).length = 65 := by unfold bufL; rw [List.length_append, List.length_replicate]; omega
theorem bufL_set {l : List UInt8} (h : l.length < 65) (c : UInt8) : (bufL l).set (64 - l.length) c = bufL (c :: l) := by
  unfold bufL
  have e : 65 - l.length = (64 - l.length) + 1 := by omega
  rw [e, List.set_append_left _ _ (by simp)]
  rw [show List.replicate ((64 - l.length) + 1) (0 : UInt8) = List.replicate (64 - l.length) 0 ++ [0] from List.replicate_succ' ..]
  rw [List.set_append_right _ _ (by simp)]
  simp [show 65 - (l.length + 1) = 64 - l.length by omega]
theorem bufL_get {l : List UInt8} (_h : l.length ≤ 65) (j : Nat) (_hj : j < l.length) : (bufL l)[65 - l.length + j]? = l[j]? := by
  unfold bufL
  rw [List.getElem?_append_right (by simp)]
  congr 1
  simp
theorem rows_set_byte (l : List UInt8) (k : Nat) (c : UInt8) : rows byteC (l.set k c) = (rows byteC l).set k (.int .u8 (c.toNat : Nat)) := by
  induction l generalizing k with
  | nil => rfl
  | cons x r ih =>
    cases k with
    | zero => rfl
    | succ k => show byteC x ++ rows byteC (r.set k c) = ((.int .u8 (x.toNat : Nat)) :: rows byteC r).set (k + 1) _; rw [ih]; rfl
theorem rows_get_byte (l : List UInt8) (k : Nat) : (rows byteC l)[k]? = (l[k]?).map (fun c => Value.int .u8 (c.toNat : Nat)) := by
  induction l generalizing k with
  | nil => rfl
  | cons x r ih =>
    cases k with
    | zero => rfl
    | succ k => show ((.int .u8 (x.toNat : Nat)) :: rows byteC r)[k + 1]? = _; simpa using ih k
def dig36 : List UInt8 := [48, 49, 50, 51, 52, 53, 54, 55, 56, 57, 97, 98, 99, 100, 101, 102, 103, 104, 105, 106, 107, 108, 109, 110, 111, 112, 113, 114, 115, 116, 117, 118, 119, 120, 121, 122]
theorem dig36_at (r : Fin 16) : dig36[r.1]? = some (hexD r.1) := by revert r; decide +kernel
theorem hexD_at {r : Nat} (h : r < 16) (hk : r < (S dig36).size) : (S dig36)[r]'hk = hexD r := S_get (dig36_at ⟨r, h⟩) hk
theorem hexD_lit {r : Nat} (h : r < 16) (hk : r < (⟨#[48, 49, 50, 51, 52, 53, 54, 55, 56, 57, 97, 98, 99, 100, 101, 102, 103, 104, 105, 106, 107, 108, 109, 110, 111, 112, 113, 114, 115, 116, 117, 118, 119, 120, 121, 122]⟩ : ByteArray).size) : (⟨#[48, 49, 50, 51, 52, 53, 54, 55, 56, 57, 97, 98, 99, 100, 101, 102, 103, 104, 105, 106, 107, 108, 109, 110, 111, 112, 113, 114, 115, 116, 117, 118, 119, 120, 121, 122]⟩ : ByteArray)[r]'hk = hexD r := hexD_at h hk
theorem hexL_small {u : Nat} (h : u < 16) : hexL u = [hexD u] := by unfold hexL; rw [Nat.div_eq_of_lt h, hexP_zero, Nat.mod_eq_of_lt h]; rfl
theorem pow16_le {k n u : Nat} (h : u * 16 ^ k ≤ n) (hu : 16 ≤ u) (hn : n < 9223372036854775808) : k ≤ 14 := by
  rcases Nat.lt_or_ge 14 k with hk | hk
  · have h1 : (16 : Nat) ^ 15 ≤ 16 ^ k := Nat.pow_le_pow_right (by omega) hk
    have h2 : 16 * 16 ^ k ≤ u * 16 ^ k := Nat.mul_le_mul_right _ hu
    have h3 : (16 : Nat) ^ 15 = 1152921504606846976 := by decide
    omega
  · omega
theorem and15 (n : Nat) (h : n < 9223372036854775808) : bits BinOp.and IntKind.u64 (n : Int) 15 = ((n % 16 : Nat) : Int) := by
  have h1 : (BitVec.ofInt 64 (n : Int)).toNat = n := by
    rw [BitVec.ofInt_natCast, BitVec.toNat_ofNat, Nat.mod_eq_of_lt (by omega)]
  unfold bits
  show IntKind.u64.wrap (((BitVec.ofInt 64 (n : Int) &&& BitVec.ofInt 64 15).toNat : Nat) : Int) = _
  rw [BitVec.toNat_and, h1, show (BitVec.ofInt 64 15).toNat = 2 ^ 4 - 1 by decide, Nat.and_two_pow_sub_one_eq_mod]
  exact IntWalk.u64_in _ (by omega)
set_option maxRecDepth 100000 in
set_option maxHeartbeats 2000000 in
theorem fmt_bits16 (n : Nat) (hn : n < 9223372036854775808) (w : World) (h64 : P64 w) :
    Calls Tryz.prog 99 #[.slice none 0 0, .int .u64 (n : Nat), .int .i64 16, .bool false, .bool false] w fun e w' => e = .returned (.tuple #[.slice none 0 0, .string (S (hexL n))]) ∧ Keep [] w w' := by
  have HT := Lib.hid (fun w' (k : Keep [] w w') => bits_TZ w' (h64.keep0 k))
  have HI := Lib.hid (fun w' => is_pow16 w')
  have hz : Tryz.zeroCells143.toList = rows byteC (bufL []) := by kernel_rfl
  have hb0 := Blk.newA w Tryz.zeroCells143 143
  rw [hz] at hb0
  have hk0 := (Keep.refl [] w).alloc (.cells Tryz.zeroCells143 143)
  have HB0 := Lib.hid hb0
  have HK0 := Lib.hid hk0
  clear h64 hz hb0 hk0
  go_enter Tryz.func99, Tryz.ntmps99
  go_wp2_with fail
  refine (HI.out _).mono ?_
  rintro e w1 ⟨rfl, rfl⟩
  go_wp2_with fail
  refine (HT.out _ HK0.out).mono ?_
  rintro e w1 ⟨rfl, rfl⟩
  go_wp2_with fail
  generalize hwA : w.alloc (.cells Tryz.zeroCells143 143) = wA at *
  try rw [hwA]
  generalize hnb : w.heap.size = nb at *
  have hnbge : w.heap.size ≤ nb := by omega
  clear hwA hnb HT HI
  go_loopg [13, 1] n (fun g iv uv wr => ∃ (u : Nat) (T : List UInt8), iv = .int .i64 ((65 - T.length : Nat) : Int) ∧ uv = .int .u64 (u : Nat) ∧ g = u ∧ T.length ≤ 15 ∧ u < 9223372036854775808 ∧ Hid (u * 16 ^ T.length ≤ n ∧ (hexL n = hexL u ++ T)) ∧ Hid (Blk wr nb 143 (rows byteC (bufL T))) ∧ Hid (Keep [] w wr))
  case atStart => exact ⟨n, [], rfl, rfl, rfl, by simp, hn, Lib.hid ⟨by simp, by simp⟩, HB0, HK0⟩
  case round =>
    obtain ⟨u, T, rfl, rfl, hg, hT, hu, HE, HB, HK⟩ := hrel
    have hlB := bufL_len (l := T) (by omega)
    have hidx : ((65 - T.length : Nat) : Int) - 1 = ((64 - T.length : Nat) : Int) := by omega
    have hwi := IntWalk.i64_in ((64 - T.length : Nat) : Int) (by omega)
    have hi0 : (0 : Int) ≤ ((64 - T.length : Nat) : Int) := by omega
    have hi1 : ((64 - T.length : Nat) : Int) < 65 := by omega
    obtain ⟨old, hold⟩ : ∃ x, (rows byteC (bufL T))[64 - T.length]? = some x := by
      rw [rows_get_byte, List.getElem?_eq_getElem (by rw [hlB]; omega)]
      exact ⟨_, rfl⟩
    have hcell := HB.out.get hold
    have hfrz := HB.out.frozen (64 - T.length)
    by_cases h16 : 16 ≤ u
    · have h16' : decide ((u : Int) ≥ 16) = true := by simp; omega
      have hand := and15 u hu
      have hdv : (u : Int) / 16 = ((u / 16 : Nat) : Int) := by omega
      have hk14 := pow16_le HE.out.1 h16 hn
      have hq0 : 0 < u / 16 := by omega
      have hE2 : u / 16 * 16 ^ (T.length + 1) ≤ n ∧ hexL n = hexL (u / 16) ++ (hexD (u % 16) :: T) := by
        refine ⟨?_, ?_⟩
        · have h1 : u / 16 * 16 ^ (T.length + 1) = (u / 16 * 16) * 16 ^ T.length := by rw [Nat.pow_succ, Nat.mul_comm (16 ^ T.length) 16, Nat.mul_assoc]
          rw [h1]
          exact Nat.le_trans (Nat.mul_le_mul_right _ (Nat.div_mul_le_self u 16)) HE.out.1
        · rw [HE.out.2, ← hexL_pos hq0]
          unfold hexL
          simp
      have HE2 := Lib.hid hE2
      have hr : u % 16 < 16 := Nat.mod_lt _ (by omega)
      have hqu : u / 16 < u := Nat.div_lt_self (by omega) (by omega)
      have hlit := fun hk => hexD_lit hr hk
      have hB2 := HB.out.set (64 - T.length) (.int .u8 ((hexD (u % 16)).toNat : Nat))
      rw [← rows_set_byte, bufL_set (by omega)] at hB2
      have HB2 := Lib.hid hB2
      clear hE2 hB2 HE hold hlB
      generalize u % 16 = r at *
      generalize u / 16 = q at *
      generalize hexD r = dg at *
      have hr0 : (0 : Int) ≤ (r : Int) := by omega
      have hr1 : (r : Int) < 36 := by omega
      go_wp2_with fail
      go_roundg q
      case measure => omega
      case rel => exact ⟨q, dg :: T, by simp, rfl, rfl, by simp; omega, by omega, HE2, HB2, HK.out.setCell _ _ (fun hh => absurd hh (Nat.not_lt.2 hnbge))⟩
    · have h16' : decide ((u : Int) ≥ 16) = false := by simp; omega
      have hE2 : hexL n = hexD u :: T := by rw [HE.out.2, hexL_small (by omega)]; rfl
      have hlit := fun hk => hexD_lit (r := u) (by omega) hk
      have hB2 := HB.out.set (64 - T.length) (.int .u8 ((hexD u).toNat : Nat))
      rw [← rows_set_byte, bufL_set (by omega), ← hE2] at hB2
      have hlen : (hexL n).length = T.length + 1 := by rw [hE2]; simp
      have HB2 := Lib.hid hB2
      have hr0 : (0 : Int) ≤ (u : Int) := by omega
      have hr1 : (u : Int) < 36 := by omega
      have hal : Tryz.prog.arrayLen 143 = 65 := by kernel_rfl
      have hsl : ∀ W, (Instr.sliceAt 143 (.pointer (some ⟨nb, 0, none⟩)) (some (.int .i64 ((64 - T.length : Nat) : Int))) none none).run Tryz.prog W = .ok (.slice (some ⟨nb, 64 - T.length, none⟩) (hexL n).length (hexL n).length) W := by
        intro W
        rw [run_sliceAt_array_l W 143 ⟨nb, 0, none⟩ (by kernel_rfl) .i64 _ hi0 (by rw [hal]; omega)]
        have hso : (sizeOf (Tryz.prog.elem 143)).run Tryz.prog W = .ok 1 W := by
          obtain ⟨i, hi, _, h1, _⟩ := u8_info
          rw [show Tryz.prog.elem 143 = 5 from by kernel_rfl]
          simp [sizeOf, typeInfo, hi, h1]
        have h1 : ∀ j, (⟨nb, 0, none⟩ : Addr).add j = ⟨nb, j, none⟩ := fun j => by unfold Addr.add; split <;> simp_all
        rw [hso, hal]
        simp only [Result.andThen, slicedAt, Int.toNat_natCast, Nat.mul_one, h1]
        rw [if_neg (by omega), show 65 - (64 - T.length) = (hexL n).length by omega]
      have hcv := run_convert_bytes_back (P := Tryz.prog) (wr.setCell ⟨nb, 64 - T.length, none⟩ (.int .u8 ((hexD u).toNat : Nat))) 75 9 5 ⟨nb, 64 - T.length, none⟩ (hexL n).length (hexL n) Tryz.underlying75 Tryz.underlying5 Tryz.underlying9 (fun j hj => by
        have h1 : (⟨nb, 64 - T.length, none⟩ : Addr).add j = ⟨nb, 64 - T.length + j, none⟩ := by unfold Addr.add; split <;> simp_all
        rw [h1, HB2.out.cell, rows_get_byte, show 64 - T.length + j = 65 - (hexL n).length + j by omega, bufL_get (by omega) j hj, List.getElem?_eq_getElem hj]
        rfl)
      clear hE2 hB2 HE hold hlB hal hlen
      generalize hres : hexL n = res at *
      generalize hexD u = dg at *
      go_wp2_with fail
      go_ret2
      exact ⟨by first | rfl | (rw [hres]; rfl), HK.out.setCell _ _ (fun hh => absurd hh (Nat.not_lt.2 hnbge))⟩

set_option maxRecDepth 100000 in
set_option maxHeartbeats 1000000 in
theorem fmt_int16 (n : Nat) (hn : n < 9223372036854775808) (w : World) (h64 : P64 w) :
    Calls Tryz.prog 80 #[.int .i64 (n : Nat), .int .i64 16] w fun e w' => e = .returned (.string (S (hexL n))) ∧ Keep [] w w' := by
  have H := Lib.hid (fmt_bits16 n hn w h64)
  have w1 := IntWalk.u64_in (n : Int) (by omega)
  have h0 : decide ((n : Int) < 0) = false := by simp
  clear h64
  go_enter Tryz.func80, Tryz.ntmps80
  go_wp2_with fail
  refine H.out.mono ?_
  rintro e w1 ⟨rfl, k1⟩
  go_wp2_with fail
  go_ret
  exact ⟨rfl, k1⟩
set_option maxHeartbeats 1000000 in
theorem fmt_int (n : Nat) (hn : n < 9223372036854775808) (w : World) (h64 : P64 w) :
    Calls Tryz.prog 63 #[.int .i64 (n : Nat), .int .i64 16] w fun e w' => e = .returned (.string (S (hexL n))) ∧ Keep [] w w' := by
  have H := Lib.hid (fmt_int16 n hn w h64)
  clear h64
  go_enter Tryz.func63, Tryz.ntmps63
  go_wp2_with fail
  refine H.out.mono ?_
  rintro e w1 ⟨rfl, k1⟩
  go_wp2_with fail
  go_ret
  exact ⟨rfl, k1⟩
set_option maxHeartbeats 1000000 in
theorem hexa_Hexnum (n : Nat) (hn : (n : Int) ≤ 9223372036854775807) (w : World) (h64 : P64 w) :
    Calls Tryz.prog 38 #[.int .i64 (n : Nat)] w fun e w' => e = .returned (.string (S (hexL n))) ∧ Keep [] w w' := by
  have H := Lib.hid (fmt_int n (by omega) w h64)
  have hmx : max (n : Int) 0 = (n : Int) := by omega
  clear h64
  go_enter Tryz.func38, Tryz.ntmps38
  go_wp2_with fail
  refine H.out.mono ?_
  rintro e w1 ⟨rfl, k1⟩
  go_wp2_with fail
  go_ret
  exact ⟨rfl, k1⟩
end Go.Proofs.YtdmffbefppjllaaGreatDoor

/- Layer 11: Write; the document's Write. No conditions but on lengths and the library's table. -/
namespace Go.Proofs.YtdmffbefppjllaaGreatDoor
open Go.RowKit Go.Shelf

theorem wr_step (k : Nat) {t : List UInt8} (h0 : t ≠ []) {n : Nat} (hn : min (k + 1) t.length = n) : wrL k t = (hexL n ++ [13, 10] ++ t.take n ++ [13, 10]) ++ wrL k (t.drop n) := by
  rw [wrL_cons k h0, hn]
  have e1 : t.take (k + 1) = t.take n := by
    rcases Nat.le_total (k + 1) t.length with h | h
    · rw [← hn, Nat.min_eq_left h]
    · rw [← hn, Nat.min_eq_right h, List.take_of_length_le h, List.take_length]
  have e2 : t.drop (k + 1) = t.drop n := by
    rcases Nat.le_total (k + 1) t.length with h | h
    · rw [← hn, Nat.min_eq_left h]
    · rw [← hn, Nat.min_eq_right h, List.drop_eq_nil_of_le h, List.drop_length]
  rw [e1, e2]
  simp [crlfC]
set_option maxRecDepth 100000 in
set_option maxHeartbeats 4000000 in
theorem chunk_Write (s : List UInt8) (by' : Int) (k : Nat) (w : World) (h64 : P64 w) (hs : s.length ≤ 65536) (hk : max by' 1 = ((k + 1 : Nat) : Int)) :
    Calls Tryz.prog 22 #[.string (S s), .int .i64 by'] w fun e w' => e = .returned (.string (S (wrL k s ++ endC))) ∧ Keep [] w w' := by
  have HN := Lib.hid (bld_new (Keep.refl [] w))
  have H64 := Lib.hid h64
  obtain ⟨K, hK⟩ : ∃ K, k + 1 = K := ⟨_, rfl⟩
  rw [hK] at hk
  have HWL := Lib.hid (wrL_len k s.length s (Nat.le_refl _) (by omega))
  go_enter Tryz.func22, Tryz.ntmps22
  go_wp2_with fail
  generalize hwA : w.alloc (.cells #[.pointer none, .slice none 0 0] 77) = wA at *
  clear hwA
  generalize hnb : w.heap.size = nb at *
  clear hnb
  go_loopg [0] s.length (fun g v wr => ∃ t out : List UInt8, v = .string (S t) ∧ g = t.length ∧ t.length ≤ s.length ∧ Hid (Bld w wr nb out) ∧ Hid (out ++ wrL k t = wrL k s))
  case atStart => exact ⟨s, [], rfl, rfl, Nat.le_refl _, HN, Lib.hid rfl⟩
  case round =>
    obtain ⟨t, out, rfl, hg, hts, HB, HE⟩ := hrel
    have s1 := S_size t
    have s2 := S_toList t
    have hol : out.length ≤ 1376256 := by
      have e := congrArg List.length HE.out
      rw [List.length_append] at e
      have := HWL.out
      omega
    by_cases h0 : t = []
    · have HF := Lib.hid (show out = wrL k s by have e := HE.out; rw [h0, wrL_nil, List.append_nil] at e; exact e)
      have hem : t.isEmpty = true := by rw [h0]; rfl
      have c1 : S out ++ (⟨#[48]⟩ : ByteArray) = S (out ++ [48]) := S_append out [48]
      have c2 : S (out ++ [48]) ++ (⟨#[13, 10]⟩ : ByteArray) = S (out ++ [48] ++ [13, 10]) := S_append _ [13, 10]
      have c3 : S (out ++ [48] ++ [13, 10]) ++ (⟨#[13, 10]⟩ : ByteArray) = S (out ++ endC) := by rw [show (⟨#[13, 10]⟩ : ByteArray) = S [13, 10] from rfl, S_append]; simp [endC]
      have z1 := S_size out
      have l1 : (out ++ [48]).length = out.length + 1 := by simp
      have l2 : (out ++ [48] ++ [13, 10]).length = out.length + 3 := by simp
      generalize out ++ [48] ++ [13, 10] = o2 at *
      generalize out ++ [48] = o1 at *
      have z2 := S_size o1
      have z3 := S_size o2
      have HS := Lib.hid (bld_string HB.out)
      clear h0 hk HE
      go_wp2_with fail
      refine HS.out.mono ?_
      rintro e w1 ⟨rfl, k1⟩
      have K1 := Lib.hid k1
      clear k1
      go_wp2_with fail
      go_ret
      rw [← HF.out]
      exact ⟨rfl, K1.out⟩
    · have hem : t.isEmpty = false := by cases t with | nil => exact absurd rfl h0 | cons => rfl
      have hlp := len_pos h0
      obtain ⟨n, hn⟩ : ∃ n : Nat, min K t.length = n := ⟨_, rfl⟩
      have hst := wr_step k h0 (n := n) (by rw [hK]; exact hn)
      have hn1 : 0 < n := by omega
      have hn2 : n ≤ t.length := by omega
      have hmin : min ((K : Nat) : Int) ((t.length : Nat) : Int) = ((n : Nat) : Int) := by omega
      have HH := Lib.hid (fun w1 (k1 : Keep [] wr w1) => hexa_Hexnum n (by omega) w1 (H64.out.keep0 (HB.out.kept.trans k1)))
      have x1 : (S t).extract 0 n = S (t.take n) := by rw [S_extract, List.drop_zero]
      have x2 : (S t).extract n t.length = S (t.drop n) := by rw [S_extract, List.take_length]
      have i1 : (n : Int) ≤ (t.length : Int) := by omega
      have i0 : (0 : Int) ≤ (n : Int) := by omega
      have c1 : S (hexL n) ++ (⟨#[13, 10]⟩ : ByteArray) = S (hexL n ++ [13, 10]) := S_append _ [13, 10]
      have c2 : S (hexL n ++ [13, 10]) ++ S (t.take n) = S (hexL n ++ [13, 10] ++ t.take n) := S_append _ _
      have c3 : S (hexL n ++ [13, 10] ++ t.take n) ++ (⟨#[13, 10]⟩ : ByteArray) = S (hexL n ++ [13, 10] ++ t.take n ++ [13, 10]) := S_append _ [13, 10]
      have hxl := hexL_len (n := n) (by omega)
      have htl : (t.take n).length = n := by rw [List.length_take]; omega
      have l1 : (hexL n ++ [13, 10]).length = (hexL n).length + 2 := by simp
      have l2 : (hexL n ++ [13, 10] ++ t.take n).length = (hexL n).length + 2 + n := by simp [htl]; omega
      have l3 : (hexL n ++ [13, 10] ++ t.take n ++ [13, 10]).length = (hexL n).length + 4 + n := by simp [htl]; omega
      have HE2 := Lib.hid (show (out ++ (hexL n ++ [13, 10] ++ t.take n ++ [13, 10])) ++ wrL k (t.drop n) = wrL k s by rw [List.append_assoc, ← hst]; exact HE.out)
      have htd : (t.drop n).length = t.length - n := List.length_drop
      have hdl : (t.drop n).length < t.length := by omega
      clear hst h0 HE
      generalize hexL n ++ [13, 10] ++ t.take n ++ [13, 10] = p3 at *
      generalize hexL n ++ [13, 10] ++ t.take n = p2 at *
      generalize hexL n ++ [13, 10] = p1 at *
      generalize hexL n = p0 at *
      have z0 := S_size p0
      have z1 := S_size p1
      have z2 := S_size p2
      have z4 := S_size (t.take n)
      have HW := Lib.hid (fun w1 (k1 : Keep [] wr w1) => bld_write (HB.out.keep0 k1) p3 (by omega))
      go_upto_region 4 with fail
      go_cut [] (fun wx => Hid (Bld w wx nb (out ++ p3)))
      case first =>
        clear hk hmin HB H64
        go_region_with (first
          | (go_at_call 38; refine (HH.out _ (by repeat (first | exact Keep.refl _ _ | apply Keep.drew))).mono ?_; rintro e w2 ⟨rfl, k2⟩; have K2 := Lib.hid (show Keep [] wr w2 from Keep.trans (by repeat (first | exact Keep.refl _ _ | apply Keep.drew)) k2); clear k2)
          | (go_at_call 37; refine (HW.out _ (by repeat (first | exact K2.out | apply Keep.drew))).mono ?_; rintro e w3 ⟨rfl, hb'⟩; have HX := Lib.hid hb'; clear hb')
          | fail)
        all_goals
          go_wp2_with fail
          go_meet
          first | exact HX | exact Lib.hid (HX.out.keep0 (by repeat (first | exact Keep.refl _ _ | apply Keep.drew)))
      case rest =>
        have HC := hcut
        clear hcut HW HH HB
        go_wp2_with fail
        go_roundg (t.drop n).length
        case measure => omega
        case rel => exact ⟨t.drop n, out ++ p3, rfl, rfl, by omega, HC, HE2⟩
end Go.Proofs.YtdmffbefppjllaaGreatDoor

/- Layer 14: the statement ReplyBack. No conditions. -/
namespace Go.Proofs.YtdmffbefppjllaaGreatDoor
open Go.RowKit Go.Shelf

/-- the response was read as it was -/
def BkS (w0 : World) (p xb n : Nat) (wx : World) : Prop := ∃ X P v len ch cl, Rp w0 wx p X P n [xb] ∧ reRest P = [] ∧ Blk wx xb 47 (ansC 200 v len ch cl)
set_option maxRecDepth 100000 in
set_option maxHeartbeats 16000000 in
theorem replyBack_walk (body : List UInt8) (how by' cut : Int) (w : World) (hm : ML w) (h10 : P10 w) (h64 : P64 w) (hs : body.length ≤ maxLen) (_ : in64 how) (_ : in64 by') (_ : in64 cut) :
    Calls Tryz.prog 5 #[.string (S body), .int .i64 how, .int .i64 by', .int .i64 cut] w fun e w' => e = .returned (.bool true) ∧ Keep [] w w' := by
  have hs' : body.length ≤ 9223372036854775807 := hs
  have s0 := S_size body
  have HAw := Lib.hid (reply_awake w hm)
  have HM := Lib.hid hm
  by_cases hl : 2048 < body.length
  · have q : decide ((body.length : Int) > 2048) = true := by simp; omega
    clear hl hm h10 h64
    go_enter Tryz.func5, Tryz.ntmps5
    go_wp2_with fail
    refine HAw.out.mono ?_
    rintro e w1 ⟨rfl, k1⟩
    have K1 := Lib.hid k1
    clear k1
    go_wp2_with fail
    go_ret
    exact ⟨rfl, K1.out⟩
  have q : decide ((body.length : Int) > 2048) = false := by simp; omega
  have hl2 : body.length ≤ 2048 := by omega
  obtain ⟨h, hh3, eh⟩ := u64_mod how 3 (by omega)
  obtain ⟨b, hb3, eb⟩ := u64_mod by' 300 (by omega)
  replace eh : (IntKind.u64.wrap how).tmod 3 = (h : Int) := eh
  replace eb : (IntKind.u64.wrap by').tmod 300 = (b : Int) := eb
  have hd4 := dec_len4 (show body.length < 10000 by omega)
  have hbt0 : (bodyT (clL body.length)).length ≤ 3000 := by
    show ((nCL ++ [58, 32] ++ Lib.decDigits body.length) ++ [13, 10] ++ []).length ≤ 3000
    simp only [List.length_append, List.length_cons, List.length_nil]
    have : nCL.length = 14 := by decide
    omega
  have hE0 := ans_good (c := 200) (L := clL body.length) (by omega) (by omega) (by simp [clL]) (cl_good _) hbt0
  have hE1 := ans_good (c := 200) (L := teL) (by omega) (by omega) (by decide) (by decide +kernel) (by decide +kernel)
  have hE2 := ans_good (c := 200) (L := []) (by omega) (by omega) (by decide) (by simp) (by decide)
  have hH0 := head_of hE0 (by omega) (by omega)
  have hH1 := head_of hE1 (by omega) (by omega)
  have hH2 := head_of hE2 (by omega) (by omega)
  have hA0 : ∀ w', Keep [] w w' → _ := fun w' (k : Keep [] w w') => outlet_Answer ((200 : Nat) : Int) _ (clL body.length) _ ⟨by omega, by omega⟩ (h10.keep0 (k.alloc (.cells #[.string (S nCL), .string (S (Lib.decDigits body.length))] 26))) (one_field w' ⟨nCL, Lib.decDigits body.length⟩) (by
    intro _ x hx
    have h9 : x = ⟨nCL, Lib.decDigits body.length⟩ := by simpa [clL] using hx
    rw [h9]
    have : nCL.length = 14 := by decide
    show nCL.length + (Lib.decDigits body.length).length ≤ _
    omega)
  have hA1 := fun w' (k : Keep [] w w') => outlet_Answer ((200 : Nat) : Int) _ teL _ ⟨by omega, by omega⟩ (h10.keep0 (k.alloc (.cells #[.string (S nTE), .string (S nChunked)] 26))) (one_field w' ⟨nTE, nChunked⟩) (by
    intro _ x hx
    have h9 : x = ⟨nTE, nChunked⟩ := by simpa [teL] using hx
    rw [h9]
    decide)
  have hA2 := fun w' (k : Keep [] w w') => outlet_Answer ((200 : Nat) : Int) (.slice Option.none 0 0) [] w' ⟨by omega, by omega⟩ (h10.keep0 k) (.inl ⟨Option.none, 0, rfl, by omega, rfl⟩) (by intro _ x hx; cases hx)
  have hW1 := fun w' (k : Keep [] w w') => chunk_Write body (1 + (b : Int)) b w' (h64.keep0 k) (by omega) (by omega)
  rw [hE0] at hA0
  rw [hE1] at hA1
  rw [hE2] at hA2
  unfold fin at hA0 hA1 hA2
  have hB0 := back_0 body (by omega) hH0
  have hB1 := back_1 b body (by omega) hH1
  have hB2 := back_2 body (by omega) hH2
  -- what is written
  obtain ⟨s, t, hst, hbk, hsl⟩ : ∃ s t, (h = 0 ∧ s = ansS ((200 : Nat) : Int) (clL body.length) ∧ t = body ∨ h = 1 ∧ s = ansS ((200 : Nat) : Int) teL ∧ t = wrT b body ∨ h = 2 ∧ s = ansS ((200 : Nat) : Int) [] ∧ t = body) ∧ BackOf h s t body ∧ (2 ≤ s.length ∧ s.length ≤ 4096) := by
    rcases (show h = 0 ∨ h = 1 ∨ h = 2 by omega) with rfl | rfl | rfl
    · exact ⟨_, _, .inl ⟨rfl, rfl, rfl⟩, hB0, hH0.len.2, hH0.len.1⟩
    · exact ⟨_, _, .inr (.inl ⟨rfl, rfl, rfl⟩), hB1, hH1.len.2, hH1.len.1⟩
    · exact ⟨_, _, .inr (.inr ⟨rfl, rfl, rfl⟩), hB2, hH2.len.2, hH2.len.1⟩
  have htl : t.length ≤ 43100 := by
    rcases hst with ⟨_, _, rfl⟩ | ⟨_, _, rfl⟩ | ⟨_, _, rfl⟩
    · omega
    · have := wrT_len b body (by omega); omega
    · omega
  have HSz := Lib.hid (fun w' => law14_size body.length (by omega) w')
  have HA0 := Lib.hid hA0
  have HA1 := Lib.hid hA1
  have HA2 := Lib.hid hA2
  have HW1 := Lib.hid hW1
  have HBK := Lib.hid hbk
  have HST := Lib.hid hst
  have ss := S_size s
  have st := S_size t
  clear hl hm h10 h64 hd4 hbt0 hE0 hE1 hE2 hH0 hH1 hH2 hA0 hA1 hA2 hW1 hB0 hB1 hB2 hst hbk
  go_enter Tryz.func5, Tryz.ntmps5
  go_wp2_with fail
  refine HAw.out.mono ?_
  rintro e w1 ⟨rfl, k1⟩
  have K1 := Lib.hid k1
  clear k1 HAw
  go_upto_block 0 with fail
  go_cut [9, 10, 11] (fun sv tv ev wx => sv = .string (S s) ∧ tv = .string (S t) ∧ ev = .int .i64 0 ∧ Hid (Keep [] w wx))
  case first =>
    rcases HST.out with ⟨e0, e1, e2⟩ | ⟨e0, e1, e2⟩ | ⟨e0, e1, e2⟩
    · subst e0 e1 e2
      go_wp2_with fail
      refine (HSz.out _).mono ?_
      rintro e w2 ⟨rfl, rfl⟩
      go_wp2_with fail
      refine (HA0.out _ K1.out).mono ?_
      rintro e w3 ⟨rfl, k3⟩
      have K3 := Lib.hid ((K1.out.alloc _).trans k3)
      clear k3
      go_wp2_with fail
      go_meet
      exact ⟨rfl, rfl, rfl, K3⟩
    · subst e0 e1 e2
      go_wp2_with fail
      refine (HA1.out _ K1.out).mono ?_
      rintro e w3 ⟨rfl, k3⟩
      have K3 := Lib.hid ((K1.out.alloc _).trans k3)
      clear k3
      go_wp2_with fail
      refine (HW1.out _ K3.out).mono ?_
      rintro e w4 ⟨rfl, k4⟩
      have K4 := Lib.hid (K3.out.trans k4)
      clear k4
      go_wp2_with fail
      go_meet
      exact ⟨rfl, rfl, rfl, K4⟩
    · subst e0 e1 e2
      go_wp2_with fail
      refine (HA2.out _ K1.out).mono ?_
      rintro e w3 ⟨rfl, k3⟩
      have K3 := Lib.hid (K1.out.trans k3)
      clear k3
      go_wp2_with fail
      go_meet
      exact ⟨rfl, rfl, rfl, K3⟩
  case rest =>
  obtain ⟨rfl, rfl, rfl, K3⟩ := hcut
  clear HST HA0 HA1 HA2 HW1 HSz K1
  by_cases hg : 16384 < s.length + t.length
  · have q2 : decide ((s.length : Int) + (t.length : Int) > 16384) = true := by simp; omega
    clear hg
    go_wp2_with fail
    go_ret
    exact ⟨rfl, K3.out⟩
  have q2 : decide ((s.length : Int) + (t.length : Int) > 16384) = false := by simp; omega
  have happ := S_append s t
  have hov : ¬ 9223372036854775807 < s.length + t.length := by omega
  have hlx : (s ++ t).length ≤ 16384 := by simp; omega
  have sst := S_size (s ++ t)
  have hmi := in64_len body (by omega)
  have HLX := Lib.hid hlx
  have HMI := Lib.hid hmi
  obtain ⟨P1, a1, k1, hf1, hf2, hf3, hf4⟩ := HBK.out.full
  have HN := Lib.hid (rp_new (w0 := w) false hmi K3.out [] (by simp))
  have HF := Lib.hid (And.intro hf1 (And.intro hf3 hf4))
  obtain ⟨sta, Fa, lena, cha, cla⟩ := a1
  dsimp only at hf2
  subst hf2
  have tb := S_toList body
  have tn := S_toList ([] : List UInt8)
  clear hlx hmi hf1 hf3 hf4
  go_wp2_with fail
  refine HN.out.mono ?_
  rintro e w4 ⟨pa, rfl, _, _, h4, k4⟩
  have HAd := Lib.hid (rp_addX (s ++ t) h4 (by omega) (by have := HLX.out; omega) (add_new (s ++ t) HLX.out))
  clear h4 k4 HN K3
  go_wp2_with fail
  refine HAd.out.mono ?_
  rintro e w5 ⟨rfl, h5, k5⟩
  have HCo := Lib.hid (reply_comeX h5 HM.out (by have := HLX.out; omega) HF.out.1)
  unfold CmOut at HCo
  dsimp only at HCo
  clear h5 k5 HAd
  go_wp2_with fail
  refine HCo.out.mono ?_
  rintro e w6 ⟨sa, sl, sc, Xa, rfl, h6, k6, _, _, _⟩
  have kA := (Keep.refl [] w6).alloc (.cells (ansC 200 (.slice sa sl sc) lena cha cla).toArray 47)
  have bA := Blk.newA w6 (ansC 200 (.slice sa sl sc) lena cha cla).toArray 47
  have hlA : w6.heap.size < (w6.alloc (.cells (ansC 200 (.slice sa sl sc) lena cha cla).toArray 47)).heap.size := by simp
  generalize hwA : w6.alloc (.cells (ansC 200 (.slice sa sl sc) lena cha cla).toArray 47) = u6 at kA bA hlA
  have bA : Blk u6 w6.heap.size 47 (ansC 200 (.slice sa sl sc) lena cha cla) := bA
  have H7 := Lib.hid (h6.add kA w6.heap.size (Nat.le_refl _) hlA)
  have BA := Lib.hid bA
  have HOx := Lib.hid (ansC_one 200 (v := .slice sa sl sc) lena cha cla rfl)
  obtain ⟨nn, hnn⟩ : ∃ nn, 0 + 2 * (s ++ t).length = nn := ⟨_, rfl⟩
  have hnn2 : nn ≤ 40000 := by have := HLX.out; omega
  rw [hnn] at H7
  clear h6 k6 kA bA hlA HCo hnn
  go_upto_if 91 with (first
      | (with_reducible (show wpList _ _ _ ((⟨none, .store _ (.tmp 13) (.tmp 85), _, _, _, none⟩ : Oper) :: _) _ _)
         refine wpList_store_fresh rfl 47 (.tmp 13) (.tmp 85) rfl _ (ansC 200 (.slice sa sl sc) lena cha cla) (by rfl) (by rfl) ans_size (by rfl) HOx.out ?_
         rw [hwA]
         try simp only [Act.put])
      | fail)
  clear hwA
  obtain ⟨xb, hxb⟩ : ∃ xb, w6.heap.size = xb := ⟨_, rfl⟩
  rw [hxb] at H7 BA ⊢
  go_cut [14, 15] (fun dv kv wx => dv = .string (S body) ∧ kv = .int .i64 3 ∧ Hid (BkS w pa xb nn wx))
  case first =>
    by_cases hh2 : h = 2
    · obtain ⟨e1, Q, e2, e3⟩ := HF.out.2.2 hh2
      subst e1
      have q3 : (((h : Nat) : Int) == 2) = true := by simp [hh2]
      have HSh := Lib.hid (rp_shut H7.out)
      have E2 := Lib.hid (And.intro e2 e3)
      have hap : S body ++ S [] = S body := by have := S_append body []; rwa [List.append_nil] at this
      have sn := S_size ([] : List UInt8)
      simp only [List.length_nil] at sn
      have hov2 : ¬ 9223372036854775807 < body.length + 0 := by omega
      clear hh2 e2 e3
      go_wp2_with fail
      refine HSh.out.mono ?_
      rintro e v1 ⟨rfl, g1, l1⟩
      have b1 := l1.blk BA.out (H7.out.ap xb (by simp)).1
      have HCo := Lib.hid (reply_comeX g1 HM.out (by omega) E2.out.1)
      unfold CmOut at HCo
      dsimp only at HCo
      have G1 := Lib.hid g1
      have B1 := Lib.hid b1
      clear g1 l1 b1 HSh
      go_wp2_with fail
      refine HCo.out.mono ?_
      rintro e v2 ⟨sb, sm, sn', Xb, rfl, g2, l2, _, _, _⟩
      have b2 := l2.blk B1.out (G1.out.ap xb (by simp)).1
      have kC := (Keep.refl [] v2).alloc (.cells (ansC ans0.st (.slice sb sm sn') ans0.len ans0.ch ans0.cl).toArray 47)
      generalize hwC : v2.alloc (.cells (ansC ans0.st (.slice sb sm sn') ans0.len ans0.ch ans0.cl).toArray 47) = u2 at kC
      have HOz := Lib.hid (ansC_one ans0.st (v := .slice sb sm sn') ans0.len ans0.ch ans0.cl rfl)
      have HX := Lib.hid (show BkS w pa xb nn u2 from ⟨Xb, Q, _, _, _, _, g2.keep0 kC, E2.out.2, kC.blk b2 (by simp)⟩)
      clear g2 l2 b2 kC HCo G1 B1
      go_wp2_with (first
            | (with_reducible (show wpList _ _ _ ((⟨none, .store _ (.tmp 16) (.tmp 99), _, _, _, none⟩ : Oper) :: _) _ _)
               refine wpList_store_fresh rfl 47 (.tmp 16) (.tmp 99) rfl _ (ansC ans0.st (.slice sb sm sn') ans0.len ans0.ch ans0.cl) (by rfl) (by rfl) ans_size (by rfl) HOz.out ?_
               rw [hwC]
               try simp only [Act.put])
            | fail)
      go_meet
      exact ⟨rfl, rfl, HX⟩
    · obtain ⟨e1, e2⟩ := HF.out.2.1 hh2
      subst e1
      have q3 : (((h : Nat) : Int) == 2) = false := by simp; omega
      have HX := Lib.hid (show BkS w pa xb nn u6 from ⟨Xa, P1, _, _, _, _, H7.out, e2, BA.out⟩)
      clear hh2 e2
      go_wp2_with fail
      go_meet
      exact ⟨rfl, rfl, HX⟩
  case rest =>
  obtain ⟨rfl, rfl, HX⟩ := hcut
  obtain ⟨X3, P3, v3, len3, ch3, cl3, h3, hre3, b3⟩ := HX.out
  have hRe := rp_rest h3
  rw [hre3] at hRe
  have HRe := Lib.hid hRe
  have x0 := b3.get (k := 0) (v := .int .i64 200) rfl
  have HN := Lib.hid (rp_new (w0 := w) false HMI.out h3.kp [] (by simp))
  obtain ⟨j, hj, ej⟩ := u64_mod cut (s.length + t.length) (by omega)
  replace ej : (IntKind.u64.wrap cut).tmod ((s.length : Int) + (t.length : Int)) = (j : Int) := by rw [← ej]; congr 1
  obtain ⟨P4, a4, d4, hc1, hc2, P5, k5, hc3, hc4⟩ := HBK.out.cut j hj
  have hx1 : (S (s ++ t)).extract 0 j = S ((s ++ t).take j) := by rw [S_extract, List.drop_zero]
  have hdl : d4.length ≤ body.length := hc2.length_le
  have hx2 : (S body).extract 0 d4.length = S d4 := by rw [S_extract, List.drop_zero, ← List.prefix_iff_eq_take.1 hc2]
  have td := S_toList d4
  have sd := S_size d4
  have hjl : ((s ++ t).take j).length ≤ 16384 := by rw [List.length_take]; have := HLX.out; omega
  have HCC := Lib.hid (And.intro hc1 (And.intro hc3 (And.intro hc4 hjl)))
  have q4 : decide ((d4.length : Int) > (body.length : Int)) = false := by simp; omega
  have q5 : decide ((j : Int) ≥ (s.length : Int)) = decide (s.length ≤ j) := by rw [decide_eq_decide]; omega
  have i0 : (0 : Int) ≤ (j : Int) := by omega
  have i1 : (j : Int) ≤ (s.length : Int) + (t.length : Int) := by omega
  have i2 : (j : Int) ≤ ((s ++ t).length : Int) := by simp; omega
  have i3 : (0 : Int) ≤ (d4.length : Int) := by omega
  have i4 : (d4.length : Int) ≤ (body.length : Int) := by omega
  clear h3 hre3 b3 hRe HX HF H7 BA HOx hc1 hc2 hc3 hc4 hjl hdl
  go_wp2_with fail
  refine HRe.out.mono ?_
  rintro e w7 ⟨rfl, rfl⟩
  go_wp2_with fail
  refine HN.out.mono ?_
  rintro e w8 ⟨qa, rfl, _, _, h8, k8⟩
  have HAd := Lib.hid (rp_addX ((s ++ t).take j) h8 (by omega) (by have := HCC.out.2.2.2; omega) (add_new _ HCC.out.2.2.2))
  clear h8 k8 HN HRe x0
  go_wp2_with fail
  refine HAd.out.mono ?_
  rintro e w9 ⟨rfl, h9, k9⟩
  have HCo := Lib.hid (reply_comeX h9 HM.out (by have := HCC.out.2.2.2; omega) HCC.out.1)
  unfold CmOut at HCo
  dsimp only at HCo
  clear h9 k9 HAd
  go_wp2_with fail
  refine HCo.out.mono ?_
  rintro e w10 ⟨sd1, se1, sf1, Xq, rfl, h11, k11, _, _, _⟩
  have kC := (Keep.refl [] w10).alloc (.cells (ansC a4.st (.slice sd1 se1 sf1) a4.len a4.ch a4.cl).toArray 47)
  generalize hwC : w10.alloc (.cells (ansC a4.st (.slice sd1 se1 sf1) a4.len a4.ch a4.cl).toArray 47) = u10 at kC
  have HOz := Lib.hid (ansC_one a4.st (v := .slice sd1 se1 sf1) a4.len a4.ch a4.cl rfl)
  have HSh := Lib.hid (rp_shut (h11.keep0 kC))
  clear h11 k11 kC HCo
  go_wp2_with (first
        | (with_reducible (show wpList _ _ _ ((⟨none, .store _ (.tmp 21) (.tmp 146), _, _, _, none⟩ : Oper) :: _) _ _)
           refine wpList_store_fresh rfl 47 (.tmp 21) (.tmp 146) rfl _ (ansC a4.st (.slice sd1 se1 sf1) a4.len a4.ch a4.cl) (by rfl) (by rfl) ans_size (by rfl) HOz.out ?_
           rw [hwC]
           try simp only [Act.put])
        | fail)
  refine HSh.out.mono ?_
  rintro e v1 ⟨rfl, g1, l1⟩
  have HCo := Lib.hid (reply_comeX g1 HM.out (by have := HCC.out.2.2.2; omega) HCC.out.2.1)
  unfold CmOut at HCo
  dsimp only at HCo
  clear g1 l1 HSh hwC
  go_wp2_with fail
  refine HCo.out.mono ?_
  rintro e v2 ⟨sb2, sm2, sn2, Xb2, rfl, g2, l2, _, _, _⟩
  have KF := Lib.hid g2.kp
  have hk5 := HCC.out.2.2.1
  clear g2 l2 HCo HCC
  rcases hk5 with hk5 | ⟨hh2, hk5, hjs⟩
  · subst hk5
    go_wp2_with fail
    go_ret
    exact ⟨rfl, KF.out⟩
  · subst hk5
    have q6 : (((h : Nat) : Int) == 2) = true := by simp [hh2]
    rw [decide_eq_true hjs] at q5
    have q7 : decide (s.length ≤ j) = true := decide_eq_true hjs
    clear hh2 hjs
    go_wp2_with fail
    go_ret
    exact ⟨rfl, KF.out⟩
end Go.Proofs.YtdmffbefppjllaaGreatDoor
