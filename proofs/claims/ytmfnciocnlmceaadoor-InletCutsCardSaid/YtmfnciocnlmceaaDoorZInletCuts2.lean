/- Parts of the proof of InletCuts, in order. No conditions but those that each theorem states. -/
import Derived.Test.YtmfnciocnlmceaaDoorZInletCuts1
import Derived.Deep.DeepHandedRow
import Derived.Test.YtmfnciocnlmceaaDoorShelf
import Derived.Lib.Builder
import Derived.Lib.AppendStr
/- Layer 10: the head: read, Split. No conditions but on lengths. -/
namespace Go.Proofs.YtmfnciocnlmceaaDoor
open Go.RowKit Go.Shelf

/-- what has been read: the start line, the fields, where it ends, the error -/
structure Rd where
  st : List UInt8
  F : List Fld
  n : Nat
  e : Int
  deriving Inhabited
def loopM (s st : List UInt8) : Nat → List Fld → Nat → Rd
  | 0, F, n => ⟨st, F, n, 17⟩
  | k + 1, F, n =>
    if (nextM s n).2.2 ≠ 0 then ⟨st, F, (nextM s n).2.1, (nextM s n).2.2⟩
    else if (nextM s n).1 = [] then ⟨st, F, (nextM s n).2.1, 0⟩
    else if (addM F (nextM s n).1).2 ≠ 0 then ⟨st, (addM F (nextM s n).1).1, (nextM s n).2.1, (addM F (nextM s n).1).2⟩
    else loopM s st k (addM F (nextM s n).1).1 (nextM s n).2.1
def readM (s : List UInt8) : Rd :=
  if (nextM s 0).2.2 ≠ 0 then ⟨[], [], (nextM s 0).2.1, (nextM s 0).2.2⟩
  else if beginE (nextM s 0).1 ≠ 0 then ⟨[], [], (nextM s 0).2.1, beginE (nextM s 0).1⟩
  else loopM s (nextM s 0).1 4097 [] (nextM s 0).2.1
def splitM (s : List UInt8) : Rd := if (readM s).e ≠ 0 then ⟨[], [], 0, (readM s).e⟩ else readM s

theorem lineM_length {l l' : List UInt8} (h : lineM l = some l') : l'.length ≤ l.length := by
  unfold lineM at h
  split at h
  · cases h
    unfold Lib.trimSuffix
    split <;> simp
  · cases h
theorem next_bounds {s : List UInt8} {n : Nat} (h1 : n ≤ s.length) (h2 : n ≤ 4096) : (nextM s n).2.1 ≤ s.length ∧ (nextM s n).2.1 ≤ 4096 ∧ ((nextM s n).2.2 = 0 → n < (nextM s n).2.1) ∧ (nextM s n).1.length ≤ s.length := by
  have hq : (seenM s n).length + n ≤ 4096 ∧ (seenM s n).length + n ≤ s.length := by unfold seenM; simp; omega
  obtain ⟨q1, q2⟩ := hq
  have hge := Lib.indexByte_ge (seenM s n) 10
  unfold nextM
  by_cases hi : Lib.indexByte (seenM s n) 10 < 0
  · rw [if_pos hi]
    refine ⟨h1, h2, ?_, by simp⟩
    dsimp only
    split <;> (intro h; cases h)
  · rw [if_neg hi]
    obtain ⟨o, ho⟩ : ∃ o : Nat, Lib.indexByte (seenM s n) 10 = o := ⟨(Lib.indexByte (seenM s n) 10).toNat, by omega⟩
    have hol := (List.getElem?_eq_some_iff.1 (Lib.indexByte_some ho).1).1
    rw [ho, Int.toNat_natCast]
    cases hl : lineM ((seenM s n).take (o + 1)) with
    | none => dsimp only; exact ⟨by omega, by omega, by omega, by simp⟩
    | some l =>
      have := lineM_length hl
      dsimp only
      exact ⟨by omega, by omega, by omega, by simp at this; omega⟩

set_option maxRecDepth 100000 in
set_option maxHeartbeats 1000000 in
theorem head_read (W : World) (hm : ML W) (s : List UInt8) (b : Nat) (w : World) (h : Hd W w b [] [] 0) (hs : s.length ≤ 1048576) :
    Calls Tryd.prog 50 #[.pointer (some ⟨b, 0, none⟩), .string (S s)] w fun e w' => e = .returned (.int .i64 (readM s).e) ∧ Hd W w' b (readM s).st (readM s).F (readM s).n := by
  have hN := head_next W s b [] [] 0 w h hs (Nat.zero_le _) (Nat.zero_le _)
  have hB := next_bounds (s := s) (n := 0) (Nat.zero_le _) (Nat.zero_le _)
  have hR : readM s = if (nextM s 0).2.2 ≠ 0 then ⟨[], [], (nextM s 0).2.1, (nextM s 0).2.2⟩
    else if beginE (nextM s 0).1 ≠ 0 then ⟨[], [], (nextM s 0).2.1, beginE (nextM s 0).1⟩
    else loopM s (nextM s 0).1 4097 [] (nextM s 0).2.1 := rfl
  generalize nextM s 0 = r at hN hB hR
  obtain ⟨l, n, e0⟩ := r
  dsimp only at hN hB hR
  obtain ⟨b1, b2, b3, b4⟩ := hB
  have HN := Lib.hid hN
  clear hN h
  by_cases he : e0 = 0
  · subst he
    rw [if_neg (by simp)] at hR
    have HG := Lib.hid (fun w1 (h : Hd W w1 b [] [] n) => head_begin W l b [] [] n w1 h (by omega))
    go_enter Tryd.func50, Tryd.ntmps50
    go_wp2_with fail
    refine HN.out.mono ?_
    rintro e w1 ⟨rfl, hd1⟩
    have H1 := Lib.hid hd1
    clear hd1
    go_wp2_with fail
    refine (HG.out _ H1.out).mono ?_
    rintro e w2 ⟨rfl, hd2⟩
    have hst : ∃ st2, Hid (Hd W w2 b st2 [] n) ∧ Hid (readM s = if beginE l ≠ 0 then ⟨st2, [], n, beginE l⟩ else loopM s st2 4097 [] n) := by
      by_cases hz : beginE l = 0
      · exact ⟨l, by rw [if_pos hz] at hd2; exact hd2, by rw [hR]; simp [hz, Hid]⟩
      · exact ⟨[], by rw [if_neg hz] at hd2; exact hd2, by rw [hR]; simp [hz, Hid]⟩
    obtain ⟨st2, H2, HR⟩ := hst
    clear hd2 hR
    generalize beginE l = e2 at HR
    go_wp2_with fail
    go_loopg [5, 6] (4097 - n) (fun g lv ev wr => ∃ (l' : List UInt8) (F : List Fld) (n' k : Nat) (e' : Int), lv = .string (S l') ∧ ev = .int .i64 e' ∧ n' ≤ s.length ∧ n' ≤ 4096 ∧ 4097 - n' ≤ k ∧ g = 4097 - n' ∧ Hid (Hd W wr b st2 F n') ∧
      Hid (readM s = if e' ≠ 0 then ⟨st2, F, n', e'⟩ else loopM s st2 k F n'))
    case atStart => exact ⟨l, [], n, 4097, e2, rfl, rfl, b1, b2, by omega, rfl, H2, HR⟩
    case round =>
      obtain ⟨l', F, n', k, e', rfl, rfl, c1, c2, c3, rfl, HD, HR2⟩ := hrel
      by_cases hz : e' = 0
      · subst hz
        obtain ⟨k', rfl⟩ : ∃ k', k = k' + 1 := ⟨k - 1, by omega⟩
        have hN2 := head_next W s b st2 F n' wr HD.out hs c1 c2
        have hB2 := next_bounds c1 c2
        have hR2 := HR2.out
        rw [if_neg (by simp), loopM] at hR2
        generalize nextM s n' = r2 at hN2 hB2 hR2
        obtain ⟨l2, n2, e3⟩ := r2
        dsimp only at hN2 hB2 hR2
        obtain ⟨p1, p2, p3, p4⟩ := hB2
        have HN2 := Lib.hid hN2
        have hte := S_toList l2
        clear hN2 HR HR2 H2 HG HN H1
        by_cases h3 : e3 = 0
        · subst h3
          have p5 := p3 rfl
          rw [if_neg (by simp)] at hR2
          by_cases hle : l2 = []
          · rw [if_pos hle] at hR2
            have HR3 := Lib.hid hR2
            subst hle
            have hq : (S []).toList = [] := S_toList []
            clear hR2 p3
            go_wp2_with fail
            refine HN2.out.mono ?_
            rintro e w3 ⟨rfl, hd3⟩
            have H3 := Lib.hid hd3
            clear hd3
            go_wp2_with fail
            go_ret
            rw [HR3.out]
            exact ⟨rfl, H3.out⟩
          · rw [if_neg hle] at hR2
            have hie : l2.isEmpty = false := by cases l2 <;> simp_all
            have HR3 := Lib.hid hR2
            have HA := Lib.hid (fun w1 (h : Hd W w1 b st2 F n2) => head_add W hm l2 b st2 F n2 w1 h (by omega))
            clear hR2 p3 hle
            go_wp2_with fail
            refine HN2.out.mono ?_
            rintro e w3 ⟨rfl, hd3⟩
            have H3 := Lib.hid hd3
            clear hd3
            go_wp2_with fail
            refine (HA.out _ H3.out).mono ?_
            rintro e w4 ⟨rfl, hd4⟩
            have H4 := Lib.hid hd4
            clear hd4
            go_wp2_with fail
            go_roundg (4097 - n2)
            case measure => omega
            case rel => exact ⟨l2, (addM F l2).1, n2, k', (addM F l2).2, rfl, rfl, p1, p2, by omega, rfl, H4, HR3⟩
        · rw [if_pos h3] at hR2
          have HR3 := Lib.hid hR2
          have hq1 : (e3 == 0) = false := by simpa using h3
          clear hR2 p3
          go_wp2_with fail
          refine HN2.out.mono ?_
          rintro e w3 ⟨rfl, hd3⟩
          have H3 := Lib.hid hd3
          clear hd3
          go_wp2_with fail
          go_ret
          rw [HR3.out]
          exact ⟨rfl, H3.out⟩
      · have hR2 := HR2.out
        rw [if_pos hz] at hR2
        have HR3 := Lib.hid hR2
        clear hR2 HR HR2 H2 HG HN H1
        go_wp2_with fail
        go_ret
        rw [HR3.out]
        exact ⟨rfl, HD.out⟩
  · rw [if_pos he] at hR
    have HR := Lib.hid hR
    clear hR b3
    go_enter Tryd.func50, Tryd.ntmps50
    go_wp2_with fail
    refine HN.out.mono ?_
    rintro e w1 ⟨rfl, hd1⟩
    have H1 := Lib.hid hd1
    clear hd1
    go_wp2_with fail
    go_loopg [5, 6] 1 (fun g lv ev wr => lv = .string (S l) ∧ ev = .int .i64 e0 ∧ wr = w1)
    case atStart => exact ⟨rfl, rfl, rfl⟩
    case round =>
      obtain ⟨rfl, rfl, rfl⟩ := hrel
      go_wp2_with fail
      go_ret
      rw [HR.out]
      exact ⟨rfl, H1.out⟩
end Go.Proofs.YtmfnciocnlmceaaDoor

/- Layer 10: Split. No conditions but on lengths. -/
namespace Go.Proofs.YtmfnciocnlmceaaDoor
open Go.RowKit Go.Shelf

theorem results_tmp4 {fn : Func} {t u v x : Tmp} (h : fn.results = #[.tmp t, .tmp u, .tmp v, .tmp x]) (tmps : Array Value) (P : Program) (w : World) :
    (results fn tmps).run P w = .ok (.tuple #[tmps.getD t undef, tmps.getD u undef, tmps.getD v undef, tmps.getD x undef]) w := by
  simp [results, h]
def SplitOut (w : World) (r : Rd) (e : Ending) (w' : World) : Prop := ∃ v, e = .returned (.tuple #[.string (S r.st), v, .int .i64 r.n, .int .i64 r.e]) ∧ Own Fld.cells 2 w.heap.size 26 w' v r.F ∧ Keep [] w w'
set_option maxRecDepth 100000 in
set_option maxHeartbeats 1000000 in
theorem field_Split (s : List UInt8) (w : World) (hm : ML w) (hs : s.length ≤ 1048576) :
    Calls Tryd.prog 21 #[.string (S s)] w (SplitOut w (splitM s)) := by
  have HR := Lib.hid (fun w1 (h : Hd w w1 w.heap.size [] [] 0) => head_read w hm s w.heap.size w1 h hs)
  have hH : Hd w (w.alloc (.cells #[.string ⟨#[]⟩, .slice none 0 0, .int .i64 0] 77)) w.heap.size [] [] 0 :=
    ⟨.slice none 0 0, Blk.newA w #[.string ⟨#[]⟩, .slice none 0 0, .int .i64 0] _, Own.nil _ _ _ _ _, by simp [Value.ownBlock], Nat.le_refl _, (Keep.refl _ _).alloc _⟩
  have HH := Lib.hid hH
  have hsp : splitM s = if (readM s).e ≠ 0 then ⟨[], [], 0, (readM s).e⟩ else readM s := rfl
  generalize readM s = r at HR hsp
  clear hH
  by_cases he : r.e = 0
  · rw [if_neg (by simpa using he)] at hsp
    have HS := Lib.hid hsp
    have HE := Lib.hid he
    rw [he] at HR
    clear hsp he
    go_enter Tryd.func21, Tryd.ntmps21
    go_wp2_with fail
    refine (HR.out _ HH.out).mono ?_
    rintro e w1 ⟨rfl, hd1⟩
    obtain ⟨fv, h1, h2, h3, h4, h5⟩ := hd1
    have c0 := h1.get (k := 0) rfl
    have c1 := h1.get (k := 1) rfl
    have c2 := h1.get (k := 2) rfl
    have H2 := Lib.hid h2
    have H5 := Lib.hid h5
    clear h1 h2 h3 h4 h5
    go_wp2_with fail
    go_quiet (fail)
    go_wp2_with fail
    refine bodyPost_ret (results_tmp4 rfl _ _ _) rfl ?_
    rw [HS.out]
    exact ⟨fv, by rw [HE.out]; rfl, H2.out.of_heap rfl, H5.out.drewN _⟩
  · rw [if_pos he] at hsp
    have HS := Lib.hid hsp
    have hq1 : (r.e == 0) = false := by simpa using he
    clear hsp he
    go_enter Tryd.func21, Tryd.ntmps21
    go_wp2_with fail
    refine (HR.out _ HH.out).mono ?_
    rintro e w1 ⟨rfl, hd1⟩
    have H1 := Lib.hid hd1
    clear hd1
    go_wp2_with fail
    refine bodyPost_ret (results_tmp4 rfl _ _ _) rfl ?_
    rw [HS.out]
    exact ⟨_, rfl, Own.nil _ _ _ _ _, H1.out.choose_spec.2.2.2.2⟩
end Go.Proofs.YtmfnciocnlmceaaDoor

/- Layer 10: the first look that the statements take: it answers true. No conditions. -/
namespace Go.Proofs.YtmfnciocnlmceaaDoor
open Go.RowKit Go.Shelf

theorem aw_p1 : parseV [72, 111, 115, 116, 58, 32, 97, 32, 98, 32] = ⟨[72, 111, 115, 116], [97, 32, 98]⟩ := by decide +kernel
theorem aw_e1 : parseE [72, 111, 115, 116, 58, 32, 97, 32, 98, 32] = 0 := by decide +kernel
theorem aw_p2 : parseV [72, 111, 115, 116, 32, 58, 32, 97] = ⟨[], []⟩ := by decide +kernel
theorem aw_e2 : parseE [72, 111, 115, 116, 32, 58, 32, 97] = 3 := by decide +kernel
theorem aw_els : elsM [⟨[88], [97, 44, 32, 34, 98, 44, 99, 34, 32, 44, 44, 100]⟩] [120] = [[97], [34, 98, 44, 99, 34], [100]] := by decide +kernel
theorem aw_s1 : splitM [71, 69, 84, 32, 47, 32, 72, 84, 84, 80, 47, 49, 46, 49, 13, 10, 65, 58, 32, 49, 13, 10, 13, 10, 114, 101, 115, 116] = ⟨[71, 69, 84, 32, 47, 32, 72, 84, 84, 80, 47, 49, 46, 49], [⟨[65], [49]⟩], 24, 0⟩ := by kernel_rfl
theorem aw_s2 : splitM [71, 69, 84, 32, 47, 13, 10, 65, 58, 32, 49, 13, 10, 13] = ⟨[], [], 0, 17⟩ := by kernel_rfl

/-- a slice over a block that is known -/
theorem Blk.sl {α : Type} {enc : α → List Value} {n : Nat} (hn : ∀ x, (enc x).length = n) {w : World} {b : Nat} {T : TypeId} {L : List α} (h : Blk w b T (rows enc L)) {l cap : Nat} (hl : l = L.length) (hc : l ≤ cap) (hm : cap ≤ maxLen) : Sl enc n w (.slice (some ⟨b, 0, none⟩) l cap) L := by
  subst hl
  exact .inr ⟨b, 0, cap, rfl, hc, hm, fun i x hx k hk => by rw [Nat.zero_add, h.cell, rows_get' hn L i k x hx hk]⟩
theorem parse_is {l n v : List UInt8} {k : Int} {w w1 : World} (hm : ML w) (hk : Keep [] w w1) (hl : l.length < 4294967281) (hv : parseV l = ⟨n, v⟩) (he : parseE l = k) :
    Calls Tryd.prog 101 #[.string (S l)] w1 fun e w' => e = .returned (.tuple #[.agg #[.string (S n), .string (S v)], .int .i64 k]) ∧ Keep [] w1 w' := by
  have h := field_Parse l w1 (hm.keep hk (by simp)) hl
  rw [hv, he] at h
  exact h
theorem split_is {l : List UInt8} {r : Rd} {w w1 : World} (hm : ML w) (hk : Keep [] w w1) (hl : l.length ≤ 1048576) (hv : splitM l = r) :
    Calls Tryd.prog 21 #[.string (S l)] w1 (SplitOut w1 r) := by
  have h := field_Split l w1 (hm.keep hk (by simp)) hl
  rw [hv] at h
  exact h

end Go.Proofs.YtmfnciocnlmceaaDoor

/- How fields that come in are read; the worlds that meet the rows' conditions. No conditions. -/
namespace Go.Proofs.YtmfnciocnlmceaaDoor
open Go.RowKit Go.ChangeShapes Go.WideShapes

theorem fld_cells : Tryd.prog.cellsOf 26 = 2 := by kernel_rfl
theorem str_cells : Tryd.prog.cellsOf 9 = 1 := by kernel_rfl
def Fld.good (f : Fld) : Prop := f.name.length ≤ maxLen ∧ f.value.length ≤ maxLen
theorem read_fld {H : Type} {enc : TypeId × Value → H} {w : World} {base : Nat} {spare : Nat → Bool} {held : Bool} (m : Nat) (cs : List Value) (x : DataW H × List MemPlace)
    (h : DataW.trod enc Tryd.prog w base spare held m 26 cs = some x) : ∃ a : Fld, cs = a.cells ∧ a.good := by
  obtain ⟨hl, n, hf⟩ := trod_fields Tryd.underlying26 h
  rw [fld_cells] at hl
  obtain ⟨y0, h0⟩ := hf 0 _ rfl
  obtain ⟨y1, h1⟩ := hf 1 _ rfl
  obtain ⟨v0, c0, w0⟩ := field_string Tryd.underlying9 str_cells h0
  obtain ⟨v1, c1, w1⟩ := field_string Tryd.underlying9 str_cells h1
  refine ⟨⟨v0.data.toList, v1.data.toList⟩, list_eq_of hl rfl ?_, by rw [← Lib.size_eq]; exact w0, by rw [← Lib.size_eq]; exact w1⟩
  intro i hi
  simp only [Fld.cells, S_of]
  match i, hi with
  | 0, _ => exact c0
  | 1, _ => exact c1
/-- a struct that comes in by value -/
theorem read_agg {H : Type} {enc : TypeId × Value → H} {P : Program} {w : World} {base : Nat} {spare : Nat → Bool} {held : Bool} {α : Type} {en : α → List Value} {good : α → Prop}
    {t : TypeId} {v : Value} {d : DataW H} {ps : List MemPlace} (one : ∀ (m : Nat) (cs : List Value) (x : DataW H × List MemPlace), DataW.trod enc P w base spare held m t cs = some x → ∃ a, cs = en a ∧ good a)
    (h : DataW.Trod enc P w base spare held t v d ps) (hv : ∃ cs, v = .agg cs ∧ cs.size = P.cellsOf t) : ∃ a, v = .agg (en a).toArray ∧ good a := by
  obtain ⟨fuel, hf⟩ := h
  obtain ⟨cs, rfl, _⟩ := hv
  obtain ⟨a, ha, hg⟩ := one _ _ _ hf
  exact ⟨a, by rw [← ha]; simp [Value.cells], hg⟩

theorem Calls.below {P : Program} {f : FuncId} {args : Array Value} {w : World} {v : Value} (h : Calls P f args w fun e w' => e = .returned v ∧ Keep [] w w') : Calls P f args w fun e w' => e = .returned v ∧ Below w.heap.size w w' :=
  h.mono fun _ _ h => ⟨h.1, h.2.below (by simp)⟩
theorem ML.shape {W : World} (h : W.ShapedOpen Tryd.prog) : ML W :=
  Go.Proofs.cell_of_shapedOpen_int (zero := #[.int .i64 0]) (t := 3) h (of_decide_eq_true (by kernel_rfl)) (by kernel_rfl) rfl (by kernel_rfl) (by kernel_rfl) Tryd.underlying3

/-- a datum's cells -/
def flatD : Nat → DataW Unit → List Value
  | 0, _ => []
  | n + 1, .agg l => l.flatMap (flatD n)
  | _ + 1, .lit (.int k z) => [.int k z]
  | _ + 1, .lit (.bool b) => [.bool b]
  | _ + 1, .lit (.string s) => [.string ⟨s.toArray⟩]
  | _ + 1, _ => []
/-- the listed variables hold what is listed -/
noncomputable def laidHeap (l : List (String × DataW Unit)) (h : Array Obj) : Array Obj :=
  l.foldl (fun h x => match Tryd.prog.globalNamed x.1 with
    | some g => h.modify g fun
      | .cells _ t fr => .cells (flatD 6 x.2).toArray t fr
      | o => o
    | none => h) h
noncomputable def laidWorld (os : Os) (l : List (String × DataW Unit)) : World :=
  { World.holding Tryd.prog os ⟨#[], #[], []⟩ with heap := laidHeap l (World.holding Tryd.prog os ⟨#[], #[], []⟩).heap }
end Go.Proofs.YtmfnciocnlmceaaDoor

/- Layer 1: numbers out of digits: digit, gather, bounded, isDec, Undec. No conditions but on lengths. -/
namespace Go.Proofs.YtmfnciocnlmceaaDoor
open Go.RowKit

def digV (b : UInt8) : Int := if 48 ≤ b.toNat ∧ b.toNat ≤ 57 then (b.toNat : Int) - 48 else if 97 ≤ b.toNat ∧ b.toNat ≤ 102 then (b.toNat : Int) - 97 + 10 else if 65 ≤ b.toNat ∧ b.toNat ≤ 70 then (b.toNat : Int) - 65 + 10 else 0
def digOk (b : UInt8) : Bool := decide (48 ≤ b.toNat ∧ b.toNat ≤ 57) || decide (97 ≤ b.toNat ∧ b.toNat ≤ 102) || decide (65 ≤ b.toNat ∧ b.toNat ≤ 70)
theorem digV_range (b : UInt8) : 0 ≤ digV b ∧ digV b ≤ 15 := by
  unfold digV
  split
  · omega
  · split
    · omega
    · split <;> omega
theorem dig_ret {a c : Int} {b d : Bool} (h : a = c) (h2 : b = d) : Ending.returned (.tuple #[.int .i64 a, .bool b]) = .returned (.tuple #[.int .i64 c, .bool d]) := by rw [h, h2]

set_option maxRecDepth 100000 in
set_option maxHeartbeats 1000000 in
theorem hexa_digit (b : UInt8) (w : World) :
    Calls Tryd.prog 125 #[.int .u8 b.toNat] w fun e w' => e = .returned (.tuple #[.int .i64 (digV b), .bool (digOk b)]) ∧ w = w' := by
  have hb := u8_nat b
  have hV : digV b = if 48 ≤ b.toNat ∧ b.toNat ≤ 57 then (b.toNat : Int) - 48 else if 97 ≤ b.toNat ∧ b.toNat ≤ 102 then (b.toNat : Int) - 97 + 10 else if 65 ≤ b.toNat ∧ b.toNat ≤ 70 then (b.toNat : Int) - 65 + 10 else 0 := rfl
  have hO : digOk b = (decide (48 ≤ b.toNat ∧ b.toNat ≤ 57) || decide (97 ≤ b.toNat ∧ b.toNat ≤ 102) || decide (65 ≤ b.toNat ∧ b.toNat ≤ 70)) := rfl
  generalize digV b = v at hV
  generalize digOk b = o at hO
  generalize b.toNat = x at *
  by_cases h1 : x < 48
  · have HV := Lib.hid (show v = 0 by rw [hV, if_neg (by omega), if_neg (by omega), if_neg (by omega)])
    have HO := Lib.hid (show o = false by rw [hO]; simp; omega)
    clear hV hO
    go_enter Tryd.func125, Tryd.ntmps125
    go_wp2
    go_ret2
    exact ⟨dig_ret HV.out.symm HO.out.symm, rfl⟩
  · by_cases h2 : x ≤ 57
    · have HV := Lib.hid (show v = (x : Int) - 48 by rw [hV, if_pos (by omega)])
      have HO := Lib.hid (show o = true by rw [hO]; simp; omega)
      clear hV hO
      go_enter Tryd.func125, Tryd.ntmps125
      go_wp2
      go_ret2
      exact ⟨dig_ret HV.out.symm HO.out.symm, rfl⟩
    · by_cases h3 : x < 65
      · have HV := Lib.hid (show v = 0 by rw [hV, if_neg (by omega), if_neg (by omega), if_neg (by omega)])
        have HO := Lib.hid (show o = false by rw [hO]; simp; omega)
        clear hV hO
        go_enter Tryd.func125, Tryd.ntmps125
        go_wp2
        go_ret2
        exact ⟨dig_ret HV.out.symm HO.out.symm, rfl⟩
      · by_cases h4 : x ≤ 70
        · have HV := Lib.hid (show v = (x : Int) + 32 - 97 + 10 by rw [hV, if_neg (by omega), if_neg (by omega), if_pos (by omega)]; omega)
          have HO := Lib.hid (show o = true by rw [hO]; simp; omega)
          clear hV hO
          go_enter Tryd.func125, Tryd.ntmps125
          go_wp2
          go_ret2
          exact ⟨dig_ret (by rw [HV.out]) HO.out.symm, rfl⟩
        · by_cases h5 : x < 97
          · have HV := Lib.hid (show v = 0 by rw [hV, if_neg (by omega), if_neg (by omega), if_neg (by omega)])
            have HO := Lib.hid (show o = false by rw [hO]; simp; omega)
            clear hV hO
            go_enter Tryd.func125, Tryd.ntmps125
            go_wp2
            go_ret2
            exact ⟨dig_ret HV.out.symm HO.out.symm, rfl⟩
          · by_cases h6 : x ≤ 102
            · have HV := Lib.hid (show v = (x : Int) - 97 + 10 by rw [hV, if_neg (by omega), if_pos (by omega)])
              have HO := Lib.hid (show o = true by rw [hO]; simp; omega)
              clear hV hO
              go_enter Tryd.func125, Tryd.ntmps125
              go_wp2
              go_ret2
              exact ⟨dig_ret HV.out.symm HO.out.symm, rfl⟩
            · have HV := Lib.hid (show v = 0 by rw [hV, if_neg (by omega), if_neg (by omega), if_neg (by omega)])
              have HO := Lib.hid (show o = false by rw [hO]; simp; omega)
              clear hV hO
              go_enter Tryd.func125, Tryd.ntmps125
              go_wp2
              go_ret2
              exact ⟨dig_ret HV.out.symm HO.out.symm, rfl⟩

/-- the number of digits; none: it is too great -/
def gatherM (m : Int) : List UInt8 → Int → Option Int
  | [], n => some n
  | b :: r, n => if n * m + digV b ≤ 4611686018427387904 then gatherM m r (n * m + digV b) else none
def gatherV (m : Int) (l : List UInt8) : Int := (gatherM m l 0).getD 0
def gatherOk (m : Int) (l : List UInt8) : Bool := (gatherM m l 0).isSome
theorem gather_test {n m v : Int} (hm : 0 < m) : (4611686018427387904 - v) / m < n ↔ ¬ n * m + v ≤ 4611686018427387904 := by
  rw [Int.not_le]
  constructor
  · intro h
    have := (Int.ediv_lt_iff_lt_mul hm).1 h
    omega
  · intro h
    exact (Int.ediv_lt_iff_lt_mul hm).2 (by omega)

set_option maxRecDepth 100000 in
set_option maxHeartbeats 1000000 in
theorem hexa_gather (l : List UInt8) (m : Int) (w : World) (hs : l.length ≤ maxLen) (h2 : 2 ≤ m) (h16 : m ≤ 16) :
    Calls Tryd.prog 141 #[.string (S l), .int .i64 m] w fun e w' => e = .returned (.tuple #[.int .i64 (gatherV m l), .bool (gatherOk m l)]) ∧ Keep [] w w' := by
  have hs' : l.length ≤ 9223372036854775807 := hs
  have hcv := conv_run w (S l)
  have hby := Bytes.conv w 5 l
  have hkp := conv_keep w 5 (S l)
  have hsz := S_size l
  have hV : gatherV m l = (gatherM m l 0).getD 0 := rfl
  have hO : gatherOk m l = (gatherM m l 0).isSome := rfl
  generalize gatherV m l = gv at hV
  generalize gatherOk m l = go at hO
  have HV := Lib.hid hV
  have HO := Lib.hid hO
  generalize Lib.bytesWorld w 5 (S l) = wb at hcv hby hkp
  generalize hX : w.heap.size = X at hcv hby
  have HB := Lib.hid hby
  have HK := Lib.hid hkp
  have HD := Lib.hid (fun (b : UInt8) (w1 : World) => hexa_digit b w1)
  clear hs hX hV hO hby hkp
  go_enter Tryd.func141, Tryd.ntmps141
  go_wp2_with fail
  go_loopg [4, 13] l.length (fun g nv i wr => ∃ (k : Nat) (n : Int), i = .int .i64 k ∧ nv = .int .i64 n ∧ k ≤ l.length ∧ g = l.length - k ∧ 0 ≤ n ∧ n ≤ 4611686018427387904 ∧ wb = wr ∧ Hid (gatherM m l 0 = gatherM m (l.drop k) n))
  case atStart => exact ⟨0, 0, rfl, rfl, Nat.zero_le _, by omega, by omega, by omega, rfl, Lib.hid rfl⟩
  case round =>
    obtain ⟨k, n, rfl, rfl, hk, hgk, hn0, hn1, rfl, HG⟩ := hrel
    by_cases hlt : k < l.length
    · obtain ⟨c, hg⟩ : ∃ c, l[k]? = some c := ⟨_, List.getElem?_eq_getElem hlt⟩
      have hc := HB.out.1 k c hg
      have hr := HG.out
      rw [drop_at hg, gatherM] at hr
      obtain ⟨v0, v1⟩ := digV_range c
      have hdc := HD.out c
      have ht := gather_test (n := n) (m := m) (v := digV c) (by omega)
      generalize digV c = v at hr v0 v1 hdc ht
      have hm0 : 0 ≤ n * m := Int.mul_nonneg hn0 (by omega)
      have HDC := Lib.hid hdc
      clear hg HG hdc
      by_cases hle : n * m + v ≤ 4611686018427387904
      · rw [if_pos hle] at hr
        have HR := Lib.hid hr
        have ht' : ¬ (4611686018427387904 - v) / m < n := fun h => (ht.1 h) hle
        have hm1 : n * m ≤ 4611686018427387904 := by omega
        clear hr ht
        go_wp2_with fail
        refine (HDC.out _).mono ?_
        rintro e w1 ⟨rfl, rfl⟩
        go_wp2_with fail
        go_roundg (l.length - (k + 1))
        case measure => omega
        case rel => exact ⟨k + 1, n * m + v, by go_num, rfl, by omega, rfl, by omega, by omega, rfl, HR⟩
      · rw [if_neg hle] at hr
        have HR := Lib.hid hr
        have ht' : (4611686018427387904 - v) / m < n := ht.2 hle
        clear hr ht hle
        go_wp2_with fail
        refine (HDC.out _).mono ?_
        rintro e w1 ⟨rfl, rfl⟩
        go_wp2_with fail
        go_ret2
        exact ⟨dig_ret (by rw [HV.out, HR.out]; rfl) (by rw [HO.out, HR.out]; rfl), HK.out⟩
    · have hke : k = l.length := by omega
      have hr := HG.out
      rw [hke, List.drop_length, gatherM] at hr
      have HR := Lib.hid hr
      clear hr hke
      go_wp2_with fail
      go_ret2
      exact ⟨dig_ret (by rw [HV.out, HR.out]; rfl) (by rw [HO.out, HR.out]; rfl), HK.out⟩

def boundV (m : Int) (l : List UInt8) (most : Int) : Int := match gatherM m l 0 with | some n => if most < n then 0 else n | none => 0
def boundE (m : Int) (l : List UInt8) (most : Int) : Int := match gatherM m l 0 with | some n => if most < n then 14 else 0 | none => 14
theorem two_ret {a c b d : Int} (h : a = c) (h2 : b = d) : Ending.returned (.tuple #[.int .i64 a, .int .i64 b]) = .returned (.tuple #[.int .i64 c, .int .i64 d]) := by rw [h, h2]
theorem gatherM_nonneg (m : Int) (hm : 0 ≤ m) : ∀ (l : List UInt8) (n r : Int), 0 ≤ n → gatherM m l n = some r → 0 ≤ r
  | [], n, r, h, e => by simp [gatherM] at e; omega
  | b :: s, n, r, h, e => by
    unfold gatherM at e
    split at e
    · have := digV_range b
      have := Int.mul_nonneg h hm
      exact gatherM_nonneg m hm s _ r (by omega) e
    · cases e
theorem boundV_range {m : Int} (hm : 0 ≤ m) (l : List UInt8) (most : Int) : (boundE m l most = 0 → 0 ≤ boundV m l most ∧ boundV m l most ≤ most) ∧ (boundE m l most ≠ 0 → boundV m l most = 0 ∧ boundE m l most = 14) := by
  unfold boundV boundE
  cases h : gatherM m l 0 with
  | none => simp
  | some n =>
    have := gatherM_nonneg m hm l 0 n (by omega) h
    dsimp only
    split
    · simp
    · simp; omega

set_option maxRecDepth 100000 in
set_option maxHeartbeats 1000000 in
theorem hexa_bounded (l : List UInt8) (m most : Int) (w : World) (hs : l.length ≤ maxLen) (h2 : 2 ≤ m) (h16 : m ≤ 16) :
    Calls Tryd.prog 126 #[.string (S l), .int .i64 m, .int .i64 most] w fun e w' => e = .returned (.tuple #[.int .i64 (boundV m l most), .int .i64 (boundE m l most)]) ∧ Keep [] w w' := by
  have hG := hexa_gather l m w hs h2 h16
  have hV : boundV m l most = (match gatherM m l 0 with | some n => if most < n then 0 else n | none => 0) := rfl
  have hE : boundE m l most = (match gatherM m l 0 with | some n => if most < n then 14 else 0 | none => 14) := rfl
  unfold gatherV gatherOk at hG
  generalize boundV m l most = v at hV
  generalize boundE m l most = e0 at hE
  cases hg : gatherM m l 0 with
  | none =>
    rw [hg] at hG hV hE
    change Calls _ _ _ _ (fun e w' => e = .returned (.tuple #[.int .i64 0, .bool false]) ∧ Keep [] w w') at hG
    have HG := Lib.hid hG
    have HV := Lib.hid hV
    have HE := Lib.hid hE
    clear hG hV hE hg hs
    go_enter Tryd.func126, Tryd.ntmps126
    go_wp2_with fail
    refine HG.out.mono ?_
    rintro e w1 ⟨rfl, hk1⟩
    have K1 := Lib.hid hk1
    clear hk1
    go_wp2_with fail
    go_ret2
    exact ⟨two_ret HV.out.symm HE.out.symm, K1.out⟩
  | some n =>
    rw [hg] at hG hV hE
    change Calls _ _ _ _ (fun e w' => e = .returned (.tuple #[.int .i64 n, .bool true]) ∧ Keep [] w w') at hG
    dsimp only at hV hE
    by_cases ht : most < n
    · rw [if_pos ht] at hV hE
      have HG := Lib.hid hG
      have HV := Lib.hid hV
      have HE := Lib.hid hE
      clear hG hV hE hg hs
      go_enter Tryd.func126, Tryd.ntmps126
      go_wp2_with fail
      refine HG.out.mono ?_
      rintro e w1 ⟨rfl, hk1⟩
      have K1 := Lib.hid hk1
      clear hk1
      go_wp2_with fail
      go_ret2
      exact ⟨two_ret HV.out.symm HE.out.symm, K1.out⟩
    · rw [if_neg ht] at hV hE
      have HG := Lib.hid hG
      have HV := Lib.hid hV
      have HE := Lib.hid hE
      clear hG hV hE hg hs
      go_enter Tryd.func126, Tryd.ntmps126
      go_wp2_with fail
      refine HG.out.mono ?_
      rintro e w1 ⟨rfl, hk1⟩
      have K1 := Lib.hid hk1
      clear hk1
      go_wp2_with fail
      go_ret2
      exact ⟨two_ret HV.out.symm HE.out.symm, K1.out⟩

def decB (b : UInt8) : Bool := decide (48 ≤ b.toNat) && decide (b.toNat ≤ 57)
def isDecM (l : List UInt8) : Bool := l.all decB && !l.isEmpty && (decide (l.length = 1) || decide (l.head? ≠ some 48))

set_option maxRecDepth 100000 in
set_option maxHeartbeats 1000000 in
theorem hexa_isDec (l : List UInt8) (w : World) (hs : l.length ≤ maxLen) :
    Calls Tryd.prog 131 #[.string (S l)] w fun e w' => e = .returned (.bool (isDecM l)) ∧ Keep [] w w' := by
  have hs' : l.length ≤ 9223372036854775807 := hs
  have hcv := conv_run w (S l)
  have hby := Bytes.conv w 5 l
  have hkp := conv_keep w 5 (S l)
  have hsz := S_size l
  have hD : isDecM l = (l.all decB && !l.isEmpty && (decide (l.length = 1) || decide (l.head? ≠ some 48))) := rfl
  generalize isDecM l = dv at hD
  generalize Lib.bytesWorld w 5 (S l) = wb at hcv hby hkp
  generalize hX : w.heap.size = X at hcv hby
  have HB := Lib.hid hby
  have HK := Lib.hid hkp
  have HD := Lib.hid hD
  clear hs hX hby hkp hD
  go_enter Tryd.func131, Tryd.ntmps131
  go_wp2_with fail
  go_loopg [8] l.length (fun g i wr => ∃ (k : Nat), i = .int .i64 k ∧ k ≤ l.length ∧ g = l.length - k ∧ wb = wr ∧ Hid ((l.take k).all decB = true))
  case atStart => exact ⟨0, rfl, Nat.zero_le _, by omega, rfl, Lib.hid rfl⟩
  case round =>
    obtain ⟨k, rfl, hk, hgk, rfl, HG⟩ := hrel
    by_cases hlt : k < l.length
    · obtain ⟨c, hg⟩ : ∃ c, l[k]? = some c := ⟨_, List.getElem?_eq_getElem hlt⟩
      have hc := HB.out.1 k c hg
      have hc8 := u8_nat c
      by_cases h1 : 48 ≤ c.toNat ∧ c.toNat ≤ 57
      · have HN : Hid ((l.take (k + 1)).all decB = true) := by
          rw [take_snoc hg, List.all_append, HG.out]
          simp [decB, h1, Hid]
        obtain ⟨h2, h3⟩ := h1
        clear hg HG
        go_wp2_with fail
        go_roundg (l.length - (k + 1))
        case measure => omega
        case rel => exact ⟨k + 1, by go_num, by omega, rfl, rfl, HN⟩
      · have hno : dv = false := by
          rw [HD.out]
          have : l.all decB = false := by
            rw [List.all_eq_false]
            exact ⟨c, List.mem_of_getElem? hg, by simp [decB]; omega⟩
          rw [this]; simp
        have HN := Lib.hid hno
        clear hg HG hno
        by_cases h2 : c.toNat < 48
        · go_wp2_with fail
          go_ret
          exact ⟨ret_bool HN.out.symm, HK.out⟩
        · have h3 : 57 < c.toNat := by omega
          clear h1
          go_wp2_with fail
          go_ret
          exact ⟨ret_bool HN.out.symm, HK.out⟩
    · have hke : k = l.length := by omega
      have hall := HG.out
      rw [hke, List.take_length] at hall
      have hD := HD.out
      rw [hall] at hD
      have HDD := Lib.hid hD
      clear hke hall hD HG
      cases l with
      | nil =>
        have q0 : (S []).toList = [] := S_toList []
        go_wp2_with fail
        go_ret
        exact ⟨ret_bool (by rw [HDD.out]; rfl), HK.out⟩
      | cons b r =>
        have q0 : (S (b :: r)).toList = b :: r := S_toList _
        have q1 : (S (b :: r))[0]'(by rw [hsz]; simp) = b := S_get rfl _
        cases r with
        | nil =>
          have hk1 : 1 ≤ k := by simp at hlt; omega
          go_wp2_with fail
          go_ret
          exact ⟨ret_bool (by rw [HDD.out]; rfl), HK.out⟩
        | cons b2 r2 =>
          have hk1 : r2.length + 1 + 1 ≤ k := by simp at hlt; omega
          have q2 : ((S (b :: b2 :: r2)).size) = r2.length + 1 + 1 := by rw [hsz]; simp
          obtain ⟨z1, z2⟩ := int_ne (show (r2.length : Int) + 1 + 1 ≠ 1 by omega)
          have hb8 := u8_nat b
          by_cases hb : b.toNat = 48
          · obtain ⟨z3, z4⟩ := int_eq (show ((b.toNat : Nat) : Int) = 48 by omega)
            have HF : Hid (dv = false) := by
              rw [HDD.out]
              have : b = 48 := UInt8.toNat_inj.1 hb
              simp [this, Hid]
            clear hb
            go_wp2_with fail
            go_ret
            exact ⟨ret_bool HF.out.symm, HK.out⟩
          · obtain ⟨z3, z4⟩ := int_ne (show ((b.toNat : Nat) : Int) ≠ 48 by omega)
            have HF : Hid (dv = true) := by
              rw [HDD.out]
              have : b ≠ 48 := fun h => hb (by rw [h]; rfl)
              simp [this, Hid]
            clear hb
            go_wp2_with fail
            go_ret
            exact ⟨ret_bool HF.out.symm, HK.out⟩

def undecV (l : List UInt8) (most : Int) : Int := if isDecM l then boundV 10 l most else 0
def undecE (l : List UInt8) (most : Int) : Int := if isDecM l then boundE 10 l most else 3
theorem undec_range (l : List UInt8) (most : Int) : (undecE l most = 0 → 0 ≤ undecV l most ∧ undecV l most ≤ most) ∧ (undecE l most ≠ 0 → undecV l most = 0 ∧ (undecE l most = 14 ∨ undecE l most = 3)) := by
  unfold undecV undecE
  have h := boundV_range (m := 10) (by omega) l most
  split
  · exact ⟨h.1, fun h2 => ⟨(h.2 h2).1, .inl (h.2 h2).2⟩⟩
  · simp

set_option maxRecDepth 100000 in
set_option maxHeartbeats 1000000 in
theorem hexa_Undec (l : List UInt8) (most : Int) (w : World) (hs : l.length ≤ maxLen) :
    Calls Tryd.prog 110 #[.string (S l), .int .i64 most] w fun e w' => e = .returned (.tuple #[.int .i64 (undecV l most), .int .i64 (undecE l most)]) ∧ Keep [] w w' := by
  have hD := hexa_isDec l w hs
  have hB := fun w1 => hexa_bounded l 10 most w1 hs (by omega) (by omega)
  have hV : undecV l most = if isDecM l then boundV 10 l most else 0 := rfl
  have hE : undecE l most = if isDecM l then boundE 10 l most else 3 := rfl
  generalize undecV l most = v at hV
  generalize undecE l most = e0 at hE
  cases hd : isDecM l with
  | true =>
    rw [hd] at hD hV hE
    rw [if_pos rfl] at hV hE
    have HD := Lib.hid hD
    have HB := Lib.hid hB
    have HV := Lib.hid hV
    have HE := Lib.hid hE
    clear hD hB hV hE hd hs
    go_enter Tryd.func110, Tryd.ntmps110
    go_wp2_with fail
    refine HD.out.mono ?_
    rintro e w1 ⟨rfl, hk1⟩
    have K1 := Lib.hid hk1
    clear hk1
    go_wp2_with fail
    refine (HB.out _).mono ?_
    rintro e w2 ⟨rfl, hk2⟩
    have K2 := Lib.hid (K1.out.trans hk2)
    clear hk2
    go_wp2_with fail
    go_ret2
    exact ⟨two_ret HV.out.symm HE.out.symm, K2.out⟩
  | false =>
    rw [hd] at hD hV hE
    rw [if_neg (by simp)] at hV hE
    have HD := Lib.hid hD
    have HV := Lib.hid hV
    have HE := Lib.hid hE
    clear hD hB hV hE hd hs
    go_enter Tryd.func110, Tryd.ntmps110
    go_wp2_with fail
    refine HD.out.mono ?_
    rintro e w1 ⟨rfl, hk1⟩
    have K1 := Lib.hid hk1
    clear hk1
    go_wp2_with fail
    go_ret2
    exact ⟨two_ret HV.out.symm HE.out.symm, K1.out⟩
end Go.Proofs.YtmfnciocnlmceaaDoor

/- Layer 1: Unhexnum, Value; the document's. No conditions but on lengths. -/
namespace Go.Proofs.YtmfnciocnlmceaaDoor
open Go.RowKit

def hexOk (l : List UInt8) : Bool := !l.isEmpty && decide (l.length ≤ 16) && l.all digOk
def unhexV (l : List UInt8) (most : Int) : Int := if hexOk l then boundV 16 l most else 0
def unhexE (l : List UInt8) (most : Int) : Int := if hexOk l then boundE 16 l most else 3
theorem unhex_range (l : List UInt8) (most : Int) : (unhexE l most = 0 → 0 ≤ unhexV l most ∧ unhexV l most ≤ most) ∧ (unhexE l most ≠ 0 → unhexV l most = 0 ∧ (unhexE l most = 14 ∨ unhexE l most = 3)) := by
  unfold unhexE unhexV
  have := boundV_range (m := 16) (by omega) l most
  cases hexOk l with
  | false => simp
  | true => simp only [if_true]; exact ⟨this.1, fun h => ⟨(this.2 h).1, .inl (this.2 h).2⟩⟩

set_option maxRecDepth 100000 in
set_option maxHeartbeats 1000000 in
theorem hexa_Unhexnum (l : List UInt8) (most : Int) (w : World) (hs : l.length ≤ maxLen) :
    Calls Tryd.prog 107 #[.string (S l), .int .i64 most] w fun e w' => e = .returned (.tuple #[.int .i64 (unhexV l most), .int .i64 (unhexE l most)]) ∧ Keep [] w w' := by
  have hs' : l.length ≤ 9223372036854775807 := hs
  have hcv := conv_run w (S l)
  have hby := Bytes.conv w 5 l
  have hkp := conv_keep w 5 (S l)
  have hsz := S_size l
  have hte := S_toList l
  have hV : unhexV l most = if hexOk l then boundV 16 l most else 0 := rfl
  have hE : unhexE l most = if hexOk l then boundE 16 l most else 3 := rfl
  have hO : hexOk l = (!l.isEmpty && decide (l.length ≤ 16) && l.all digOk) := rfl
  have hBd := fun w1 => hexa_bounded l 16 most w1 hs (by omega) (by omega)
  generalize unhexV l most = v at hV
  generalize unhexE l most = e0 at hE
  generalize Lib.bytesWorld w 5 (S l) = wb at hcv hby hkp
  generalize hX : w.heap.size = X at hcv hby
  have HB := Lib.hid hby
  have HK := Lib.hid hkp
  have HD := Lib.hid (fun (b : UInt8) (w1 : World) => hexa_digit b w1)
  have HBd := Lib.hid hBd
  clear hs hX hby hkp hBd
  by_cases h0 : l = []
  · have HF := Lib.hid (show v = 0 ∧ e0 = 3 by subst h0; rw [hV, hE, hO]; exact ⟨rfl, rfl⟩)
    have h0' : l.isEmpty = true := by rw [h0]; rfl
    clear hV hE hO h0
    go_enter Tryd.func107, Tryd.ntmps107
    go_wp2_with fail
    go_ret2
    exact ⟨two_ret HF.out.1.symm HF.out.2.symm, Keep.refl _ _⟩
  have h0' : l.isEmpty = false := by cases l with | nil => exact absurd rfl h0 | cons => rfl
  by_cases h16 : 16 < l.length
  · have HF := Lib.hid (show v = 0 ∧ e0 = 3 by rw [hV, hE, hO, decide_eq_false (show ¬ l.length ≤ 16 by omega)]; simp)
    have h16' : decide (((l.length : Nat) : Int) > 16) = true := by simp; omega
    clear hV hE hO h0
    go_enter Tryd.func107, Tryd.ntmps107
    go_wp2_with fail
    go_ret2
    exact ⟨two_ret HF.out.1.symm HF.out.2.symm, Keep.refl _ _⟩
  have h16' : decide (((l.length : Nat) : Int) > 16) = false := by simp; omega
  have hO2 : hexOk l = l.all digOk := by rw [hO, h0', decide_eq_true (show l.length ≤ 16 by omega)]; simp
  rw [hO2] at hV hE
  have HV := Lib.hid (And.intro hV hE)
  clear hV hE hO hO2 h0
  go_enter Tryd.func107, Tryd.ntmps107
  go_wp2_with fail
  go_loopg [20] l.length (fun g i wr => ∃ k : Nat, i = .int .i64 k ∧ k ≤ l.length ∧ g = l.length - k ∧ wb = wr ∧ Hid ((l.take k).all digOk = true))
  case atStart => exact ⟨0, rfl, Nat.zero_le _, by omega, rfl, by simp [Hid]⟩
  case round =>
    obtain ⟨k, rfl, hk, hgk, rfl, HA⟩ := hrel
    by_cases hlt : k < l.length
    · obtain ⟨c, hg⟩ : ∃ c, l[k]? = some c := ⟨_, List.getElem?_eq_getElem hlt⟩
      have hc := HB.out.1 k c hg
      have hdc := HD.out c
      have HG := Lib.hid hg
      clear hg
      cases hd : digOk c with
      | true =>
        rw [hd] at hdc
        have HA2 := Lib.hid (show (l.take (k + 1)).all digOk = true by rw [take_snoc HG.out, List.all_append, HA.out]; simp [hd])
        generalize digV c = x at hdc
        have HDC := Lib.hid hdc
        clear hd hdc
        go_wp2_with fail
        refine (HDC.out _).mono ?_
        rintro e w1 ⟨rfl, rfl⟩
        go_wp2_with fail
        go_roundg (l.length - (k + 1))
        case measure => omega
        case rel => exact ⟨k + 1, by go_num, by omega, rfl, rfl, HA2⟩
      | false =>
        rw [hd] at hdc
        have hno : l.all digOk = false := by rw [List.all_eq_false]; exact ⟨c, List.mem_of_getElem? HG.out, by simp [hd]⟩
        have HF := Lib.hid (show v = 0 ∧ e0 = 3 by rw [HV.out.1, HV.out.2, hno]; exact ⟨rfl, rfl⟩)
        generalize digV c = x at hdc
        have HDC := Lib.hid hdc
        clear hd hdc hno
        go_wp2_with fail
        refine (HDC.out _).mono ?_
        rintro e w1 ⟨rfl, rfl⟩
        go_wp2_with fail
        go_ret2
        exact ⟨two_ret HF.out.1.symm HF.out.2.symm, HK.out⟩
    · have hall := HA.out
      rw [List.take_of_length_le (by omega)] at hall
      have HF := Lib.hid (show v = boundV 16 l most ∧ e0 = boundE 16 l most by rw [HV.out.1, HV.out.2, hall]; exact ⟨rfl, rfl⟩)
      clear hall
      go_wp2_with fail
      refine (HBd.out _).mono ?_
      rintro e w1 ⟨rfl, k1⟩
      go_wp2_with fail
      go_ret2
      exact ⟨two_ret HF.out.1.symm HF.out.2.symm, HK.out.trans k1⟩

set_option maxHeartbeats 1000000 in
theorem ref_Value (b : UInt8) (w : World) :
    Calls Tryd.prog 85 #[.int .u8 b.toNat] w fun e w' => e = .returned (.int .i64 (if digOk b then digV b else -1)) ∧ w = w' := by
  have hb := u8_nat b
  have hV : digV b = if 48 ≤ b.toNat ∧ b.toNat ≤ 57 then (b.toNat : Int) - 48 else if 97 ≤ b.toNat ∧ b.toNat ≤ 102 then (b.toNat : Int) - 97 + 10 else if 65 ≤ b.toNat ∧ b.toNat ≤ 70 then (b.toNat : Int) - 65 + 10 else 0 := rfl
  have hO : digOk b = (decide (48 ≤ b.toNat ∧ b.toNat ≤ 57) || decide (97 ≤ b.toNat ∧ b.toNat ≤ 102) || decide (65 ≤ b.toNat ∧ b.toNat ≤ 70)) := rfl
  generalize digV b = v at hV
  generalize digOk b = o at hO
  generalize b.toNat = x at *
  have hR : ∀ z : Int, z = (if o = true then v else -1) → z = (if o = true then v else -1) := fun _ h => h
  generalize hz : (if o = true then v else -1) = z at *
  have hyes : ∀ r : Int, o = true → v = r → z = r := fun r h1 h2 => by rw [← hz, if_pos h1, h2]
  have hno : o = false → z = -1 := fun h1 => by rw [← hz, h1]; rfl
  by_cases c1 : 48 ≤ x ∧ x ≤ 57
  · have HF := Lib.hid (hyes ((x : Int) - 48) (by rw [hO]; simp [c1]) (by rw [hV, if_pos c1]))
    obtain ⟨a1, a2⟩ := c1
    clear hV hO hyes hno hR hz
    go_enter Tryd.func85, Tryd.ntmps85
    go_wp2_with fail
    go_ret
    exact ⟨ret_int HF.out.symm, rfl⟩
  by_cases c2 : 97 ≤ x ∧ x ≤ 102
  · have HF := Lib.hid (hyes ((x : Int) - 97 + 10) (by rw [hO]; simp [c2]) (by rw [hV, if_neg c1, if_pos c2]))
    obtain ⟨a1, a2⟩ := c2
    have n1 : ¬ x ≤ 57 := by omega
    have n2 : 48 ≤ x := by omega
    clear hV hO hyes hno hR hz c1
    go_enter Tryd.func85, Tryd.ntmps85
    go_wp2_with fail
    go_ret
    exact ⟨ret_int HF.out.symm, rfl⟩
  by_cases c3 : 65 ≤ x ∧ x ≤ 70
  · have HF := Lib.hid (hyes ((x : Int) - 65 + 10) (by rw [hO]; simp [c3]) (by rw [hV, if_neg c1, if_neg c2, if_pos c3]))
    obtain ⟨a1, a2⟩ := c3
    have n1 : ¬ x ≤ 57 := by omega
    have n2 : 48 ≤ x := by omega
    have n3 : ¬ 97 ≤ x := by omega
    clear hV hO hyes hno hR hz c1 c2
    go_enter Tryd.func85, Tryd.ntmps85
    go_wp2_with fail
    go_ret
    exact ⟨ret_int HF.out.symm, rfl⟩
  have HF := Lib.hid (hno (by rw [hO]; simp [c1, c2, c3]))
  clear hV hO hyes hno hR hz
  by_cases a1 : x < 48
  · have n1 : ¬ 48 ≤ x := by omega
    have n2 : ¬ 97 ≤ x := by omega
    have n3 : ¬ 65 ≤ x := by omega
    clear c1 c2 c3
    go_enter Tryd.func85, Tryd.ntmps85
    go_wp2_with fail
    go_ret
    exact ⟨ret_int HF.out.symm, rfl⟩
  have m1 : 48 ≤ x := by omega
  have m2 : ¬ x ≤ 57 := by omega
  by_cases a2 : x < 65
  · have n2 : ¬ 97 ≤ x := by omega
    have n3 : ¬ 65 ≤ x := by omega
    clear c1 c2 c3
    go_enter Tryd.func85, Tryd.ntmps85
    go_wp2_with fail
    go_ret
    exact ⟨ret_int HF.out.symm, rfl⟩
  have m3 : 65 ≤ x := by omega
  have m4 : ¬ x ≤ 70 := by omega
  by_cases a3 : x < 97
  · have n2 : ¬ 97 ≤ x := by omega
    clear c1 c2 c3
    go_enter Tryd.func85, Tryd.ntmps85
    go_wp2_with fail
    go_ret
    exact ⟨ret_int HF.out.symm, rfl⟩
  have m5 : 97 ≤ x := by omega
  have m6 : ¬ x ≤ 102 := by omega
  clear c1 c2 c3
  go_enter Tryd.func85, Tryd.ntmps85
  go_wp2_with fail
  go_ret
  exact ⟨ret_int HF.out.symm, rfl⟩

def hexN (l : List UInt8) (n : Int) : Int := l.foldl (fun n b => n * 16 + digV b) n
theorem hexN_ge : ∀ (l : List UInt8) (n : Int), 0 ≤ n → n ≤ hexN l n
  | [], n, _ => Int.le_refl _
  | b :: r, n, h => by
    have hv := digV_range b
    have := hexN_ge r (n * 16 + digV b) (by omega)
    show n ≤ hexN r (n * 16 + digV b)
    omega
theorem gather_fold : ∀ (l : List UInt8) (n : Int), 0 ≤ n → n ≤ 4611686018427387904 → gatherM 16 l n = if hexN l n ≤ 4611686018427387904 then some (hexN l n) else none
  | [], n, _, h => by rw [if_pos (show hexN [] n ≤ _ from h)]; rfl
  | b :: r, n, h0, h => by
    have hv := digV_range b
    show (if n * 16 + digV b ≤ 4611686018427387904 then gatherM 16 r (n * 16 + digV b) else none) = if hexN r (n * 16 + digV b) ≤ _ then some (hexN r (n * 16 + digV b)) else none
    by_cases h1 : n * 16 + digV b ≤ 4611686018427387904
    · rw [if_pos h1, gather_fold r _ (by omega) h1]
    · have := hexN_ge r (n * 16 + digV b) (by omega)
      rw [if_neg h1, if_neg (by omega)]
theorem hexN_lt : ∀ (l : List UInt8) (n : Int), 0 ≤ n → hexN l n < (n + 1) * 16 ^ l.length
  | [], n, _ => by show n < (n + 1) * 1; omega
  | b :: r, n, h => by
    have hv := digV_range b
    have h1 := hexN_lt r (n * 16 + digV b) (by omega)
    show hexN r (n * 16 + digV b) < (n + 1) * 16 ^ (r.length + 1)
    have h2 : (n * 16 + digV b + 1) * 16 ^ r.length ≤ (n + 1) * 16 * 16 ^ r.length := Int.mul_le_mul_of_nonneg_right (by omega) (Int.le_of_lt (Int.pow_pos (by omega)))
    rw [Int.pow_succ, Int.mul_comm (16 ^ r.length) 16, ← Int.mul_assoc]
    omega
theorem hexN_small (l : List UInt8) {k : Nat} (hk : k ≤ 15) : 0 ≤ hexN (l.take k) 0 ∧ hexN (l.take k) 0 < 1152921504606846976 := by
  have h1 := hexN_lt (l.take k) 0 (by omega)
  refine ⟨hexN_ge _ 0 (by omega), ?_⟩
  have h2 : (16 : Int) ^ (l.take k).length ≤ 16 ^ 15 := (show ∀ n : Fin 16, (16 : Int) ^ n.1 ≤ 16 ^ 15 by decide) ⟨(l.take k).length, by rw [List.length_take]; omega⟩
  have h3 : (16 : Int) ^ 15 = 1152921504606846976 := by decide
  omega
theorem hexN_snoc {l : List UInt8} {k : Nat} {c : UInt8} (h : l[k]? = some c) : hexN (l.take (k + 1)) 0 = hexN (l.take k) 0 * 16 + digV c := by
  rw [take_snoc h]; unfold hexN; rw [List.foldl_append]; rfl
theorem bound_fold (l : List UInt8) (most : Int) : boundV 16 l most = (if 4611686018427387904 < hexN l 0 ∨ most < hexN l 0 then 0 else hexN l 0) ∧ boundE 16 l most = (if 4611686018427387904 < hexN l 0 ∨ most < hexN l 0 then 14 else 0) := by
  unfold boundV boundE
  rw [gather_fold l 0 (by omega) (by omega)]
  by_cases h1 : hexN l 0 ≤ 4611686018427387904
  · rw [if_pos h1]
    by_cases h2 : most < hexN l 0
    · simp only [if_pos h2]; rw [if_pos (.inr h2), if_pos (.inr h2)]; exact ⟨rfl, rfl⟩
    · simp only [if_neg h2]; rw [if_neg (by omega), if_neg (by omega)]; exact ⟨rfl, rfl⟩
  · rw [if_neg h1, if_pos (.inl (by omega)), if_pos (.inl (by omega))]
    exact ⟨rfl, rfl⟩

set_option maxRecDepth 100000 in
set_option maxHeartbeats 1000000 in
theorem ref_Unhexnum (l : List UInt8) (most : Int) (w : World) (hs : l.length ≤ maxLen) :
    Calls Tryd.prog 86 #[.string (S l), .int .i64 most] w fun e w' => e = .returned (.tuple #[.int .i64 (unhexV l most), .int .i64 (unhexE l most)]) ∧ w = w' := by
  have hs' : l.length ≤ 9223372036854775807 := hs
  have hsz := S_size l
  have hte := S_toList l
  have hV : unhexV l most = if hexOk l then boundV 16 l most else 0 := rfl
  have hE : unhexE l most = if hexOk l then boundE 16 l most else 3 := rfl
  have hO : hexOk l = (!l.isEmpty && decide (l.length ≤ 16) && l.all digOk) := rfl
  obtain ⟨hB1, hB2⟩ := bound_fold l most
  rw [hB1] at hV
  rw [hB2] at hE
  generalize unhexV l most = v at hV
  generalize unhexE l most = e0 at hE
  have HD := Lib.hid (fun (b : UInt8) (w1 : World) => ref_Value b w1)
  clear hs hB1 hB2
  by_cases h0 : l = []
  · have HF := Lib.hid (show v = 0 ∧ e0 = 3 by subst h0; rw [hV, hE, hO]; exact ⟨rfl, rfl⟩)
    have h0' : l.isEmpty = true := by rw [h0]; rfl
    clear hV hE hO h0
    go_enter Tryd.func86, Tryd.ntmps86
    go_wp2_with fail
    go_ret2
    exact ⟨two_ret HF.out.1.symm HF.out.2.symm, rfl⟩
  have h0' : l.isEmpty = false := by cases l with | nil => exact absurd rfl h0 | cons => rfl
  by_cases h16 : 16 < l.length
  · have HF := Lib.hid (show v = 0 ∧ e0 = 3 by rw [hV, hE, hO, decide_eq_false (show ¬ l.length ≤ 16 by omega)]; simp)
    have h16' : decide (((l.length : Nat) : Int) > 16) = true := by simp; omega
    clear hV hE hO h0
    go_enter Tryd.func86, Tryd.ntmps86
    go_wp2_with fail
    go_ret2
    exact ⟨two_ret HF.out.1.symm HF.out.2.symm, rfl⟩
  have h16' : decide (((l.length : Nat) : Int) > 16) = false := by simp; omega
  have hO2 : hexOk l = l.all digOk := by rw [hO, h0', decide_eq_true (show l.length ≤ 16 by omega)]; simp
  rw [hO2] at hV hE
  have HV := Lib.hid (And.intro hV hE)
  clear hV hE hO hO2 h0
  go_enter Tryd.func86, Tryd.ntmps86
  go_wp2_with fail
  go_loopg [6, 7] l.length (fun g nv i wr => ∃ (k : Nat) (n : Int), nv = .int .u64 n ∧ i = .int .i64 k ∧ k ≤ l.length ∧ g = l.length - k ∧ 0 ≤ n ∧ n < 18446744073709551616 ∧ w = wr ∧ Hid ((l.take k).all digOk = true ∧ n = hexN (l.take k) 0))
  case atStart => exact ⟨0, 0, rfl, rfl, Nat.zero_le _, by omega, by omega, by omega, rfl, Lib.hid ⟨by simp, rfl⟩⟩
  case round =>
    obtain ⟨k, n, rfl, rfl, hk, hgk, hn0, hn1, rfl, HA⟩ := hrel
    by_cases hlt : k < l.length
    · obtain ⟨c, hg⟩ : ∃ c, l[k]? = some c := ⟨_, List.getElem?_eq_getElem hlt⟩
      have hgc := fun hk2 => S_get (l := l) (k := k) (c := c) hg hk2
      have hdc := HD.out c
      have HG := Lib.hid hg
      have hh0 : (0 : Int) ≤ (k : Int) := by omega
      have hh1 : (k : Int) < (l.length : Int) := by omega
      clear hg
      cases hd : digOk c with
      | true =>
        rw [hd, if_pos rfl] at hdc
        have hsm := hexN_small l (k := k) (by omega)
        have HA2 := Lib.hid (show (l.take (k + 1)).all digOk = true ∧ n * 16 + digV c = hexN (l.take (k + 1)) 0 from ⟨by rw [take_snoc HG.out, List.all_append, HA.out.1]; simp [hd], by rw [hexN_snoc HG.out, ← HA.out.2]⟩)
        rw [← HA.out.2] at hsm
        obtain ⟨v0, v1⟩ := digV_range c
        generalize digV c = x at hdc HA2 v0 v1
        have x1 := IntWalk.u64_in (n * 16) (by omega)
        have x2 := IntWalk.u64_in x (by omega)
        have x3 := IntWalk.u64_in (n * 16 + x) (by omega)
        have x4 : decide (x < 0) = false := by simp; omega
        have HDC := Lib.hid hdc
        clear hd hdc
        go_wp2_with fail
        refine (HDC.out _).mono ?_
        rintro e w1 ⟨rfl, rfl⟩
        go_wp2_with fail
        refine (HDC.out _).mono ?_
        rintro e w1 ⟨rfl, rfl⟩
        go_wp2_with fail
        go_roundg (l.length - (k + 1))
        case measure => omega
        case rel => exact ⟨k + 1, n * 16 + x, rfl, by go_num, by omega, rfl, by omega, by omega, rfl, HA2⟩
      | false =>
        rw [hd, if_neg (by simp)] at hdc
        have hno : l.all digOk = false := by rw [List.all_eq_false]; exact ⟨c, List.mem_of_getElem? HG.out, by simp [hd]⟩
        have HF := Lib.hid (show v = 0 ∧ e0 = 3 by rw [HV.out.1, HV.out.2, hno]; exact ⟨rfl, rfl⟩)
        have HDC := Lib.hid hdc
        clear hd hdc hno
        go_wp2_with fail
        refine (HDC.out _).mono ?_
        rintro e w1 ⟨rfl, rfl⟩
        go_wp2_with fail
        go_ret2
        exact ⟨two_ret HF.out.1.symm HF.out.2.symm, rfl⟩
    · obtain ⟨hall, hn⟩ := HA.out
      rw [List.take_of_length_le (by omega)] at hall hn
      have hF : v = (if 4611686018427387904 < n ∨ most < n then 0 else n) ∧ e0 = (if 4611686018427387904 < n ∨ most < n then 14 else 0) := by rw [HV.out.1, HV.out.2, hall, hn]; exact ⟨rfl, rfl⟩
      have hge : ¬ (k : Int) < (l.length : Int) := by omega
      clear hall hn
      by_cases b1 : 4611686018427387904 < n
      · rw [if_pos (.inl b1), if_pos (.inl b1)] at hF
        have HF := Lib.hid hF
        clear hF
        go_wp2_with fail
        go_ret2
        exact ⟨two_ret HF.out.1.symm HF.out.2.symm, rfl⟩
      · have x1 := IntWalk.i64_in n (by omega)
        by_cases b2 : most < n
        · rw [if_pos (.inr b2), if_pos (.inr b2)] at hF
          have HF := Lib.hid hF
          clear hF
          go_wp2_with fail
          go_ret2
          exact ⟨two_ret HF.out.1.symm HF.out.2.symm, rfl⟩
        · rw [if_neg (by omega), if_neg (by omega)] at hF
          have HF := Lib.hid hF
          clear hF
          go_wp2_with fail
          go_ret2
          exact ⟨two_ret HF.out.1.symm HF.out.2.symm, rfl⟩
end Go.Proofs.YtmfnciocnlmceaaDoor

/- Layer 10: what Split makes of a text that goes on. Plain laws; no program. No conditions. -/
namespace Go.Proofs.YtmfnciocnlmceaaDoor
open Go.RowKit Go.Shelf

theorem indexByte_append {l m : List UInt8} {c : UInt8} (h : 0 ≤ Lib.indexByte l c) : Lib.indexByte (l ++ m) c = Lib.indexByte l c := by
  obtain ⟨o, ho⟩ : ∃ o : Nat, Lib.indexByte l c = o := ⟨(Lib.indexByte l c).toNat, by omega⟩
  obtain ⟨h1, h2⟩ := Lib.indexByte_some ho
  have hlt := (List.getElem?_eq_some_iff.1 h1).1
  rw [ho]
  refine indexByte_at ?_ fun j hj => ?_
  · rw [List.getElem?_append_left hlt]; exact h1
  · rw [List.getElem?_append_left (by omega)]; exact h2 j hj
theorem seen_append (p m : List UInt8) (n : Nat) (_ : n ≤ p.length) (_ : n ≤ 4096) : ∃ m', seenM (p ++ m) n = seenM p n ++ m' := by
  unfold seenM
  rw [List.take_append, List.drop_append]
  exact ⟨_, rfl⟩
theorem seen_whole (p m : List UInt8) (n : Nat) (h : 4096 ≤ p.length) : seenM (p ++ m) n = seenM p n := by
  unfold seenM
  rw [List.take_append_of_le_length h]
theorem next_append (p m : List UInt8) (n : Nat) (h : n ≤ p.length) (h2 : n ≤ 4096) : (nextM p n).2.2 = 17 ∨ nextM (p ++ m) n = nextM p n := by
  by_cases hb : 4096 ≤ p.length
  · refine .inr ?_
    unfold nextM
    rw [seen_whole p m n hb]
    have : 4096 ≤ (p ++ m).length := by simp; omega
    rw [if_pos this, if_pos hb]
  · by_cases hi : Lib.indexByte (seenM p n) 10 < 0
    · refine .inl ?_
      unfold nextM
      rw [if_pos hi]
      simp [hb]
    · refine .inr ?_
      obtain ⟨m', hm'⟩ := seen_append p m n h h2
      unfold nextM
      have e := indexByte_append (m := m') (show 0 ≤ Lib.indexByte (seenM p n) 10 by omega)
      rw [hm', e, if_neg hi, if_neg hi]
      obtain ⟨o, ho⟩ : ∃ o : Nat, Lib.indexByte (seenM p n) 10 = o := ⟨(Lib.indexByte (seenM p n) 10).toNat, by omega⟩
      have hlt := (List.getElem?_eq_some_iff.1 (Lib.indexByte_some ho).1).1
      rw [ho, Int.toNat_natCast, List.take_append_of_le_length (by omega)]
theorem loop_append (p m st : List UInt8) : ∀ (k : Nat) (F : List Fld) (n : Nat), n ≤ p.length → n ≤ 4096 → (loopM p st k F n).e = 17 ∨ loopM (p ++ m) st k F n = loopM p st k F n
  | 0, F, n, _, _ => .inl rfl
  | k + 1, F, n, h, h2 => by
    have hb := next_bounds h h2
    rcases next_append p m n h h2 with h3 | h3
    · refine .inl ?_
      unfold loopM
      rw [h3]
      simp
    · unfold loopM
      rw [h3]
      by_cases h4 : (nextM p n).2.2 = 0
      · have h4' : ¬ (nextM p n).2.2 ≠ 0 := by simpa using h4
        rw [if_neg h4', if_neg h4']
        by_cases h5 : (nextM p n).1 = []
        · rw [if_pos h5, if_pos h5]; exact .inr rfl
        · rw [if_neg h5, if_neg h5]
          by_cases h6 : (addM F (nextM p n).1).2 = 0
          · have h6' : ¬ (addM F (nextM p n).1).2 ≠ 0 := by simpa using h6
            rw [if_neg h6', if_neg h6']
            exact loop_append p m st k _ _ hb.1 hb.2.1
          · rw [if_pos h6, if_pos h6]; exact .inr rfl
      · rw [if_pos h4, if_pos h4]; exact .inr rfl
theorem read_append (p m : List UInt8) : (readM p).e = 17 ∨ readM (p ++ m) = readM p := by
  have hb := next_bounds (s := p) (n := 0) (Nat.zero_le _) (Nat.zero_le _)
  rcases next_append p m 0 (Nat.zero_le _) (Nat.zero_le _) with h3 | h3
  · refine .inl ?_
    unfold readM
    rw [h3]
    simp
  · unfold readM
    rw [h3]
    by_cases h4 : (nextM p 0).2.2 = 0
    · have h4' : ¬ (nextM p 0).2.2 ≠ 0 := by simpa using h4
      rw [if_neg h4', if_neg h4']
      by_cases h6 : beginE (nextM p 0).1 = 0
      · have h6' : ¬ beginE (nextM p 0).1 ≠ 0 := by simpa using h6
        rw [if_neg h6', if_neg h6']
        exact loop_append p m _ _ _ _ hb.1 hb.2.1
      · rw [if_pos h6, if_pos h6]; exact .inr rfl
    · rw [if_pos h4, if_pos h4]; exact .inr rfl
/-- whatever comes later: an error stays, a head stays -/
theorem split_append (p m : List UInt8) : (splitM p).e = 17 ∨ splitM (p ++ m) = splitM p := by
  rcases read_append p m with h | h
  · refine .inl ?_
    unfold splitM
    rw [h]
    simp
  · refine .inr ?_
    unfold splitM
    rw [h]
theorem split_take (s : List UInt8) (k : Nat) : (splitM (s.take k)).e = 17 ∨ splitM s = splitM (s.take k) := by
  have := split_append (s.take k) (s.drop k)
  rwa [List.take_append_drop] at this
end Go.Proofs.YtmfnciocnlmceaaDoor

/- Layer 10: a head is read as it was written. Plain laws; no program. No conditions. -/
namespace Go.Proofs.YtmfnciocnlmceaaDoor
open Go.RowKit Go.Shelf

/-- the lines of fields -/
def bodyT (K : List Fld) : List UInt8 := K.flatMap fun f => printF f ++ [13, 10]
def headT (st : List UInt8) (K : List Fld) : List UInt8 := st ++ [13, 10] ++ bodyT K ++ [13, 10]
/-- no CR, no LF -/
def clean (l : List UInt8) : Prop := ∀ b ∈ l, b ≠ 13 ∧ b ≠ 10

theorem tchar_clean {b : UInt8} (h : tchar b = true) : b ≠ 13 ∧ b ≠ 10 ∧ b ≠ 58 := by
  refine ⟨?_, ?_, ?_⟩ <;> (rintro rfl; revert h; decide)
theorem textB_clean {b : UInt8} (h : textB b = true) : b ≠ 13 ∧ b ≠ 10 := by
  refine ⟨?_, ?_⟩ <;> (rintro rfl; revert h; decide)
theorem good_parts {f : Fld} (h : goodF f = true) : isTok f.name = true ∧ isTxt f.value = true ∧ trimW f.value = f.value := by
  unfold goodF at h
  simp only [Bool.and_eq_true, beq_iff_eq] at h
  exact ⟨h.1.1, h.1.2, h.2⟩
theorem isTok_parts {l : List UInt8} (h : isTok l = true) : (∀ b ∈ l, tchar b = true) ∧ l ≠ [] := by
  unfold isTok at h
  simp only [Bool.and_eq_true, List.all_eq_true] at h
  exact ⟨h.1, by intro e; subst e; simp at h⟩
theorem print_clean {f : Fld} (h : goodF f = true) : clean (printF f) := by
  obtain ⟨h1, h2, _⟩ := good_parts h
  intro b hb
  unfold printF at hb
  simp only [List.mem_append, List.mem_cons, List.mem_nil_iff, or_false] at hb
  rcases hb with (hb | rfl | rfl) | hb
  · have := tchar_clean ((isTok_parts h1).1 b hb)
    exact ⟨this.1, this.2.1⟩
  · decide
  · decide
  · unfold isTxt at h2
    exact textB_clean (List.all_eq_true.1 h2 b hb)

theorem indexByte_first {x r : List UInt8} {c : UInt8} (h : ∀ b ∈ x, b ≠ c) : Lib.indexByte (x ++ c :: r) c = x.length := by
  refine indexByte_at (by simp) fun j hj => ?_
  rw [List.getElem?_append_left hj]
  intro e
  exact h c (List.mem_of_getElem? e) rfl
/-- a whole line is read -/
theorem next_line (pre x rest : List UInt8) (hx : clean x) (h : pre.length + x.length + 2 ≤ 4096) :
    nextM (pre ++ (x ++ [13, 10] ++ rest)) pre.length = (x, pre.length + (x.length + 2), 0) := by
  have hseen : ∃ r, seenM (pre ++ (x ++ [13, 10] ++ rest)) pre.length = (x ++ [13]) ++ 10 :: r := by
    unfold seenM
    rw [List.take_append, List.drop_append]
    have e1 : (pre.take 4096) = pre := List.take_of_length_le (by omega)
    rw [e1, List.drop_length, List.nil_append, Nat.sub_self, List.drop_zero]
    have e3 : x ++ [13, 10] ++ rest = (x ++ [13]) ++ 10 :: rest := by simp
    rw [e3, List.take_append, List.take_of_length_le (by simp; omega)]
    obtain ⟨m, hm⟩ : ∃ m, 4096 - pre.length - (x ++ [13]).length = m + 1 := ⟨4096 - pre.length - (x ++ [13]).length - 1, by simp; omega⟩
    rw [hm, List.take_succ_cons]
    exact ⟨_, rfl⟩
  obtain ⟨r, hr⟩ := hseen
  have hi : Lib.indexByte (seenM (pre ++ (x ++ [13, 10] ++ rest)) pre.length) 10 = ((x.length + 1 : Nat) : Int) := by
    rw [hr, indexByte_first (x := x ++ [13])]
    · simp
    · intro b hb
      simp only [List.mem_append, List.mem_singleton] at hb
      rcases hb with hb | rfl
      · exact (hx b hb).2
      · decide
  have ht : (seenM (pre ++ (x ++ [13, 10] ++ rest)) pre.length).take (x.length + 1 + 1) = x ++ [13, 10] := by
    rw [hr, List.take_append, List.take_of_length_le (by simp)]
    simp
  have hl : lineM (x ++ [13, 10]) = some x := by
    unfold lineM
    have hs : Lib.hasSuffix (x ++ [13, 10]) [13, 10] = true := by unfold Lib.hasSuffix; simp
    have htr : Lib.trimSuffix (x ++ [13, 10]) [13, 10] = x := by
      unfold Lib.trimSuffix
      rw [if_pos hs]
      simp
    rw [htr, if_pos]
    refine ⟨hs, ?_⟩
    rw [indexByte_no]
    · omega
    · intro j hj
      exact (hx 13 (List.mem_of_getElem? hj)).1 rfl
  unfold nextM
  rw [hi, if_neg (by omega), Int.toNat_natCast, ht, hl]

theorem trim_blank (v : List UInt8) : trimW (32 :: v) = trimW v := by
  rw [trimW_eq, trimL_cons, if_pos (.inl rfl), ← trimW_eq]
theorem parse_print {f : Fld} (h : goodF f = true) : parseF (printF f) = some f := by
  obtain ⟨h1, h2, h3⟩ := good_parts h
  obtain ⟨ht, hne⟩ := isTok_parts h1
  have hi : Lib.indexByte (printF f) 58 = f.name.length := by
    have e : printF f = f.name ++ 58 :: (32 :: f.value) := by simp [printF]
    rw [e]
    exact indexByte_first fun b hb => (tchar_clean (ht b hb)).2.2
  have e1 : (printF f).take f.name.length = f.name := by simp [printF]
  have e2 : (printF f).drop (f.name.length + 1) = 32 :: f.value := by simp [printF]
  have h4 : isTxt (32 :: f.value) = true := by
    unfold isTxt at *
    rw [List.all_cons, h2]
    rfl
  rw [parseF_eq, hi, Int.toNat_natCast, e1, e2, if_pos ⟨by omega, h1, h4⟩, trim_blank, h3]

theorem print_ne (f : Fld) : printF f ≠ [] := by simp [printF]
theorem loop_body (st : List UInt8) : ∀ (K : List Fld) (pre : List UInt8) (F : List Fld) (k : Nat) (rest : List UInt8), (∀ f ∈ K, goodF f = true) → F.length + K.length ≤ 32 → pre.length + (bodyT K).length + 2 ≤ 4096 → K.length < k →
    loopM (pre ++ (bodyT K ++ ([13, 10] ++ rest))) st k F pre.length = ⟨st, F ++ K, pre.length + (bodyT K).length + 2, 0⟩
  | [], pre, F, k, rest, _, _, h, hk => by
    obtain ⟨k', rfl⟩ : ∃ k', k = k' + 1 := ⟨k - 1, by simp at hk; omega⟩
    have hn := next_line pre [] rest (by intro b hb; cases hb) (by simpa [bodyT] using h)
    simp only [bodyT, List.flatMap_nil, List.nil_append, List.length_nil, Nat.add_zero, Nat.zero_add] at *
    unfold loopM
    rw [hn]
    simp
  | f :: K, pre, F, k, rest, hg, hF, h, hk => by
    obtain ⟨k', rfl⟩ : ∃ k', k = k' + 1 := ⟨k - 1, by simp at hk; omega⟩
    have hgf := hg f (by simp)
    have hb : bodyT (f :: K) = printF f ++ [13, 10] ++ bodyT K := by simp [bodyT]
    have hlen : (bodyT (f :: K)).length = (printF f).length + 2 + (bodyT K).length := by rw [hb]; simp; omega
    have hn := next_line pre (printF f) (bodyT K ++ ([13, 10] ++ rest)) (print_clean hgf) (by omega)
    have he : pre ++ (bodyT (f :: K) ++ ([13, 10] ++ rest)) = pre ++ (printF f ++ [13, 10] ++ (bodyT K ++ ([13, 10] ++ rest))) := by rw [hb]; simp
    have ha : addM F (printF f) = (F ++ [f], 0) := by
      unfold addM
      rw [parse_print hgf]
      simp at hF
      simp only
      rw [if_neg (by omega)]
    have ih := loop_body st K (pre ++ (printF f ++ [13, 10])) (F ++ [f]) k' rest (fun x hx => hg x (by simp [hx])) (by simp at hF ⊢; omega) (by simp; omega) (by simp at hk; omega)
    rw [he]
    unfold loopM
    rw [hn]
    simp only [ne_eq, not_true_eq_false, if_false, print_ne, ha]
    have e2 : pre ++ (printF f ++ [13, 10] ++ (bodyT K ++ ([13, 10] ++ rest))) = pre ++ (printF f ++ [13, 10]) ++ (bodyT K ++ ([13, 10] ++ rest)) := by simp
    have e3 : pre.length + ((printF f).length + 2) = (pre ++ (printF f ++ [13, 10])).length := by simp
    rw [e2, e3, ih]
    simp [hlen]
    omega
theorem split_head (st : List UInt8) (K : List Fld) (rest : List UInt8) (hst : clean st) (h0 : st ≠ []) (h1 : st.length ≤ 1024) (hg : ∀ f ∈ K, goodF f = true) (h32 : K.length ≤ 32) (hl : (headT st K).length ≤ 4096) :
    splitM (headT st K ++ rest) = ⟨st, K, (headT st K).length, 0⟩ := by
  have hlen : (headT st K).length = st.length + 2 + (bodyT K).length + 2 := by simp [headT]; omega
  have he : headT st K ++ rest = [] ++ (st ++ [13, 10] ++ (bodyT K ++ ([13, 10] ++ rest))) := by simp [headT]
  have hn := next_line [] st (bodyT K ++ ([13, 10] ++ rest)) hst (by simp; omega)
  have hlo := loop_body st K (st ++ [13, 10]) [] 4097 rest hg (by simpa using h32) (by simp; omega) (by omega)
  have hr : readM (headT st K ++ rest) = ⟨st, K, (headT st K).length, 0⟩ := by
    rw [he]
    unfold readM
    rw [show (0 : Nat) = ([] : List UInt8).length from rfl, hn]
    have hb : beginE st = 0 := by unfold beginE; rw [if_neg h0, if_neg (by omega)]
    simp only [ne_eq, not_true_eq_false, if_false, hb, List.nil_append, List.length_nil, Nat.zero_add]
    have e2 : st ++ [13, 10] ++ (bodyT K ++ ([13, 10] ++ rest)) = (st ++ [13, 10]) ++ (bodyT K ++ ([13, 10] ++ rest)) := rfl
    have e3 : st.length + 2 = (st ++ [13, 10]).length := by simp
    rw [e3, hlo, hlen]
    simp
  unfold splitM
  rw [hr]
  simp
theorem loop_n_le (s st : List UInt8) : ∀ (k : Nat) (F : List Fld) (n : Nat), n ≤ s.length → n ≤ 4096 → (loopM s st k F n).n ≤ s.length
  | 0, F, n, h, _ => h
  | k + 1, F, n, h, h2 => by
    have hb := next_bounds h h2
    unfold loopM
    by_cases h4 : (nextM s n).2.2 ≠ 0
    · rw [if_pos h4]; exact hb.1
    · rw [if_neg h4]
      by_cases h5 : (nextM s n).1 = []
      · rw [if_pos h5]; exact hb.1
      · rw [if_neg h5]
        by_cases h6 : (addM F (nextM s n).1).2 ≠ 0
        · rw [if_pos h6]; exact hb.1
        · rw [if_neg h6]; exact loop_n_le s st k _ _ hb.1 hb.2.1
theorem split_n_le (s : List UInt8) : (splitM s).n ≤ s.length := by
  have hb := next_bounds (s := s) (n := 0) (Nat.zero_le _) (Nat.zero_le _)
  have hr : (readM s).n ≤ s.length := by
    unfold readM
    by_cases h4 : (nextM s 0).2.2 ≠ 0
    · rw [if_pos h4]; exact hb.1
    · rw [if_neg h4]
      by_cases h6 : beginE (nextM s 0).1 ≠ 0
      · rw [if_pos h6]; exact hb.1
      · rw [if_neg h6]; exact loop_n_le s _ _ _ _ hb.1 hb.2.1
  unfold splitM
  split
  · simp
  · exact hr
/-- cut off anywhere it is too short -/
theorem split_cut (st : List UInt8) (K : List Fld) (hst : clean st) (h0 : st ≠ []) (h1 : st.length ≤ 1024) (hg : ∀ f ∈ K, goodF f = true) (h32 : K.length ≤ 32) (hl : (headT st K).length ≤ 4096) (j : Nat) (hj : j < (headT st K).length) :
    (splitM ((headT st K).take j)).e = 17 := by
  rcases split_take (headT st K) j with h | h
  · exact h
  · have hw := split_head st K [] hst h0 h1 hg h32 hl
    rw [List.append_nil] at hw
    have := split_n_le ((headT st K).take j)
    rw [← h, hw] at this
    simp at this
    omega
end Go.Proofs.YtmfnciocnlmceaaDoor

/- Layer 11: what a chunked body's reader does, as a plain machine; however the bytes are cut it comes to the same. No program. No conditions but those that each theorem states. -/
namespace Go.Proofs.YtmfnciocnlmceaaDoor
open Go.RowKit

structure Ck where
  st : Nat
  left : Nat
  most : Nat
  flds : Nat
  inp : List UInt8
  dat : List UInt8
  err : Int
def Ck.add (c : Ck) (s : List UInt8) : Ck := { c with inp := c.inp ++ s }
structure LnR where
  t : List UInt8
  e : Int
  r : List UInt8
def crlfC : List UInt8 := [13, 10]
/-- the next line -/
def lnC (l : List UInt8) : LnR :=
  if Lib.indexByte (l.take 256) 10 < 0 then (if 256 ≤ l.length then ⟨[], 3, l⟩ else ⟨[], 17, l⟩)
  else if Lib.hasSuffix (l.take ((Lib.indexByte (l.take 256) 10).toNat + 1)) crlfC then ⟨Lib.trimSuffix (l.take ((Lib.indexByte (l.take 256) 10).toNat + 1)) crlfC, 0, l.drop ((Lib.indexByte (l.take 256) 10).toNat + 1)⟩ else ⟨[], 3, l⟩
def digitsB : List UInt8 := [48, 49, 50, 51, 52, 53, 54, 55, 56, 57, 97, 98, 99, 100, 101, 102, 65, 66, 67, 68, 69, 70]
def restOk (r : List UInt8) : Bool := r.isEmpty || (isTxt r && decide (0 ≤ Lib.indexByte [32, 9, 59] (r.getD 0 0)))
def numRest (t : List UInt8) : List UInt8 := Lib.trimLeftS t digitsB
def numT (t : List UInt8) : List UInt8 := t.take (t.length - (numRest t).length)
def numE (t : List UInt8) (m : Int) : Int := if restOk (numRest t) then (if unhexE (numT t) m = 14 then 4 else unhexE (numT t) m) else 3
def numV (t : List UInt8) (m : Int) : Int := unhexV (numT t) m
def beginM (c : Ck) : Ck × Int :=
  if (lnC c.inp).e ≠ 0 then (c, (lnC c.inp).e)
  else if numE (lnC c.inp).t ((c.most : Int) - c.dat.length) ≠ 0 then ({ c with inp := (lnC c.inp).r }, numE (lnC c.inp).t ((c.most : Int) - c.dat.length))
  else ({ c with inp := (lnC c.inp).r, left := (numV (lnC c.inp).t ((c.most : Int) - c.dat.length)).toNat, st := if numV (lnC c.inp).t ((c.most : Int) - c.dat.length) = 0 then 3 else 1 }, 0)
def dataM (c : Ck) : Ck × Int :=
  if 0 < c.left - min c.left c.inp.length then ({ c with inp := c.inp.drop (min c.left c.inp.length), dat := c.dat ++ c.inp.take (min c.left c.inp.length), left := c.left - min c.left c.inp.length }, 17)
  else ({ c with inp := c.inp.drop (min c.left c.inp.length), dat := c.dat ++ c.inp.take (min c.left c.inp.length), left := c.left - min c.left c.inp.length, st := 2 }, 0)
def closeM (c : Ck) : Ck × Int :=
  if c.inp.take 2 ≠ crlfC.take c.inp.length then (c, 3)
  else if c.inp.length < 2 then (c, 17)
  else ({ c with inp := c.inp.drop 2, st := 0 }, 0)
def trailM (c : Ck) : Ck × Int :=
  if (lnC c.inp).e ≠ 0 then (c, (lnC c.inp).e)
  else if (lnC c.inp).t = [] then ({ c with inp := (lnC c.inp).r, st := 4 }, 0)
  else if parseE (lnC c.inp).t ≠ 0 then ({ c with inp := (lnC c.inp).r }, parseE (lnC c.inp).t)
  else ({ c with inp := (lnC c.inp).r, flds := c.flds + 1 }, if 16 < c.flds + 1 then 4 else 0)
def stepM (c : Ck) : Ck × Int := if c.st = 0 then beginM c else if c.st = 1 then dataM c else if c.st = 2 then closeM c else if c.st = 3 then trailM c else (c, 17)

theorem suffix_len {a b : List UInt8} (h : Lib.hasSuffix a b = true) : b.length ≤ a.length := by
  unfold Lib.hasSuffix at h
  rw [List.isSuffixOf_iff_suffix] at h
  exact h.length_le
theorem line_short {l : List UInt8} (h : Lib.indexByte (l.take 256) 10 < 0) : lnC l = if 256 ≤ l.length then ⟨[], 3, l⟩ else ⟨[], 17, l⟩ := by unfold lnC; rw [if_pos h]
theorem line_at {l : List UInt8} {k : Nat} (h : Lib.indexByte (l.take 256) 10 = (k : Nat)) : lnC l = if Lib.hasSuffix (l.take (k + 1)) crlfC then ⟨Lib.trimSuffix (l.take (k + 1)) crlfC, 0, l.drop (k + 1)⟩ else ⟨[], 3, l⟩ := by
  unfold lnC
  rw [if_neg (by omega), h]
  rfl
theorem line_cases (l : List UInt8) : Lib.indexByte (l.take 256) 10 < 0 ∨ ∃ k : Nat, Lib.indexByte (l.take 256) 10 = (k : Nat) ∧ k < l.length ∧ k < 256 := by
  by_cases h : Lib.indexByte (l.take 256) 10 < 0
  · exact .inl h
  · obtain ⟨k, hk⟩ : ∃ k : Nat, Lib.indexByte (l.take 256) 10 = (k : Nat) := ⟨(Lib.indexByte (l.take 256) 10).toNat, by omega⟩
    have := (List.getElem?_eq_some_iff.1 (Lib.indexByte_some hk).1).1
    rw [List.length_take] at this
    exact .inr ⟨k, hk, by omega, by omega⟩
theorem line_app (l s : List UInt8) (h : (lnC l).e ≠ 17) : lnC (l ++ s) = ⟨(lnC l).t, (lnC l).e, (lnC l).r ++ s⟩ := by
  rcases line_cases l with hn | ⟨k, hk, hkl, h256⟩
  · rw [line_short hn] at h ⊢
    by_cases hl : 256 ≤ l.length
    · have e : (l ++ s).take 256 = l.take 256 := List.take_append_of_le_length hl
      have hn' : Lib.indexByte ((l ++ s).take 256) 10 < 0 := by rw [e]; exact hn
      rw [line_short hn', if_pos hl, if_pos (by simp; omega)]
    · rw [if_neg hl] at h; simp at h
  · obtain ⟨h1, h2⟩ := Lib.indexByte_some hk
    have e : Lib.indexByte ((l ++ s).take 256) 10 = (k : Nat) := by
      have ek : ∀ j, j < l.length → j < 256 → ((l ++ s).take 256)[j]? = (l.take 256)[j]? := by
        intro j hj hj2
        rw [List.getElem?_take, List.getElem?_take, if_pos hj2, if_pos hj2, List.getElem?_append_left hj]
      refine indexByte_at ?_ (fun j hj => ?_)
      · rw [ek k hkl h256]; exact h1
      · rw [ek j (by omega) (by omega)]; exact h2 j hj
    rw [line_at e, line_at hk, List.take_append_of_le_length (by omega), List.drop_append_of_le_length (by omega)]
    split <;> rfl
theorem line_le (l : List UInt8) : (lnC l).r.length ≤ l.length ∧ ((lnC l).e = 0 → (lnC l).r.length + 2 ≤ l.length) ∧ (lnC l).t.length ≤ 256 ∧ ((lnC l).e = 0 ∨ (lnC l).e = 3 ∨ (lnC l).e = 17) ∧ (lnC l).t.length ≤ l.length := by
  rcases line_cases l with hn | ⟨k, hk, hkl, h256⟩
  · rw [line_short hn]
    split <;> simp
  · rw [line_at hk]
    by_cases hs : Lib.hasSuffix (l.take (k + 1)) crlfC = true
    · rw [if_pos hs]
      have := suffix_len hs
      rw [List.length_take] at this
      have h2 : crlfC.length = 2 := rfl
      unfold Lib.trimSuffix
      rw [if_pos hs]
      simp
      omega
    · rw [if_neg hs]; simp
theorem line_err {l : List UInt8} (h : (lnC l).e ≠ 0) : (lnC l).r = l ∧ (lnC l).t = [] := by
  rcases line_cases l with hn | ⟨k, hk, hkl, h256⟩
  · rw [line_short hn]
    split <;> simp
  · rw [line_at hk] at h ⊢
    by_cases hs : Lib.hasSuffix (l.take (k + 1)) crlfC = true
    · rw [if_pos hs] at h; simp at h
    · rw [if_neg hs]; simp

theorem numE_cases (t : List UInt8) (m : Int) : numE t m = 0 ∨ numE t m = 3 ∨ numE t m = 4 := by
  unfold numE
  have := unhex_range (numT t) m
  by_cases h0 : unhexE (numT t) m = 0
  · rw [h0]; split <;> simp
  · rcases (this.2 h0).2 with h | h <;> rw [h] <;> split <;> simp
theorem numV_range {t : List UInt8} {m : Int} (h : numE t m = 0) : 0 ≤ numV t m ∧ numV t m ≤ m := by
  unfold numE at h
  have := unhex_range (numT t) m
  by_cases h0 : unhexE (numT t) m = 0
  · exact this.1 h0
  · rcases (this.2 h0).2 with h1 | h1 <;> rw [h1] at h <;> split at h <;> simp at h
theorem parseE_cases (l : List UInt8) : parseE l = 0 ∨ parseE l = 3 := by unfold parseE; split <;> simp

/-- what a step's result says of the same step with more bytes behind -/
def Goes (f : Ck → Ck × Int) (c : Ck) (s : List UInt8) : Prop := ((f c).2 ≠ 17 → f (c.add s) = ((f c).1.add s, (f c).2)) ∧ ((f c).2 = 17 → f (c.add s) = f ((f c).1.add s))
theorem goes_line {f : Ck → Ck × Int} {c : Ck} {s : List UInt8} (g : Ck → LnR → Ck × Int) (hf : ∀ c, f c = if (lnC c.inp).e ≠ 0 then (c, (lnC c.inp).e) else g c (lnC c.inp)) (hg : ∀ t r, g (c.add s) ⟨t, 0, r ++ s⟩ = ((g c ⟨t, 0, r⟩).1.add s, (g c ⟨t, 0, r⟩).2) ∧ (g c ⟨t, 0, r⟩).2 ≠ 17) : Goes f c s := by
  unfold Goes
  by_cases h0 : (lnC c.inp).e = 0
  · have h1 : f c = g c (lnC c.inp) := by rw [hf, if_neg (by simp [h0])]
    have h2 := line_app c.inp s (by rw [h0]; decide)
    have h3 : f (c.add s) = g (c.add s) (lnC (c.inp ++ s)) := by rw [hf, if_neg (by show ¬ (lnC (c.inp ++ s)).e ≠ 0; rw [h2]; simp [h0])]; rfl
    have h4 : lnC c.inp = ⟨(lnC c.inp).t, 0, (lnC c.inp).r⟩ := by rw [← h0]
    obtain ⟨g1, g2⟩ := hg (lnC c.inp).t (lnC c.inp).r
    rw [← h4] at g1 g2
    rw [h1, h3, h2, h0]
    exact ⟨fun _ => g1, fun h => absurd h g2⟩
  · have h1 : f c = (c, (lnC c.inp).e) := by rw [hf, if_pos h0]
    rw [h1]
    refine ⟨fun h => ?_, fun _ => rfl⟩
    have h2 := line_app c.inp s h
    rw [hf, if_pos (by show (lnC (c.inp ++ s)).e ≠ 0; rw [h2]; exact h0)]
    show (c.add s, (lnC (c.inp ++ s)).e) = _
    rw [h2]
theorem goes_begin (c : Ck) (s : List UInt8) : Goes beginM c s := by
  refine goes_line (fun c L => if numE L.t ((c.most : Int) - c.dat.length) ≠ 0 then ({ c with inp := L.r }, numE L.t ((c.most : Int) - c.dat.length))
    else ({ c with inp := L.r, left := (numV L.t ((c.most : Int) - c.dat.length)).toNat, st := if numV L.t ((c.most : Int) - c.dat.length) = 0 then 3 else 1 }, 0)) (fun c => rfl) (fun t r => ?_)
  have hc := numE_cases t ((c.most : Int) - c.dat.length)
  by_cases h : numE t ((c.most : Int) - c.dat.length) = 0
  · exact ⟨by simp [h, Ck.add]; rfl, by simp [h]⟩
  · exact ⟨by simp [h, Ck.add], by simp [h]; omega⟩
theorem goes_trail (c : Ck) (s : List UInt8) : Goes trailM c s := by
  refine goes_line (fun c L => if L.t = [] then ({ c with inp := L.r, st := 4 }, 0)
    else if parseE L.t ≠ 0 then ({ c with inp := L.r }, parseE L.t)
    else ({ c with inp := L.r, flds := c.flds + 1 }, if 16 < c.flds + 1 then 4 else 0)) (fun c => rfl) (fun t r => ?_)
  have hc := parseE_cases t
  by_cases h1 : t = []
  · exact ⟨by simp [h1, Ck.add], by simp [h1]⟩
  · by_cases h : parseE t = 0
    · exact ⟨by simp [h1, h, Ck.add]; rfl, by simp [h1, h]; split <;> decide⟩
    · exact ⟨by simp [h1, h, Ck.add], by simp [h1, h]; omega⟩
theorem goes_close (c : Ck) (s : List UInt8) : Goes closeM c s := by
  unfold Goes
  by_cases h1 : c.inp.take 2 = crlfC.take c.inp.length
  · by_cases h2 : c.inp.length < 2
    · have e : closeM c = (c, 17) := by unfold closeM; rw [if_neg (by simp [h1]), if_pos h2]
      rw [e]
      exact ⟨fun h => absurd rfl h, fun _ => rfl⟩
    · have e : closeM c = ({ c with inp := c.inp.drop 2, st := 0 }, 0) := by unfold closeM; rw [if_neg (by simp [h1]), if_neg h2]
      rw [e]
      refine ⟨fun _ => ?_, fun h => by simp at h⟩
      have hk : (c.inp ++ s).take 2 = c.inp.take 2 := List.take_append_of_le_length (by omega)
      have hd : (c.inp ++ s).drop 2 = c.inp.drop 2 ++ s := List.drop_append_of_le_length (by omega)
      have h3 : crlfC.take (c.inp ++ s).length = crlfC.take c.inp.length := by
        rw [List.take_of_length_le (by simp [crlfC]; omega), List.take_of_length_le (by simp [crlfC]; omega)]
      show (if (c.inp ++ s).take 2 ≠ crlfC.take (c.inp ++ s).length then (c.add s, (3 : Int)) else if (c.inp ++ s).length < 2 then (c.add s, 17) else ({ c.add s with inp := (c.inp ++ s).drop 2, st := 0 }, 0)) = _
      rw [hk, h3, if_neg (by simp [h1]), if_neg (by simp; omega), hd]
      rfl
  · have e : closeM c = (c, 3) := by unfold closeM; rw [if_pos h1]
    rw [e]
    refine ⟨fun _ => ?_, fun h => by simp at h⟩
    show (if (c.inp ++ s).take 2 ≠ crlfC.take (c.inp ++ s).length then (c.add s, (3 : Int)) else if (c.inp ++ s).length < 2 then (c.add s, 17) else ({ c.add s with inp := (c.inp ++ s).drop 2, st := 0 }, 0)) = _
    rw [if_pos]
    · intro h
      apply h1
      have := congrArg (List.take c.inp.length) h
      rw [List.take_take, List.take_take] at this
      have e1 : min c.inp.length (c.inp ++ s).length = c.inp.length := by simp
      rw [e1] at this
      rw [← this]
      rcases Nat.lt_or_ge c.inp.length 2 with hl | hl
      · rw [Nat.min_eq_left (by omega), List.take_left, List.take_of_length_le (by omega)]
      · rw [Nat.min_eq_right hl, List.take_append_of_le_length hl]
theorem data_eq (c : Ck) (n : Nat) (hn : min c.left c.inp.length = n) : dataM c = if 0 < c.left - n then ({ c with inp := c.inp.drop n, dat := c.dat ++ c.inp.take n, left := c.left - n }, 17)
    else ({ c with inp := c.inp.drop n, dat := c.dat ++ c.inp.take n, left := c.left - n, st := 2 }, 0) := by subst hn; rfl
theorem goes_data (c : Ck) (s : List UInt8) : Goes dataM c s := by
  unfold Goes
  by_cases h : c.inp.length < c.left
  · have e : dataM c = ({ c with inp := [], dat := c.dat ++ c.inp, left := c.left - c.inp.length }, 17) := by
      rw [data_eq c c.inp.length (by omega), if_pos (by omega), List.drop_length, List.take_length]
    rw [e]
    refine ⟨fun h => absurd rfl h, fun _ => ?_⟩
    rw [data_eq (c.add s) (c.inp.length + min (c.left - c.inp.length) s.length) (by show min c.left (c.inp ++ s).length = _; rw [List.length_append]; omega),
      data_eq (({ c with inp := [], dat := c.dat ++ c.inp, left := c.left - c.inp.length } : Ck).add s) (min (c.left - c.inp.length) s.length) (by show min (c.left - c.inp.length) ([] ++ s).length = _; rw [List.nil_append])]
    have ht : (c.inp ++ s).take (c.inp.length + min (c.left - c.inp.length) s.length) = c.inp ++ s.take (min (c.left - c.inp.length) s.length) := by rw [List.take_length_add_append]
    have hd : (c.inp ++ s).drop (c.inp.length + min (c.left - c.inp.length) s.length) = s.drop (min (c.left - c.inp.length) s.length) := by rw [List.drop_length_add_append]
    show (if 0 < c.left - (c.inp.length + min (c.left - c.inp.length) s.length) then (({ c.add s with inp := (c.inp ++ s).drop (c.inp.length + min (c.left - c.inp.length) s.length), dat := c.dat ++ (c.inp ++ s).take (c.inp.length + min (c.left - c.inp.length) s.length), left := c.left - (c.inp.length + min (c.left - c.inp.length) s.length) } : Ck), (17 : Int))
      else ({ c.add s with inp := (c.inp ++ s).drop (c.inp.length + min (c.left - c.inp.length) s.length), dat := c.dat ++ (c.inp ++ s).take (c.inp.length + min (c.left - c.inp.length) s.length), left := c.left - (c.inp.length + min (c.left - c.inp.length) s.length), st := 2 }, 0)) = _
    rw [ht, hd, ← List.append_assoc, ← Nat.sub_sub]
    rfl
  · have e : dataM c = ({ c with inp := c.inp.drop c.left, dat := c.dat ++ c.inp.take c.left, left := 0, st := 2 }, 0) := by
      rw [data_eq c c.left (by omega), if_neg (by omega), Nat.sub_self]
    rw [e]
    refine ⟨fun _ => ?_, fun h => by simp at h⟩
    rw [data_eq (c.add s) c.left (by show min c.left (c.inp ++ s).length = _; rw [List.length_append]; omega), if_neg (by show ¬ 0 < c.left - c.left; omega)]
    show (({ c.add s with inp := (c.inp ++ s).drop c.left, dat := c.dat ++ (c.inp ++ s).take c.left, left := c.left - c.left, st := 2 } : Ck), (0 : Int)) = _
    rw [Nat.sub_self, List.take_append_of_le_length (by omega), List.drop_append_of_le_length (by omega)]
    rfl
theorem begin_st (c : Ck) : (beginM c).2 = 17 → (beginM c).1 = c := by
  unfold beginM
  split
  · intro _; rfl
  · split
    · have := numE_cases (lnC c.inp).t ((c.most : Int) - c.dat.length)
      intro h; simp only at h; omega
    · intro h; simp at h
theorem trail_st (c : Ck) : (trailM c).2 = 17 → (trailM c).1 = c := by
  unfold trailM
  split
  · intro _; rfl
  · split
    · intro h; simp at h
    · split
      · have := parseE_cases (lnC c.inp).t
        intro h; simp only at h; omega
      · intro h; simp only at h; split at h <;> simp at h
theorem close_st (c : Ck) : (closeM c).2 = 17 → (closeM c).1 = c := by
  unfold closeM
  split
  · intro h; simp at h
  · split
    · intro _; rfl
    · intro h; simp at h
theorem data_st (c : Ck) : (dataM c).2 = 17 → (dataM c).1.st = c.st := by
  unfold dataM
  split
  · intro _; rfl
  · intro h; simp at h
theorem goes_step (c : Ck) (s : List UInt8) : Goes stepM c s := by
  have key : ∀ (f : Ck → Ck × Int), Goes f c s → ((f c).2 = 17 → (f c).1.st = c.st) → (∀ d, d.st = c.st → stepM d = f d) → Goes stepM c s := by
    intro f hg hst hs
    unfold Goes at hg ⊢
    rw [hs c rfl]
    refine ⟨fun h => ?_, fun h => ?_⟩
    · rw [hs (c.add s) rfl]; exact hg.1 h
    · rw [hs (c.add s) rfl, hs ((f c).1.add s) (hst h)]; exact hg.2 h
  by_cases h0 : c.st = 0
  · exact key beginM (goes_begin c s) (fun h => by rw [begin_st c h]) (fun d hd => by unfold stepM; rw [if_pos (by omega)])
  by_cases h1 : c.st = 1
  · exact key dataM (goes_data c s) (fun h => data_st c h) (fun d hd => by unfold stepM; rw [if_neg (by omega), if_pos (by omega)])
  by_cases h2 : c.st = 2
  · exact key closeM (goes_close c s) (fun h => by rw [close_st c h]) (fun d hd => by unfold stepM; rw [if_neg (by omega), if_neg (by omega), if_pos (by omega)])
  by_cases h3 : c.st = 3
  · exact key trailM (goes_trail c s) (fun h => by rw [trail_st c h]) (fun d hd => by unfold stepM; rw [if_neg (by omega), if_neg (by omega), if_neg (by omega), if_pos (by omega)])
  · refine key (fun c => (c, 17)) ⟨fun h => absurd rfl h, fun _ => rfl⟩ (fun _ => rfl) (fun d hd => by unfold stepM; rw [if_neg (by omega), if_neg (by omega), if_neg (by omega), if_neg (by omega)])

/-- what a chunk may be -/
def Ck.ok (c : Ck) : Prop := c.left + c.dat.length ≤ c.most ∧ c.flds ≤ 16 ∧ c.st ≤ 4
def Ck.mu (c : Ck) : Nat := 2 * c.inp.length + (if c.st = 1 then 1 else 0)
theorem begin_ok {c : Ck} (h : c.ok) (h0 : c.st = 0) : ((beginM c).2 = 0 → (beginM c).1.mu < c.mu) ∧ (beginM c).1.ok ∧ (beginM c).1.most = c.most ∧ (beginM c).1.err = c.err ∧ (beginM c).1.inp.length + (beginM c).1.dat.length ≤ c.inp.length + c.dat.length ∧ c.dat <+: (beginM c).1.dat := by
  obtain ⟨h1, h2, h3⟩ := h
  have hl := line_le c.inp
  unfold beginM
  split
  · exact ⟨fun hh => absurd hh (by assumption), ⟨h1, h2, h3⟩, rfl, rfl, Nat.le_refl _, List.prefix_refl _⟩
  · rename_i he
    have he : (lnC c.inp).e = 0 := by simpa using he
    have hl2 := hl.2.1 he
    split
    · exact ⟨fun hh => absurd hh (by assumption), ⟨h1, h2, h3⟩, rfl, rfl, by simp only; omega, List.prefix_refl _⟩
    · rename_i hn
      have hn : numE (lnC c.inp).t ((c.most : Int) - c.dat.length) = 0 := by simpa using hn
      have hv := numV_range hn
      refine ⟨fun _ => ?_, ⟨?_, h2, ?_⟩, rfl, rfl, by simp only; omega, List.prefix_refl _⟩
      · unfold Ck.mu; simp only; split <;> split <;> omega
      · simp only; omega
      · simp only; split <;> omega
theorem trail_ok {c : Ck} (h : c.ok) (h0 : c.st = 3) : ((trailM c).2 = 0 → (trailM c).1.mu < c.mu) ∧ ((trailM c).2 = 0 ∨ (trailM c).2 = 17 → (trailM c).1.ok) ∧ (trailM c).1.most = c.most ∧ (trailM c).1.err = c.err ∧ (trailM c).1.inp.length + (trailM c).1.dat.length ≤ c.inp.length + c.dat.length ∧ c.dat <+: (trailM c).1.dat := by
  obtain ⟨h1, h2, h3⟩ := h
  have hl := line_le c.inp
  unfold trailM
  split
  · exact ⟨fun hh => absurd hh (by assumption), fun _ => ⟨h1, h2, h3⟩, rfl, rfl, Nat.le_refl _, List.prefix_refl _⟩
  · rename_i he
    have he : (lnC c.inp).e = 0 := by simpa using he
    have hl2 := hl.2.1 he
    have hmu : c.mu = 2 * c.inp.length := by unfold Ck.mu; rw [if_neg (by omega)]; omega
    split
    · exact ⟨fun _ => by rw [hmu]; unfold Ck.mu; simp; omega, fun _ => ⟨h1, h2, by simp only; omega⟩, rfl, rfl, by simp only; omega, List.prefix_refl _⟩
    · split
      · exact ⟨fun hh => absurd hh (by assumption), fun _ => ⟨h1, h2, h3⟩, rfl, rfl, by simp only; omega, List.prefix_refl _⟩
      · refine ⟨fun _ => by rw [hmu]; unfold Ck.mu; simp only; rw [if_neg (by omega)]; omega, fun hh => ⟨h1, ?_, h3⟩, rfl, rfl, by simp only; omega, List.prefix_refl _⟩
        simp only at hh ⊢
        split at hh
        · rcases hh with hh | hh <;> simp at hh
        · omega
theorem close_ok {c : Ck} (h : c.ok) (h0 : c.st = 2) : ((closeM c).2 = 0 → (closeM c).1.mu < c.mu) ∧ (closeM c).1.ok ∧ (closeM c).1.most = c.most ∧ (closeM c).1.err = c.err ∧ (closeM c).1.inp.length + (closeM c).1.dat.length ≤ c.inp.length + c.dat.length ∧ c.dat <+: (closeM c).1.dat := by
  obtain ⟨h1, h2, h3⟩ := h
  unfold closeM
  split
  · exact ⟨fun hh => by simp at hh, ⟨h1, h2, h3⟩, rfl, rfl, Nat.le_refl _, List.prefix_refl _⟩
  · split
    · exact ⟨fun hh => by simp at hh, ⟨h1, h2, h3⟩, rfl, rfl, Nat.le_refl _, List.prefix_refl _⟩
    · refine ⟨fun _ => ?_, ⟨h1, h2, by simp only; omega⟩, rfl, rfl, by simp only [List.length_drop]; omega, List.prefix_refl _⟩
      unfold Ck.mu
      simp only [List.length_drop]
      rw [if_neg (by omega), if_neg (by omega)]
      omega
theorem data_ok {c : Ck} (h : c.ok) (h0 : c.st = 1) : ((dataM c).2 = 0 → (dataM c).1.mu < c.mu) ∧ (dataM c).1.ok ∧ (dataM c).1.most = c.most ∧ (dataM c).1.err = c.err ∧ (dataM c).1.inp.length + (dataM c).1.dat.length ≤ c.inp.length + c.dat.length ∧ c.dat <+: (dataM c).1.dat := by
  obtain ⟨h1, h2, h3⟩ := h
  unfold dataM
  split
  · refine ⟨fun hh => by simp at hh, ⟨?_, h2, h3⟩, rfl, rfl, ?_, List.prefix_append _ _⟩
    · simp only [List.length_append, List.length_take]; omega
    · simp only [List.length_append, List.length_take, List.length_drop]; omega
  · refine ⟨fun _ => ?_, ⟨?_, h2, by simp only; omega⟩, rfl, rfl, ?_, List.prefix_append _ _⟩
    · unfold Ck.mu; simp only [List.length_drop]; rw [if_neg (by omega), if_pos h0]; omega
    · simp only [List.length_append, List.length_take]; omega
    · simp only [List.length_append, List.length_take, List.length_drop]; omega
theorem step_ok {c : Ck} (h : c.ok) : ((stepM c).2 = 0 → (stepM c).1.mu < c.mu) ∧ ((stepM c).2 = 0 ∨ (stepM c).2 = 17 → (stepM c).1.ok) ∧ (stepM c).1.most = c.most ∧ (stepM c).1.err = c.err ∧ (stepM c).1.inp.length + (stepM c).1.dat.length ≤ c.inp.length + c.dat.length ∧ c.dat <+: (stepM c).1.dat := by
  unfold stepM
  split
  · have := begin_ok h (by assumption); exact ⟨this.1, fun _ => this.2.1, this.2.2⟩
  split
  · have := data_ok h (by assumption); exact ⟨this.1, fun _ => this.2.1, this.2.2⟩
  split
  · have := close_ok h (by assumption); exact ⟨this.1, fun _ => this.2.1, this.2.2⟩
  split
  · exact trail_ok h (by assumption)
  · exact ⟨fun hh => by simp at hh, fun _ => h, rfl, rfl, Nat.le_refl _, List.prefix_refl _⟩

/-- steps till one stops -/
inductive Runs : Ck → Ck → Int → Prop
  | stop {c : Ck} : (stepM c).2 ≠ 0 → Runs c (stepM c).1 (stepM c).2
  | more {c d : Ck} {e : Int} : (stepM c).2 = 0 → Runs (stepM c).1 d e → Runs c d e
theorem runs_ne {c d : Ck} {e : Int} (h : Runs c d e) : e ≠ 0 := by
  induction h with
  | stop h => exact h
  | more _ _ ih => exact ih
theorem runs_det {c d d' : Ck} {e e' : Int} (h : Runs c d e) (h' : Runs c d' e') : d = d' ∧ e = e' := by
  induction h with
  | stop h => cases h' with
    | stop _ => exact ⟨rfl, rfl⟩
    | more k _ => exact absurd k h
  | more h _ ih => cases h' with
    | stop k => exact absurd h k
    | more _ k => exact ih k
theorem runs_ex : ∀ (n : Nat) (c : Ck), c.ok → c.mu ≤ n → ∃ d e, Runs c d e
  | n, c, h, hn => by
    by_cases h0 : (stepM c).2 = 0
    · have hs := step_ok h
      have hm := hs.1 h0
      match n, hn with
      | 0, hn => omega
      | n + 1, hn =>
        obtain ⟨d, e, hr⟩ := runs_ex n (stepM c).1 (hs.2.1 (.inl h0)) (by omega)
        exact ⟨d, e, .more h0 hr⟩
    · exact ⟨_, _, .stop h0⟩
theorem runs_of {x y d : Ck} {e : Int} (hxy : stepM x = stepM y) (h : Runs y d e) : Runs x d e := by
  cases h with
  | stop h => rw [← hxy] at h ⊢; exact .stop h
  | more h k => rw [← hxy] at h k; exact .more h k
theorem runs_app {c d : Ck} {e : Int} (h : Runs c d e) (s : List UInt8) : (e ≠ 17 → Runs (c.add s) (d.add s) e) ∧ (e = 17 → ∀ d' e', Runs (d.add s) d' e' → Runs (c.add s) d' e') := by
  induction h with
  | @stop c h =>
    have hg := goes_step c s
    refine ⟨fun h17 => ?_, fun h17 d' e' hr => runs_of (hg.2 h17) hr⟩
    have := hg.1 h17
    have hs : Runs (c.add s) (stepM (c.add s)).1 (stepM (c.add s)).2 := .stop (by rw [this]; exact h)
    rw [this] at hs
    exact hs
  | @more c d e h hr ih =>
    have hg := (goes_step c s).1 (by rw [h]; decide)
    have h0 : (stepM (c.add s)).2 = 0 := by rw [hg]; exact h
    have h1 : (stepM (c.add s)).1 = (stepM c).1.add s := by rw [hg]
    refine ⟨fun h17 => .more h0 (by rw [h1]; exact ih.1 h17), fun h17 d' e' hr => .more h0 (by rw [h1]; exact ih.2 h17 d' e' hr)⟩
theorem runs_ok {c d : Ck} {e : Int} (h : Runs c d e) (hc : c.ok) : (e = 17 → d.ok) ∧ d.most = c.most ∧ d.err = c.err ∧ d.inp.length + d.dat.length ≤ c.inp.length + c.dat.length ∧ c.dat <+: d.dat := by
  induction h with
  | stop h => have := step_ok hc; exact ⟨fun h17 => this.2.1 (.inr h17), this.2.2⟩
  | more h _ ih =>
    have hs := step_ok hc
    obtain ⟨i1, i2, i3, i4, i5⟩ := ih (hs.2.1 (.inl h))
    exact ⟨i1, i2.trans hs.2.2.1, i3.trans hs.2.2.2.1, Nat.le_trans i4 hs.2.2.2.2.1, hs.2.2.2.2.2.trans i5⟩
end Go.Proofs.YtmfnciocnlmceaaDoor

/- strings.Builder as this cut has it, at any place of a block of the call's own: copyCheck, WriteString. No conditions but on lengths. -/
namespace Go.Proofs.YtmfnciocnlmceaaDoor
open Go.RowKit Go.Shelf

/-- a builder lies in block b from cell o on, its bytes l in v -/
structure Bd (B : Nat) (w : World) (b o : Nat) (T : TypeId) (cs : List Value) (v : Value) (l : List UInt8) : Prop where
  blk : Blk w b T cs
  ad : cs[o]? = some (.pointer none) ∨ cs[o]? = some (.pointer (some ⟨b, o, none⟩))
  buf : cs[o + 1]? = some v
  own : Own byteC 1 B 5 w v l
  ne : v.ownBlock ≠ some b
/-- a builder may lie there in a block of type T -/
def Lies (T : TypeId) (n o : Nat) : Prop := liesAt Tryd.prog Tryd.prog.depth T (n / Tryd.prog.cellsOf T) o 85 1 = true ∧ o + 1 < n
theorem lies_own : Lies 85 2 0 := ⟨by kernel_rfl, by omega⟩
theorem bld_info : ∃ j, Tryd.prog.info? 85 = some j ∧ j.size = 2 := by
  have : (Tryd.prog.info? 85).map (·.size) = some 2 := by kernel_rfl
  cases h : Tryd.prog.info? 85 with
  | none => rw [h] at this; cases this
  | some j => exact ⟨j, rfl, by rw [h] at this; simpa using this⟩
theorem u8_info : ∃ i, Tryd.prog.info? 5 = some i ∧ i.zero = some (.int .u8 0) ∧ i.size = 1 ∧ i.bytes = 1 := by
  have : (Tryd.prog.info? 5).map (fun i => (i.zero, i.size, i.bytes)) = some (some (.int .u8 0), 1, 1) := by kernel_rfl
  cases h : Tryd.prog.info? 5 with
  | none => rw [h] at this; cases this
  | some i => rw [h] at this; simp at this; exact ⟨i, rfl, this⟩
theorem rows_bytes (l : List UInt8) : rows byteC l = Lib.byteCells l := by
  induction l with
  | nil => rfl
  | cons c r ih => show byteC c ++ rows byteC r = _; rw [ih]; rfl

theorem append_string_at {P : Program} {w : World} (base : Nat) (t u ty e : TypeId) (i : TypeInfo) (ht : P.underlying t = some (.slice e)) (hu : P.underlying u = some .string) (hi : P.info? e = some i) (hz : i.zero = some (.int .u8 0))
    (hsize : i.size = 1) (hby : i.bytes = 1) (v : Value) (n : Nat) (xs : List Value) (hown : w.ownsRow base e 1 v n xs) (s : ByteArray)
    (h63 : n + s.size ≤ maxLen) (hbytes : n + s.size ≤ 140737488355328) (hbase : base ≤ w.heap.size) :
    ∃ v' w', (Builtin.append_ #[t, u] ty #[v, .string s]).run P w = .ok v' w' ∧ w'.ownsRow base e 1 v' (n + s.size) (xs ++ Lib.strCells s) ∧ w.grownBy w' v.ownBlock ∧
      (v'.ownBlock = v.ownBlock ∨ ∃ g, v'.ownBlock = some g ∧ w.heap.size ≤ g) := by
  obtain ⟨v', w', hr, h2, h3, _⟩ := Lib.run_append_own_string (P := P) w base t u ty e i ht hu hi hz hsize hby v n xs hown s h63 hbytes hbase
  refine ⟨v', w', hr, h2, h3, ?_⟩
  have hown0 := hown
  rcases hown.2 with ⟨rfl, rfl⟩ | ⟨g, cap, cur, rfl, hbg, hg, hnc, hcm, hcs, htake⟩
  · obtain ⟨v2, w2, hr2, k2, _, _⟩ := Lib.run_append_own_string (P := P) w w.heap.size t u ty e i ht hu hi hz hsize hby (.slice none 0 0) 0 xs ⟨hown.1, .inl ⟨rfl, rfl⟩⟩ s h63 hbytes (Nat.le_refl _)
    rw [hr] at hr2
    injection hr2 with e1 e2
    subst e1
    cases hb : v'.ownBlock with
    | none => exact .inl rfl
    | some g => exact .inr ⟨g, rfl, (World.ownsRow.lt k2 g hb).1⟩
  · by_cases hroom : n + s.size ≤ cap
    · have hr2 := Lib.run_append_room_string (P := P) w t u ty e i ht hu hi hsize g n cap cur hg s hroom (by have := hcs; simp at this; omega)
      rw [hr] at hr2
      injection hr2 with e1 e2
      subst e1
      exact .inl rfl
    · have hsmall : n + s.size ≤ 9223372036854775807 := h63
      have hr2 := Lib.run_append_grow_string (P := P) w t u ty e i (.int .u8 0) ht hu hi hz ⟨g, 0, none⟩ n cap xs (by rw [hsize]; simpa using hown0.1) (World.ownsRow.cells hown0 (g := g) rfl) s (by omega) (by omega) (by rw [hby]; exact growslice_fits (by omega) (by omega))
      rw [hr] at hr2
      injection hr2 with e1 e2
      subst e1
      exact .inr ⟨w.heap.size, rfl, Nat.le_refl _⟩
theorem wpList_append_string_at {P : Program} {ops : Array Oper} {rest : List Oper} {o : Oper} {a : Act} {w : World} {Q : Exit → Act → World → Prop} (hgd : o.guard = none) (sl x : Operand) (t u : TypeId)
    (ho : o.op = .call { callee := .builtin .append, args := #[sl, x], argTypes := #[t, u] })
    (base : Nat) (e : TypeId) (i : TypeInfo) (ht : P.underlying t = some (.slice e)) (hu : P.underlying u = some .string) (hi : P.info? e = some i) (hz : i.zero = some (.int .u8 0))
    (hsize : i.size = 1) (hby : i.bytes = 1)
    (v : Value) (n : Nat) (xs : List Value) (hs : a.eval sl = v) (hown : w.ownsRow base e 1 v n xs) (s : ByteArray) (hx : a.eval x = .string s)
    (h63 : n + s.size ≤ maxLen) (hbytes : n + s.size ≤ 140737488355328) (hbase : base ≤ w.heap.size)
    (h : ∀ v' w', w'.ownsRow base e 1 v' (n + s.size) (xs ++ Lib.strCells s) → w.grownBy w' v.ownBlock → (v'.ownBlock = v.ownBlock ∨ ∃ g, v'.ownBlock = some g ∧ w.heap.size ≤ g) → wpList P ops Q rest (a.put o.dst v') w') : wpList P ops Q (o :: rest) a w := by
  refine wpList_plain hgd fun K hK => ?_
  obtain ⟨v', w', hr, h2, h3, h4⟩ := append_string_at (P := P) (w := w) base t u o.type e i ht hu hi hz hsize hby v n xs hown s h63 hbytes hbase
  unfold Oper.wp execOp
  simp only [ho, resolve, invoke, builtin, Sem.run_bind, Sem.run_pure, Result.andThen_ok, List.map_toArray, List.map_cons, List.map_nil, hs, hx, hr]
  exact hK _ _ (h v' w' h2 h3 h4)

set_option maxHeartbeats 1000000 in
set_option maxRecDepth 100000 in
theorem bld_copyCheck (b o : Nat) (T : TypeId) (cs : List Value) (w : World) (hb : Blk w b T cs) (hl : Lies T cs.length o) (had : cs[o]? = some (.pointer none) ∨ cs[o]? = some (.pointer (some ⟨b, o, none⟩))) :
    Calls Tryd.prog 92 #[.pointer (some ⟨b, o, none⟩)] w fun e w' => e = .returned (.tuple #[]) ∧ Blk w' b T (cs.set o (.pointer (some ⟨b, o, none⟩))) ∧ Keep [b] w w' := by
  obtain ⟨j, hj, hjs⟩ := bld_info
  have hu82 := Tryd.underlying82
  have hu112 := Tryd.underlying125
  rcases had with h0 | h0
  · have c0 := hb.get h0
    have f0 := hb.frozen o
    have hsh : w.shape? b = some (T, cs.length) := by
      have : w.heap[b]? = some (.cells cs.toArray T (0, 0)) := hb
      simp [World.shape?, this]
    have hk : Keep [b] w (w.setCell ⟨b, o, none⟩ (.pointer (some ⟨b, o, none⟩))) := (Keep.refl _ _).setCell _ _ (by simp)
    have hb' := hb.set o (.pointer (some ⟨b, o, none⟩))
    have HP := Lib.hid (And.intro hb' hk)
    have HB := Lib.hid hb
    clear hb' hk hb
    go_enter Tryd.func92, Tryd.ntmps92
    go_wp2_with fail
    rw [Lib.run_to_unsafe w ⟨b, o, none⟩ hu82 hu112 hj (by rw [hjs]; decide) hsh (by have := hl.2; show o < _; omega)]
    simp only [Result.andThen]
    rw [Oper.upon_value]
    go_wp2_with fail
    rw [run_callFunc_extern Tryd.func108 (by kernel_rfl) (by kernel_rfl) (by kernel_rfl) (e := Extern.AbiNoEscape.same) (by kernel_rfl)]
    rw [Lib.run_noEscape]
    simp only [Result.andThen]
    rw [Oper.upon_value]
    go_wp2_with fail
    rw [Lib.run_from_unsafe w ⟨b, o, none⟩ hu112 hu82 hj hsh hl.1]
    simp only [Result.andThen]
    rw [Oper.upon_value]
    have g0 := HP.out.1.get (k := o) (v := .pointer (some ⟨b, o, none⟩)) (by rw [List.getElem?_set_self (by have := hl.2; omega)])
    go_wp2_with fail
    go_end0
    exact ⟨rfl, HP.out.1, HP.out.2⟩
  · have c0 := hb.get h0
    have hcs : cs.set o (.pointer (some ⟨b, o, none⟩)) = cs := list_set_self _ _ _ h0
    rw [hcs]
    have HB := Lib.hid hb
    clear hb hcs h0
    go_enter Tryd.func92, Tryd.ntmps92
    go_wp2_with fail
    rw [Lib.run_neq_ptr_same w _ hu82 hj]
    go_wp2_with fail
    go_end0
    exact ⟨rfl, HB.out, Keep.refl _ _⟩

set_option maxHeartbeats 1000000 in
set_option maxRecDepth 100000 in
theorem bld_Write {B b o : Nat} {T : TypeId} {cs : List Value} {v : Value} {l : List UInt8} {w : World} (s : List UInt8) (h : Bd B w b o T cs v l) (hl : Lies T cs.length o) (hB : B ≤ w.heap.size) (hlen : l.length + s.length ≤ 140737488355328) :
    Calls Tryd.prog 62 #[.pointer (some ⟨b, o, none⟩), .string (S s)] w fun e w' => e = .returned (.tuple #[.int .i64 (s.length : Nat), .nilIface]) ∧
      ∃ v', Bd B w' b o T ((cs.set o (.pointer (some ⟨b, o, none⟩))).set (o + 1) v') v' (l ++ s) ∧ Keep (b :: v.ownBlock.toList) w w' ∧ (v'.ownBlock = v.ownBlock ∨ ∃ g, v'.ownBlock = some g ∧ w.heap.size ≤ g) := by
  obtain ⟨i, hi, hz, h1, h2⟩ := u8_info
  have hC := Lib.hid (bld_copyCheck b o T cs w h.blk hl h.ad)
  have hsz := S_size s
  have H := Lib.hid h
  clear h
  go_enter Tryd.func62, Tryd.ntmps62
  go_wp2_with fail
  refine hC.out.mono ?_
  rintro e w1 ⟨rfl, hb1, hk1⟩
  have hown1 : Own byteC 1 B 5 w1 v l := H.out.own.keep hk1 (fun g hg => by
    simp only [List.mem_singleton]
    rintro rfl
    exact H.out.ne hg)
  have c1 := hb1.get (k := o + 1) (v := v) (by rw [List.getElem?_set_ne (by omega)]; exact H.out.buf)
  have hor := hown1
  unfold Own at hor
  rw [rows_bytes] at hor
  have HO := Lib.hid hor
  have HB1 := Lib.hid hb1
  have HK1 := Lib.hid hk1
  clear hor hown1 hb1 hk1
  go_wp2_with (at_builtin; go_must (refine wpList_append_string_at rfl _ _ 83 9 rfl B 5 i Tryd.underlying83 Tryd.underlying9 hi hz h1 h2 v l.length (Lib.byteCells l) rfl HO.out (S s) rfl (by rw [hsz]; unfold maxLen; omega) (by rw [hsz]; exact hlen) (by have := HK1.out.size; omega) ?_))
  intro v' w2 hown' hgrow hat
  have hbl := HB1.out.lt
  have hb2 : Blk w2 b T (cs.set o (.pointer (some ⟨b, o, none⟩))) := by
    unfold Blk
    rw [hgrow.block b hbl (fun e => H.out.ne e.symm)]
    exact HB1.out
  have d1 := hb2.get (k := o + 1) (v := v) (by rw [List.getElem?_set_ne (by omega)]; exact H.out.buf)
  have f1 := hb2.frozen (o + 1)
  have hb3 := hb2.set (o + 1) v'
  have hne' : v'.ownBlock ≠ some b := by
    rcases hat with e | ⟨g, e, hg⟩
    · rw [e]; exact H.out.ne
    · rw [e]; intro e'; injection e' with e'; omega
  have hown2 : Own byteC 1 B 5 w2 v' (l ++ s) := by
    unfold Own
    rw [rows_bytes, List.length_append]
    try rw [hsz] at hown'
    have e : Lib.byteCells (l ++ s) = Lib.byteCells l ++ Lib.strCells (S s) := by unfold Lib.byteCells; rw [List.map_append]; rfl
    rw [e]
    exact hown'
  have hown3 : Own byteC 1 B 5 (w2.setCell ⟨b, o + 1, none⟩ v') v' (l ++ s) := hown2.keep (S := [b]) ((Keep.refl _ _).setCell _ _ (by simp)) (fun g hg => by
    simp only [List.mem_singleton]
    rintro rfl
    exact hne' hg)
  have hkk : Keep (b :: v.ownBlock.toList) w (w2.setCell ⟨b, o + 1, none⟩ v') := ((HK1.out.mono (by simp)).grown hgrow (fun k hk _ => by simp [hk])).setCell _ _ (by simp)
  have hat' : v'.ownBlock = v.ownBlock ∨ ∃ g, v'.ownBlock = some g ∧ w.heap.size ≤ g := by
    rcases hat with e | ⟨g, e, hg⟩
    · exact .inl e
    · exact .inr ⟨g, e, Nat.le_trans HK1.out.size hg⟩
  have HF := Lib.hid (And.intro hb3 (And.intro hne' (And.intro hown3 (And.intro hkk hat'))))
  obtain ⟨ao, n', cap, rfl⟩ : ∃ ao n' cap, v' = .slice ao n' cap := by
    rcases hown'.2 with ⟨hv, _⟩ | ⟨g, cap, cur, hv, _⟩
    · exact ⟨_, _, _, hv⟩
    · exact ⟨_, _, _, hv⟩
  clear hb3 hne' hown3 hown2 hkk hat hat' hgrow hown' hb2
  have h20 : (cs.set o (.pointer (some ⟨b, o, none⟩)))[o]? = some (.pointer (some ⟨b, o, none⟩)) := by rw [List.getElem?_set_self (by have := hl.2; omega)]
  go_wp2_with fail
  go_ret2
  refine ⟨by rw [← hsz]; rfl, _, ⟨HF.out.1, .inr ?_, ?_, HF.out.2.2.1, HF.out.2.1⟩, HF.out.2.2.2.1, HF.out.2.2.2.2⟩
  · rw [List.getElem?_set_ne (by omega)]
    exact h20
  · rw [List.getElem?_set_self (by simpa using hl.2)]
/-- as the library's contracts have it -/
theorem Bd.lib {B b : Nat} {cs : List Value} {v : Value} {l : List UInt8} {w : World} (h : Bd B w b 0 85 cs v l) (hc : cs.length = 2) (hb : B ≤ b) : Lib.IsBuilder 85 5 B b (Lib.byteCells l) w := by
  obtain ⟨p, q, rfl⟩ : ∃ p q, cs = [p, q] := by
    match cs, hc with
    | [p, q], _ => exact ⟨p, q, rfl⟩
  have hq : q = v := by have := h.buf; simpa using this
  subst hq
  have hown := h.own
  unfold Own at hown
  rw [rows_bytes, ← Lib.byteCells_length l] at hown
  rcases h.ad with e | e
  · simp at e
    subst e
    exact .inl ⟨hb, q, h.blk, hown, h.ne⟩
  · simp at e
    subst e
    exact .inr ⟨hb, q, h.blk, hown, h.ne⟩
/-- a builder of the call's own -/
def Bld (w0 w : World) (b : Nat) (l : List UInt8) : Prop := ∃ cs v, Bd w0.heap.size w b 0 85 cs v l ∧ cs.length = 2 ∧ w0.heap.size ≤ b ∧ Keep [] w0 w
theorem Bd.keep {B b o : Nat} {T : TypeId} {cs : List Value} {v : Value} {l : List UInt8} {w w' : World} {S : List Nat} (h : Bd B w b o T cs v l) (k : Keep S w w') (hb : b ∉ S) (hv : ∀ g, v.ownBlock = some g → g ∉ S) : Bd B w' b o T cs v l :=
  ⟨k.blk h.blk hb, h.ad, h.buf, h.own.keep k hv, h.ne⟩
theorem Bld.keep0 {w0 w w' : World} {b : Nat} {l : List UInt8} (h : Bld w0 w b l) (k : Keep [] w w') : Bld w0 w' b l := by
  obtain ⟨cs, v, h1, h2, h3, h4⟩ := h
  exact ⟨cs, v, h1.keep k (by simp) (by simp), h2, h3, h4.trans k⟩
theorem Bld.kept {w0 w : World} {b : Nat} {l : List UInt8} (h : Bld w0 w b l) : Keep [] w0 w := let ⟨_, _, _, _, _, h4⟩ := h; h4
theorem bld_new {w0 w : World} (k : Keep [] w0 w) : Bld w0 (w.alloc (.cells #[.pointer none, .slice none 0 0] 85)) w.heap.size [] :=
  ⟨[.pointer none, .slice none 0 0], .slice none 0 0, ⟨Blk.newA w _ _, .inl rfl, rfl, Own.nil _ _ _ _ _, by simp [Value.ownBlock]⟩, rfl, k.size, k.alloc _⟩
theorem bld_write {w0 w : World} {b : Nat} {l : List UInt8} (h : Bld w0 w b l) (s : List UInt8) (hlen : l.length + s.length ≤ 140737488355328) :
    Calls Tryd.prog 62 #[.pointer (some ⟨b, 0, none⟩), .string (S s)] w fun e w' => e = .returned (.tuple #[.int .i64 (s.length : Nat), .nilIface]) ∧ Bld w0 w' b (l ++ s) := by
  obtain ⟨cs, v, h1, h2, h3, h4⟩ := h
  refine (bld_Write s h1 (by rw [h2]; exact lies_own) h4.size hlen).mono ?_
  rintro e w' ⟨rfl, v', k1, k2, _⟩
  exact ⟨rfl, _, v', k1, by simpa using h2, h3, h4.trans' k2 (fun x hx hl => by
    rcases List.mem_cons.1 hx with rfl | hx
    · omega
    · have := (h1.own.lt x (by simpa using hx)).1; omega)⟩
theorem bld_len {w0 w : World} {b : Nat} {l : List UInt8} (h : Bld w0 w b l) :
    Calls Tryd.prog 74 #[.pointer (some ⟨b, 0, none⟩)] w fun e w' => e = .returned (.int .i64 (l.length : Nat)) ∧ w' = w := by
  obtain ⟨cs, v, h1, h2, h3, h4⟩ := h
  have := Tryd.Builder_Len w0.heap.size b _ w (h1.lib h2 h3)
  rw [Lib.byteCells_length] at this
  exact this
theorem bld_string {w0 w : World} {b : Nat} {l : List UInt8} (h : Bld w0 w b l) :
    Calls Tryd.prog 60 #[.pointer (some ⟨b, 0, none⟩)] w fun e w' => e = .returned (.string (S l)) ∧ Keep [] w0 w' := by
  obtain ⟨cs, v, h1, h2, h3, h4⟩ := h
  refine (Tryd.Builder_String_any w0.heap.size b l w (h1.lib h2 h3) h4.size).mono ?_
  rintro e w' ⟨rfl, hb⟩
  exact ⟨rfl, hb.os.trans h4.os, hb.tape.trans h4.tape, hb.output.trans h4.output, Nat.le_trans h4.size hb.size, fun k hk hn => (hb.block k hk).trans (h4.block k hk hn)⟩
end Go.Proofs.YtmfnciocnlmceaaDoor

/- Layer 11: a chunked body's reader in memory; its line, isRest. No conditions but on lengths. -/
namespace Go.Proofs.YtmfnciocnlmceaaDoor
open Go.RowKit Go.Shelf

def ckC (c : Ck) (ad v : Value) : List Value := [.int .i64 (c.st : Nat), .int .i64 (c.left : Nat), .int .i64 (c.most : Nat), .int .i64 (c.flds : Nat), .string (S c.inp), ad, v, .int .i64 (c.dat.length : Nat), .int .i64 c.err]
theorem ck_lies : Lies 87 9 5 := ⟨by kernel_rfl, by omega⟩
/-- a reader of a chunked body lies in block b, its builder's bytes in v; of its data, p was taken -/
def Ct (B : Nat) (w : World) (b : Nat) (p : List UInt8) (c : Ck) (v : Value) : Prop := ∃ ad o, Bd B w b 5 87 (ckC c ad v) v o ∧ c.dat = p ++ o
theorem Ct.keep {B b : Nat} {w w' : World} {p : List UInt8} {c : Ck} {v : Value} {S : List Nat} (h : Ct B w b p c v) (k : Keep S w w') (hb : b ∉ S) (hv : ∀ g, v.ownBlock = some g → g ∉ S) : Ct B w' b p c v := by
  obtain ⟨ad, o, h1, h2⟩ := h
  exact ⟨ad, o, h1.keep k hb hv, h2⟩
theorem Ct.keep0 {B b : Nat} {w w' : World} {p : List UInt8} {c : Ck} {v : Value} (h : Ct B w b p c v) (k : Keep [] w w') : Ct B w' b p c v := h.keep k (by simp) (by simp)
theorem Ct.drew {B b : Nat} {w : World} {p : List UInt8} {c : Ck} {v : Value} (h : Ct B w b p c v) : Ct B w.drew b p c v := h.keep0 ((Keep.refl [] w).drew)
theorem Ct.cells {B b : Nat} {w : World} {p : List UInt8} {c : Ck} {v : Value} (h : Ct B w b p c v) : ∃ ad, Blk w b 87 (ckC c ad v) := let ⟨ad, _, h1, _⟩ := h; ⟨ad, h1.blk⟩
/-- a cell of a reader is stored -/
theorem Ct.set {B b : Nat} {w : World} {p : List UInt8} {c c' : Ck} {v : Value} (h : Ct B w b p c v) (k : Nat) (x : Value) (hc : ∀ ad, (ckC c ad v).set k x = ckC c' ad v) (hd : c'.dat = c.dat) : Ct B (w.setCell ⟨b, k, none⟩ x) b p c' v := by
  obtain ⟨ad, o, h1, h2⟩ := h
  refine ⟨ad, o, ⟨?_, ?_, rfl, ?_, h1.ne⟩, hd.trans h2⟩
  · rw [← hc ad]; exact h1.blk.set k x
  · have := h1.ad
    simpa [ckC] using this
  · exact h1.own.keep (S := [b]) ((Keep.refl _ _).setCell _ _ (by simp)) (fun g hg => by
      simp only [List.mem_singleton]
      rintro rfl
      exact h1.ne hg)
theorem Ct.at {B b : Nat} {w : World} {p : List UInt8} {c : Ck} {v : Value} (h : Ct B w b p c v) : w.cell? ⟨b, 0, none⟩ = some (.int .i64 (c.st : Nat)) ∧ w.cell? ⟨b, 1, none⟩ = some (.int .i64 (c.left : Nat)) ∧ w.cell? ⟨b, 2, none⟩ = some (.int .i64 (c.most : Nat)) ∧ w.cell? ⟨b, 3, none⟩ = some (.int .i64 (c.flds : Nat)) ∧
    w.cell? ⟨b, 4, none⟩ = some (.string (S c.inp)) ∧ w.cell? ⟨b, 7, none⟩ = some (.int .i64 (c.dat.length : Nat)) ∧ w.cell? ⟨b, 8, none⟩ = some (.int .i64 c.err) := by
  obtain ⟨ad, h1⟩ := h.cells
  exact ⟨h1.get rfl, h1.get rfl, h1.get rfl, h1.get rfl, h1.get rfl, h1.get rfl, h1.get rfl⟩
theorem Ct.free {B b : Nat} {w : World} {p : List UInt8} {c : Ck} {v : Value} (h : Ct B w b p c v) (k : Nat) : w.frozen? ⟨b, k, none⟩ = false := let ⟨_, h1⟩ := h.cells; h1.frozen k

theorem idx_n {l : List UInt8} {m : Nat} {w : World} (hm : m ≤ l.length) : Calls Tryd.prog 99 #[.string ((S l).extract 0 m), .int .u8 10] w fun e w' => e = .returned (.int .i64 (Lib.indexByte (l.take m) 10)) ∧ w' = w := by
  have h := Tryd.strings_IndexByte ((S l).extract 0 m) 10 w
  rw [S_extract, List.drop_zero] at h ⊢
  exact h

set_option maxRecDepth 100000 in
set_option maxHeartbeats 1000000 in
theorem chunk_line (B b : Nat) (p : List UInt8) (c : Ck) (v : Value) (w : World) (h : Ct B w b p c v) (hl : c.inp.length ≤ 1048576) :
    Calls Tryd.prog 104 #[.pointer (some ⟨b, 0, none⟩)] w fun e w' => e = .returned (.tuple #[.string (S (lnC c.inp).t), .int .i64 (lnC c.inp).e]) ∧ Ct B w' b p { c with inp := (lnC c.inp).r } v ∧ Keep [b] w w' := by
  have sz := S_size c.inp
  obtain ⟨_, _, _, _, c4, _, _⟩ := h.at
  have H := Lib.hid h
  have hI := fun w1 => idx_n (l := c.inp) (m := min c.inp.length 256) (w := w1) (Nat.min_le_left _ _)
  have e256 : c.inp.take (min c.inp.length 256) = c.inp.take 256 := by
    rcases Nat.le_total c.inp.length 256 with hh | hh
    · rw [Nat.min_eq_left hh, List.take_length, List.take_of_length_le hh]
    · rw [Nat.min_eq_right hh]
  rw [e256] at hI
  have hmin : min ((c.inp.length : Nat) : Int) 256 = ((min c.inp.length 256 : Nat) : Int) := by omega
  generalize hmm : min c.inp.length 256 = m at *
  have m1 : (m : Int) ≤ (c.inp.length : Int) := by omega
  have m0 : (0 : Int) ≤ (m : Int) := by omega
  have HI := Lib.hid hI
  have hcases := line_cases c.inp
  have hshort := line_short (l := c.inp)
  have hat := fun k => line_at (l := c.inp) (k := k)
  clear h e256 hmm hI
  generalize Lib.indexByte (c.inp.take 256) 10 = ix at *
  go_enter Tryd.func104, Tryd.ntmps104
  go_upto_region 1 with fail
  go_cut [4] (fun y wx => y = .int .i64 ix ∧ Hid (Keep [] w wx))
  case first =>
    clear hcases hshort hat
    go_region_with (first
      | (go_at_call 99; refine (HI.out _).mono ?_; rintro e w1 ⟨rfl, rfl⟩)
      | fail)
    all_goals
      go_wp2_with fail
      go_meet
      exact ⟨rfl, Lib.hid (by repeat (first | exact Keep.refl _ _ | apply Keep.drew))⟩
  case rest =>
  obtain ⟨rfl, KX⟩ := hcut
  have H1 := Lib.hid (H.out.keep0 KX.out)
  clear c4 HI hmin m1 m0
  obtain ⟨_, _, _, _, c4, _, _⟩ := H1.out.at
  have f4 := H1.out.free 4
  have K1 := Lib.hid (KX.out.mono (S' := [b]) (by simp))
  rcases hcases with hn | ⟨k, hk, hkl, h256⟩
  · have hL := hshort hn
    by_cases h2 : 256 ≤ c.inp.length
    · rw [if_pos h2] at hL
      have HL := Lib.hid hL
      have h2' : decide (((c.inp.length : Nat) : Int) ≥ 256) = true := by simp; omega
      clear hL hshort hat
      go_wp2_with fail
      go_ret2
      rw [HL.out]
      exact ⟨rfl, H1.out, K1.out⟩
    · rw [if_neg h2] at hL
      have HL := Lib.hid hL
      have h2' : decide (((c.inp.length : Nat) : Int) ≥ 256) = false := by simp; omega
      clear hL hshort hat
      go_wp2_with fail
      go_ret2
      rw [HL.out]
      exact ⟨rfl, H1.out, K1.out⟩
  · have hL := hat k hk
    subst hk
    have hx1 : (S c.inp).extract 0 (k + 1) = S (c.inp.take (k + 1)) := by rw [S_extract, List.drop_zero]
    have hx2 : (S c.inp).extract (k + 1) c.inp.length = S (c.inp.drop (k + 1)) := by rw [S_extract, List.take_length]
    have hCS : ∀ w1, Calls Tryd.prog 100 #[.string (S (c.inp.take (k + 1))), .string ⟨#[13, 10]⟩] w1 fun e w' => e = .returned (.tuple #[.string (S (Lib.trimSuffix (c.inp.take (k + 1)) crlfC)), .bool (Lib.hasSuffix (c.inp.take (k + 1)) crlfC)]) ∧ w' = w1 := fun w1 =>
      Tryd.strings_CutSuffix (S (c.inp.take (k + 1))) ⟨#[13, 10]⟩ w1 (by rw [S_size, List.length_take]; omega)
    generalize Lib.trimSuffix (c.inp.take (k + 1)) crlfC = t at *
    generalize hsx : Lib.hasSuffix (c.inp.take (k + 1)) crlfC = sx at *
    have hkw := IntWalk.i64_in ((k : Int) + 1) (by omega)
    have hk1 : (k : Int) + 1 ≤ (c.inp.length : Int) := by omega
    have hk0 : (0 : Int) ≤ (k : Int) + 1 := by omega
    have hkn : ((k : Int) + 1).toNat = k + 1 := by omega
    have hkl0 : decide ((k : Int) < 0) = false := by simp
    clear hshort hat hsx
    cases sx with
    | false =>
      have HL := Lib.hid (show lnC c.inp = ⟨[], 3, c.inp⟩ from hL)
      have HCS := Lib.hid hCS
      clear hL hCS
      go_wp2_with fail
      refine (HCS.out _).mono ?_
      rintro e w1 ⟨rfl, rfl⟩
      go_wp2_with fail
      go_ret2
      rw [HL.out]
      exact ⟨rfl, H1.out, K1.out⟩
    | true =>
      have HL := Lib.hid (show lnC c.inp = ⟨t, 0, c.inp.drop (k + 1)⟩ from hL)
      have HCS := Lib.hid hCS
      clear hL hCS
      go_wp2_with fail
      refine (HCS.out _).mono ?_
      rintro e w1 ⟨rfl, rfl⟩
      go_wp2_with fail
      go_ret2
      rw [HL.out]
      exact ⟨rfl, H1.out.set 4 _ (fun _ => rfl) rfl, K1.out.setCell _ _ (by simp)⟩

def xColon : List UInt8 := [120, 58]
theorem isRest_parse (r : List UInt8) : parseE (xColon ++ r) = if isTxt r then 0 else 3 := by
  have hi : Lib.indexByte (xColon ++ r) 58 = ((1 : Nat) : Int) := indexByte_at rfl (fun j hj => by
    have : j = 0 := by omega
    subst this
    show (some (120 : UInt8)) ≠ some 58
    decide)
  unfold parseE
  rw [parseF_eq, hi]
  have h1 : (xColon ++ r).take ((1 : Nat) : Int).toNat = [120] := rfl
  have h2 : (xColon ++ r).drop (((1 : Nat) : Int).toNat + 1) = r := rfl
  rw [h1, h2]
  have h3 : isTok [120] = true := by decide +kernel
  cases isTxt r <;> simp [h3]

theorem parse_two (l : List UInt8) (w : World) (hm : ML w) (hl : l.length < 4294967281) : Calls Tryd.prog 101 #[.string (S l)] w fun e w' => e = .returned (.tuple #[.agg #[.string (S (parseV l).name), .string (S (parseV l).value)], .int .i64 (parseE l)]) ∧ Keep [] w w' := field_Parse l w hm hl

set_option maxRecDepth 100000 in
set_option maxHeartbeats 1000000 in
theorem chunk_isRest (r : List UInt8) (w : World) (hm : ML w) (hl : r.length ≤ 1048576) :
    Calls Tryd.prog 106 #[.string (S r)] w fun e w' => e = .returned (.bool (restOk r)) ∧ Keep [] w w' := by
  have hsz := S_size r
  have hte := S_toList r
  cases r with
  | nil =>
    go_enter Tryd.func106, Tryd.ntmps106
    go_wp2_with fail
    go_ret
    exact ⟨rfl, Keep.refl _ _⟩
  | cons c r =>
    have hO : restOk (c :: r) = (isTxt (c :: r) && decide (0 ≤ Lib.indexByte [32, 9, 59] c)) := rfl
    have hg := fun hk => S_get (l := c :: r) (k := 0) (c := c) rfl hk
    have hP := parse_two (xColon ++ (c :: r)) w hm (by simp [xColon] at hl ⊢; omega)
    rw [isRest_parse] at hP
    have hcat : (⟨#[120, 58]⟩ : ByteArray) ++ S (c :: r) = S (xColon ++ (c :: r)) := S_append xColon _
    have hix := Tryd.strings_IndexByte ⟨#[32, 9, 59]⟩ c.toNat
    have ec : ((c.toNat : Int)).toNat.toUInt8 = c := by simp
    rw [ec] at hix
    change ∀ w1, Calls Tryd.prog 99 #[.string ⟨#[32, 9, 59]⟩, .int .u8 c.toNat] w1 fun e w' => e = .returned (.int .i64 (Lib.indexByte [32, 9, 59] c)) ∧ w' = w1 at hix
    generalize restOk (c :: r) = ro at *
    generalize hl0 : c :: r = l at *
    have hemp : l.isEmpty = false := by rw [← hl0]; rfl
    have hlen : 0 < l.length := by rw [← hl0]; simp
    generalize (parseV (xColon ++ l)).name = pn at *
    generalize (parseV (xColon ++ l)).value = pw at *
    generalize xColon ++ l = xl at *
    generalize Lib.indexByte [32, 9, 59] c = ix at *
    have hcc := u8_nat c
    clear hl0 ec
    have HIX := Lib.hid hix
    cases htx : isTxt l with
    | false =>
      rw [htx] at hP hO
      have HP := Lib.hid hP
      have HO := Lib.hid hO
      clear hP hO htx hix hg
      go_enter Tryd.func106, Tryd.ntmps106
      go_wp2_with fail
      refine HP.out.mono ?_
      rintro e w1 ⟨rfl, k1⟩
      go_wp2_with fail
      go_ret
      refine ⟨ret_bool (by rw [HO.out]; rfl), ?_⟩
      repeat (first | exact k1 | exact Keep.alloc k1 _ | (refine Keep.setCell ?_ _ _ (by first | omega | (intro hh; exact absurd hh (by have := k1.size; simp; omega)))))
    | true =>
      rw [htx] at hP hO
      have HP := Lib.hid hP
      have HO := Lib.hid hO
      clear hP hO htx hix
      by_cases h0 : 0 ≤ ix
      · have h0' : decide (ix ≥ 0) = true := by simp; omega
        go_enter Tryd.func106, Tryd.ntmps106
        go_wp2_with fail
        refine HP.out.mono ?_
        rintro e w1 ⟨rfl, k1⟩
        go_wp2_with fail
        refine (HIX.out _).mono ?_
        rintro e w2 ⟨rfl, rfl⟩
        go_wp2_with fail
        go_ret
        refine ⟨ret_bool (by rw [HO.out]; simp [h0]), ?_⟩
        repeat (first | exact k1 | exact Keep.alloc k1 _ | (refine Keep.setCell ?_ _ _ (by first | omega | (intro hh; exact absurd hh (by have := k1.size; simp; omega)))))
      · have h0' : decide (ix ≥ 0) = false := by simp; omega
        go_enter Tryd.func106, Tryd.ntmps106
        go_wp2_with fail
        refine HP.out.mono ?_
        rintro e w1 ⟨rfl, k1⟩
        go_wp2_with fail
        refine (HIX.out _).mono ?_
        rintro e w2 ⟨rfl, rfl⟩
        go_wp2_with fail
        go_ret
        refine ⟨ret_bool (by rw [HO.out]; simp [h0]), ?_⟩
        repeat (first | exact k1 | exact Keep.alloc k1 _ | (refine Keep.setCell ?_ _ _ (by first | omega | (intro hh; exact absurd hh (by have := k1.size; simp; omega)))))
end Go.Proofs.YtmfnciocnlmceaaDoor

/- Layer 11: begin, close, trailer, data, step. No conditions but on lengths. -/
namespace Go.Proofs.YtmfnciocnlmceaaDoor
open Go.RowKit Go.Shelf

theorem num_len (t : List UInt8) : (numRest t).length ≤ t.length := by unfold numRest Lib.trimLeftS; exact List.Sublist.length_le (List.dropWhile_sublist _)

set_option maxRecDepth 100000 in
set_option maxHeartbeats 2000000 in
theorem chunk_begin (B b : Nat) (p : List UInt8) (c : Ck) (v : Value) (w : World) (hm : ML w) (hb : 0 ≠ b) (h : Ct B w b p c v) (hl : c.inp.length ≤ 1048576) (hmost : (c.most : Int) ≤ 9223372036854775807) (hok : c.dat.length ≤ c.most) :
    Calls Tryd.prog 88 #[.pointer (some ⟨b, 0, none⟩)] w fun e w' => e = .returned (.int .i64 (beginM c).2) ∧ Ct B w' b p (beginM c).1 v ∧ Keep [b] w w' := by
  have HL := Lib.hid (chunk_line B b p c v w h hl)
  have hle := line_le c.inp
  have HT := Lib.hid (fun w1 => show Calls Tryd.prog 105 #[.string (S (lnC c.inp).t), .string ⟨#[48, 49, 50, 51, 52, 53, 54, 55, 56, 57, 97, 98, 99, 100, 101, 102, 65, 66, 67, 68, 69, 70]⟩] w1 fun e w' => e = .returned (.string (S (numRest (lnC c.inp).t))) ∧ Below w1.heap.size w1 w' from
    Any.strings_TrimLeft_laid Tryd.lays161 (by kernel_rfl) (S (lnC c.inp).t) ⟨#[48, 49, 50, 51, 52, 53, 54, 55, 56, 57, 97, 98, 99, 100, 101, 102, 65, 66, 67, 68, 69, 70]⟩ w1 (by decide) (ascii_of_all (by decide)))
  have hnl := num_len (lnC c.inp).t
  have HR := Lib.hid (fun w1 (hm1 : ML w1) => chunk_isRest (numRest (lnC c.inp).t) w1 hm1 (by omega))
  have HU := Lib.hid (fun w1 => hexa_Unhexnum (numT (lnC c.inp).t) ((c.most : Int) - (c.dat.length : Nat)) w1 (show (numT (lnC c.inp).t).length ≤ 9223372036854775807 by unfold numT; rw [List.length_take]; omega))
  have hbe : beginM c = if (lnC c.inp).e ≠ 0 then (c, (lnC c.inp).e)
    else if numE (lnC c.inp).t ((c.most : Int) - (c.dat.length : Nat)) ≠ 0 then ({ c with inp := (lnC c.inp).r }, numE (lnC c.inp).t ((c.most : Int) - (c.dat.length : Nat)))
    else ({ c with inp := (lnC c.inp).r, left := (numV (lnC c.inp).t ((c.most : Int) - (c.dat.length : Nat))).toNat, st := if numV (lnC c.inp).t ((c.most : Int) - (c.dat.length : Nat)) = 0 then 3 else 1 }, 0) := rfl
  have hE : numE (lnC c.inp).t ((c.most : Int) - (c.dat.length : Nat)) = if restOk (numRest (lnC c.inp).t) then (if unhexE (numT (lnC c.inp).t) ((c.most : Int) - (c.dat.length : Nat)) = 14 then 4 else unhexE (numT (lnC c.inp).t) ((c.most : Int) - (c.dat.length : Nat))) else 3 := rfl
  have hV : numV (lnC c.inp).t ((c.most : Int) - (c.dat.length : Nat)) = unhexV (numT (lnC c.inp).t) ((c.most : Int) - (c.dat.length : Nat)) := rfl
  have hVr := fun hh => numV_range (t := (lnC c.inp).t) (m := (c.most : Int) - (c.dat.length : Nat)) hh
  have hEr := unhex_range (numT (lnC c.inp).t) ((c.most : Int) - (c.dat.length : Nat))
  have hle2 := line_err (l := c.inp)
  generalize (lnC c.inp).e = le at *
  generalize hrr : (lnC c.inp).r = lr at *
  have hx : (S (lnC c.inp).t).extract 0 ((lnC c.inp).t.length - (numRest (lnC c.inp).t).length) = S (numT (lnC c.inp).t) := by rw [S_extract, List.drop_zero]; rfl
  generalize numT (lnC c.inp).t = nt at *
  generalize restOk (numRest (lnC c.inp).t) = ro at *
  generalize numE (lnC c.inp).t ((c.most : Int) - (c.dat.length : Nat)) = ne at *
  generalize numV (lnC c.inp).t ((c.most : Int) - (c.dat.length : Nat)) = nv at *
  generalize unhexE nt ((c.most : Int) - (c.dat.length : Nat)) = ue at *
  generalize unhexV nt ((c.most : Int) - (c.dat.length : Nat)) = uv at *
  generalize numRest (lnC c.inp).t = nr at *
  generalize (lnC c.inp).t = lt at *
  have s1 := S_size lt
  have s2 := S_size nr
  subst hV
  clear h
  by_cases h0 : le = 0
  · subst h0
    rw [if_neg (by simp)] at hbe
    cases ro with
    | false =>
      rw [if_neg (by simp)] at hE
      subst hE
      rw [if_pos (by decide)] at hbe
      have HB := Lib.hid hbe
      clear hbe hVr hEr hx hle2
      go_enter Tryd.func88, Tryd.ntmps88
      go_wp2_with fail
      refine HL.out.mono ?_
      rintro e w1 ⟨rfl, t1, k1⟩
      have T1 := Lib.hid t1
      have K1 := Lib.hid k1
      clear t1 k1
      go_wp2_with fail
      refine (HT.out _).mono ?_
      rintro e w2 ⟨rfl, k2⟩
      have K2 := Lib.hid (Keep.of_below k2 [])
      clear k2
      go_wp2_with fail
      refine (HR.out _ ((hm.keep K1.out (by simpa using hb)).keep K2.out (by simp))).mono ?_
      rintro e w3 ⟨rfl, k3⟩
      have K3 := Lib.hid k3
      clear k3
      go_wp2_with fail
      go_ret
      rw [HB.out]
      exact ⟨rfl, (T1.out.keep0 K2.out).keep0 K3.out, (K1.out.trans' K2.out (by simp)).trans' K3.out (by simp)⟩
    | true =>
      rw [if_pos rfl] at hE
      have hsub : ((lt.length : Nat) : Int) - ((nr.length : Nat) : Int) = ((lt.length - nr.length : Nat) : Int) := by omega
      have hsw := IntWalk.i64_in (((lt.length - nr.length : Nat)) : Int) (by omega)
      have hs0 : (0 : Int) ≤ ((lt.length - nr.length : Nat) : Int) := by omega
      have hs1 : ((lt.length - nr.length : Nat) : Int) ≤ ((lt.length : Nat) : Int) := by omega
      have hmw := IntWalk.i64_in ((c.most : Int) - (c.dat.length : Nat)) (by omega)
      generalize lt.length - nr.length = sl at *
      by_cases hu0 : ue = 0
      · subst hu0
        rw [if_neg (by decide)] at hE
        subst hE
        rw [if_neg (by simp)] at hbe
        obtain ⟨v0, v1⟩ := hVr rfl
        obtain ⟨m, rfl⟩ : ∃ m : Nat, nv = m := ⟨nv.toNat, by omega⟩
        have htn : ((m : Nat) : Int).toNat = m := by omega
        rw [htn] at hbe
        by_cases hz : m = 0
        · rw [if_pos (by omega)] at hbe
          subst hz
          have HB := Lib.hid hbe
          clear hbe hVr hEr hle2
          go_enter Tryd.func88, Tryd.ntmps88
          go_wp2_with fail
          refine HL.out.mono ?_
          rintro e w1 ⟨rfl, t1, k1⟩
          have T1 := Lib.hid t1
          have K1 := Lib.hid k1
          clear t1 k1
          go_wp2_with fail
          refine (HT.out _).mono ?_
          rintro e w2 ⟨rfl, k2⟩
          have K2 := Lib.hid (Keep.of_below k2 [])
          clear k2
          go_wp2_with fail
          refine (HR.out _ ((hm.keep K1.out (by simpa using hb)).keep K2.out (by simp))).mono ?_
          rintro e w3 ⟨rfl, k3⟩
          have T3 := Lib.hid ((T1.out.keep0 K2.out).keep0 k3)
          have K3 := Lib.hid ((K1.out.trans' K2.out (by simp)).trans' k3 (by simp))
          clear k3
          obtain ⟨_, _, c2, _, _, c7, _⟩ := T3.out.at
          dsimp only at c2 c7
          go_upto_region 7 with fail
          go_cut [6, 4] (fun y z wx => y = .int .i64 0 ∧ z = .int .i64 0 ∧ Hid (Keep [] w3 wx))
          case first =>
            go_region_with (first
              | (go_at_call 107; refine (HU.out _).mono ?_; rintro e w4 ⟨rfl, k4⟩; have K4 := Lib.hid (Keep.trans (S := []) (a := w3) (by repeat (first | exact Keep.refl [] _ | apply Keep.drew)) k4); clear k4)
              | fail)
            all_goals
              go_wp2_with fail
              go_meet
              exact ⟨rfl, rfl, Lib.hid (by repeat (first | exact K4.out | apply Keep.drew))⟩
          case rest =>
          obtain ⟨rfl, rfl, KX⟩ := hcut
          have T4 := Lib.hid (T3.out.keep0 KX.out)
          have K4 := Lib.hid (K3.out.trans' KX.out (by simp))
          clear KX c2 c7
          obtain ⟨d0, d1, _, _, _, _, _⟩ := T4.out.at
          have f0 := T4.out.free 0
          have f1 := T4.out.free 1
          dsimp only at d0 d1
          go_wp2_with fail
          go_ret
          rw [HB.out]
          refine ⟨rfl, ?_, ((K4.out.setCell _ _ (by simp)).setCell _ _ (by simp)).setCell _ _ (by simp)⟩
          exact (((T4.out.set 1 _ (fun _ => rfl) rfl (c' := { c with inp := lr, left := 0 })).set 0 _ (fun _ => rfl) rfl (c' := { c with inp := lr, left := 0, st := 1 })).set 0 _ (fun _ => rfl) rfl)
        · rw [if_neg (by omega)] at hbe
          have HB := Lib.hid hbe
          have hz' := (int_ne (show ((m : Nat) : Int) ≠ 0 by omega)).1
          clear hbe hVr hEr hle2
          go_enter Tryd.func88, Tryd.ntmps88
          go_wp2_with fail
          refine HL.out.mono ?_
          rintro e w1 ⟨rfl, t1, k1⟩
          have T1 := Lib.hid t1
          have K1 := Lib.hid k1
          clear t1 k1
          go_wp2_with fail
          refine (HT.out _).mono ?_
          rintro e w2 ⟨rfl, k2⟩
          have K2 := Lib.hid (Keep.of_below k2 [])
          clear k2
          go_wp2_with fail
          refine (HR.out _ ((hm.keep K1.out (by simpa using hb)).keep K2.out (by simp))).mono ?_
          rintro e w3 ⟨rfl, k3⟩
          have T3 := Lib.hid ((T1.out.keep0 K2.out).keep0 k3)
          have K3 := Lib.hid ((K1.out.trans' K2.out (by simp)).trans' k3 (by simp))
          clear k3
          obtain ⟨_, _, c2, _, _, c7, _⟩ := T3.out.at
          dsimp only at c2 c7
          go_upto_region 7 with fail
          go_cut [6, 4] (fun y z wx => y = .int .i64 (m : Nat) ∧ z = .int .i64 0 ∧ Hid (Keep [] w3 wx))
          case first =>
            go_region_with (first
              | (go_at_call 107; refine (HU.out _).mono ?_; rintro e w4 ⟨rfl, k4⟩; have K4 := Lib.hid (Keep.trans (S := []) (a := w3) (by repeat (first | exact Keep.refl [] _ | apply Keep.drew)) k4); clear k4)
              | fail)
            all_goals
              go_wp2_with fail
              go_meet
              exact ⟨rfl, rfl, Lib.hid (by repeat (first | exact K4.out | apply Keep.drew))⟩
          case rest =>
          obtain ⟨rfl, rfl, KX⟩ := hcut
          have T4 := Lib.hid (T3.out.keep0 KX.out)
          have K4 := Lib.hid (K3.out.trans' KX.out (by simp))
          clear KX c2 c7
          obtain ⟨d0, d1, _, _, _, _, _⟩ := T4.out.at
          have f0 := T4.out.free 0
          have f1 := T4.out.free 1
          dsimp only at d0 d1
          go_wp2_with fail
          go_ret
          rw [HB.out]
          refine ⟨rfl, ?_, (K4.out.setCell _ _ (by simp)).setCell _ _ (by simp)⟩
          exact ((T4.out.set 1 _ (fun _ => rfl) rfl (c' := { c with inp := lr, left := m })).set 0 _ (fun _ => rfl) rfl)
      · have hne : ne ≠ 0 := by rw [hE]; split <;> omega
        rw [if_pos hne] at hbe
        have hcase : (ue = 14 ∧ ne = 4) ∨ (ue = 3 ∧ ne = 3) := by
          rcases (hEr.2 hu0).2 with h14 | h3
          · exact .inl ⟨h14, by rw [hE, if_pos h14]⟩
          · exact .inr ⟨h3, by rw [hE, if_neg (by omega), h3]⟩
        rcases hcase with ⟨h14, hne4⟩ | ⟨h3, hne4⟩
        · rw [hne4] at hbe
          have q1 := (int_eq h14).1
          clear h14 hne4
          have HB := Lib.hid hbe
          clear hbe hVr hEr hle2 hE hne hu0
          go_enter Tryd.func88, Tryd.ntmps88
          go_wp2_with fail
          refine HL.out.mono ?_
          rintro e w1 ⟨rfl, t1, k1⟩
          have T1 := Lib.hid t1
          have K1 := Lib.hid k1
          clear t1 k1
          go_wp2_with fail
          refine (HT.out _).mono ?_
          rintro e w2 ⟨rfl, k2⟩
          have K2 := Lib.hid (Keep.of_below k2 [])
          clear k2
          go_wp2_with fail
          refine (HR.out _ ((hm.keep K1.out (by simpa using hb)).keep K2.out (by simp))).mono ?_
          rintro e w3 ⟨rfl, k3⟩
          have T3 := Lib.hid ((T1.out.keep0 K2.out).keep0 k3)
          have K3 := Lib.hid ((K1.out.trans' K2.out (by simp)).trans' k3 (by simp))
          clear k3
          obtain ⟨_, _, c2, _, _, c7, _⟩ := T3.out.at
          dsimp only at c2 c7
          go_upto_region 7 with fail
          go_cut [6, 4] (fun y z wx => y = .int .i64 nv ∧ z = .int .i64 ue ∧ Hid (Keep [] w3 wx))
          case first =>
            go_region_with (first
              | (go_at_call 107; refine (HU.out _).mono ?_; rintro e w4 ⟨rfl, k4⟩; have K4 := Lib.hid (Keep.trans (S := []) (a := w3) (by repeat (first | exact Keep.refl [] _ | apply Keep.drew)) k4); clear k4)
              | fail)
            all_goals
              go_wp2_with fail
              go_meet
              exact ⟨rfl, rfl, Lib.hid (by repeat (first | exact K4.out | apply Keep.drew))⟩
          case rest =>
          obtain ⟨rfl, rfl, KX⟩ := hcut
          have T4 := Lib.hid (T3.out.keep0 KX.out)
          have K4 := Lib.hid (K3.out.trans' KX.out (by simp))
          clear KX c2 c7
          go_wp2_with fail
          go_ret
          rw [HB.out]
          exact ⟨rfl, T4.out, K4.out⟩
        · rw [hne4, ← h3] at hbe
          have q1 := (int_ne (show ue ≠ 14 by omega)).1
          have q2 := (int_ne hu0).2
          clear h3 hne4
          have HB := Lib.hid hbe
          clear hbe hVr hEr hle2 hE hne hu0
          go_enter Tryd.func88, Tryd.ntmps88
          go_wp2_with fail
          refine HL.out.mono ?_
          rintro e w1 ⟨rfl, t1, k1⟩
          have T1 := Lib.hid t1
          have K1 := Lib.hid k1
          clear t1 k1
          go_wp2_with fail
          refine (HT.out _).mono ?_
          rintro e w2 ⟨rfl, k2⟩
          have K2 := Lib.hid (Keep.of_below k2 [])
          clear k2
          go_wp2_with fail
          refine (HR.out _ ((hm.keep K1.out (by simpa using hb)).keep K2.out (by simp))).mono ?_
          rintro e w3 ⟨rfl, k3⟩
          have T3 := Lib.hid ((T1.out.keep0 K2.out).keep0 k3)
          have K3 := Lib.hid ((K1.out.trans' K2.out (by simp)).trans' k3 (by simp))
          clear k3
          obtain ⟨_, _, c2, _, _, c7, _⟩ := T3.out.at
          dsimp only at c2 c7
          go_upto_region 7 with fail
          go_cut [6, 4] (fun y z wx => y = .int .i64 nv ∧ z = .int .i64 ue ∧ Hid (Keep [] w3 wx))
          case first =>
            go_region_with (first
              | (go_at_call 107; refine (HU.out _).mono ?_; rintro e w4 ⟨rfl, k4⟩; have K4 := Lib.hid (Keep.trans (S := []) (a := w3) (by repeat (first | exact Keep.refl [] _ | apply Keep.drew)) k4); clear k4)
              | fail)
            all_goals
              go_wp2_with fail
              go_meet
              exact ⟨rfl, rfl, Lib.hid (by repeat (first | exact K4.out | apply Keep.drew))⟩
          case rest =>
          obtain ⟨rfl, rfl, KX⟩ := hcut
          have T4 := Lib.hid (T3.out.keep0 KX.out)
          have K4 := Lib.hid (K3.out.trans' KX.out (by simp))
          clear KX c2 c7
          go_wp2_with fail
          go_ret
          rw [HB.out]
          exact ⟨rfl, T4.out, K4.out⟩
  · rw [if_pos h0] at hbe
    obtain ⟨rfl, rfl⟩ := hle2 h0
    have h0' := (int_ne h0).2
    have HB := Lib.hid hbe
    clear hbe hVr hEr hle2 hE hx h0
    go_enter Tryd.func88, Tryd.ntmps88
    go_wp2_with fail
    refine HL.out.mono ?_
    rintro e w1 ⟨rfl, t1, k1⟩
    have T1 := Lib.hid t1
    have K1 := Lib.hid k1
    clear t1 k1
    go_wp2_with fail
    go_ret
    rw [HB.out]
    exact ⟨rfl, T1.out, K1.out⟩
end Go.Proofs.YtmfnciocnlmceaaDoor

/- Layer 11: close, trailer, data, step. No conditions but on lengths. -/
namespace Go.Proofs.YtmfnciocnlmceaaDoor
open Go.RowKit Go.Shelf

set_option maxRecDepth 100000 in
set_option maxHeartbeats 2000000 in
theorem chunk_trailer (B b : Nat) (p : List UInt8) (c : Ck) (v : Value) (w : World) (hm : ML w) (hb : 0 ≠ b) (h : Ct B w b p c v) (hl : c.inp.length ≤ 1048576) (hfl : c.flds ≤ 16) :
    Calls Tryd.prog 91 #[.pointer (some ⟨b, 0, none⟩)] w fun e w' => e = .returned (.int .i64 (trailM c).2) ∧ Ct B w' b p (trailM c).1 v ∧ Keep [b] w w' := by
  have HL := Lib.hid (chunk_line B b p c v w h hl)
  have hle := line_le c.inp
  have HP := Lib.hid (fun w1 (hm1 : ML w1) => parse_two (lnC c.inp).t w1 hm1 (by omega))
  have hbe : trailM c = if (lnC c.inp).e ≠ 0 then (c, (lnC c.inp).e)
    else if (lnC c.inp).t = [] then ({ c with inp := (lnC c.inp).r, st := 4 }, 0)
    else if parseE (lnC c.inp).t ≠ 0 then ({ c with inp := (lnC c.inp).r }, parseE (lnC c.inp).t)
    else ({ c with inp := (lnC c.inp).r, flds := c.flds + 1 }, if 16 < c.flds + 1 then 4 else 0) := rfl
  have hPe := parseE_cases (lnC c.inp).t
  have hle2 := line_err (l := c.inp)
  generalize (lnC c.inp).e = le at *
  generalize (lnC c.inp).r = lr at *
  generalize (parseV (lnC c.inp).t).name = pn at *
  generalize (parseV (lnC c.inp).t).value = pw at *
  generalize parseE (lnC c.inp).t = pe at *
  generalize (lnC c.inp).t = lt at *
  have s1 := S_size lt
  have s2 := S_toList lt
  clear h
  by_cases h0 : le = 0
  · subst h0
    rw [if_neg (by simp)] at hbe
    by_cases ht : lt = []
    · rw [if_pos ht] at hbe
      have ht' : lt.isEmpty = true := by rw [ht]; rfl
      have HB := Lib.hid hbe
      clear hbe hle2 ht
      go_enter Tryd.func91, Tryd.ntmps91
      go_wp2_with fail
      refine HL.out.mono ?_
      rintro e w1 ⟨rfl, t1, k1⟩
      have T1 := Lib.hid t1
      have K1 := Lib.hid k1
      clear t1 k1
      obtain ⟨d0, _, _, _, _, _, _⟩ := T1.out.at
      have f0 := T1.out.free 0
      dsimp only at d0
      go_wp2_with fail
      go_ret
      rw [HB.out]
      exact ⟨rfl, T1.out.set 0 _ (fun _ => rfl) rfl, K1.out.setCell _ _ (by simp)⟩
    · have ht' : lt.isEmpty = false := by cases lt with | nil => exact absurd rfl ht | cons => rfl
      rw [if_neg ht] at hbe
      by_cases hp0 : pe = 0
      · subst hp0
        rw [if_neg (by simp)] at hbe
        have HB := Lib.hid hbe
        have hfw := IntWalk.i64_in ((c.flds : Int) + 1) (by omega)
        by_cases h16 : 16 < c.flds + 1
        · have h16' : decide ((c.flds : Int) + 1 > 16) = true := by simp; omega
          have HB := Lib.hid (hbe.trans (by rw [if_pos h16]))
          clear hbe hle2 ht h16
          go_enter Tryd.func91, Tryd.ntmps91
          go_wp2_with fail
          refine HL.out.mono ?_
          rintro e w1 ⟨rfl, t1, k1⟩
          have T1 := Lib.hid t1
          have K1 := Lib.hid k1
          clear t1 k1
          go_wp2_with fail
          refine (HP.out _ (hm.keep K1.out (by simpa using hb))).mono ?_
          rintro e w2 ⟨rfl, k2⟩
          have k3 := k2.alloc (.cells #[.string (S pn), .string (S pw)] 26)
          have T2 := Lib.hid (T1.out.keep0 k3)
          have K2 := Lib.hid (K1.out.trans' k3 (by simp))
          clear k2 k3
          obtain ⟨_, _, _, d3, _, _, _⟩ := T2.out.at
          have f3 := T2.out.free 3
          dsimp only at d3
          go_wp2_with fail
          go_ret
          rw [HB.out]
          refine ⟨rfl, T2.out.set 3 _ (fun _ => rfl) rfl, K2.out.setCell _ _ (by simp)⟩
        · have h16' : decide ((c.flds : Int) + 1 > 16) = false := by simp; omega
          have HB := Lib.hid (hbe.trans (by rw [if_neg h16]))
          clear hbe hle2 ht h16
          go_enter Tryd.func91, Tryd.ntmps91
          go_wp2_with fail
          refine HL.out.mono ?_
          rintro e w1 ⟨rfl, t1, k1⟩
          have T1 := Lib.hid t1
          have K1 := Lib.hid k1
          clear t1 k1
          go_wp2_with fail
          refine (HP.out _ (hm.keep K1.out (by simpa using hb))).mono ?_
          rintro e w2 ⟨rfl, k2⟩
          have k3 := k2.alloc (.cells #[.string (S pn), .string (S pw)] 26)
          have T2 := Lib.hid (T1.out.keep0 k3)
          have K2 := Lib.hid (K1.out.trans' k3 (by simp))
          clear k2 k3
          obtain ⟨_, _, _, d3, _, _, _⟩ := T2.out.at
          have f3 := T2.out.free 3
          dsimp only at d3
          go_wp2_with fail
          go_ret
          rw [HB.out]
          refine ⟨rfl, T2.out.set 3 _ (fun _ => rfl) rfl, K2.out.setCell _ _ (by simp)⟩
      · rw [if_pos hp0] at hbe
        have hp0' := (int_ne hp0).2
        have HB := Lib.hid hbe
        clear hbe hle2 ht hp0
        go_enter Tryd.func91, Tryd.ntmps91
        go_wp2_with fail
        refine HL.out.mono ?_
        rintro e w1 ⟨rfl, t1, k1⟩
        have T1 := Lib.hid t1
        have K1 := Lib.hid k1
        clear t1 k1
        go_wp2_with fail
        refine (HP.out _ (hm.keep K1.out (by simpa using hb))).mono ?_
        rintro e w2 ⟨rfl, k2⟩
        have k3 := k2.alloc (.cells #[.string (S pn), .string (S pw)] 26)
        have T2 := Lib.hid (T1.out.keep0 k3)
        have K2 := Lib.hid (K1.out.trans' k3 (by simp))
        clear k2 k3
        go_wp2_with fail
        go_ret
        rw [HB.out]
        exact ⟨rfl, T2.out, K2.out⟩
  · rw [if_pos h0] at hbe
    obtain ⟨rfl, rfl⟩ := hle2 h0
    have h0' := (int_ne h0).2
    have HB := Lib.hid hbe
    clear hbe hle2 h0
    go_enter Tryd.func91, Tryd.ntmps91
    go_wp2_with fail
    refine HL.out.mono ?_
    rintro e w1 ⟨rfl, t1, k1⟩
    have T1 := Lib.hid t1
    have K1 := Lib.hid k1
    clear t1 k1
    go_wp2_with fail
    go_ret
    rw [HB.out]
    exact ⟨rfl, T1.out, K1.out⟩

set_option maxRecDepth 100000 in
set_option maxHeartbeats 2000000 in
theorem chunk_close (B b : Nat) (p : List UInt8) (c : Ck) (v : Value) (w : World) (h : Ct B w b p c v) (hl : c.inp.length ≤ 1048576) :
    Calls Tryd.prog 90 #[.pointer (some ⟨b, 0, none⟩)] w fun e w' => e = .returned (.int .i64 (closeM c).2) ∧ Ct B w' b p (closeM c).1 v ∧ Keep [b] w w' := by
  have sz := S_size c.inp
  obtain ⟨c0, _, _, _, c4, _, _⟩ := h.at
  have f0 := h.free 0
  have f4 := h.free 4
  have H := Lib.hid h
  have hbe : closeM c = if c.inp.take 2 ≠ crlfC.take c.inp.length then (c, 3) else if c.inp.length < 2 then (c, 17) else ({ c with inp := c.inp.drop 2, st := 0 }, 0) := rfl
  have hmin : min ((c.inp.length : Nat) : Int) 2 = ((min c.inp.length 2 : Nat) : Int) := by omega
  have e2 : c.inp.take (min c.inp.length 2) = c.inp.take 2 := by
    rcases Nat.le_total c.inp.length 2 with hh | hh
    · rw [Nat.min_eq_left hh, List.take_length, List.take_of_length_le hh]
    · rw [Nat.min_eq_right hh]
  have e3 : crlfC.take (min c.inp.length 2) = crlfC.take c.inp.length := by
    rcases Nat.le_total c.inp.length 2 with hh | hh
    · rw [Nat.min_eq_left hh]
    · rw [Nat.min_eq_right hh, List.take_of_length_le (show crlfC.length ≤ c.inp.length from hh)]; rfl
  have x1 : (S c.inp).extract 0 (min c.inp.length 2) = S (c.inp.take 2) := by rw [S_extract, List.drop_zero, e2]
  have x2 : (⟨#[13, 10]⟩ : ByteArray).extract 0 (min c.inp.length 2) = S (crlfC.take c.inp.length) := by
    have := S_extract crlfC 0 (min c.inp.length 2)
    rw [List.drop_zero, e3] at this
    exact this
  have l1 := S_toList (c.inp.take 2)
  have l2 := S_toList (crlfC.take c.inp.length)
  have m2 : min c.inp.length 2 ≤ 2 := Nat.min_le_right _ _
  have m1 : min c.inp.length 2 ≤ c.inp.length := Nat.min_le_left _ _
  have x3 : (S c.inp).extract 2 c.inp.length = S (c.inp.drop 2) := by rw [S_extract, List.take_length]
  have hd : c.inp.length < 2 ↔ min c.inp.length 2 < 2 := by omega
  have hm2 : ¬ c.inp.length < 2 → min c.inp.length 2 = 2 := by omega
  generalize hmm : min c.inp.length 2 = m at *
  have i0 : (0 : Int) ≤ (m : Int) := by omega
  have i1 : (m : Int) ≤ (c.inp.length : Int) := by omega
  have i2 : (m : Int) ≤ 2 := by omega
  clear e2 e3 h hmm
  by_cases h1 : c.inp.take 2 = crlfC.take c.inp.length
  · rw [if_neg (by simp [h1])] at hbe
    have q1 : (c.inp.take 2 != crlfC.take c.inp.length) = false := by rw [h1]; simp
    have q2 : (c.inp.take 2 == crlfC.take c.inp.length) = true := by rw [h1]; simp
    generalize c.inp.take 2 = A1 at *
    generalize crlfC.take c.inp.length = A2 at *
    by_cases h2 : c.inp.length < 2
    · rw [if_pos h2] at hbe
      have h2' : decide ((m : Int) < 2) = true := by simp; omega
      have HB := Lib.hid hbe
      clear hbe h1 h2 hd hm2
      go_enter Tryd.func90, Tryd.ntmps90
      go_upto_region 2 with fail
      go_cut [10] (fun y wx => y = .bool false ∧ Hid (Keep [] w wx))
      case first =>
        go_region_with fail
        all_goals
          go_wp2_with fail
          go_meet
          exact ⟨rfl, Lib.hid (by repeat (first | exact Keep.refl _ _ | apply Keep.drew))⟩
      case rest =>
      obtain ⟨rfl, KX⟩ := hcut
      have H1 := Lib.hid (H.out.keep0 KX.out)
      have K1 := Lib.hid (KX.out.mono (S' := [b]) (by simp))
      clear c0 c4 f0 f4 KX
      obtain ⟨c0, _, _, _, c4, _, _⟩ := H1.out.at
      have f0 := H1.out.free 0
      have f4 := H1.out.free 4
      go_wp2_with fail
      go_ret
      rw [HB.out]
      exact ⟨rfl, H1.out, K1.out⟩
    · rw [if_neg h2] at hbe
      have hm := hm2 h2
      subst hm
      have HB := Lib.hid hbe
      clear hbe h1 hd hm2
      go_enter Tryd.func90, Tryd.ntmps90
      go_upto_region 2 with fail
      go_cut [10] (fun y wx => y = .bool false ∧ Hid (Keep [] w wx))
      case first =>
        go_region_with fail
        all_goals
          go_wp2_with fail
          go_meet
          exact ⟨rfl, Lib.hid (by repeat (first | exact Keep.refl _ _ | apply Keep.drew))⟩
      case rest =>
      obtain ⟨rfl, KX⟩ := hcut
      have H1 := Lib.hid (H.out.keep0 KX.out)
      have K1 := Lib.hid (KX.out.mono (S' := [b]) (by simp))
      clear c0 c4 f0 f4 KX
      obtain ⟨c0, _, _, _, c4, _, _⟩ := H1.out.at
      have f0 := H1.out.free 0
      have f4 := H1.out.free 4
      go_wp2_with fail
      go_ret
      rw [HB.out]
      exact ⟨rfl, (H1.out.set 4 _ (fun _ => rfl) rfl (c' := { c with inp := c.inp.drop 2 })).set 0 _ (fun _ => rfl) rfl, (K1.out.setCell _ _ (by simp)).setCell _ _ (by simp)⟩
  · rw [if_pos h1] at hbe
    have q1 : (c.inp.take 2 != crlfC.take c.inp.length) = true := by simp [h1]
    have q2 : (c.inp.take 2 == crlfC.take c.inp.length) = false := by simp [h1]
    generalize c.inp.take 2 = A1 at *
    generalize crlfC.take c.inp.length = A2 at *
    have HB := Lib.hid hbe
    clear hbe h1 hd hm2
    go_enter Tryd.func90, Tryd.ntmps90
    go_upto_region 2 with fail
    go_cut [10] (fun y wx => y = .bool true ∧ Hid (Keep [] w wx))
    case first =>
      go_region_with fail
      all_goals
        go_wp2_with fail
        go_meet
        exact ⟨rfl, Lib.hid (by repeat (first | exact Keep.refl _ _ | apply Keep.drew))⟩
    case rest =>
    obtain ⟨rfl, KX⟩ := hcut
    have H1 := Lib.hid (H.out.keep0 KX.out)
    have K1 := Lib.hid (KX.out.mono (S' := [b]) (by simp))
    clear c0 c4 f0 f4 KX
    obtain ⟨c0, _, _, _, c4, _, _⟩ := H1.out.at
    have f0 := H1.out.free 0
    have f4 := H1.out.free 4
    go_wp2_with fail
    go_ret
    rw [HB.out]
    exact ⟨rfl, H1.out, K1.out⟩
end Go.Proofs.YtmfnciocnlmceaaDoor
