/- Parts of the proof of OutletBack, in order. No conditions but those that each theorem states. -/
import Derived.Test.YtmfnciocnlmceaaDoorZOutletBack1
import Derived.Deep.DeepHandedRow
import Derived.Lib.ItoaNum
import Derived.Lib.SlTrimSet
import Derived.Lib.SlBytesConst
import Derived.Lib.LaidTab
import Derived.Lib.ItoaLen
import Derived.Sort.Grow
import Derived.Deep.RegionHeld3
import Derived.Test.YtmfnciocnlmceaaDoorShelf
import Derived.Lib.Builder
import Derived.Lib.AppendStr
import Derived.Deep.LoopGhost
import Derived.DeepKeys4
/- Layer 10: the head: read, Split. No conditions but on lengths. -/
namespace Go.Proofs.YtmfnciocnlmceaaDoor
open Go.RowKit Go.Shelf

/-- what has been read: the start line, the fields, where it ends, the error -/
structure Rd where
  st : List UInt8
  F : List Fld
  n : Nat
  e : Int
  deriving Inhabited
def loopM (s st : List UInt8) : Nat → List Fld → Nat → Rd
  | 0, F, n => ⟨st, F, n, 17⟩
  | k + 1, F, n =>
    if (nextM s n).2.2 ≠ 0 then ⟨st, F, (nextM s n).2.1, (nextM s n).2.2⟩
    else if (nextM s n).1 = [] then ⟨st, F, (nextM s n).2.1, 0⟩
    else if (addM F (nextM s n).1).2 ≠ 0 then ⟨st, (addM F (nextM s n).1).1, (nextM s n).2.1, (addM F (nextM s n).1).2⟩
    else loopM s st k (addM F (nextM s n).1).1 (nextM s n).2.1
def readM (s : List UInt8) : Rd :=
  if (nextM s 0).2.2 ≠ 0 then ⟨[], [], (nextM s 0).2.1, (nextM s 0).2.2⟩
  else if beginE (nextM s 0).1 ≠ 0 then ⟨[], [], (nextM s 0).2.1, beginE (nextM s 0).1⟩
  else loopM s (nextM s 0).1 4097 [] (nextM s 0).2.1
def splitM (s : List UInt8) : Rd := if (readM s).e ≠ 0 then ⟨[], [], 0, (readM s).e⟩ else readM s

theorem lineM_length {l l' : List UInt8} (h : lineM l = some l') : l'.length ≤ l.length := by
  unfold lineM at h
  split at h
  · cases h
    unfold Lib.trimSuffix
    split <;> simp
  · cases h
theorem next_bounds {s : List UInt8} {n : Nat} (h1 : n ≤ s.length) (h2 : n ≤ 4096) : (nextM s n).2.1 ≤ s.length ∧ (nextM s n).2.1 ≤ 4096 ∧ ((nextM s n).2.2 = 0 → n < (nextM s n).2.1) ∧ (nextM s n).1.length ≤ s.length := by
  have hq : (seenM s n).length + n ≤ 4096 ∧ (seenM s n).length + n ≤ s.length := by unfold seenM; simp; omega
  obtain ⟨q1, q2⟩ := hq
  have hge := Lib.indexByte_ge (seenM s n) 10
  unfold nextM
  by_cases hi : Lib.indexByte (seenM s n) 10 < 0
  · rw [if_pos hi]
    refine ⟨h1, h2, ?_, by simp⟩
    dsimp only
    split <;> (intro h; cases h)
  · rw [if_neg hi]
    obtain ⟨o, ho⟩ : ∃ o : Nat, Lib.indexByte (seenM s n) 10 = o := ⟨(Lib.indexByte (seenM s n) 10).toNat, by omega⟩
    have hol := (List.getElem?_eq_some_iff.1 (Lib.indexByte_some ho).1).1
    rw [ho, Int.toNat_natCast]
    cases hl : lineM ((seenM s n).take (o + 1)) with
    | none => dsimp only; exact ⟨by omega, by omega, by omega, by simp⟩
    | some l =>
      have := lineM_length hl
      dsimp only
      exact ⟨by omega, by omega, by omega, by simp at this; omega⟩

set_option maxRecDepth 100000 in
set_option maxHeartbeats 1000000 in
theorem head_read (W : World) (hm : ML W) (s : List UInt8) (b : Nat) (w : World) (h : Hd W w b [] [] 0) (hs : s.length ≤ 1048576) :
    Calls Tryd.prog 50 #[.pointer (some ⟨b, 0, none⟩), .string (S s)] w fun e w' => e = .returned (.int .i64 (readM s).e) ∧ Hd W w' b (readM s).st (readM s).F (readM s).n := by
  have hN := head_next W s b [] [] 0 w h hs (Nat.zero_le _) (Nat.zero_le _)
  have hB := next_bounds (s := s) (n := 0) (Nat.zero_le _) (Nat.zero_le _)
  have hR : readM s = if (nextM s 0).2.2 ≠ 0 then ⟨[], [], (nextM s 0).2.1, (nextM s 0).2.2⟩
    else if beginE (nextM s 0).1 ≠ 0 then ⟨[], [], (nextM s 0).2.1, beginE (nextM s 0).1⟩
    else loopM s (nextM s 0).1 4097 [] (nextM s 0).2.1 := rfl
  generalize nextM s 0 = r at hN hB hR
  obtain ⟨l, n, e0⟩ := r
  dsimp only at hN hB hR
  obtain ⟨b1, b2, b3, b4⟩ := hB
  have HN := Lib.hid hN
  clear hN h
  by_cases he : e0 = 0
  · subst he
    rw [if_neg (by simp)] at hR
    have HG := Lib.hid (fun w1 (h : Hd W w1 b [] [] n) => head_begin W l b [] [] n w1 h (by omega))
    go_enter Tryd.func50, Tryd.ntmps50
    go_wp2_with fail
    refine HN.out.mono ?_
    rintro e w1 ⟨rfl, hd1⟩
    have H1 := Lib.hid hd1
    clear hd1
    go_wp2_with fail
    refine (HG.out _ H1.out).mono ?_
    rintro e w2 ⟨rfl, hd2⟩
    have hst : ∃ st2, Hid (Hd W w2 b st2 [] n) ∧ Hid (readM s = if beginE l ≠ 0 then ⟨st2, [], n, beginE l⟩ else loopM s st2 4097 [] n) := by
      by_cases hz : beginE l = 0
      · exact ⟨l, by rw [if_pos hz] at hd2; exact hd2, by rw [hR]; simp [hz, Hid]⟩
      · exact ⟨[], by rw [if_neg hz] at hd2; exact hd2, by rw [hR]; simp [hz, Hid]⟩
    obtain ⟨st2, H2, HR⟩ := hst
    clear hd2 hR
    generalize beginE l = e2 at HR
    go_wp2_with fail
    go_loopg [5, 6] (4097 - n) (fun g lv ev wr => ∃ (l' : List UInt8) (F : List Fld) (n' k : Nat) (e' : Int), lv = .string (S l') ∧ ev = .int .i64 e' ∧ n' ≤ s.length ∧ n' ≤ 4096 ∧ 4097 - n' ≤ k ∧ g = 4097 - n' ∧ Hid (Hd W wr b st2 F n') ∧
      Hid (readM s = if e' ≠ 0 then ⟨st2, F, n', e'⟩ else loopM s st2 k F n'))
    case atStart => exact ⟨l, [], n, 4097, e2, rfl, rfl, b1, b2, by omega, rfl, H2, HR⟩
    case round =>
      obtain ⟨l', F, n', k, e', rfl, rfl, c1, c2, c3, rfl, HD, HR2⟩ := hrel
      by_cases hz : e' = 0
      · subst hz
        obtain ⟨k', rfl⟩ : ∃ k', k = k' + 1 := ⟨k - 1, by omega⟩
        have hN2 := head_next W s b st2 F n' wr HD.out hs c1 c2
        have hB2 := next_bounds c1 c2
        have hR2 := HR2.out
        rw [if_neg (by simp), loopM] at hR2
        generalize nextM s n' = r2 at hN2 hB2 hR2
        obtain ⟨l2, n2, e3⟩ := r2
        dsimp only at hN2 hB2 hR2
        obtain ⟨p1, p2, p3, p4⟩ := hB2
        have HN2 := Lib.hid hN2
        have hte := S_toList l2
        clear hN2 HR HR2 H2 HG HN H1
        by_cases h3 : e3 = 0
        · subst h3
          have p5 := p3 rfl
          rw [if_neg (by simp)] at hR2
          by_cases hle : l2 = []
          · rw [if_pos hle] at hR2
            have HR3 := Lib.hid hR2
            subst hle
            have hq : (S []).toList = [] := S_toList []
            clear hR2 p3
            go_wp2_with fail
            refine HN2.out.mono ?_
            rintro e w3 ⟨rfl, hd3⟩
            have H3 := Lib.hid hd3
            clear hd3
            go_wp2_with fail
            go_ret
            rw [HR3.out]
            exact ⟨rfl, H3.out⟩
          · rw [if_neg hle] at hR2
            have hie : l2.isEmpty = false := by cases l2 <;> simp_all
            have HR3 := Lib.hid hR2
            have HA := Lib.hid (fun w1 (h : Hd W w1 b st2 F n2) => head_add W hm l2 b st2 F n2 w1 h (by omega))
            clear hR2 p3 hle
            go_wp2_with fail
            refine HN2.out.mono ?_
            rintro e w3 ⟨rfl, hd3⟩
            have H3 := Lib.hid hd3
            clear hd3
            go_wp2_with fail
            refine (HA.out _ H3.out).mono ?_
            rintro e w4 ⟨rfl, hd4⟩
            have H4 := Lib.hid hd4
            clear hd4
            go_wp2_with fail
            go_roundg (4097 - n2)
            case measure => omega
            case rel => exact ⟨l2, (addM F l2).1, n2, k', (addM F l2).2, rfl, rfl, p1, p2, by omega, rfl, H4, HR3⟩
        · rw [if_pos h3] at hR2
          have HR3 := Lib.hid hR2
          have hq1 : (e3 == 0) = false := by simpa using h3
          clear hR2 p3
          go_wp2_with fail
          refine HN2.out.mono ?_
          rintro e w3 ⟨rfl, hd3⟩
          have H3 := Lib.hid hd3
          clear hd3
          go_wp2_with fail
          go_ret
          rw [HR3.out]
          exact ⟨rfl, H3.out⟩
      · have hR2 := HR2.out
        rw [if_pos hz] at hR2
        have HR3 := Lib.hid hR2
        clear hR2 HR HR2 H2 HG HN H1
        go_wp2_with fail
        go_ret
        rw [HR3.out]
        exact ⟨rfl, HD.out⟩
  · rw [if_pos he] at hR
    have HR := Lib.hid hR
    clear hR b3
    go_enter Tryd.func50, Tryd.ntmps50
    go_wp2_with fail
    refine HN.out.mono ?_
    rintro e w1 ⟨rfl, hd1⟩
    have H1 := Lib.hid hd1
    clear hd1
    go_wp2_with fail
    go_loopg [5, 6] 1 (fun g lv ev wr => lv = .string (S l) ∧ ev = .int .i64 e0 ∧ wr = w1)
    case atStart => exact ⟨rfl, rfl, rfl⟩
    case round =>
      obtain ⟨rfl, rfl, rfl⟩ := hrel
      go_wp2_with fail
      go_ret
      rw [HR.out]
      exact ⟨rfl, H1.out⟩
end Go.Proofs.YtmfnciocnlmceaaDoor

/- Layer 10: Split. No conditions but on lengths. -/
namespace Go.Proofs.YtmfnciocnlmceaaDoor
open Go.RowKit Go.Shelf

theorem results_tmp4 {fn : Func} {t u v x : Tmp} (h : fn.results = #[.tmp t, .tmp u, .tmp v, .tmp x]) (tmps : Array Value) (P : Program) (w : World) :
    (results fn tmps).run P w = .ok (.tuple #[tmps.getD t undef, tmps.getD u undef, tmps.getD v undef, tmps.getD x undef]) w := by
  simp [results, h]
def SplitOut (w : World) (r : Rd) (e : Ending) (w' : World) : Prop := ∃ v, e = .returned (.tuple #[.string (S r.st), v, .int .i64 r.n, .int .i64 r.e]) ∧ Own Fld.cells 2 w.heap.size 26 w' v r.F ∧ Keep [] w w'
set_option maxRecDepth 100000 in
set_option maxHeartbeats 1000000 in
theorem field_Split (s : List UInt8) (w : World) (hm : ML w) (hs : s.length ≤ 1048576) :
    Calls Tryd.prog 21 #[.string (S s)] w (SplitOut w (splitM s)) := by
  have HR := Lib.hid (fun w1 (h : Hd w w1 w.heap.size [] [] 0) => head_read w hm s w.heap.size w1 h hs)
  have hH : Hd w (w.alloc (.cells #[.string ⟨#[]⟩, .slice none 0 0, .int .i64 0] 77)) w.heap.size [] [] 0 :=
    ⟨.slice none 0 0, Blk.newA w #[.string ⟨#[]⟩, .slice none 0 0, .int .i64 0] _, Own.nil _ _ _ _ _, by simp [Value.ownBlock], Nat.le_refl _, (Keep.refl _ _).alloc _⟩
  have HH := Lib.hid hH
  have hsp : splitM s = if (readM s).e ≠ 0 then ⟨[], [], 0, (readM s).e⟩ else readM s := rfl
  generalize readM s = r at HR hsp
  clear hH
  by_cases he : r.e = 0
  · rw [if_neg (by simpa using he)] at hsp
    have HS := Lib.hid hsp
    have HE := Lib.hid he
    rw [he] at HR
    clear hsp he
    go_enter Tryd.func21, Tryd.ntmps21
    go_wp2_with fail
    refine (HR.out _ HH.out).mono ?_
    rintro e w1 ⟨rfl, hd1⟩
    obtain ⟨fv, h1, h2, h3, h4, h5⟩ := hd1
    have c0 := h1.get (k := 0) rfl
    have c1 := h1.get (k := 1) rfl
    have c2 := h1.get (k := 2) rfl
    have H2 := Lib.hid h2
    have H5 := Lib.hid h5
    clear h1 h2 h3 h4 h5
    go_wp2_with fail
    go_quiet (fail)
    go_wp2_with fail
    refine bodyPost_ret (results_tmp4 rfl _ _ _) rfl ?_
    rw [HS.out]
    exact ⟨fv, by rw [HE.out]; rfl, H2.out.of_heap rfl, H5.out.drewN _⟩
  · rw [if_pos he] at hsp
    have HS := Lib.hid hsp
    have hq1 : (r.e == 0) = false := by simpa using he
    clear hsp he
    go_enter Tryd.func21, Tryd.ntmps21
    go_wp2_with fail
    refine (HR.out _ HH.out).mono ?_
    rintro e w1 ⟨rfl, hd1⟩
    have H1 := Lib.hid hd1
    clear hd1
    go_wp2_with fail
    refine bodyPost_ret (results_tmp4 rfl _ _ _) rfl ?_
    rw [HS.out]
    exact ⟨_, rfl, Own.nil _ _ _ _ _, H1.out.choose_spec.2.2.2.2⟩
end Go.Proofs.YtmfnciocnlmceaaDoor

/- Layer 10: the first look that the statements take: it answers true. No conditions. -/
namespace Go.Proofs.YtmfnciocnlmceaaDoor
open Go.RowKit Go.Shelf

theorem aw_p1 : parseV [72, 111, 115, 116, 58, 32, 97, 32, 98, 32] = ⟨[72, 111, 115, 116], [97, 32, 98]⟩ := by decide +kernel
theorem aw_e1 : parseE [72, 111, 115, 116, 58, 32, 97, 32, 98, 32] = 0 := by decide +kernel
theorem aw_p2 : parseV [72, 111, 115, 116, 32, 58, 32, 97] = ⟨[], []⟩ := by decide +kernel
theorem aw_e2 : parseE [72, 111, 115, 116, 32, 58, 32, 97] = 3 := by decide +kernel
theorem aw_els : elsM [⟨[88], [97, 44, 32, 34, 98, 44, 99, 34, 32, 44, 44, 100]⟩] [120] = [[97], [34, 98, 44, 99, 34], [100]] := by decide +kernel
theorem aw_s1 : splitM [71, 69, 84, 32, 47, 32, 72, 84, 84, 80, 47, 49, 46, 49, 13, 10, 65, 58, 32, 49, 13, 10, 13, 10, 114, 101, 115, 116] = ⟨[71, 69, 84, 32, 47, 32, 72, 84, 84, 80, 47, 49, 46, 49], [⟨[65], [49]⟩], 24, 0⟩ := by kernel_rfl
theorem aw_s2 : splitM [71, 69, 84, 32, 47, 13, 10, 65, 58, 32, 49, 13, 10, 13] = ⟨[], [], 0, 17⟩ := by kernel_rfl

/-- a slice over a block that is known -/
theorem Blk.sl {α : Type} {enc : α → List Value} {n : Nat} (hn : ∀ x, (enc x).length = n) {w : World} {b : Nat} {T : TypeId} {L : List α} (h : Blk w b T (rows enc L)) {l cap : Nat} (hl : l = L.length) (hc : l ≤ cap) (hm : cap ≤ maxLen) : Sl enc n w (.slice (some ⟨b, 0, none⟩) l cap) L := by
  subst hl
  exact .inr ⟨b, 0, cap, rfl, hc, hm, fun i x hx k hk => by rw [Nat.zero_add, h.cell, rows_get' hn L i k x hx hk]⟩
theorem parse_is {l n v : List UInt8} {k : Int} {w w1 : World} (hm : ML w) (hk : Keep [] w w1) (hl : l.length < 4294967281) (hv : parseV l = ⟨n, v⟩) (he : parseE l = k) :
    Calls Tryd.prog 101 #[.string (S l)] w1 fun e w' => e = .returned (.tuple #[.agg #[.string (S n), .string (S v)], .int .i64 k]) ∧ Keep [] w1 w' := by
  have h := field_Parse l w1 (hm.keep hk (by simp)) hl
  rw [hv, he] at h
  exact h
theorem split_is {l : List UInt8} {r : Rd} {w w1 : World} (hm : ML w) (hk : Keep [] w w1) (hl : l.length ≤ 1048576) (hv : splitM l = r) :
    Calls Tryd.prog 21 #[.string (S l)] w1 (SplitOut w1 r) := by
  have h := field_Split l w1 (hm.keep hk (by simp)) hl
  rw [hv] at h
  exact h

end Go.Proofs.YtmfnciocnlmceaaDoor

/- How fields that come in are read; the worlds that meet the rows' conditions. No conditions. -/
namespace Go.Proofs.YtmfnciocnlmceaaDoor
open Go.RowKit Go.ChangeShapes Go.WideShapes

theorem fld_cells : Tryd.prog.cellsOf 26 = 2 := by kernel_rfl
theorem str_cells : Tryd.prog.cellsOf 9 = 1 := by kernel_rfl
def Fld.good (f : Fld) : Prop := f.name.length ≤ maxLen ∧ f.value.length ≤ maxLen
theorem read_fld {H : Type} {enc : TypeId × Value → H} {w : World} {base : Nat} {spare : Nat → Bool} {held : Bool} (m : Nat) (cs : List Value) (x : DataW H × List MemPlace)
    (h : DataW.trod enc Tryd.prog w base spare held m 26 cs = some x) : ∃ a : Fld, cs = a.cells ∧ a.good := by
  obtain ⟨hl, n, hf⟩ := trod_fields Tryd.underlying26 h
  rw [fld_cells] at hl
  obtain ⟨y0, h0⟩ := hf 0 _ rfl
  obtain ⟨y1, h1⟩ := hf 1 _ rfl
  obtain ⟨v0, c0, w0⟩ := field_string Tryd.underlying9 str_cells h0
  obtain ⟨v1, c1, w1⟩ := field_string Tryd.underlying9 str_cells h1
  refine ⟨⟨v0.data.toList, v1.data.toList⟩, list_eq_of hl rfl ?_, by rw [← Lib.size_eq]; exact w0, by rw [← Lib.size_eq]; exact w1⟩
  intro i hi
  simp only [Fld.cells, S_of]
  match i, hi with
  | 0, _ => exact c0
  | 1, _ => exact c1
/-- a struct that comes in by value -/
theorem read_agg {H : Type} {enc : TypeId × Value → H} {P : Program} {w : World} {base : Nat} {spare : Nat → Bool} {held : Bool} {α : Type} {en : α → List Value} {good : α → Prop}
    {t : TypeId} {v : Value} {d : DataW H} {ps : List MemPlace} (one : ∀ (m : Nat) (cs : List Value) (x : DataW H × List MemPlace), DataW.trod enc P w base spare held m t cs = some x → ∃ a, cs = en a ∧ good a)
    (h : DataW.Trod enc P w base spare held t v d ps) (hv : ∃ cs, v = .agg cs ∧ cs.size = P.cellsOf t) : ∃ a, v = .agg (en a).toArray ∧ good a := by
  obtain ⟨fuel, hf⟩ := h
  obtain ⟨cs, rfl, _⟩ := hv
  obtain ⟨a, ha, hg⟩ := one _ _ _ hf
  exact ⟨a, by rw [← ha]; simp [Value.cells], hg⟩

theorem Calls.below {P : Program} {f : FuncId} {args : Array Value} {w : World} {v : Value} (h : Calls P f args w fun e w' => e = .returned v ∧ Keep [] w w') : Calls P f args w fun e w' => e = .returned v ∧ Below w.heap.size w w' :=
  h.mono fun _ _ h => ⟨h.1, h.2.below (by simp)⟩
theorem ML.shape {W : World} (h : W.ShapedOpen Tryd.prog) : ML W :=
  Go.Proofs.cell_of_shapedOpen_int (zero := #[.int .i64 0]) (t := 3) h (of_decide_eq_true (by kernel_rfl)) (by kernel_rfl) rfl (by kernel_rfl) (by kernel_rfl) Tryd.underlying3

/-- a datum's cells -/
def flatD : Nat → DataW Unit → List Value
  | 0, _ => []
  | n + 1, .agg l => l.flatMap (flatD n)
  | _ + 1, .lit (.int k z) => [.int k z]
  | _ + 1, .lit (.bool b) => [.bool b]
  | _ + 1, .lit (.string s) => [.string ⟨s.toArray⟩]
  | _ + 1, _ => []
/-- the listed variables hold what is listed -/
noncomputable def laidHeap (l : List (String × DataW Unit)) (h : Array Obj) : Array Obj :=
  l.foldl (fun h x => match Tryd.prog.globalNamed x.1 with
    | some g => h.modify g fun
      | .cells _ t fr => .cells (flatD 6 x.2).toArray t fr
      | o => o
    | none => h) h
noncomputable def laidWorld (os : Os) (l : List (String × DataW Unit)) : World :=
  { World.holding Tryd.prog os ⟨#[], #[], []⟩ with heap := laidHeap l (World.holding Tryd.prog os ⟨#[], #[], []⟩).heap }
end Go.Proofs.YtmfnciocnlmceaaDoor

/- Layer 10: what Split makes of a text that goes on. Plain laws; no program. No conditions. -/
namespace Go.Proofs.YtmfnciocnlmceaaDoor
open Go.RowKit Go.Shelf

theorem indexByte_append {l m : List UInt8} {c : UInt8} (h : 0 ≤ Lib.indexByte l c) : Lib.indexByte (l ++ m) c = Lib.indexByte l c := by
  obtain ⟨o, ho⟩ : ∃ o : Nat, Lib.indexByte l c = o := ⟨(Lib.indexByte l c).toNat, by omega⟩
  obtain ⟨h1, h2⟩ := Lib.indexByte_some ho
  have hlt := (List.getElem?_eq_some_iff.1 h1).1
  rw [ho]
  refine indexByte_at ?_ fun j hj => ?_
  · rw [List.getElem?_append_left hlt]; exact h1
  · rw [List.getElem?_append_left (by omega)]; exact h2 j hj
theorem seen_append (p m : List UInt8) (n : Nat) (_ : n ≤ p.length) (_ : n ≤ 4096) : ∃ m', seenM (p ++ m) n = seenM p n ++ m' := by
  unfold seenM
  rw [List.take_append, List.drop_append]
  exact ⟨_, rfl⟩
theorem seen_whole (p m : List UInt8) (n : Nat) (h : 4096 ≤ p.length) : seenM (p ++ m) n = seenM p n := by
  unfold seenM
  rw [List.take_append_of_le_length h]
theorem next_append (p m : List UInt8) (n : Nat) (h : n ≤ p.length) (h2 : n ≤ 4096) : (nextM p n).2.2 = 17 ∨ nextM (p ++ m) n = nextM p n := by
  by_cases hb : 4096 ≤ p.length
  · refine .inr ?_
    unfold nextM
    rw [seen_whole p m n hb]
    have : 4096 ≤ (p ++ m).length := by simp; omega
    rw [if_pos this, if_pos hb]
  · by_cases hi : Lib.indexByte (seenM p n) 10 < 0
    · refine .inl ?_
      unfold nextM
      rw [if_pos hi]
      simp [hb]
    · refine .inr ?_
      obtain ⟨m', hm'⟩ := seen_append p m n h h2
      unfold nextM
      have e := indexByte_append (m := m') (show 0 ≤ Lib.indexByte (seenM p n) 10 by omega)
      rw [hm', e, if_neg hi, if_neg hi]
      obtain ⟨o, ho⟩ : ∃ o : Nat, Lib.indexByte (seenM p n) 10 = o := ⟨(Lib.indexByte (seenM p n) 10).toNat, by omega⟩
      have hlt := (List.getElem?_eq_some_iff.1 (Lib.indexByte_some ho).1).1
      rw [ho, Int.toNat_natCast, List.take_append_of_le_length (by omega)]
theorem loop_append (p m st : List UInt8) : ∀ (k : Nat) (F : List Fld) (n : Nat), n ≤ p.length → n ≤ 4096 → (loopM p st k F n).e = 17 ∨ loopM (p ++ m) st k F n = loopM p st k F n
  | 0, F, n, _, _ => .inl rfl
  | k + 1, F, n, h, h2 => by
    have hb := next_bounds h h2
    rcases next_append p m n h h2 with h3 | h3
    · refine .inl ?_
      unfold loopM
      rw [h3]
      simp
    · unfold loopM
      rw [h3]
      by_cases h4 : (nextM p n).2.2 = 0
      · have h4' : ¬ (nextM p n).2.2 ≠ 0 := by simpa using h4
        rw [if_neg h4', if_neg h4']
        by_cases h5 : (nextM p n).1 = []
        · rw [if_pos h5, if_pos h5]; exact .inr rfl
        · rw [if_neg h5, if_neg h5]
          by_cases h6 : (addM F (nextM p n).1).2 = 0
          · have h6' : ¬ (addM F (nextM p n).1).2 ≠ 0 := by simpa using h6
            rw [if_neg h6', if_neg h6']
            exact loop_append p m st k _ _ hb.1 hb.2.1
          · rw [if_pos h6, if_pos h6]; exact .inr rfl
      · rw [if_pos h4, if_pos h4]; exact .inr rfl
theorem read_append (p m : List UInt8) : (readM p).e = 17 ∨ readM (p ++ m) = readM p := by
  have hb := next_bounds (s := p) (n := 0) (Nat.zero_le _) (Nat.zero_le _)
  rcases next_append p m 0 (Nat.zero_le _) (Nat.zero_le _) with h3 | h3
  · refine .inl ?_
    unfold readM
    rw [h3]
    simp
  · unfold readM
    rw [h3]
    by_cases h4 : (nextM p 0).2.2 = 0
    · have h4' : ¬ (nextM p 0).2.2 ≠ 0 := by simpa using h4
      rw [if_neg h4', if_neg h4']
      by_cases h6 : beginE (nextM p 0).1 = 0
      · have h6' : ¬ beginE (nextM p 0).1 ≠ 0 := by simpa using h6
        rw [if_neg h6', if_neg h6']
        exact loop_append p m _ _ _ _ hb.1 hb.2.1
      · rw [if_pos h6, if_pos h6]; exact .inr rfl
    · rw [if_pos h4, if_pos h4]; exact .inr rfl
/-- whatever comes later: an error stays, a head stays -/
theorem split_append (p m : List UInt8) : (splitM p).e = 17 ∨ splitM (p ++ m) = splitM p := by
  rcases read_append p m with h | h
  · refine .inl ?_
    unfold splitM
    rw [h]
    simp
  · refine .inr ?_
    unfold splitM
    rw [h]
theorem split_take (s : List UInt8) (k : Nat) : (splitM (s.take k)).e = 17 ∨ splitM s = splitM (s.take k) := by
  have := split_append (s.take k) (s.drop k)
  rwa [List.take_append_drop] at this
end Go.Proofs.YtmfnciocnlmceaaDoor

/- Layer 10: a head is read as it was written. Plain laws; no program. No conditions. -/
namespace Go.Proofs.YtmfnciocnlmceaaDoor
open Go.RowKit Go.Shelf

/-- the lines of fields -/
def bodyT (K : List Fld) : List UInt8 := K.flatMap fun f => printF f ++ [13, 10]
def headT (st : List UInt8) (K : List Fld) : List UInt8 := st ++ [13, 10] ++ bodyT K ++ [13, 10]
/-- no CR, no LF -/
def clean (l : List UInt8) : Prop := ∀ b ∈ l, b ≠ 13 ∧ b ≠ 10

theorem tchar_clean {b : UInt8} (h : tchar b = true) : b ≠ 13 ∧ b ≠ 10 ∧ b ≠ 58 := by
  refine ⟨?_, ?_, ?_⟩ <;> (rintro rfl; revert h; decide)
theorem textB_clean {b : UInt8} (h : textB b = true) : b ≠ 13 ∧ b ≠ 10 := by
  refine ⟨?_, ?_⟩ <;> (rintro rfl; revert h; decide)
theorem good_parts {f : Fld} (h : goodF f = true) : isTok f.name = true ∧ isTxt f.value = true ∧ trimW f.value = f.value := by
  unfold goodF at h
  simp only [Bool.and_eq_true, beq_iff_eq] at h
  exact ⟨h.1.1, h.1.2, h.2⟩
theorem isTok_parts {l : List UInt8} (h : isTok l = true) : (∀ b ∈ l, tchar b = true) ∧ l ≠ [] := by
  unfold isTok at h
  simp only [Bool.and_eq_true, List.all_eq_true] at h
  exact ⟨h.1, by intro e; subst e; simp at h⟩
theorem print_clean {f : Fld} (h : goodF f = true) : clean (printF f) := by
  obtain ⟨h1, h2, _⟩ := good_parts h
  intro b hb
  unfold printF at hb
  simp only [List.mem_append, List.mem_cons, List.mem_nil_iff, or_false] at hb
  rcases hb with (hb | rfl | rfl) | hb
  · have := tchar_clean ((isTok_parts h1).1 b hb)
    exact ⟨this.1, this.2.1⟩
  · decide
  · decide
  · unfold isTxt at h2
    exact textB_clean (List.all_eq_true.1 h2 b hb)

theorem indexByte_first {x r : List UInt8} {c : UInt8} (h : ∀ b ∈ x, b ≠ c) : Lib.indexByte (x ++ c :: r) c = x.length := by
  refine indexByte_at (by simp) fun j hj => ?_
  rw [List.getElem?_append_left hj]
  intro e
  exact h c (List.mem_of_getElem? e) rfl
/-- a whole line is read -/
theorem next_line (pre x rest : List UInt8) (hx : clean x) (h : pre.length + x.length + 2 ≤ 4096) :
    nextM (pre ++ (x ++ [13, 10] ++ rest)) pre.length = (x, pre.length + (x.length + 2), 0) := by
  have hseen : ∃ r, seenM (pre ++ (x ++ [13, 10] ++ rest)) pre.length = (x ++ [13]) ++ 10 :: r := by
    unfold seenM
    rw [List.take_append, List.drop_append]
    have e1 : (pre.take 4096) = pre := List.take_of_length_le (by omega)
    rw [e1, List.drop_length, List.nil_append, Nat.sub_self, List.drop_zero]
    have e3 : x ++ [13, 10] ++ rest = (x ++ [13]) ++ 10 :: rest := by simp
    rw [e3, List.take_append, List.take_of_length_le (by simp; omega)]
    obtain ⟨m, hm⟩ : ∃ m, 4096 - pre.length - (x ++ [13]).length = m + 1 := ⟨4096 - pre.length - (x ++ [13]).length - 1, by simp; omega⟩
    rw [hm, List.take_succ_cons]
    exact ⟨_, rfl⟩
  obtain ⟨r, hr⟩ := hseen
  have hi : Lib.indexByte (seenM (pre ++ (x ++ [13, 10] ++ rest)) pre.length) 10 = ((x.length + 1 : Nat) : Int) := by
    rw [hr, indexByte_first (x := x ++ [13])]
    · simp
    · intro b hb
      simp only [List.mem_append, List.mem_singleton] at hb
      rcases hb with hb | rfl
      · exact (hx b hb).2
      · decide
  have ht : (seenM (pre ++ (x ++ [13, 10] ++ rest)) pre.length).take (x.length + 1 + 1) = x ++ [13, 10] := by
    rw [hr, List.take_append, List.take_of_length_le (by simp)]
    simp
  have hl : lineM (x ++ [13, 10]) = some x := by
    unfold lineM
    have hs : Lib.hasSuffix (x ++ [13, 10]) [13, 10] = true := by unfold Lib.hasSuffix; simp
    have htr : Lib.trimSuffix (x ++ [13, 10]) [13, 10] = x := by
      unfold Lib.trimSuffix
      rw [if_pos hs]
      simp
    rw [htr, if_pos]
    refine ⟨hs, ?_⟩
    rw [indexByte_no]
    · omega
    · intro j hj
      exact (hx 13 (List.mem_of_getElem? hj)).1 rfl
  unfold nextM
  rw [hi, if_neg (by omega), Int.toNat_natCast, ht, hl]

theorem trim_blank (v : List UInt8) : trimW (32 :: v) = trimW v := by
  rw [trimW_eq, trimL_cons, if_pos (.inl rfl), ← trimW_eq]
theorem parse_print {f : Fld} (h : goodF f = true) : parseF (printF f) = some f := by
  obtain ⟨h1, h2, h3⟩ := good_parts h
  obtain ⟨ht, hne⟩ := isTok_parts h1
  have hi : Lib.indexByte (printF f) 58 = f.name.length := by
    have e : printF f = f.name ++ 58 :: (32 :: f.value) := by simp [printF]
    rw [e]
    exact indexByte_first fun b hb => (tchar_clean (ht b hb)).2.2
  have e1 : (printF f).take f.name.length = f.name := by simp [printF]
  have e2 : (printF f).drop (f.name.length + 1) = 32 :: f.value := by simp [printF]
  have h4 : isTxt (32 :: f.value) = true := by
    unfold isTxt at *
    rw [List.all_cons, h2]
    rfl
  rw [parseF_eq, hi, Int.toNat_natCast, e1, e2, if_pos ⟨by omega, h1, h4⟩, trim_blank, h3]

theorem print_ne (f : Fld) : printF f ≠ [] := by simp [printF]
theorem loop_body (st : List UInt8) : ∀ (K : List Fld) (pre : List UInt8) (F : List Fld) (k : Nat) (rest : List UInt8), (∀ f ∈ K, goodF f = true) → F.length + K.length ≤ 32 → pre.length + (bodyT K).length + 2 ≤ 4096 → K.length < k →
    loopM (pre ++ (bodyT K ++ ([13, 10] ++ rest))) st k F pre.length = ⟨st, F ++ K, pre.length + (bodyT K).length + 2, 0⟩
  | [], pre, F, k, rest, _, _, h, hk => by
    obtain ⟨k', rfl⟩ : ∃ k', k = k' + 1 := ⟨k - 1, by simp at hk; omega⟩
    have hn := next_line pre [] rest (by intro b hb; cases hb) (by simpa [bodyT] using h)
    simp only [bodyT, List.flatMap_nil, List.nil_append, List.length_nil, Nat.add_zero, Nat.zero_add] at *
    unfold loopM
    rw [hn]
    simp
  | f :: K, pre, F, k, rest, hg, hF, h, hk => by
    obtain ⟨k', rfl⟩ : ∃ k', k = k' + 1 := ⟨k - 1, by simp at hk; omega⟩
    have hgf := hg f (by simp)
    have hb : bodyT (f :: K) = printF f ++ [13, 10] ++ bodyT K := by simp [bodyT]
    have hlen : (bodyT (f :: K)).length = (printF f).length + 2 + (bodyT K).length := by rw [hb]; simp; omega
    have hn := next_line pre (printF f) (bodyT K ++ ([13, 10] ++ rest)) (print_clean hgf) (by omega)
    have he : pre ++ (bodyT (f :: K) ++ ([13, 10] ++ rest)) = pre ++ (printF f ++ [13, 10] ++ (bodyT K ++ ([13, 10] ++ rest))) := by rw [hb]; simp
    have ha : addM F (printF f) = (F ++ [f], 0) := by
      unfold addM
      rw [parse_print hgf]
      simp at hF
      simp only
      rw [if_neg (by omega)]
    have ih := loop_body st K (pre ++ (printF f ++ [13, 10])) (F ++ [f]) k' rest (fun x hx => hg x (by simp [hx])) (by simp at hF ⊢; omega) (by simp; omega) (by simp at hk; omega)
    rw [he]
    unfold loopM
    rw [hn]
    simp only [ne_eq, not_true_eq_false, if_false, print_ne, ha]
    have e2 : pre ++ (printF f ++ [13, 10] ++ (bodyT K ++ ([13, 10] ++ rest))) = pre ++ (printF f ++ [13, 10]) ++ (bodyT K ++ ([13, 10] ++ rest)) := by simp
    have e3 : pre.length + ((printF f).length + 2) = (pre ++ (printF f ++ [13, 10])).length := by simp
    rw [e2, e3, ih]
    simp [hlen]
    omega
theorem split_head (st : List UInt8) (K : List Fld) (rest : List UInt8) (hst : clean st) (h0 : st ≠ []) (h1 : st.length ≤ 1024) (hg : ∀ f ∈ K, goodF f = true) (h32 : K.length ≤ 32) (hl : (headT st K).length ≤ 4096) :
    splitM (headT st K ++ rest) = ⟨st, K, (headT st K).length, 0⟩ := by
  have hlen : (headT st K).length = st.length + 2 + (bodyT K).length + 2 := by simp [headT]; omega
  have he : headT st K ++ rest = [] ++ (st ++ [13, 10] ++ (bodyT K ++ ([13, 10] ++ rest))) := by simp [headT]
  have hn := next_line [] st (bodyT K ++ ([13, 10] ++ rest)) hst (by simp; omega)
  have hlo := loop_body st K (st ++ [13, 10]) [] 4097 rest hg (by simpa using h32) (by simp; omega) (by omega)
  have hr : readM (headT st K ++ rest) = ⟨st, K, (headT st K).length, 0⟩ := by
    rw [he]
    unfold readM
    rw [show (0 : Nat) = ([] : List UInt8).length from rfl, hn]
    have hb : beginE st = 0 := by unfold beginE; rw [if_neg h0, if_neg (by omega)]
    simp only [ne_eq, not_true_eq_false, if_false, hb, List.nil_append, List.length_nil, Nat.zero_add]
    have e2 : st ++ [13, 10] ++ (bodyT K ++ ([13, 10] ++ rest)) = (st ++ [13, 10]) ++ (bodyT K ++ ([13, 10] ++ rest)) := rfl
    have e3 : st.length + 2 = (st ++ [13, 10]).length := by simp
    rw [e3, hlo, hlen]
    simp
  unfold splitM
  rw [hr]
  simp
theorem loop_n_le (s st : List UInt8) : ∀ (k : Nat) (F : List Fld) (n : Nat), n ≤ s.length → n ≤ 4096 → (loopM s st k F n).n ≤ s.length
  | 0, F, n, h, _ => h
  | k + 1, F, n, h, h2 => by
    have hb := next_bounds h h2
    unfold loopM
    by_cases h4 : (nextM s n).2.2 ≠ 0
    · rw [if_pos h4]; exact hb.1
    · rw [if_neg h4]
      by_cases h5 : (nextM s n).1 = []
      · rw [if_pos h5]; exact hb.1
      · rw [if_neg h5]
        by_cases h6 : (addM F (nextM s n).1).2 ≠ 0
        · rw [if_pos h6]; exact hb.1
        · rw [if_neg h6]; exact loop_n_le s st k _ _ hb.1 hb.2.1
theorem split_n_le (s : List UInt8) : (splitM s).n ≤ s.length := by
  have hb := next_bounds (s := s) (n := 0) (Nat.zero_le _) (Nat.zero_le _)
  have hr : (readM s).n ≤ s.length := by
    unfold readM
    by_cases h4 : (nextM s 0).2.2 ≠ 0
    · rw [if_pos h4]; exact hb.1
    · rw [if_neg h4]
      by_cases h6 : beginE (nextM s 0).1 ≠ 0
      · rw [if_pos h6]; exact hb.1
      · rw [if_neg h6]; exact loop_n_le s _ _ _ _ hb.1 hb.2.1
  unfold splitM
  split
  · simp
  · exact hr
/-- cut off anywhere it is too short -/
theorem split_cut (st : List UInt8) (K : List Fld) (hst : clean st) (h0 : st ≠ []) (h1 : st.length ≤ 1024) (hg : ∀ f ∈ K, goodF f = true) (h32 : K.length ≤ 32) (hl : (headT st K).length ≤ 4096) (j : Nat) (hj : j < (headT st K).length) :
    (splitM ((headT st K).take j)).e = 17 := by
  rcases split_take (headT st K) j with h | h
  · exact h
  · have hw := split_head st K [] hst h0 h1 hg h32 hl
    rw [List.append_nil] at hw
    have := split_n_le ((headT st K).take j)
    rw [← h, hw] at this
    simp at this
    omega
end Go.Proofs.YtmfnciocnlmceaaDoor

/- Layer 1: numbers out of digits: digit, gather, bounded, isDec, Undec. No conditions but on lengths. -/
namespace Go.Proofs.YtmfnciocnlmceaaDoor
open Go.RowKit

def digV (b : UInt8) : Int := if 48 ≤ b.toNat ∧ b.toNat ≤ 57 then (b.toNat : Int) - 48 else if 97 ≤ b.toNat ∧ b.toNat ≤ 102 then (b.toNat : Int) - 97 + 10 else if 65 ≤ b.toNat ∧ b.toNat ≤ 70 then (b.toNat : Int) - 65 + 10 else 0
def digOk (b : UInt8) : Bool := decide (48 ≤ b.toNat ∧ b.toNat ≤ 57) || decide (97 ≤ b.toNat ∧ b.toNat ≤ 102) || decide (65 ≤ b.toNat ∧ b.toNat ≤ 70)
theorem digV_range (b : UInt8) : 0 ≤ digV b ∧ digV b ≤ 15 := by
  unfold digV
  split
  · omega
  · split
    · omega
    · split <;> omega
theorem dig_ret {a c : Int} {b d : Bool} (h : a = c) (h2 : b = d) : Ending.returned (.tuple #[.int .i64 a, .bool b]) = .returned (.tuple #[.int .i64 c, .bool d]) := by rw [h, h2]

set_option maxRecDepth 100000 in
set_option maxHeartbeats 1000000 in
theorem hexa_digit (b : UInt8) (w : World) :
    Calls Tryd.prog 125 #[.int .u8 b.toNat] w fun e w' => e = .returned (.tuple #[.int .i64 (digV b), .bool (digOk b)]) ∧ w = w' := by
  have hb := u8_nat b
  have hV : digV b = if 48 ≤ b.toNat ∧ b.toNat ≤ 57 then (b.toNat : Int) - 48 else if 97 ≤ b.toNat ∧ b.toNat ≤ 102 then (b.toNat : Int) - 97 + 10 else if 65 ≤ b.toNat ∧ b.toNat ≤ 70 then (b.toNat : Int) - 65 + 10 else 0 := rfl
  have hO : digOk b = (decide (48 ≤ b.toNat ∧ b.toNat ≤ 57) || decide (97 ≤ b.toNat ∧ b.toNat ≤ 102) || decide (65 ≤ b.toNat ∧ b.toNat ≤ 70)) := rfl
  generalize digV b = v at hV
  generalize digOk b = o at hO
  generalize b.toNat = x at *
  by_cases h1 : x < 48
  · have HV := Lib.hid (show v = 0 by rw [hV, if_neg (by omega), if_neg (by omega), if_neg (by omega)])
    have HO := Lib.hid (show o = false by rw [hO]; simp; omega)
    clear hV hO
    go_enter Tryd.func125, Tryd.ntmps125
    go_wp2
    go_ret2
    exact ⟨dig_ret HV.out.symm HO.out.symm, rfl⟩
  · by_cases h2 : x ≤ 57
    · have HV := Lib.hid (show v = (x : Int) - 48 by rw [hV, if_pos (by omega)])
      have HO := Lib.hid (show o = true by rw [hO]; simp; omega)
      clear hV hO
      go_enter Tryd.func125, Tryd.ntmps125
      go_wp2
      go_ret2
      exact ⟨dig_ret HV.out.symm HO.out.symm, rfl⟩
    · by_cases h3 : x < 65
      · have HV := Lib.hid (show v = 0 by rw [hV, if_neg (by omega), if_neg (by omega), if_neg (by omega)])
        have HO := Lib.hid (show o = false by rw [hO]; simp; omega)
        clear hV hO
        go_enter Tryd.func125, Tryd.ntmps125
        go_wp2
        go_ret2
        exact ⟨dig_ret HV.out.symm HO.out.symm, rfl⟩
      · by_cases h4 : x ≤ 70
        · have HV := Lib.hid (show v = (x : Int) + 32 - 97 + 10 by rw [hV, if_neg (by omega), if_neg (by omega), if_pos (by omega)]; omega)
          have HO := Lib.hid (show o = true by rw [hO]; simp; omega)
          clear hV hO
          go_enter Tryd.func125, Tryd.ntmps125
          go_wp2
          go_ret2
          exact ⟨dig_ret (by rw [HV.out]) HO.out.symm, rfl⟩
        · by_cases h5 : x < 97
          · have HV := Lib.hid (show v = 0 by rw [hV, if_neg (by omega), if_neg (by omega), if_neg (by omega)])
            have HO := Lib.hid (show o = false by rw [hO]; simp; omega)
            clear hV hO
            go_enter Tryd.func125, Tryd.ntmps125
            go_wp2
            go_ret2
            exact ⟨dig_ret HV.out.symm HO.out.symm, rfl⟩
          · by_cases h6 : x ≤ 102
            · have HV := Lib.hid (show v = (x : Int) - 97 + 10 by rw [hV, if_neg (by omega), if_pos (by omega)])
              have HO := Lib.hid (show o = true by rw [hO]; simp; omega)
              clear hV hO
              go_enter Tryd.func125, Tryd.ntmps125
              go_wp2
              go_ret2
              exact ⟨dig_ret HV.out.symm HO.out.symm, rfl⟩
            · have HV := Lib.hid (show v = 0 by rw [hV, if_neg (by omega), if_neg (by omega), if_neg (by omega)])
              have HO := Lib.hid (show o = false by rw [hO]; simp; omega)
              clear hV hO
              go_enter Tryd.func125, Tryd.ntmps125
              go_wp2
              go_ret2
              exact ⟨dig_ret HV.out.symm HO.out.symm, rfl⟩

/-- the number of digits; none: it is too great -/
def gatherM (m : Int) : List UInt8 → Int → Option Int
  | [], n => some n
  | b :: r, n => if n * m + digV b ≤ 4611686018427387904 then gatherM m r (n * m + digV b) else none
def gatherV (m : Int) (l : List UInt8) : Int := (gatherM m l 0).getD 0
def gatherOk (m : Int) (l : List UInt8) : Bool := (gatherM m l 0).isSome
theorem gather_test {n m v : Int} (hm : 0 < m) : (4611686018427387904 - v) / m < n ↔ ¬ n * m + v ≤ 4611686018427387904 := by
  rw [Int.not_le]
  constructor
  · intro h
    have := (Int.ediv_lt_iff_lt_mul hm).1 h
    omega
  · intro h
    exact (Int.ediv_lt_iff_lt_mul hm).2 (by omega)

set_option maxRecDepth 100000 in
set_option maxHeartbeats 1000000 in
theorem hexa_gather (l : List UInt8) (m : Int) (w : World) (hs : l.length ≤ maxLen) (h2 : 2 ≤ m) (h16 : m ≤ 16) :
    Calls Tryd.prog 141 #[.string (S l), .int .i64 m] w fun e w' => e = .returned (.tuple #[.int .i64 (gatherV m l), .bool (gatherOk m l)]) ∧ Keep [] w w' := by
  have hs' : l.length ≤ 9223372036854775807 := hs
  have hcv := conv_run w (S l)
  have hby := Bytes.conv w 5 l
  have hkp := conv_keep w 5 (S l)
  have hsz := S_size l
  have hV : gatherV m l = (gatherM m l 0).getD 0 := rfl
  have hO : gatherOk m l = (gatherM m l 0).isSome := rfl
  generalize gatherV m l = gv at hV
  generalize gatherOk m l = go at hO
  have HV := Lib.hid hV
  have HO := Lib.hid hO
  generalize Lib.bytesWorld w 5 (S l) = wb at hcv hby hkp
  generalize hX : w.heap.size = X at hcv hby
  have HB := Lib.hid hby
  have HK := Lib.hid hkp
  have HD := Lib.hid (fun (b : UInt8) (w1 : World) => hexa_digit b w1)
  clear hs hX hV hO hby hkp
  go_enter Tryd.func141, Tryd.ntmps141
  go_wp2_with fail
  go_loopg [4, 13] l.length (fun g nv i wr => ∃ (k : Nat) (n : Int), i = .int .i64 k ∧ nv = .int .i64 n ∧ k ≤ l.length ∧ g = l.length - k ∧ 0 ≤ n ∧ n ≤ 4611686018427387904 ∧ wb = wr ∧ Hid (gatherM m l 0 = gatherM m (l.drop k) n))
  case atStart => exact ⟨0, 0, rfl, rfl, Nat.zero_le _, by omega, by omega, by omega, rfl, Lib.hid rfl⟩
  case round =>
    obtain ⟨k, n, rfl, rfl, hk, hgk, hn0, hn1, rfl, HG⟩ := hrel
    by_cases hlt : k < l.length
    · obtain ⟨c, hg⟩ : ∃ c, l[k]? = some c := ⟨_, List.getElem?_eq_getElem hlt⟩
      have hc := HB.out.1 k c hg
      have hr := HG.out
      rw [drop_at hg, gatherM] at hr
      obtain ⟨v0, v1⟩ := digV_range c
      have hdc := HD.out c
      have ht := gather_test (n := n) (m := m) (v := digV c) (by omega)
      generalize digV c = v at hr v0 v1 hdc ht
      have hm0 : 0 ≤ n * m := Int.mul_nonneg hn0 (by omega)
      have HDC := Lib.hid hdc
      clear hg HG hdc
      by_cases hle : n * m + v ≤ 4611686018427387904
      · rw [if_pos hle] at hr
        have HR := Lib.hid hr
        have ht' : ¬ (4611686018427387904 - v) / m < n := fun h => (ht.1 h) hle
        have hm1 : n * m ≤ 4611686018427387904 := by omega
        clear hr ht
        go_wp2_with fail
        refine (HDC.out _).mono ?_
        rintro e w1 ⟨rfl, rfl⟩
        go_wp2_with fail
        go_roundg (l.length - (k + 1))
        case measure => omega
        case rel => exact ⟨k + 1, n * m + v, by go_num, rfl, by omega, rfl, by omega, by omega, rfl, HR⟩
      · rw [if_neg hle] at hr
        have HR := Lib.hid hr
        have ht' : (4611686018427387904 - v) / m < n := ht.2 hle
        clear hr ht hle
        go_wp2_with fail
        refine (HDC.out _).mono ?_
        rintro e w1 ⟨rfl, rfl⟩
        go_wp2_with fail
        go_ret2
        exact ⟨dig_ret (by rw [HV.out, HR.out]; rfl) (by rw [HO.out, HR.out]; rfl), HK.out⟩
    · have hke : k = l.length := by omega
      have hr := HG.out
      rw [hke, List.drop_length, gatherM] at hr
      have HR := Lib.hid hr
      clear hr hke
      go_wp2_with fail
      go_ret2
      exact ⟨dig_ret (by rw [HV.out, HR.out]; rfl) (by rw [HO.out, HR.out]; rfl), HK.out⟩

def boundV (m : Int) (l : List UInt8) (most : Int) : Int := match gatherM m l 0 with | some n => if most < n then 0 else n | none => 0
def boundE (m : Int) (l : List UInt8) (most : Int) : Int := match gatherM m l 0 with | some n => if most < n then 14 else 0 | none => 14
theorem two_ret {a c b d : Int} (h : a = c) (h2 : b = d) : Ending.returned (.tuple #[.int .i64 a, .int .i64 b]) = .returned (.tuple #[.int .i64 c, .int .i64 d]) := by rw [h, h2]
theorem gatherM_nonneg (m : Int) (hm : 0 ≤ m) : ∀ (l : List UInt8) (n r : Int), 0 ≤ n → gatherM m l n = some r → 0 ≤ r
  | [], n, r, h, e => by simp [gatherM] at e; omega
  | b :: s, n, r, h, e => by
    unfold gatherM at e
    split at e
    · have := digV_range b
      have := Int.mul_nonneg h hm
      exact gatherM_nonneg m hm s _ r (by omega) e
    · cases e
theorem boundV_range {m : Int} (hm : 0 ≤ m) (l : List UInt8) (most : Int) : (boundE m l most = 0 → 0 ≤ boundV m l most ∧ boundV m l most ≤ most) ∧ (boundE m l most ≠ 0 → boundV m l most = 0 ∧ boundE m l most = 14) := by
  unfold boundV boundE
  cases h : gatherM m l 0 with
  | none => simp
  | some n =>
    have := gatherM_nonneg m hm l 0 n (by omega) h
    dsimp only
    split
    · simp
    · simp; omega

set_option maxRecDepth 100000 in
set_option maxHeartbeats 1000000 in
theorem hexa_bounded (l : List UInt8) (m most : Int) (w : World) (hs : l.length ≤ maxLen) (h2 : 2 ≤ m) (h16 : m ≤ 16) :
    Calls Tryd.prog 126 #[.string (S l), .int .i64 m, .int .i64 most] w fun e w' => e = .returned (.tuple #[.int .i64 (boundV m l most), .int .i64 (boundE m l most)]) ∧ Keep [] w w' := by
  have hG := hexa_gather l m w hs h2 h16
  have hV : boundV m l most = (match gatherM m l 0 with | some n => if most < n then 0 else n | none => 0) := rfl
  have hE : boundE m l most = (match gatherM m l 0 with | some n => if most < n then 14 else 0 | none => 14) := rfl
  unfold gatherV gatherOk at hG
  generalize boundV m l most = v at hV
  generalize boundE m l most = e0 at hE
  cases hg : gatherM m l 0 with
  | none =>
    rw [hg] at hG hV hE
    change Calls _ _ _ _ (fun e w' => e = .returned (.tuple #[.int .i64 0, .bool false]) ∧ Keep [] w w') at hG
    have HG := Lib.hid hG
    have HV := Lib.hid hV
    have HE := Lib.hid hE
    clear hG hV hE hg hs
    go_enter Tryd.func126, Tryd.ntmps126
    go_wp2_with fail
    refine HG.out.mono ?_
    rintro e w1 ⟨rfl, hk1⟩
    have K1 := Lib.hid hk1
    clear hk1
    go_wp2_with fail
    go_ret2
    exact ⟨two_ret HV.out.symm HE.out.symm, K1.out⟩
  | some n =>
    rw [hg] at hG hV hE
    change Calls _ _ _ _ (fun e w' => e = .returned (.tuple #[.int .i64 n, .bool true]) ∧ Keep [] w w') at hG
    dsimp only at hV hE
    by_cases ht : most < n
    · rw [if_pos ht] at hV hE
      have HG := Lib.hid hG
      have HV := Lib.hid hV
      have HE := Lib.hid hE
      clear hG hV hE hg hs
      go_enter Tryd.func126, Tryd.ntmps126
      go_wp2_with fail
      refine HG.out.mono ?_
      rintro e w1 ⟨rfl, hk1⟩
      have K1 := Lib.hid hk1
      clear hk1
      go_wp2_with fail
      go_ret2
      exact ⟨two_ret HV.out.symm HE.out.symm, K1.out⟩
    · rw [if_neg ht] at hV hE
      have HG := Lib.hid hG
      have HV := Lib.hid hV
      have HE := Lib.hid hE
      clear hG hV hE hg hs
      go_enter Tryd.func126, Tryd.ntmps126
      go_wp2_with fail
      refine HG.out.mono ?_
      rintro e w1 ⟨rfl, hk1⟩
      have K1 := Lib.hid hk1
      clear hk1
      go_wp2_with fail
      go_ret2
      exact ⟨two_ret HV.out.symm HE.out.symm, K1.out⟩

def decB (b : UInt8) : Bool := decide (48 ≤ b.toNat) && decide (b.toNat ≤ 57)
def isDecM (l : List UInt8) : Bool := l.all decB && !l.isEmpty && (decide (l.length = 1) || decide (l.head? ≠ some 48))

set_option maxRecDepth 100000 in
set_option maxHeartbeats 1000000 in
theorem hexa_isDec (l : List UInt8) (w : World) (hs : l.length ≤ maxLen) :
    Calls Tryd.prog 131 #[.string (S l)] w fun e w' => e = .returned (.bool (isDecM l)) ∧ Keep [] w w' := by
  have hs' : l.length ≤ 9223372036854775807 := hs
  have hcv := conv_run w (S l)
  have hby := Bytes.conv w 5 l
  have hkp := conv_keep w 5 (S l)
  have hsz := S_size l
  have hD : isDecM l = (l.all decB && !l.isEmpty && (decide (l.length = 1) || decide (l.head? ≠ some 48))) := rfl
  generalize isDecM l = dv at hD
  generalize Lib.bytesWorld w 5 (S l) = wb at hcv hby hkp
  generalize hX : w.heap.size = X at hcv hby
  have HB := Lib.hid hby
  have HK := Lib.hid hkp
  have HD := Lib.hid hD
  clear hs hX hby hkp hD
  go_enter Tryd.func131, Tryd.ntmps131
  go_wp2_with fail
  go_loopg [8] l.length (fun g i wr => ∃ (k : Nat), i = .int .i64 k ∧ k ≤ l.length ∧ g = l.length - k ∧ wb = wr ∧ Hid ((l.take k).all decB = true))
  case atStart => exact ⟨0, rfl, Nat.zero_le _, by omega, rfl, Lib.hid rfl⟩
  case round =>
    obtain ⟨k, rfl, hk, hgk, rfl, HG⟩ := hrel
    by_cases hlt : k < l.length
    · obtain ⟨c, hg⟩ : ∃ c, l[k]? = some c := ⟨_, List.getElem?_eq_getElem hlt⟩
      have hc := HB.out.1 k c hg
      have hc8 := u8_nat c
      by_cases h1 : 48 ≤ c.toNat ∧ c.toNat ≤ 57
      · have HN : Hid ((l.take (k + 1)).all decB = true) := by
          rw [take_snoc hg, List.all_append, HG.out]
          simp [decB, h1, Hid]
        obtain ⟨h2, h3⟩ := h1
        clear hg HG
        go_wp2_with fail
        go_roundg (l.length - (k + 1))
        case measure => omega
        case rel => exact ⟨k + 1, by go_num, by omega, rfl, rfl, HN⟩
      · have hno : dv = false := by
          rw [HD.out]
          have : l.all decB = false := by
            rw [List.all_eq_false]
            exact ⟨c, List.mem_of_getElem? hg, by simp [decB]; omega⟩
          rw [this]; simp
        have HN := Lib.hid hno
        clear hg HG hno
        by_cases h2 : c.toNat < 48
        · go_wp2_with fail
          go_ret
          exact ⟨ret_bool HN.out.symm, HK.out⟩
        · have h3 : 57 < c.toNat := by omega
          clear h1
          go_wp2_with fail
          go_ret
          exact ⟨ret_bool HN.out.symm, HK.out⟩
    · have hke : k = l.length := by omega
      have hall := HG.out
      rw [hke, List.take_length] at hall
      have hD := HD.out
      rw [hall] at hD
      have HDD := Lib.hid hD
      clear hke hall hD HG
      cases l with
      | nil =>
        have q0 : (S []).toList = [] := S_toList []
        go_wp2_with fail
        go_ret
        exact ⟨ret_bool (by rw [HDD.out]; rfl), HK.out⟩
      | cons b r =>
        have q0 : (S (b :: r)).toList = b :: r := S_toList _
        have q1 : (S (b :: r))[0]'(by rw [hsz]; simp) = b := S_get rfl _
        cases r with
        | nil =>
          have hk1 : 1 ≤ k := by simp at hlt; omega
          go_wp2_with fail
          go_ret
          exact ⟨ret_bool (by rw [HDD.out]; rfl), HK.out⟩
        | cons b2 r2 =>
          have hk1 : r2.length + 1 + 1 ≤ k := by simp at hlt; omega
          have q2 : ((S (b :: b2 :: r2)).size) = r2.length + 1 + 1 := by rw [hsz]; simp
          obtain ⟨z1, z2⟩ := int_ne (show (r2.length : Int) + 1 + 1 ≠ 1 by omega)
          have hb8 := u8_nat b
          by_cases hb : b.toNat = 48
          · obtain ⟨z3, z4⟩ := int_eq (show ((b.toNat : Nat) : Int) = 48 by omega)
            have HF : Hid (dv = false) := by
              rw [HDD.out]
              have : b = 48 := UInt8.toNat_inj.1 hb
              simp [this, Hid]
            clear hb
            go_wp2_with fail
            go_ret
            exact ⟨ret_bool HF.out.symm, HK.out⟩
          · obtain ⟨z3, z4⟩ := int_ne (show ((b.toNat : Nat) : Int) ≠ 48 by omega)
            have HF : Hid (dv = true) := by
              rw [HDD.out]
              have : b ≠ 48 := fun h => hb (by rw [h]; rfl)
              simp [this, Hid]
            clear hb
            go_wp2_with fail
            go_ret
            exact ⟨ret_bool HF.out.symm, HK.out⟩

def undecV (l : List UInt8) (most : Int) : Int := if isDecM l then boundV 10 l most else 0
def undecE (l : List UInt8) (most : Int) : Int := if isDecM l then boundE 10 l most else 3
theorem undec_range (l : List UInt8) (most : Int) : (undecE l most = 0 → 0 ≤ undecV l most ∧ undecV l most ≤ most) ∧ (undecE l most ≠ 0 → undecV l most = 0 ∧ (undecE l most = 14 ∨ undecE l most = 3)) := by
  unfold undecV undecE
  have h := boundV_range (m := 10) (by omega) l most
  split
  · exact ⟨h.1, fun h2 => ⟨(h.2 h2).1, .inl (h.2 h2).2⟩⟩
  · simp

set_option maxRecDepth 100000 in
set_option maxHeartbeats 1000000 in
theorem hexa_Undec (l : List UInt8) (most : Int) (w : World) (hs : l.length ≤ maxLen) :
    Calls Tryd.prog 110 #[.string (S l), .int .i64 most] w fun e w' => e = .returned (.tuple #[.int .i64 (undecV l most), .int .i64 (undecE l most)]) ∧ Keep [] w w' := by
  have hD := hexa_isDec l w hs
  have hB := fun w1 => hexa_bounded l 10 most w1 hs (by omega) (by omega)
  have hV : undecV l most = if isDecM l then boundV 10 l most else 0 := rfl
  have hE : undecE l most = if isDecM l then boundE 10 l most else 3 := rfl
  generalize undecV l most = v at hV
  generalize undecE l most = e0 at hE
  cases hd : isDecM l with
  | true =>
    rw [hd] at hD hV hE
    rw [if_pos rfl] at hV hE
    have HD := Lib.hid hD
    have HB := Lib.hid hB
    have HV := Lib.hid hV
    have HE := Lib.hid hE
    clear hD hB hV hE hd hs
    go_enter Tryd.func110, Tryd.ntmps110
    go_wp2_with fail
    refine HD.out.mono ?_
    rintro e w1 ⟨rfl, hk1⟩
    have K1 := Lib.hid hk1
    clear hk1
    go_wp2_with fail
    refine (HB.out _).mono ?_
    rintro e w2 ⟨rfl, hk2⟩
    have K2 := Lib.hid (K1.out.trans hk2)
    clear hk2
    go_wp2_with fail
    go_ret2
    exact ⟨two_ret HV.out.symm HE.out.symm, K2.out⟩
  | false =>
    rw [hd] at hD hV hE
    rw [if_neg (by simp)] at hV hE
    have HD := Lib.hid hD
    have HV := Lib.hid hV
    have HE := Lib.hid hE
    clear hD hB hV hE hd hs
    go_enter Tryd.func110, Tryd.ntmps110
    go_wp2_with fail
    refine HD.out.mono ?_
    rintro e w1 ⟨rfl, hk1⟩
    have K1 := Lib.hid hk1
    clear hk1
    go_wp2_with fail
    go_ret2
    exact ⟨two_ret HV.out.symm HE.out.symm, K1.out⟩
end Go.Proofs.YtmfnciocnlmceaaDoor

/- Layer 16: numbers in decimal, as they are written and read. Plain laws; no program. No conditions but on sizes. -/
namespace Go.Proofs.YtmfnciocnlmceaaDoor
open Go.RowKit

def digs : List UInt8 := [48, 49, 50, 51, 52, 53, 54, 55, 56, 57]
def GT : Int := 4611686018427387904
theorem digs_iff (b : UInt8) : digs.contains b = decB b := by
  unfold digs decB
  rw [Bool.eq_iff_iff]
  simp only [List.contains_iff_mem, List.mem_cons, List.not_mem_nil, or_false, Bool.and_eq_true, decide_eq_true_eq, ← UInt8.toNat_inj]
  simp
  omega
theorem dig_byte {u : Nat} (h : u < 10) : (UInt8.ofNat (48 + u)).toNat = 48 + u := by
  simp [UInt8.toNat_ofNat']; omega
theorem dig_dec {u : Nat} (h : u < 10) : decB (UInt8.ofNat (48 + u)) = true := by
  unfold decB; rw [dig_byte h]; simp; omega
theorem dec_small {u : Nat} (h : u < 10) : Lib.decDigits u = [UInt8.ofNat (48 + u)] := by rw [Lib.decDigits, dif_pos h]
theorem dec_big {u : Nat} (h : ¬ u < 10) : Lib.decDigits u = Lib.decDigits (u / 10) ++ [UInt8.ofNat (48 + u % 10)] := by rw [Lib.decDigits, dif_neg h]
theorem dec_all (u : Nat) : (Lib.decDigits u).all decB = true := by
  induction u using Nat.strongRecOn with
  | _ u ih =>
    by_cases h : u < 10
    · rw [dec_small h, List.all_cons, List.all_nil, dig_dec h]; rfl
    · rw [dec_big h, List.all_append, ih (u / 10) (by omega), List.all_cons, List.all_nil, dig_dec (show u % 10 < 10 by omega)]; rfl
theorem dec_ne (u : Nat) : Lib.decDigits u ≠ [] := by
  by_cases h : u < 10
  · rw [dec_small h]; simp
  · rw [dec_big h]; simp
theorem dec_head (u : Nat) (h1 : 1 ≤ u) : (Lib.decDigits u).head? ≠ some 48 := by
  induction u using Nat.strongRecOn with
  | _ u ih =>
    by_cases h : u < 10
    · rw [dec_small h]
      intro e
      have := congrArg UInt8.toNat (Option.some.inj e)
      rw [dig_byte h] at this
      have h48 : (48 : UInt8).toNat = 48 := rfl
      omega
    · rw [dec_big h, List.head?_append]
      have := ih (u / 10) (by omega) (by omega)
      cases hd : (Lib.decDigits (u / 10)).head? with
      | none => exact absurd (List.head?_eq_none_iff.1 hd) (dec_ne _)
      | some x => rw [hd] at this; simpa using this
theorem gather_append (m : Int) : ∀ (a b : List UInt8) (n : Int), gatherM m (a ++ b) n = (gatherM m a n).bind (gatherM m b)
  | [], b, n => rfl
  | x :: a, b, n => by
    simp only [List.cons_append, gatherM]
    split
    · exact gather_append m a b _
    · rfl
theorem digV_dig {u : Nat} (h : u < 10) : digV (UInt8.ofNat (48 + u)) = u := by
  unfold digV
  rw [dig_byte h, if_pos (by omega)]
  omega
theorem gather_dec (u : Nat) (h : (u : Int) ≤ 4611686018427387904) : gatherM 10 (Lib.decDigits u) 0 = some (u : Int) := by
  induction u using Nat.strongRecOn with
  | _ u ih =>
    by_cases h1 : u < 10
    · rw [dec_small h1]
      simp only [gatherM]
      rw [digV_dig h1, if_pos (by omega)]
      simp
    · rw [dec_big h1, gather_append, ih (u / 10) (by omega) (by omega)]
      simp only [Option.bind_some, gatherM]
      rw [digV_dig (show u % 10 < 10 by omega), if_pos (by omega)]
      congr 1
      omega
theorem dec_isDec (u : Nat) : isDecM (Lib.decDigits u) = true := by
  unfold isDecM
  rw [dec_all]
  have hn : (Lib.decDigits u).isEmpty = false := by simp [dec_ne]
  rw [hn]
  by_cases h : u < 10
  · rw [dec_small h]; simp
  · have := dec_head u (by omega)
    simp [this]
theorem undec_dec (u : Nat) (most : Int) (h : (u : Int) ≤ most) (hm : most ≤ 4611686018427387904) : undecV (Lib.decDigits u) most = u ∧ undecE (Lib.decDigits u) most = 0 := by
  unfold undecV undecE boundV boundE
  rw [dec_isDec, gather_dec u (by omega)]
  simp only [if_true]
  rw [if_neg (by omega), if_neg (by omega)]
  exact ⟨rfl, rfl⟩
theorem drop_nil {p : UInt8 → Bool} : ∀ {l : List UInt8}, l.dropWhile p = [] ↔ ∀ x ∈ l, p x = true
  | [] => by simp
  | x :: l => by
    cases h : p x with
    | true => rw [List.dropWhile_cons_of_pos h, drop_nil]; simp [h]
    | false => rw [List.dropWhile_cons_of_neg (by simp [h])]; simp [h]
theorem trim_dec {l : List UInt8} (h : l.all decB = true) : Lib.trimS l digs = [] := by
  have h1 : Lib.trimRightS l digs = [] := by
    unfold Lib.trimRightS
    rw [drop_nil.2]
    · rfl
    · intro x hx
      rw [digs_iff]
      exact List.all_eq_true.1 h x (List.mem_reverse.1 hx)
  unfold Lib.trimS
  rw [h1]; rfl
theorem trim_nodec {l : List UInt8} (h : l.all decB = false) : Lib.trimS l digs ≠ [] := by
  intro he
  obtain ⟨x, hx, hn⟩ := List.all_eq_false.1 h
  unfold Lib.trimS Lib.trimLeftS at he
  have h1 := drop_nil.1 he
  have h2 : ∀ y ∈ l, digs.contains y = true := by
    intro y hy
    unfold Lib.trimRightS at h1
    by_cases hm : y ∈ (l.reverse.dropWhile (digs.contains ·)).reverse
    · exact h1 y hm
    · have : l.reverse = l.reverse.takeWhile (digs.contains ·) ++ l.reverse.dropWhile (digs.contains ·) := (List.takeWhile_append_dropWhile).symm
      have hy' : y ∈ l.reverse := List.mem_reverse.2 hy
      rw [this] at hy'
      rcases List.mem_append.1 hy' with h3 | h3
      · exact List.all_eq_true.1 List.all_takeWhile y h3
      · exact absurd (List.mem_reverse.2 h3) hm
  have := h2 x hx
  rw [digs_iff] at this
  exact hn this

def numD (l : List UInt8) : List UInt8 := if Lib.trimLeftB l 48 = [] then [48] else Lib.trimLeftB l 48
def numN (l : List UInt8) : Int := if l = [] ∨ l.all decB = false then 0 else if undecE (numD l) GT = 14 then GT else undecV (numD l) GT
def numI (l : List UInt8) : Bool := !l.isEmpty && l.all decB
def numK (l : List UInt8) : Bool := l.all decB
theorem num_dec (u : Nat) (h : (u : Int) ≤ 4611686018427387904) : numN (Lib.decDigits u) = u ∧ numI (Lib.decDigits u) = true ∧ numK (Lib.decDigits u) = true := by
  have hd : numD (Lib.decDigits u) = Lib.decDigits u := by
    unfold numD
    by_cases h0 : u = 0
    · subst h0; rw [dec_small (by omega)]; rfl
    · have hh := dec_head u (by omega)
      have ht : Lib.trimLeftB (Lib.decDigits u) 48 = Lib.decDigits u := by
        unfold Lib.trimLeftB
        cases hc : Lib.decDigits u with
        | nil => rfl
        | cons x r =>
          rw [hc] at hh
          have : x ≠ 48 := by simpa using hh
          rw [List.dropWhile_cons_of_neg (by simpa using this)]
      rw [ht, if_neg (dec_ne u)]
  refine ⟨?_, ?_, dec_all u⟩
  · unfold numN
    rw [if_neg (by simp [dec_ne, dec_all]), hd, (undec_dec u GT h (by unfold GT; omega)).1, (undec_dec u GT h (by unfold GT; omega)).2]
    rfl
  · unfold numI; rw [dec_all]; simp [dec_ne]
end Go.Proofs.YtmfnciocnlmceaaDoor

/- Layer 16: number, isUnit. No conditions but on lengths. -/
namespace Go.Proofs.YtmfnciocnlmceaaDoor
open Go.RowKit Go.Shelf

def NumOut (w : World) (l : List UInt8) (e : Ending) (w' : World) : Prop := e = .returned (.tuple #[.agg #[.int .i64 (numN l), .bool (numI l)], .bool (numK l)]) ∧ Keep [] w w'
theorem num_ret {a c : Int} {b d x y : Bool} (h : a = c) (h2 : b = d) (h3 : x = y) : Ending.returned (.tuple #[.agg #[.int .i64 a, .bool b], .bool x]) = .returned (.tuple #[.agg #[.int .i64 c, .bool d], .bool y]) := by rw [h, h2, h3]

end Go.Proofs.YtmfnciocnlmceaaDoor

/- Layer 16: isUnit. No conditions but on lengths. -/
namespace Go.Proofs.YtmfnciocnlmceaaDoor
open Go.RowKit Go.Shelf

def unitB : List UInt8 := [98, 121, 116, 101, 115, 61]
/-- the byte of a text that stands for a byte of the unit -/
def unitOk (b c : UInt8) : Bool := c == b || decide (97 ≤ b.toNat) && decide (c.toNat = b.toNat - 32)
def isUnitM (l : List UInt8) : Bool := decide (6 ≤ l.length) && (l.zip unitB).all fun p => unitOk p.2 p.1

def unitCells : Array Value := #[.int .u8 98, .int .u8 121, .int .u8 116, .int .u8 101, .int .u8 115, .int .u8 61]
theorem unit_cell (w : World) (o : Obj) {T : TypeId} {fr : Nat × Nat} (ho : o = .cells unitCells T fr) {k : Nat} {b : UInt8} (h : unitB[k]? = some b) : (w.alloc o).cell? ⟨w.heap.size, k, none⟩ = some (.int .u8 (b.toNat : Nat)) := by
  subst ho
  have hh : (w.alloc (.cells unitCells T fr)).heap[w.heap.size]? = some (.cells unitCells T fr) := heap_alloc_new w _
  have hc : unitCells[k]? = some (.int .u8 (b.toNat : Nat)) := by
    match k, h with
    | 0, h => cases h; rfl
    | 1, h => cases h; rfl
    | 2, h => cases h; rfl
    | 3, h => cases h; rfl
    | 4, h => cases h; rfl
    | 5, h => cases h; rfl
    | k + 6, h => simp [unitB] at h
  unfold World.cell?
  simp only [hh]
  exact hc
theorem zip_take {l : List UInt8} {k : Nat} {b c : UInt8} (hb : unitB[k]? = some b) (hc : l[k]? = some c) : (l.zip unitB).take (k + 1) = (l.zip unitB).take k ++ [(c, b)] := by
  rw [List.take_add_one, (List.getElem?_zip_eq_some (z := (c, b))).2 ⟨hc, hb⟩]; rfl

end Go.Proofs.YtmfnciocnlmceaaDoor

/- Layer 10: the text of a value, in quotes or not: both sides. No conditions but on lengths. -/
namespace Go.Proofs.YtmfnciocnlmceaaDoor
open Go.RowKit Go.Shelf

/-- behind the first quote -/
def unqM : List UInt8 → List UInt8 → List UInt8 × Bool
  | [], _ => ([], false)
  | [c], out => if c.toNat = 34 then (out, true) else ([], false)
  | c :: d :: r, out => if c.toNat = 34 then (out, false) else if c.toNat = 92 then unqM r (out ++ [d]) else unqM (d :: r) (out ++ [c])
def unqQ : List UInt8 → List UInt8 × Bool
  | c :: d :: r => if c.toNat = 34 then unqM (d :: r) [] else ([], false)
  | _ => ([], false)
def unqW (s : List UInt8) : List UInt8 × Bool := if isTok s then (s, true) else unqQ s
theorem unqM_quote {c : UInt8} {r out : List UInt8} (h : c.toNat = 34) : unqM (c :: r) out = (out, r.isEmpty) := by
  cases r with
  | nil => unfold unqM; rw [if_pos h]; rfl
  | cons d r => unfold unqM; rw [if_pos h]; rfl
theorem unqM_slash {c d : UInt8} {r out : List UInt8} (h : c.toNat = 92) : unqM (c :: d :: r) out = unqM r (out ++ [d]) := by
  conv => lhs; unfold unqM
  rw [if_neg (by omega), if_pos h]
theorem unqM_slash_end {c : UInt8} {out : List UInt8} (h : c.toNat ≠ 34) : unqM [c] out = ([], false) := by
  unfold unqM; rw [if_neg h]
theorem unqM_plain {c : UInt8} {r out : List UInt8} (h : c.toNat ≠ 34) (h2 : c.toNat ≠ 92) : unqM (c :: r) out = unqM r (out ++ [c]) := by
  cases r with
  | nil => unfold unqM; rw [if_neg h]
  | cons d r =>
    conv => lhs; unfold unqM
    rw [if_neg h, if_neg h2]
theorem unqM_len : ∀ (n : Nat) (s out : List UInt8), s.length ≤ n → (unqM s out).1.length ≤ out.length + s.length
  | _, [], out, _ => by simp [unqM]
  | _, [c], out, _ => by unfold unqM; split <;> simp
  | 0, c :: d :: r, out, h => by simp at h
  | 1, c :: d :: r, out, h => by simp at h
  | n + 2, c :: d :: r, out, h => by
    unfold unqM
    split
    · simp
    · split
      · have := unqM_len n r (out ++ [d]) (by simp at h; omega)
        simp at this ⊢; omega
      · have := unqM_len (n + 1) (d :: r) (out ++ [c]) (by simp at h ⊢; omega)
        simp at this ⊢; omega
theorem unqW_len (s : List UInt8) : (unqW s).1.length ≤ s.length := by
  unfold unqW
  split
  · simp
  · unfold unqQ
    split
    · split
      · exact Nat.le_trans (unqM_len _ _ [] (Nat.le_refl _)) (by simp)
      · simp
    · simp
theorem str_ret {a c : List UInt8} {b d : Bool} (h : (a, b) = (c, d)) : Ending.returned (.tuple #[.string (S a), .bool b]) = .returned (.tuple #[.string (S c), .bool d]) := by cases h; rfl
theorem str_ret' {x : List UInt8 × Bool} {c : List UInt8} {d : Bool} (h : x = (c, d)) : Ending.returned (.tuple #[.string (S c), .bool d]) = .returned (.tuple #[.string (S x.1), .bool x.2]) := by rw [h]

end Go.Proofs.YtmfnciocnlmceaaDoor

/- Layer 10: the document's Parse, its result written out. No conditions but on lengths. -/
namespace Go.Proofs.YtmfnciocnlmceaaDoor
open Go.RowKit Go.Shelf

theorem ref_parse_is {l n v : List UInt8} {k : Int} (w : World) (hl : l.length ≤ 4611686018427387904) (hv : parseV l = ⟨n, v⟩) (he : parseE l = k) :
    Calls Tryd.prog 87 #[.string (S l)] w fun e w' => e = .returned (.tuple #[.agg #[.string (S n), .string (S v)], .int .i64 k]) ∧ Keep [] w w' := by
  have h := ref_Parse l w hl
  unfold RefParse at h
  rw [hv, he] at h
  exact h

end Go.Proofs.YtmfnciocnlmceaaDoor

/- Layer 10: the document's Split. No conditions but on lengths. -/
namespace Go.Proofs.YtmfnciocnlmceaaDoor
open Go.RowKit Go.Shelf

theorem hasSuffix_two {l : List UInt8} {a b : UInt8} : Lib.hasSuffix l [a, b] = true ↔ ∃ x, l = x ++ [a, b] := by
  unfold Lib.hasSuffix
  constructor
  · intro h
    obtain ⟨x, hx⟩ : [a, b] <:+ l := by simpa using h
    exact ⟨x, hx.symm⟩
  · rintro ⟨x, rfl⟩
    simp
theorem trimSuffix_two {x : List UInt8} {a b : UInt8} : Lib.trimSuffix (x ++ [a, b]) [a, b] = x := by
  have h : Lib.hasSuffix (x ++ [a, b]) [a, b] = true := hasSuffix_two.2 ⟨x, rfl⟩
  unfold Lib.trimSuffix
  rw [if_pos h]
  simp
/-- a line that ends in LF: as the document takes it -/
theorem line_no {l : List UInt8} (h : l.length < 2 ∨ Lib.indexByte l 13 ≠ (l.length : Int) - 2) : lineM l = none := by
  unfold lineM
  rw [if_neg]
  rintro ⟨h1, h2⟩
  obtain ⟨x, rfl⟩ := hasSuffix_two.1 h1
  rw [trimSuffix_two] at h2
  have e : Lib.indexByte (x ++ [13, 10]) 13 = x.length := by
    have hge := Lib.indexByte_ge x 13
    have hn := Lib.indexByte_none (l := x) (c := 13) (by omega)
    refine indexByte_at (by simp) fun j hj => ?_
    rw [List.getElem?_append_left hj]
    exact hn j
  rw [e] at h
  simp at h
  omega
theorem line_yes {l : List UInt8} (hn : l[l.length - 1]? = some 10) (h1 : 2 ≤ l.length) (h : Lib.indexByte l 13 = (l.length : Int) - 2) : lineM l = some (l.take (l.length - 2)) := by
  have h2 : Lib.indexByte l 13 = ((l.length - 2 : Nat) : Int) := by rw [h]; omega
  obtain ⟨h3, h4⟩ := Lib.indexByte_some h2
  have e : l = l.take (l.length - 2) ++ [13, 10] := by
    have e1 : l.drop (l.length - 2) = [13, 10] := by
      rw [drop_at h3, show l.length - 2 + 1 = l.length - 1 by omega, drop_at hn]
      simp; omega
    rw [← e1, List.take_append_drop]
  have hs : Lib.hasSuffix l [13, 10] = true := hasSuffix_two.2 ⟨_, e⟩
  have ht : Lib.trimSuffix l [13, 10] = l.take (l.length - 2) := by
    conv => lhs; rw [e]
    exact trimSuffix_two
  unfold lineM
  rw [ht, if_pos]
  refine ⟨hs, ?_⟩
  rw [indexByte_no]
  · omega
  · intro j hj
    rw [List.getElem?_take] at hj
    split at hj
    · exact h4 j (by assumption) hj
    · cases hj

theorem isEmpty_false {l : List UInt8} (h : l ≠ []) : l.isEmpty = false := by cases l <;> simp at *
theorem ret4 {a b c c' d : Value} (h : c = c') : Ending.returned (.tuple #[a, b, c, d]) = Ending.returned (.tuple #[a, b, c', d]) := by rw [h]
/-- where the document's loop stands -/
def Stage (s st : List UInt8) (F : List Fld) (n : Nat) (first : Bool) : Prop :=
  (first = true ∧ st = [] ∧ F = [] ∧ n = 0) ∨ (first = false ∧ ∃ k, readM s = loopM s st k F n ∧ 4097 - n ≤ k)

end Go.Proofs.YtmfnciocnlmceaaDoor

/- Layer 10: param, Params: both sides. No conditions but on lengths. -/
namespace Go.Proofs.YtmfnciocnlmceaaDoor
open Go.RowKit Go.Shelf

/-- a parameter; false: it is none -/
def parM (x : List UInt8) : Fld × Bool :=
  if (Lib.cut x [61]).2.2 && isTok (Lib.cut x [61]).1 then (⟨lowW (Lib.cut x [61]).1, (unqW (Lib.cut x [61]).2.1).1⟩, (unqW (Lib.cut x [61]).2.1).2) else (⟨[], []⟩, false)
def parsM : List (List UInt8) → List Fld → Option (List Fld)
  | [], out => some out
  | x :: r, out => if x = [] then parsM r out else if (parM x).2 then parsM r (out ++ [(parM x).1]) else none
structure Prm where
  hd : List UInt8
  F : List Fld
  e : Int
def paramsM (s : List UInt8) : Prm := match parsM (cutW s 59).tail [] with
  | none => ⟨[], [], 3⟩
  | some F => ⟨(cutW s 59).headD [], F, 0⟩
def ParOut (x : Fld × Bool) (w : World) (e : Ending) (w' : World) : Prop := e = .returned (.tuple #[.agg #[.string (S x.1.name), .string (S x.1.value)], .bool x.2]) ∧ Keep [] w w'

def PrmOut (w : World) (r : Prm) (e : Ending) (w' : World) : Prop := ∃ v, e = .returned (.tuple #[.string (S r.hd), v, .int .i64 r.e]) ∧ Own Fld.cells 2 w.heap.size 26 w' v r.F ∧ Keep [] w w'
theorem drop_atG {α : Type} {l : List α} {k : Nat} {c : α} (h : l[k]? = some c) : l.drop k = c :: l.drop (k + 1) := by
  obtain ⟨hl, hc⟩ := List.getElem?_eq_some_iff.1 h
  rw [List.drop_eq_getElem_cons hl, hc]
theorem trimW_len (l : List UInt8) : (trimW l).length ≤ l.length := by
  unfold trimW Lib.trimS Lib.trimLeftS Lib.trimRightS
  refine Nat.le_trans (List.dropWhile_sublist _).length_le ?_
  rw [List.length_reverse]
  refine Nat.le_trans (List.dropWhile_sublist _).length_le ?_
  simp
theorem cutM_elem (b : UInt8) (m : Nat) : ∀ (l : List UInt8) (q : Bool) (p : List UInt8), p.length + l.length ≤ m → ∀ x ∈ cutM b l q p, x.length ≤ m
  | [], q, p, h, x, hx => by
    simp [cutM] at hx
    subst hx
    have := trimW_len p
    simp at h; omega
  | [c], q, p, h, x, hx => by
    rw [cutM.eq_def] at hx; dsimp only at hx
    split at hx
    · exact cutM_elem b m [] _ _ (by simp at h ⊢; omega) x hx
    · split at hx
      · simp at hx
        subst hx
        have := trimW_len (p ++ [c])
        simp at h this; omega
      · split at hx
        · rcases List.mem_cons.1 hx with rfl | hx
          · have := trimW_len p
            simp at h; omega
          · exact cutM_elem b m [] _ _ (by simp at h ⊢) x hx
        · exact cutM_elem b m [] _ _ (by simp at h ⊢; omega) x hx
  | c :: d :: r, q, p, h, x, hx => by
    rw [cutM.eq_def] at hx; dsimp only at hx
    split at hx
    · exact cutM_elem b m (d :: r) _ _ (by simp at h ⊢; omega) x hx
    · split at hx
      · exact cutM_elem b m r _ _ (by simp at h ⊢; omega) x hx
      · split at hx
        · rcases List.mem_cons.1 hx with rfl | hx
          · have := trimW_len p
            simp at h; omega
          · exact cutM_elem b m (d :: r) _ _ (by simp at h ⊢; omega) x hx
        · exact cutM_elem b m (d :: r) _ _ (by simp at h ⊢; omega) x hx
theorem cutW_elem {l : List UInt8} {b : UInt8} {x : List UInt8} (h : x ∈ cutW l b) : x.length ≤ l.length := cutM_elem b l.length l false [] (by simp) x h

end Go.Proofs.YtmfnciocnlmceaaDoor

/- Layer 16: bounds. No conditions but on lengths. -/
namespace Go.Proofs.YtmfnciocnlmceaaDoor
open Go.RowKit Go.Shelf

structure Bds where
  ln : Int
  li : Bool
  hn : Int
  hi : Bool
  ok : Bool
def bdsM (l : List UInt8) : Bds :=
  if isUnitM l then
    let c := Lib.cut (l.drop 6) [45]
    ⟨numN c.1, numI c.1, numN c.2.1, numI c.2.1, c.2.2 && numK c.1 && numK c.2.1 && (numI c.1 || numI c.2.1) && !(numI c.1 && numI c.2.1 && decide (numN c.2.1 < numN c.1))⟩
  else ⟨0, false, 0, false, false⟩
def BdsOut (w : World) (r : Bds) (e : Ending) (w' : World) : Prop := e = .returned (.tuple #[.agg #[.int .i64 r.ln, .bool r.li], .agg #[.int .i64 r.hn, .bool r.hi], .bool r.ok]) ∧ Keep [] w w'

end Go.Proofs.YtmfnciocnlmceaaDoor

/- Layer 16: Parse. No conditions but on lengths. -/
namespace Go.Proofs.YtmfnciocnlmceaaDoor
open Go.RowKit Go.Shelf

def rangeB : List UInt8 := [82, 97, 110, 103, 101]
structure Prt where
  kind : Int
  a : Int
  b : Int
  deriving DecidableEq
/-- what is asked for -/
def prtM (n : Int) (r : Bds) (size : Int) : Prt :=
  if n ≠ 1 ∨ r.ok = false then ⟨1, 0, max size 0 - 1⟩
  else if size ≤ 0 ∨ size ≤ r.ln ∨ (r.li = false ∧ r.hn = 0) then ⟨3, 0, 0⟩
  else if r.li = false then ⟨2, size - min r.hn size, max size 0 - 1⟩
  else if r.hi then ⟨2, r.ln, min r.hn (max size 0 - 1)⟩
  else ⟨2, r.ln, max size 0 - 1⟩
def parseM (L : List Fld) (size : Int) : Prt := prtM (getN L rangeB) (bdsM (getV L rangeB)) size

theorem numN_range (l : List UInt8) : 0 ≤ numN l ∧ numN l ≤ GT := by
  have h := undec_range (numD l) GT
  unfold numN
  have hG : GT = 4611686018427387904 := rfl
  split
  · omega
  · split
    · omega
    · by_cases h0 : undecE (numD l) GT = 0
      · exact h.1 h0
      · have := (h.2 h0).1; omega
theorem bds_range (l : List UInt8) : 0 ≤ (bdsM l).ln ∧ 0 ≤ (bdsM l).hn ∧ (bdsM l).ln ≤ GT ∧ (bdsM l).hn ≤ GT := by
  have hG : GT = 4611686018427387904 := rfl
  unfold bdsM
  split
  · exact ⟨(numN_range _).1, (numN_range _).1, (numN_range _).2, (numN_range _).2⟩
  · exact ⟨by decide, by decide, by decide, by decide⟩
theorem prt_ret {r : Prt} {a b c : Int} (h : r = ⟨a, b, c⟩) : Ending.returned (.tuple #[.int .i64 a, .int .i64 b, .int .i64 c]) = .returned (.tuple #[.int .i64 r.kind, .int .i64 r.a, .int .i64 r.b]) := by rw [h]

end Go.Proofs.YtmfnciocnlmceaaDoor

/- Layer 1: numbers in decimal are written. No conditions but on the numbers' table. -/
namespace Go.Proofs.YtmfnciocnlmceaaDoor
open Go.RowKit Go.Shelf

/-- the library's table of powers of ten is as it was laid -/
def P10 (w : World) : Prop := Lib.TabIs Tryd.prog w "internal/strconv.uint64pow10" .u64 Lib.pow10Tab
theorem P10.keep {w w' : World} {S : List Nat} (h : P10 w) (k : Keep S w w') (hn : ∀ g, Tryd.prog.globalNamed "internal/strconv.uint64pow10" = some g → g ∉ S) : P10 w' := by
  unfold P10 Lib.TabIs World.var? at *
  cases hg : Tryd.prog.globalNamed "internal/strconv.uint64pow10" with
  | none => simp [hg] at h
  | some g =>
    try rw [hg] at h
    simp only [Option.bind_some] at h ⊢
    cases ho : w.heap[g]? with
    | none => rw [ho] at h; simp at h
    | some o =>
      rw [k.heap ho (hn g hg)]
      rw [ho] at h
      exact h
theorem P10.keep0 {w w' : World} (h : P10 w) (k : Keep [] w w') : P10 w' := h.keep k (by simp)
theorem laid_at {P : Program} {W : World} {name : String} {k : IntKind} {zs : List Int} {g : Nat} {t e : TypeId} {n : Nat}
    (hg : P.globalNamed name = some g) (hty : (P.globals[g]?).map (·.type) = some t) (ht : P.underlying t = some (.array n e)) (he : P.underlying e = some (.int k)) (hce : P.cellsOf e = 1) (hct : P.cellsOf t = n) :
    ∀ {laid : List (String × DataW Unit)} {ps : List MemPlace}, (name, Lib.tabData k zs) ∈ laid → DataW.LaidVars P W laid ps → Lib.TabIs P W name k zs
  | [], ps, hm, _ => by simp at hm
  | x :: r, ps, hm, h => by
    obtain ⟨g', t', cs, fuel, p, q, hg', ht', hvar, hd, hr, _⟩ := h
    rcases List.mem_cons.1 hm with e | hm
    · subst e
      obtain rfl := Option.some.inj (hg.symm.trans hg')
      obtain rfl := Option.some.inj (hty.symm.trans ht')
      unfold Lib.TabIs
      rw [hvar, ← Lib.cells_of_tab ht he hce hct hd]
    · exact laid_at hg hty ht he hce hct hm hr
theorem P10.laid {W : World} {laid : List (String × DataW Unit)} (h : laidMet Tryd.prog laid W) (hm : ("internal/strconv.uint64pow10", Lib.tabData .u64 Lib.pow10Tab) ∈ laid := by first | (repeat (first | exact List.Mem.head _ | exact List.Mem.tail _ (List.Mem.head _) | exact List.Mem.tail _ (List.Mem.tail _ (List.Mem.head _)))) | simp) : P10 W := by
  obtain ⟨ps, h, _⟩ := h
  exact laid_at (g := 1) (t := 154) (e := 121) (n := 20) (by kernel_rfl) rfl (by kernel_rfl) (by kernel_rfl) (by kernel_rfl) (by kernel_rfl) hm h
theorem keep_grow (w : World) (k : Nat) (os : Array Obj) : Keep [] w (Sort.grow (w.drewN k) os) :=
  ⟨rfl, rfl, rfl, by simp [Sort.grow, World.drewN], fun i hi _ => by
    show (w.heap ++ os)[i]? = w.heap[i]?
    rw [Array.getElem?_append_left hi]⟩
theorem hexa_Dec (n : Int) (w : World) (hn : in64 n) (hp : P10 w) :
    Calls Tryd.prog 47 #[.int .i64 n] w fun e w' => e = .returned (.string (S (Lib.itoa n))) ∧ Keep [] w w' := by
  have hI := Lib.hid (fun w' (k : Keep [] w w') => Tryd.strconv_Itoa n hn.1 hn.2 w' (hp.keep0 k))
  go_enter Tryd.func47, Tryd.ntmps47
  go_wp2_with fail
  refine (hI.out _ (Keep.refl _ _)).mono ?_
  rintro e w1 ⟨rfl, k, os, rfl⟩
  have hk := keep_grow w k os
  generalize Sort.grow (w.drewN k) os = w1 at hk
  go_wp2_with fail
  go_ret
  exact ⟨rfl, hk⟩
theorem itoa_len (n : Int) (h : in64 n) : (Lib.itoa n).length ≤ 21 := Lib.itoa_length_le n h.1 h.2
/-- 'bytes ' -/
def saidB : List UInt8 := [98, 121, 116, 101, 115, 32]
def prnOk (a b n : Int) : Bool := decide (0 ≤ a) && decide (a ≤ b) && decide (b < n) && decide (n ≤ 4611686018427387904)
/-- a part as it is written -/
def prnS (a b n : Int) : List UInt8 := if prnOk a b n then saidB ++ Lib.itoa a ++ [45] ++ Lib.itoa b ++ [47] ++ Lib.itoa n else []
def prnE (a b n : Int) : Int := if prnOk a b n then 0 else 1
def unmetS (n : Int) : List UInt8 := [98, 121, 116, 101, 115, 32, 42, 47] ++ Lib.itoa (max n 0)

end Go.Proofs.YtmfnciocnlmceaaDoor

/- Layer 13: what its functions compute, as plain functions of lists of bytes; the request line of layer 12. No program. No conditions. -/
namespace Go.Proofs.YtmfnciocnlmceaaDoor
open Go.RowKit Go.Shelf

/-- a status' words -/
def reasonM (s : Int) : List UInt8 :=
  if s = 200 then [79, 75] else
  if s = 206 then [80, 97, 114, 116, 105, 97, 108, 32, 67, 111, 110, 116, 101, 110, 116] else
  if s = 304 then [78, 111, 116, 32, 77, 111, 100, 105, 102, 105, 101, 100] else
  if s = 400 then [66, 97, 100, 32, 82, 101, 113, 117, 101, 115, 116] else
  if s = 404 then [78, 111, 116, 32, 70, 111, 117, 110, 100] else
  if s = 405 then [77, 101, 116, 104, 111, 100, 32, 78, 111, 116, 32, 65, 108, 108, 111, 119, 101, 100] else
  if s = 406 then [78, 111, 116, 32, 65, 99, 99, 101, 112, 116, 97, 98, 108, 101] else
  if s = 413 then [67, 111, 110, 116, 101, 110, 116, 32, 84, 111, 111, 32, 76, 97, 114, 103, 101] else
  if s = 416 then [82, 97, 110, 103, 101, 32, 78, 111, 116, 32, 83, 97, 116, 105, 115, 102, 105, 97, 98, 108, 101] else
  if s = 431 then [82, 101, 113, 117, 101, 115, 116, 32, 72, 101, 97, 100, 101, 114, 32, 70, 105, 101, 108, 100, 115, 32, 84, 111, 111, 32, 76, 97, 114, 103, 101] else
  if s = 502 then [66, 97, 100, 32, 71, 97, 116, 101, 119, 97, 121] else
  if s = 503 then [83, 101, 114, 118, 105, 99, 101, 32, 85, 110, 97, 118, 97, 105, 108, 97, 98, 108, 101] else
  if s = 504 then [71, 97, 116, 101, 119, 97, 121, 32, 84, 105, 109, 101, 111, 117, 116] else
  if s = 505 then [72, 84, 84, 80, 32, 86, 101, 114, 115, 105, 111, 110, 32, 78, 111, 116, 32, 83, 117, 112, 112, 111, 114, 116, 101, 100] else
  [85, 110, 107, 110, 111, 119, 110]
def crlfB : List UInt8 := [13, 10]
/-- 'HTTP/1.1' -/
def protB : List UInt8 := [72, 84, 84, 80, 47, 49, 46, 49]
def laidOk (L : List Fld) : Bool := decide (L.length ≤ 32) && L.all goodF
def laidE (st : List UInt8) (L : List Fld) : Int := if laidOk L then (if (headT st L).length ≤ 4096 then 0 else 4) else 1
def laidS (st : List UInt8) (L : List Fld) : List UInt8 := if laidE st L = 0 then headT st L else []
def stOf (s : Int) : List UInt8 := protB ++ [32] ++ Lib.itoa s ++ [32] ++ reasonM s
def statOk (s : Int) : Bool := decide (100 ≤ s) && decide (s ≤ 599)
def ansE (s : Int) (L : List Fld) : Int := if statOk s then laidE (stOf s) L else 1
def ansS (s : Int) (L : List Fld) : List UInt8 := if statOk s then laidS (stOf s) L else []
/-- a byte of a target -/
def tgtB (b : UInt8) : Bool := decide (33 ≤ b.toNat) && decide (b.toNat ≤ 126)
def isTgt (l : List UInt8) : Bool := l.all tgtB && !l.isEmpty
/-- 'HTTP/' -/
def httpB : List UInt8 := [72, 84, 84, 80, 47]
def digB (b : UInt8) : Bool := decide (48 ≤ b.toNat) && decide (b.toNat ≤ 57)
def verOk (l : List UInt8) : Bool := decide (l.length = 8) && decide (l.take 5 = httpB) && digB (l.getD 5 0) && (l.getD 6 0 == 46) && digB (l.getD 7 0)
def minS (l : List UInt8) : Int := if verOk l then (if l.getD 5 0 = 49 ∧ (l.getD 7 0).toNat ≤ 49 then 200 else 505) else 400
def minV (l : List UInt8) : Int := if minS l = 200 then ((l.getD 7 0).toNat : Int) - 48 else 0
structure Ln where
  m : List UInt8
  t : List UInt8
  v : Int
  s : Int
/-- a request line -/
def lnM (l : List UInt8) : Ln :=
  let c := Lib.cut l [32]
  let d := Lib.cut c.2.1 [32]
  if c.2.2 && d.2.2 && isTok c.1 && isTgt d.1 then (if minS d.2.1 = 200 then ⟨c.1, d.1, minV d.2.1, 200⟩ else ⟨[], [], 0, minS d.2.1⟩) else ⟨[], [], 0, 400⟩
def askT (m t : List UInt8) : List UInt8 := m ++ [32] ++ t ++ [32] ++ protB
def askOk (m t : List UInt8) : Bool := decide ((lnM (askT m t)).s = 200) && decide ((askT m t).length ≤ 1024)
def askE (m t : List UInt8) (L : List Fld) : Int := if askOk m t then laidE (askT m t) L else 1
def askS (m t : List UInt8) (L : List Fld) : List UInt8 := if askOk m t then laidS (askT m t) L else []
theorem len_ite {c : Prop} [Decidable c] {a b : List UInt8} {n : Nat} (ha : a.length ≤ n) (hb : b.length ≤ n) : (if c then a else b).length ≤ n := by split <;> assumption
theorem reason_len (s : Int) : (reasonM s).length ≤ 40 := by
  unfold reasonM
  repeat (refine len_ite (by decide) ?_)
  decide
theorem stOf_len (s : Int) (h : in64 s) : (stOf s).length ≤ 100 := by
  have h1 := reason_len s
  have h2 := itoa_len s h
  unfold stOf
  simp [protB]
  omega
end Go.Proofs.YtmfnciocnlmceaaDoor

/- Layer 13 and 12: Reason, Bodyless; a request line's parts: isDigit, isTarget, minor. No conditions but on lengths. -/
namespace Go.Proofs.YtmfnciocnlmceaaDoor
open Go.RowKit Go.Shelf

set_option maxRecDepth 100000 in
set_option maxHeartbeats 4000000 in
theorem outlet_Reason (s : Int) (w : World) : Calls Tryd.prog 18 #[.int .i64 s] w fun e w' => e = .returned (.string (S (reasonM s))) ∧ w' = w := by
  by_cases h200 : s = 200
  · subst h200
    go_enter Tryd.func18, Tryd.ntmps18
    go_wp2_with fail
    go_ret
    exact ⟨rfl, rfl⟩
  by_cases h206 : s = 206
  · subst h206
    go_enter Tryd.func18, Tryd.ntmps18
    go_wp2_with fail
    go_ret
    exact ⟨rfl, rfl⟩
  by_cases h304 : s = 304
  · subst h304
    go_enter Tryd.func18, Tryd.ntmps18
    go_wp2_with fail
    go_ret
    exact ⟨rfl, rfl⟩
  by_cases h400 : s = 400
  · subst h400
    go_enter Tryd.func18, Tryd.ntmps18
    go_wp2_with fail
    go_ret
    exact ⟨rfl, rfl⟩
  by_cases h404 : s = 404
  · subst h404
    go_enter Tryd.func18, Tryd.ntmps18
    go_wp2_with fail
    go_ret
    exact ⟨rfl, rfl⟩
  by_cases h405 : s = 405
  · subst h405
    go_enter Tryd.func18, Tryd.ntmps18
    go_wp2_with fail
    go_ret
    exact ⟨rfl, rfl⟩
  by_cases h406 : s = 406
  · subst h406
    go_enter Tryd.func18, Tryd.ntmps18
    go_wp2_with fail
    go_ret
    exact ⟨rfl, rfl⟩
  by_cases h413 : s = 413
  · subst h413
    go_enter Tryd.func18, Tryd.ntmps18
    go_wp2_with fail
    go_ret
    exact ⟨rfl, rfl⟩
  by_cases h416 : s = 416
  · subst h416
    go_enter Tryd.func18, Tryd.ntmps18
    go_wp2_with fail
    go_ret
    exact ⟨rfl, rfl⟩
  by_cases h431 : s = 431
  · subst h431
    go_enter Tryd.func18, Tryd.ntmps18
    go_wp2_with fail
    go_ret
    exact ⟨rfl, rfl⟩
  by_cases h502 : s = 502
  · subst h502
    go_enter Tryd.func18, Tryd.ntmps18
    go_wp2_with fail
    go_ret
    exact ⟨rfl, rfl⟩
  by_cases h503 : s = 503
  · subst h503
    go_enter Tryd.func18, Tryd.ntmps18
    go_wp2_with fail
    go_ret
    exact ⟨rfl, rfl⟩
  by_cases h504 : s = 504
  · subst h504
    go_enter Tryd.func18, Tryd.ntmps18
    go_wp2_with fail
    go_ret
    exact ⟨rfl, rfl⟩
  by_cases h505 : s = 505
  · subst h505
    go_enter Tryd.func18, Tryd.ntmps18
    go_wp2_with fail
    go_ret
    exact ⟨rfl, rfl⟩
  have q200 : (s == 200) = false := (int_ne h200).1
  have q206 : (s == 206) = false := (int_ne h206).1
  have q304 : (s == 304) = false := (int_ne h304).1
  have q400 : (s == 400) = false := (int_ne h400).1
  have q404 : (s == 404) = false := (int_ne h404).1
  have q405 : (s == 405) = false := (int_ne h405).1
  have q406 : (s == 406) = false := (int_ne h406).1
  have q413 : (s == 413) = false := (int_ne h413).1
  have q416 : (s == 416) = false := (int_ne h416).1
  have q431 : (s == 431) = false := (int_ne h431).1
  have q502 : (s == 502) = false := (int_ne h502).1
  have q503 : (s == 503) = false := (int_ne h503).1
  have q504 : (s == 504) = false := (int_ne h504).1
  have q505 : (s == 505) = false := (int_ne h505).1
  have HR := Lib.hid (show reasonM s = [85, 110, 107, 110, 111, 119, 110] by unfold reasonM; simp only [h200, h206, h304, h400, h404, h405, h406, h413, h416, h431, h502, h503, h504, h505, if_false])
  clear h200 h206 h304 h400 h404 h405 h406 h413 h416 h431 h502 h503 h504 h505
  go_enter Tryd.func18, Tryd.ntmps18
  go_wp2_with fail
  go_ret
  exact ⟨by rw [HR.out]; rfl, rfl⟩
set_option maxRecDepth 100000 in
set_option maxHeartbeats 4000000 in
theorem ref_Reason (s : Int) (w : World) : Calls Tryd.prog 19 #[.int .i64 s] w fun e w' => e = .returned (.string (S (reasonM s))) ∧ w' = w := by
  by_cases h200 : s = 200
  · subst h200
    go_enter Tryd.func19, Tryd.ntmps19
    go_wp2_with fail
    go_ret
    exact ⟨rfl, rfl⟩
  by_cases h206 : s = 206
  · subst h206
    go_enter Tryd.func19, Tryd.ntmps19
    go_wp2_with fail
    go_ret
    exact ⟨rfl, rfl⟩
  by_cases h304 : s = 304
  · subst h304
    go_enter Tryd.func19, Tryd.ntmps19
    go_wp2_with fail
    go_ret
    exact ⟨rfl, rfl⟩
  by_cases h400 : s = 400
  · subst h400
    go_enter Tryd.func19, Tryd.ntmps19
    go_wp2_with fail
    go_ret
    exact ⟨rfl, rfl⟩
  by_cases h404 : s = 404
  · subst h404
    go_enter Tryd.func19, Tryd.ntmps19
    go_wp2_with fail
    go_ret
    exact ⟨rfl, rfl⟩
  by_cases h405 : s = 405
  · subst h405
    go_enter Tryd.func19, Tryd.ntmps19
    go_wp2_with fail
    go_ret
    exact ⟨rfl, rfl⟩
  by_cases h406 : s = 406
  · subst h406
    go_enter Tryd.func19, Tryd.ntmps19
    go_wp2_with fail
    go_ret
    exact ⟨rfl, rfl⟩
  by_cases h413 : s = 413
  · subst h413
    go_enter Tryd.func19, Tryd.ntmps19
    go_wp2_with fail
    go_ret
    exact ⟨rfl, rfl⟩
  by_cases h416 : s = 416
  · subst h416
    go_enter Tryd.func19, Tryd.ntmps19
    go_wp2_with fail
    go_ret
    exact ⟨rfl, rfl⟩
  by_cases h431 : s = 431
  · subst h431
    go_enter Tryd.func19, Tryd.ntmps19
    go_wp2_with fail
    go_ret
    exact ⟨rfl, rfl⟩
  by_cases h502 : s = 502
  · subst h502
    go_enter Tryd.func19, Tryd.ntmps19
    go_wp2_with fail
    go_ret
    exact ⟨rfl, rfl⟩
  by_cases h503 : s = 503
  · subst h503
    go_enter Tryd.func19, Tryd.ntmps19
    go_wp2_with fail
    go_ret
    exact ⟨rfl, rfl⟩
  by_cases h504 : s = 504
  · subst h504
    go_enter Tryd.func19, Tryd.ntmps19
    go_wp2_with fail
    go_ret
    exact ⟨rfl, rfl⟩
  by_cases h505 : s = 505
  · subst h505
    go_enter Tryd.func19, Tryd.ntmps19
    go_wp2_with fail
    go_ret
    exact ⟨rfl, rfl⟩
  have q200 : (s == 200) = false := (int_ne h200).1
  have q206 : (s == 206) = false := (int_ne h206).1
  have q304 : (s == 304) = false := (int_ne h304).1
  have q400 : (s == 400) = false := (int_ne h400).1
  have q404 : (s == 404) = false := (int_ne h404).1
  have q405 : (s == 405) = false := (int_ne h405).1
  have q406 : (s == 406) = false := (int_ne h406).1
  have q413 : (s == 413) = false := (int_ne h413).1
  have q416 : (s == 416) = false := (int_ne h416).1
  have q431 : (s == 431) = false := (int_ne h431).1
  have q502 : (s == 502) = false := (int_ne h502).1
  have q503 : (s == 503) = false := (int_ne h503).1
  have q504 : (s == 504) = false := (int_ne h504).1
  have q505 : (s == 505) = false := (int_ne h505).1
  have HR := Lib.hid (show reasonM s = [85, 110, 107, 110, 111, 119, 110] by unfold reasonM; simp only [h200, h206, h304, h400, h404, h405, h406, h413, h416, h431, h502, h503, h504, h505, if_false])
  clear h200 h206 h304 h400 h404 h405 h406 h413 h416 h431 h502 h503 h504 h505
  go_enter Tryd.func19, Tryd.ntmps19
  go_wp2_with fail
  go_ret
  exact ⟨by rw [HR.out]; rfl, rfl⟩
set_option maxHeartbeats 1000000 in
theorem outlet_Bodyless (s : Int) (h : Bool) (w : World) :
    Calls Tryd.prog 20 #[.int .i64 s, .bool h] w fun e w' => e = .returned (.bool (h || (decide (100 ≤ s) && decide (s < 200)) || decide (s = 204) || decide (s = 304))) ∧ w' = w := by
  cases h with
  | true =>
    go_enter Tryd.func20, Tryd.ntmps20
    go_wp2_with fail
    go_ret
    exact ⟨by simp, rfl⟩
  | false =>
    by_cases h1 : 100 ≤ s ∧ s < 200
    · obtain ⟨ha, hb⟩ := h1
      have ha' : decide (s ≥ 100) = true := by simp; omega
      go_enter Tryd.func20, Tryd.ntmps20
      go_wp2_with fail
      go_ret
      exact ⟨by simp [ha, hb], rfl⟩
    · have hx : (decide (100 ≤ s) && decide (s < 200)) = false := by simp; omega
      rw [hx]
      by_cases ha : 100 ≤ s
      · have hb : decide (s < 200) = false := by simp; omega
        by_cases h4 : s = 204
        · have h4' := (int_eq h4).1
          clear h1 hx
          go_enter Tryd.func20, Tryd.ntmps20
          go_wp2_with fail
          go_ret
          exact ⟨by simp [h4], rfl⟩
        · have h4' := (int_ne h4).1
          clear h1 hx
          go_enter Tryd.func20, Tryd.ntmps20
          go_wp2_with fail
          all_goals (go_ret; refine ⟨?_, rfl⟩)
          all_goals (by_cases h5 : s = 304 <;> simp [h4, h5])
      · by_cases h4 : s = 204
        · omega
        · have h4' := (int_ne h4).1
          clear h1 hx
          go_enter Tryd.func20, Tryd.ntmps20
          go_wp2_with fail
          all_goals (go_ret; refine ⟨?_, rfl⟩)
          all_goals (by_cases h5 : s = 304 <;> simp [h5])

set_option maxHeartbeats 400000 in
theorem inlet_isDigit (b : UInt8) (w : World) :
    Calls Tryd.prog 84 #[.int .u8 b.toNat] w fun e w' => e = .returned (.bool (digB b)) ∧ w = w' := by
  have hb := u8_nat b
  by_cases h1 : 48 ≤ b.toNat
  · by_cases h2 : b.toNat ≤ 57
    · go_enter Tryd.func84, Tryd.ntmps84
      go_wp2_with fail
      go_ret
      exact ⟨by simp [digB, h1, h2] <;> omega, rfl⟩
    · go_enter Tryd.func84, Tryd.ntmps84
      go_wp2_with fail
      go_ret
      exact ⟨by simp [digB, h1, h2] <;> omega, rfl⟩
  · go_enter Tryd.func84, Tryd.ntmps84
    go_wp2_with fail
    go_ret
    exact ⟨by simp [digB, h1], rfl⟩

set_option maxRecDepth 100000 in
set_option maxHeartbeats 1000000 in
theorem inlet_isTarget (l : List UInt8) (w : World) (hs : l.length ≤ maxLen) :
    Calls Tryd.prog 53 #[.string (S l)] w fun e w' => e = .returned (.bool (isTgt l)) ∧ Keep [] w w' := by
  have hs' : l.length ≤ 9223372036854775807 := hs
  have hcv := conv_run w (S l)
  have hcell : Hid (∀ (k : Nat) (c : UInt8), l[k]? = some c → _) := fun k c h => conv_at w 5 h
  have hkp := conv_keep w 5 (S l)
  generalize Lib.bytesWorld w 5 (S l) = wb at hcv hcell hkp
  have hsz := S_size l
  have hte := S_toList l
  clear hs
  go_enter Tryd.func53, Tryd.ntmps53
  go_wp2_with fail
  go_loop [8] (fun i => ∃ k : Nat, i = .int .i64 k ∧ k ≤ l.length ∧ Hid ((l.take k).all tgtB = true)) (fun i => l.length - (intOf i).toNat)
  case atStart => exact ⟨0, rfl, Nat.zero_le _, by simp [Hid]⟩
  case round =>
    obtain ⟨k, rfl, hk, hall⟩ := hrel
    by_cases hlt : k < l.length
    · obtain ⟨c, hg⟩ : ∃ c, l[k]? = some c := ⟨_, List.getElem?_eq_getElem hlt⟩
      have hc := hcell.out k c hg
      have hc8 := u8_nat c
      have HG := Lib.hid hg
      clear hg
      by_cases ht : tgtB c = true
      · have h1 : 33 ≤ c.toNat ∧ c.toNat ≤ 126 := by simpa [tgtB] using ht
        have h2 : ¬ c.toNat ≤ 32 := by omega
        have h3 : ¬ 126 < c.toNat := by omega
        have HT := Lib.hid ht
        clear ht h1
        go_wp2_with fail
        go_round
        case rel => exact ⟨k + 1, by go_num, by omega, by rw [Hid, take_snoc HG.out, List.all_append, hall.out]; simp [HT.out]⟩
        case measure => simp [intOf]; omega
      · have this : isTgt l = false := by
          unfold isTgt
          rw [show l.all tgtB = false from by rw [List.all_eq_false]; exact ⟨c, List.mem_of_getElem? HG.out, ht⟩]
          rfl
        have H := Lib.hid this
        by_cases h2 : c.toNat ≤ 32
        · clear this ht
          go_wp2_with fail
          go_ret
          exact ⟨ret_bool H.out.symm, hkp⟩
        · have h3 : 126 < c.toNat := by
            simp [tgtB] at ht
            omega
          clear this ht
          go_wp2_with fail
          go_ret
          exact ⟨ret_bool H.out.symm, hkp⟩
    · have e : l.take k = l := List.take_of_length_le (by omega)
      rw [e] at hall
      clear e
      go_wp2_with fail
      go_ret
      refine ⟨ret_bool ?_, hkp⟩
      unfold isTgt
      rw [hall.out]
      simp
end Go.Proofs.YtmfnciocnlmceaaDoor

/- Layer 12: minor, Line: a request line. No conditions but on lengths. -/
namespace Go.Proofs.YtmfnciocnlmceaaDoor
open Go.RowKit Go.Shelf

theorem take5_prefix (l : List UInt8) : Lib.hasPrefix l httpB = decide (l.take 5 = httpB) := by
  rw [Bool.eq_iff_iff]
  unfold Lib.hasPrefix
  rw [List.isPrefixOf_iff_prefix, List.prefix_iff_eq_take]
  constructor
  · intro h; exact decide_eq_true h.symm
  · intro h; exact (of_decide_eq_true h).symm
theorem ver_no {l : List UInt8} (h : Lib.hasPrefix l httpB = false ∨ l.length ≠ 8) : minS l = 400 ∧ minV l = 0 := by
  have hv : verOk l = false := by
    unfold verOk
    rcases h with h | h
    · rw [take5_prefix] at h; rw [h]; simp
    · simp [h]
  have hs : minS l = 400 := by unfold minS; rw [hv]; rfl
  exact ⟨hs, by unfold minV; rw [hs]; rfl⟩
theorem ver_of (a p c : UInt8) : minS (httpB ++ [a, p, c]) = (if digB a && (p == 46) && digB c then (if a = 49 ∧ c.toNat ≤ 49 then 200 else 505) else 400) ∧ minV (httpB ++ [a, p, c]) = (if digB a && (p == 46) && digB c then (if a = 49 ∧ c.toNat ≤ 49 then (c.toNat : Int) - 48 else 0) else 0) := by
  have hv : verOk (httpB ++ [a, p, c]) = (digB a && (p == 46) && digB c) := by
    unfold verOk
    simp [httpB]
  have hs : minS (httpB ++ [a, p, c]) = (if digB a && (p == 46) && digB c then (if a = 49 ∧ c.toNat ≤ 49 then 200 else 505) else 400) := by
    unfold minS
    rw [hv]
    rfl
  refine ⟨hs, ?_⟩
  unfold minV
  rw [hs]
  by_cases h1 : (digB a && (p == 46) && digB c) = true
  · by_cases h2 : a = 49 ∧ c.toNat ≤ 49
    · rw [if_pos h1, if_pos h2, if_pos rfl, if_pos h1, if_pos h2]; rfl
    · rw [if_pos h1, if_neg h2, if_neg (by decide), if_pos h1, if_neg h2]
  · rw [if_neg h1, if_neg (by decide), if_neg h1]

set_option maxRecDepth 100000 in
set_option maxHeartbeats 2000000 in
theorem inlet_minor (l : List UInt8) (w : World) (hl : l.length ≤ maxLen) :
    Calls Tryd.prog 54 #[.string (S l)] w fun e w' => e = .returned (.tuple #[.int .i64 (minV l), .int .i64 (minS l)]) ∧ Keep [] w w' := by
  have hl' : l.length ≤ 9223372036854775807 := hl
  have hP : Calls Tryd.prog 83 #[.string (S l), .string ⟨#[72, 84, 84, 80, 47]⟩] w fun e w' => e = .returned (.tuple #[.string (S (Lib.trimPrefix l httpB)), .bool (Lib.hasPrefix l httpB)]) ∧ w' = w := by
    have := Tryd.strings_CutPrefix (S l) ⟨#[72, 84, 84, 80, 47]⟩ w
    rw [S_list] at this
    exact this
  have hsz := S_size l
  cases hpf : Lib.hasPrefix l httpB with
  | false =>
    obtain ⟨e1, e2⟩ := ver_no (.inl hpf)
    rw [e1, e2]
    rw [hpf] at hP
    have HP := Lib.hid hP
    clear hP hpf e1 e2
    go_enter Tryd.func54, Tryd.ntmps54
    go_wp2_with fail
    refine HP.out.mono ?_
    rintro e w1 ⟨rfl, rfl⟩
    go_wp2_with fail
    go_ret2
    exact ⟨rfl, Keep.refl _ _⟩
  | true =>
    rw [hpf] at hP
    by_cases h8 : l.length = 8
    · have hle : l = httpB ++ l.drop 5 := by
        rw [take5_prefix] at hpf
        have := of_decide_eq_true hpf
        rw [← this, List.take_append_drop]
      have htr : Lib.trimPrefix l httpB = l.drop 5 := by unfold Lib.trimPrefix; rw [if_pos hpf]; rfl
      have hr3 : (l.drop 5).length = 3 := by rw [List.length_drop, h8]
      rw [htr] at hP
      generalize l.drop 5 = r at *
      obtain ⟨a, p, c, rfl⟩ : ∃ a p c, r = [a, p, c] := by
        match r, hr3 with
        | [a, p, c], _ => exact ⟨a, p, c, rfl⟩
      have g0 := S_get (l := [a, p, c]) (k := 0) (c := a) rfl
      have g1 := S_get (l := [a, p, c]) (k := 1) (c := p) rfl
      have g2 := S_get (l := [a, p, c]) (k := 2) (c := c) rfl
      have hs3 : (S [a, p, c]).size = 3 := S_size _
      obtain ⟨hms, hmv⟩ := ver_of a p c
      rw [← hle] at hms hmv
      generalize minS l = ms at hms ⊢
      generalize minV l = mv at hmv ⊢
      have h8' : ((l.length : Nat) : Int) = 8 := by omega
      have h8q := (int_eq h8').2
      have HP := Lib.hid hP
      have Da := Lib.hid (fun w1 => inlet_isDigit a w1)
      have Dc := Lib.hid (fun w1 => inlet_isDigit c w1)
      have ca := u8_nat a
      have cp := u8_nat p
      have cc := u8_nat c
      generalize S [a, p, c] = sr at *
      clear hP hpf hle htr hr3 h8 h8'
      cases hda : digB a with
      | false =>
        rw [hda] at Da hms hmv
        have HX := Lib.hid (show mv = 0 ∧ ms = 400 from ⟨by simpa using hmv, by simpa using hms⟩)
        clear hms hmv hda
        go_enter Tryd.func54, Tryd.ntmps54
        go_wp2_with fail
        refine HP.out.mono ?_
        rintro e w1 ⟨rfl, rfl⟩
        go_wp2_with (first | (go_at_call 84; refine (Da.out _).mono ?_; rintro e w2 ⟨rfl, rfl⟩) | (go_at_call 84; refine (Dc.out _).mono ?_; rintro e w2 ⟨rfl, rfl⟩))
        go_ret2
        exact ⟨by rw [HX.out.1, HX.out.2]; rfl, Keep.refl _ _⟩
      | true =>
        by_cases hp : p = 46
        · have hpb : (p == 46) = true := by simp [hp]
          have hpn : ((p.toNat : Nat) : Int) = 46 := by rw [hp]; rfl
          have hpq := (int_eq hpn).2
          rw [hda, hpb] at hms hmv
          rw [hda] at Da
          clear hpn hp hpb
          cases hdc : digB c with
          | false =>
            rw [hdc] at Dc hms hmv
            have HX := Lib.hid (show mv = 0 ∧ ms = 400 from ⟨by simpa using hmv, by simpa using hms⟩)
            clear hms hmv hda hdc
            go_enter Tryd.func54, Tryd.ntmps54
            go_wp2_with fail
            refine HP.out.mono ?_
            rintro e w1 ⟨rfl, rfl⟩
            go_wp2_with (first | (go_at_call 84; refine (Da.out _).mono ?_; rintro e w2 ⟨rfl, rfl⟩) | (go_at_call 84; refine (Dc.out _).mono ?_; rintro e w2 ⟨rfl, rfl⟩))
            go_ret2
            exact ⟨by rw [HX.out.1, HX.out.2]; rfl, Keep.refl _ _⟩
          | true =>
            rw [hdc] at Dc hms hmv
            simp only [Bool.and_self, if_true] at hms hmv
            have hc9 : 48 ≤ c.toNat ∧ c.toNat ≤ 57 := by simpa [digB] using hdc
            obtain ⟨hc0, hc1⟩ := hc9
            by_cases ha : a = 49
            · have han : ((a.toNat : Nat) : Int) = 49 := by rw [ha]; rfl
              have haq := (int_eq han).2
              by_cases hc : c.toNat ≤ 49
              · rw [if_pos ⟨ha, hc⟩] at hms hmv
                have hcq : decide (((c.toNat : Nat) : Int) > 49) = false := by simp; omega
                have hwr := IntWalk.u8_in ((c.toNat : Int) - 48) (by omega)
                have hwi := IntWalk.i64_in ((c.toNat : Int) - 48) (by omega)
                have HX := Lib.hid (And.intro hmv hms)
                clear hms hmv hda hdc ha han
                go_enter Tryd.func54, Tryd.ntmps54
                go_wp2_with fail
                refine HP.out.mono ?_
                rintro e w1 ⟨rfl, rfl⟩
                go_wp2_with (first | (go_at_call 84; refine (Da.out _).mono ?_; rintro e w2 ⟨rfl, rfl⟩) | (go_at_call 84; refine (Dc.out _).mono ?_; rintro e w2 ⟨rfl, rfl⟩))
                go_ret2
                exact ⟨by rw [HX.out.1, HX.out.2]; rfl, Keep.refl _ _⟩
              · rw [if_neg (fun h => hc h.2)] at hms hmv
                have hcq : decide (((c.toNat : Nat) : Int) > 49) = true := by simp; omega
                have HX := Lib.hid (And.intro hmv hms)
                clear hms hmv hda hdc ha han
                go_enter Tryd.func54, Tryd.ntmps54
                go_wp2_with fail
                refine HP.out.mono ?_
                rintro e w1 ⟨rfl, rfl⟩
                go_wp2_with (first | (go_at_call 84; refine (Da.out _).mono ?_; rintro e w2 ⟨rfl, rfl⟩) | (go_at_call 84; refine (Dc.out _).mono ?_; rintro e w2 ⟨rfl, rfl⟩))
                go_ret2
                exact ⟨by rw [HX.out.1, HX.out.2]; rfl, Keep.refl _ _⟩
            · rw [if_neg (fun h => ha h.1)] at hms hmv
              have han : ((a.toNat : Nat) : Int) ≠ 49 := fun e => ha (UInt8.toNat_inj.1 (by show a.toNat = 49; omega))
              have haq := (int_ne han).2
              have HX := Lib.hid (And.intro hmv hms)
              clear hms hmv hda hdc ha han
              go_enter Tryd.func54, Tryd.ntmps54
              go_wp2_with fail
              refine HP.out.mono ?_
              rintro e w1 ⟨rfl, rfl⟩
              go_wp2_with (first | (go_at_call 84; refine (Da.out _).mono ?_; rintro e w2 ⟨rfl, rfl⟩) | (go_at_call 84; refine (Dc.out _).mono ?_; rintro e w2 ⟨rfl, rfl⟩))
              go_ret2
              exact ⟨by rw [HX.out.1, HX.out.2]; rfl, Keep.refl _ _⟩
        · have hpb : (p == 46) = false := by simp [hp]
          have hpn : ((p.toNat : Nat) : Int) ≠ 46 := fun e => hp (UInt8.toNat_inj.1 (by show p.toNat = 46; omega))
          have hpq := (int_ne hpn).2
          rw [hda, hpb] at hms hmv
          rw [hda] at Da
          have HX := Lib.hid (show mv = 0 ∧ ms = 400 from ⟨by simpa using hmv, by simpa using hms⟩)
          clear hms hmv hda hpn hp hpb
          go_enter Tryd.func54, Tryd.ntmps54
          go_wp2_with fail
          refine HP.out.mono ?_
          rintro e w1 ⟨rfl, rfl⟩
          go_wp2_with (first | (go_at_call 84; refine (Da.out _).mono ?_; rintro e w2 ⟨rfl, rfl⟩) | (go_at_call 84; refine (Dc.out _).mono ?_; rintro e w2 ⟨rfl, rfl⟩))
          go_ret2
          exact ⟨by rw [HX.out.1, HX.out.2]; rfl, Keep.refl _ _⟩
    · obtain ⟨e1, e2⟩ := ver_no (.inr h8)
      rw [e1, e2]
      have h8' : ((l.length : Nat) : Int) ≠ 8 := by omega
      have h8q := (int_ne h8').2
      have HP := Lib.hid hP
      clear hP hpf e1 e2 h8 h8'
      go_enter Tryd.func54, Tryd.ntmps54
      go_wp2_with fail
      refine HP.out.mono ?_
      rintro e w1 ⟨rfl, rfl⟩
      go_wp2_with fail
      go_ret2
      exact ⟨rfl, Keep.refl _ _⟩
end Go.Proofs.YtmfnciocnlmceaaDoor

/- Layer 12: Line: a request line. No conditions but on lengths. -/
namespace Go.Proofs.YtmfnciocnlmceaaDoor
open Go.RowKit Go.Shelf

theorem res4 {fn : Func} {t u v x : Tmp} (h : fn.results = #[.tmp t, .tmp u, .tmp v, .tmp x]) (tmps : Array Value) (P : Program) (w : World) :
    (results fn tmps).run P w = .ok (.tuple #[tmps.getD t undef, tmps.getD u undef, tmps.getD v undef, tmps.getD x undef]) w := by
  simp [results, h]
def Ln.out (r : Ln) : Value := .tuple #[.string (S r.m), .string (S r.t), .int .i64 r.v, .int .i64 r.s]
theorem ln_no {l : List UInt8} (h : ((Lib.cut l [32]).2.2 && (Lib.cut (Lib.cut l [32]).2.1 [32]).2.2 && isTok (Lib.cut l [32]).1 && isTgt (Lib.cut (Lib.cut l [32]).2.1 [32]).1) = false) : lnM l = ⟨[], [], 0, 400⟩ := by
  unfold lnM
  dsimp only
  rw [h]
  rfl
theorem ln_yes {l : List UInt8} (h : ((Lib.cut l [32]).2.2 && (Lib.cut (Lib.cut l [32]).2.1 [32]).2.2 && isTok (Lib.cut l [32]).1 && isTgt (Lib.cut (Lib.cut l [32]).2.1 [32]).1) = true) :
    lnM l = if minS (Lib.cut (Lib.cut l [32]).2.1 [32]).2.1 = 200 then ⟨(Lib.cut l [32]).1, (Lib.cut (Lib.cut l [32]).2.1 [32]).1, minV (Lib.cut (Lib.cut l [32]).2.1 [32]).2.1, 200⟩ else ⟨[], [], 0, minS (Lib.cut (Lib.cut l [32]).2.1 [32]).2.1⟩ := by
  unfold lnM
  dsimp only
  rw [h]
  rfl

set_option maxRecDepth 100000 in
set_option maxHeartbeats 2000000 in
theorem inlet_Line (l : List UInt8) (w : World) (hm : ML w) (hl : l.length < 4294967281) :
    Calls Tryd.prog 23 #[.string (S l)] w fun e w' => e = .returned (lnM l).out ∧ Keep [] w w' := by
  have hC1 : Calls Tryd.prog 51 #[.string (S l), .string ⟨#[32]⟩] w fun e w' => e = .returned (.tuple #[.string (S (Lib.cut l [32]).1), .string (S (Lib.cut l [32]).2.1), .bool (Lib.cut l [32]).2.2]) ∧ Keep [] w w' := strings_Cut l ⟨#[32]⟩ w hm hl
  have hl1 := cut_len l [32]
  have hno := ln_no (l := l)
  have hyes := ln_yes (l := l)
  generalize lnM l = R at *
  generalize Lib.cut l [32] = c1 at *
  obtain ⟨xm, r, ok1⟩ := c1
  dsimp only at *
  have hC2 := fun w1 (k : Keep [] w w1) => show Calls Tryd.prog 51 #[.string (S r), .string ⟨#[32]⟩] w1 fun e w' => e = .returned (.tuple #[.string (S (Lib.cut r [32]).1), .string (S (Lib.cut r [32]).2.1), .bool (Lib.cut r [32]).2.2]) ∧ Keep [] w1 w' from strings_Cut r ⟨#[32]⟩ w1 (hm.keep k (by simp)) (by omega)
  have hl2 := cut_len r [32]
  generalize Lib.cut r [32] = c2 at *
  obtain ⟨xt, xl, ok2⟩ := c2
  dsimp only at *
  have HT := Lib.hid (fun w' => field_IsToken xm w' (show xm.length ≤ 9223372036854775807 by omega))
  have HG := Lib.hid (fun w' => inlet_isTarget xt w' (show xt.length ≤ 9223372036854775807 by omega))
  have HM := Lib.hid (fun w' => inlet_minor xl w' (show xl.length ≤ 9223372036854775807 by omega))
  have HC1 := Lib.hid hC1
  have HC2 := Lib.hid hC2
  clear hC1 hC2 hl1 hl2
  cases ok1 with
  | false =>
    have HR := Lib.hid (hno rfl)
    clear hno hyes
    go_enter Tryd.func23, Tryd.ntmps23
    go_wp2_with fail
    refine HC1.out.mono ?_
    rintro e w1 ⟨rfl, k1⟩
    go_wp2_with fail
    refine (HC2.out _ k1).mono ?_
    rintro e w2 ⟨rfl, k2⟩
    go_wp2_with fail
    refine bodyPost_ret (res4 rfl _ _ _) rfl ⟨?_, k1.trans k2⟩
    rw [HR.out]
    rfl
  | true =>
    cases ok2 with
    | false =>
      have HR := Lib.hid (hno rfl)
      clear hno hyes
      go_enter Tryd.func23, Tryd.ntmps23
      go_wp2_with fail
      refine HC1.out.mono ?_
      rintro e w1 ⟨rfl, k1⟩
      go_wp2_with fail
      refine (HC2.out _ k1).mono ?_
      rintro e w2 ⟨rfl, k2⟩
      go_wp2_with fail
      refine bodyPost_ret (res4 rfl _ _ _) rfl ⟨?_, k1.trans k2⟩
      rw [HR.out]
      rfl
    | true =>
      cases htk : isTok xm with
      | false =>
        rw [htk] at HT hno
        have HR := Lib.hid (hno rfl)
        clear hno hyes htk
        go_enter Tryd.func23, Tryd.ntmps23
        go_wp2_with fail
        refine HC1.out.mono ?_
        rintro e w1 ⟨rfl, k1⟩
        go_wp2_with fail
        refine (HC2.out _ k1).mono ?_
        rintro e w2 ⟨rfl, k2⟩
        go_wp2_with fail
        refine (HT.out _).mono ?_
        rintro e w3 ⟨rfl, k3⟩
        go_wp2_with fail
        refine bodyPost_ret (res4 rfl _ _ _) rfl ⟨?_, (k1.trans k2).trans k3⟩
        rw [HR.out]
        rfl
      | true =>
        rw [htk] at HT hno hyes
        cases htg : isTgt xt with
        | false =>
          rw [htg] at HG hno
          have HR := Lib.hid (hno rfl)
          clear hno hyes htk htg
          go_enter Tryd.func23, Tryd.ntmps23
          go_wp2_with fail
          refine HC1.out.mono ?_
          rintro e w1 ⟨rfl, k1⟩
          go_wp2_with fail
          refine (HC2.out _ k1).mono ?_
          rintro e w2 ⟨rfl, k2⟩
          go_wp2_with fail
          refine (HT.out _).mono ?_
          rintro e w3 ⟨rfl, k3⟩
          go_wp2_with fail
          refine (HG.out _).mono ?_
          rintro e w4 ⟨rfl, k4⟩
          go_wp2_with fail
          refine bodyPost_ret (res4 rfl _ _ _) rfl ⟨?_, ((k1.trans k2).trans k3).trans k4⟩
          rw [HR.out]
          rfl
        | true =>
          rw [htg] at HG hyes
          have hR := hyes rfl
          clear hno hyes htk htg
          generalize minS xl = ms at *
          generalize minV xl = mv at *
          by_cases h2 : ms = 200
          · rw [if_pos h2] at hR
            have q := (int_eq h2).2
            have HR := Lib.hid hR
            clear hR h2
            go_enter Tryd.func23, Tryd.ntmps23
            go_wp2_with fail
            refine HC1.out.mono ?_
            rintro e w1 ⟨rfl, k1⟩
            go_wp2_with fail
            refine (HC2.out _ k1).mono ?_
            rintro e w2 ⟨rfl, k2⟩
            go_wp2_with fail
            refine (HT.out _).mono ?_
            rintro e w3 ⟨rfl, k3⟩
            go_wp2_with fail
            refine (HG.out _).mono ?_
            rintro e w4 ⟨rfl, k4⟩
            go_wp2_with fail
            refine (HM.out _).mono ?_
            rintro e w5 ⟨rfl, k5⟩
            go_wp2_with fail
            refine bodyPost_ret (res4 rfl _ _ _) rfl ⟨?_, (((k1.trans k2).trans k3).trans k4).trans k5⟩
            rw [HR.out]
            rfl
          · rw [if_neg h2] at hR
            have q := (int_ne h2).2
            have HR := Lib.hid hR
            clear hR h2
            go_enter Tryd.func23, Tryd.ntmps23
            go_wp2_with fail
            refine HC1.out.mono ?_
            rintro e w1 ⟨rfl, k1⟩
            go_wp2_with fail
            refine (HC2.out _ k1).mono ?_
            rintro e w2 ⟨rfl, k2⟩
            go_wp2_with fail
            refine (HT.out _).mono ?_
            rintro e w3 ⟨rfl, k3⟩
            go_wp2_with fail
            refine (HG.out _).mono ?_
            rintro e w4 ⟨rfl, k4⟩
            go_wp2_with fail
            refine (HM.out _).mono ?_
            rintro e w5 ⟨rfl, k5⟩
            go_wp2_with fail
            refine bodyPost_ret (res4 rfl _ _ _) rfl ⟨?_, (((k1.trans k2).trans k3).trans k4).trans k5⟩
            rw [HR.out]
            rfl
end Go.Proofs.YtmfnciocnlmceaaDoor

/- strings.Builder as this cut has it, at any place of a block of the call's own: copyCheck, WriteString. No conditions but on lengths. -/
namespace Go.Proofs.YtmfnciocnlmceaaDoor
open Go.RowKit Go.Shelf

/-- a builder lies in block b from cell o on, its bytes l in v -/
structure Bd (B : Nat) (w : World) (b o : Nat) (T : TypeId) (cs : List Value) (v : Value) (l : List UInt8) : Prop where
  blk : Blk w b T cs
  ad : cs[o]? = some (.pointer none) ∨ cs[o]? = some (.pointer (some ⟨b, o, none⟩))
  buf : cs[o + 1]? = some v
  own : Own byteC 1 B 5 w v l
  ne : v.ownBlock ≠ some b
/-- a builder may lie there in a block of type T -/
def Lies (T : TypeId) (n o : Nat) : Prop := liesAt Tryd.prog Tryd.prog.depth T (n / Tryd.prog.cellsOf T) o 85 1 = true ∧ o + 1 < n
theorem lies_own : Lies 85 2 0 := ⟨by kernel_rfl, by omega⟩
theorem bld_info : ∃ j, Tryd.prog.info? 85 = some j ∧ j.size = 2 := by
  have : (Tryd.prog.info? 85).map (·.size) = some 2 := by kernel_rfl
  cases h : Tryd.prog.info? 85 with
  | none => rw [h] at this; cases this
  | some j => exact ⟨j, rfl, by rw [h] at this; simpa using this⟩
theorem u8_info : ∃ i, Tryd.prog.info? 5 = some i ∧ i.zero = some (.int .u8 0) ∧ i.size = 1 ∧ i.bytes = 1 := by
  have : (Tryd.prog.info? 5).map (fun i => (i.zero, i.size, i.bytes)) = some (some (.int .u8 0), 1, 1) := by kernel_rfl
  cases h : Tryd.prog.info? 5 with
  | none => rw [h] at this; cases this
  | some i => rw [h] at this; simp at this; exact ⟨i, rfl, this⟩
theorem rows_bytes (l : List UInt8) : rows byteC l = Lib.byteCells l := by
  induction l with
  | nil => rfl
  | cons c r ih => show byteC c ++ rows byteC r = _; rw [ih]; rfl

theorem append_string_at {P : Program} {w : World} (base : Nat) (t u ty e : TypeId) (i : TypeInfo) (ht : P.underlying t = some (.slice e)) (hu : P.underlying u = some .string) (hi : P.info? e = some i) (hz : i.zero = some (.int .u8 0))
    (hsize : i.size = 1) (hby : i.bytes = 1) (v : Value) (n : Nat) (xs : List Value) (hown : w.ownsRow base e 1 v n xs) (s : ByteArray)
    (h63 : n + s.size ≤ maxLen) (hbytes : n + s.size ≤ 140737488355328) (hbase : base ≤ w.heap.size) :
    ∃ v' w', (Builtin.append_ #[t, u] ty #[v, .string s]).run P w = .ok v' w' ∧ w'.ownsRow base e 1 v' (n + s.size) (xs ++ Lib.strCells s) ∧ w.grownBy w' v.ownBlock ∧
      (v'.ownBlock = v.ownBlock ∨ ∃ g, v'.ownBlock = some g ∧ w.heap.size ≤ g) := by
  obtain ⟨v', w', hr, h2, h3, _⟩ := Lib.run_append_own_string (P := P) w base t u ty e i ht hu hi hz hsize hby v n xs hown s h63 hbytes hbase
  refine ⟨v', w', hr, h2, h3, ?_⟩
  have hown0 := hown
  rcases hown.2 with ⟨rfl, rfl⟩ | ⟨g, cap, cur, rfl, hbg, hg, hnc, hcm, hcs, htake⟩
  · obtain ⟨v2, w2, hr2, k2, _, _⟩ := Lib.run_append_own_string (P := P) w w.heap.size t u ty e i ht hu hi hz hsize hby (.slice none 0 0) 0 xs ⟨hown.1, .inl ⟨rfl, rfl⟩⟩ s h63 hbytes (Nat.le_refl _)
    rw [hr] at hr2
    injection hr2 with e1 e2
    subst e1
    cases hb : v'.ownBlock with
    | none => exact .inl rfl
    | some g => exact .inr ⟨g, rfl, (World.ownsRow.lt k2 g hb).1⟩
  · by_cases hroom : n + s.size ≤ cap
    · have hr2 := Lib.run_append_room_string (P := P) w t u ty e i ht hu hi hsize g n cap cur hg s hroom (by have := hcs; simp at this; omega)
      rw [hr] at hr2
      injection hr2 with e1 e2
      subst e1
      exact .inl rfl
    · have hsmall : n + s.size ≤ 9223372036854775807 := h63
      have hr2 := Lib.run_append_grow_string (P := P) w t u ty e i (.int .u8 0) ht hu hi hz ⟨g, 0, none⟩ n cap xs (by rw [hsize]; simpa using hown0.1) (World.ownsRow.cells hown0 (g := g) rfl) s (by omega) (by omega) (by rw [hby]; exact growslice_fits (by omega) (by omega))
      rw [hr] at hr2
      injection hr2 with e1 e2
      subst e1
      exact .inr ⟨w.heap.size, rfl, Nat.le_refl _⟩
theorem wpList_append_string_at {P : Program} {ops : Array Oper} {rest : List Oper} {o : Oper} {a : Act} {w : World} {Q : Exit → Act → World → Prop} (hgd : o.guard = none) (sl x : Operand) (t u : TypeId)
    (ho : o.op = .call { callee := .builtin .append, args := #[sl, x], argTypes := #[t, u] })
    (base : Nat) (e : TypeId) (i : TypeInfo) (ht : P.underlying t = some (.slice e)) (hu : P.underlying u = some .string) (hi : P.info? e = some i) (hz : i.zero = some (.int .u8 0))
    (hsize : i.size = 1) (hby : i.bytes = 1)
    (v : Value) (n : Nat) (xs : List Value) (hs : a.eval sl = v) (hown : w.ownsRow base e 1 v n xs) (s : ByteArray) (hx : a.eval x = .string s)
    (h63 : n + s.size ≤ maxLen) (hbytes : n + s.size ≤ 140737488355328) (hbase : base ≤ w.heap.size)
    (h : ∀ v' w', w'.ownsRow base e 1 v' (n + s.size) (xs ++ Lib.strCells s) → w.grownBy w' v.ownBlock → (v'.ownBlock = v.ownBlock ∨ ∃ g, v'.ownBlock = some g ∧ w.heap.size ≤ g) → wpList P ops Q rest (a.put o.dst v') w') : wpList P ops Q (o :: rest) a w := by
  refine wpList_plain hgd fun K hK => ?_
  obtain ⟨v', w', hr, h2, h3, h4⟩ := append_string_at (P := P) (w := w) base t u o.type e i ht hu hi hz hsize hby v n xs hown s h63 hbytes hbase
  unfold Oper.wp execOp
  simp only [ho, resolve, invoke, builtin, Sem.run_bind, Sem.run_pure, Result.andThen_ok, List.map_toArray, List.map_cons, List.map_nil, hs, hx, hr]
  exact hK _ _ (h v' w' h2 h3 h4)

set_option maxHeartbeats 1000000 in
set_option maxRecDepth 100000 in
theorem bld_copyCheck (b o : Nat) (T : TypeId) (cs : List Value) (w : World) (hb : Blk w b T cs) (hl : Lies T cs.length o) (had : cs[o]? = some (.pointer none) ∨ cs[o]? = some (.pointer (some ⟨b, o, none⟩))) :
    Calls Tryd.prog 92 #[.pointer (some ⟨b, o, none⟩)] w fun e w' => e = .returned (.tuple #[]) ∧ Blk w' b T (cs.set o (.pointer (some ⟨b, o, none⟩))) ∧ Keep [b] w w' := by
  obtain ⟨j, hj, hjs⟩ := bld_info
  have hu82 := Tryd.underlying82
  have hu112 := Tryd.underlying125
  rcases had with h0 | h0
  · have c0 := hb.get h0
    have f0 := hb.frozen o
    have hsh : w.shape? b = some (T, cs.length) := by
      have : w.heap[b]? = some (.cells cs.toArray T (0, 0)) := hb
      simp [World.shape?, this]
    have hk : Keep [b] w (w.setCell ⟨b, o, none⟩ (.pointer (some ⟨b, o, none⟩))) := (Keep.refl _ _).setCell _ _ (by simp)
    have hb' := hb.set o (.pointer (some ⟨b, o, none⟩))
    have HP := Lib.hid (And.intro hb' hk)
    have HB := Lib.hid hb
    clear hb' hk hb
    go_enter Tryd.func92, Tryd.ntmps92
    go_wp2_with fail
    rw [Lib.run_to_unsafe w ⟨b, o, none⟩ hu82 hu112 hj (by rw [hjs]; decide) hsh (by have := hl.2; show o < _; omega)]
    simp only [Result.andThen]
    rw [Oper.upon_value]
    go_wp2_with fail
    rw [run_callFunc_extern Tryd.func108 (by kernel_rfl) (by kernel_rfl) (by kernel_rfl) (e := Extern.AbiNoEscape.same) (by kernel_rfl)]
    rw [Lib.run_noEscape]
    simp only [Result.andThen]
    rw [Oper.upon_value]
    go_wp2_with fail
    rw [Lib.run_from_unsafe w ⟨b, o, none⟩ hu112 hu82 hj hsh hl.1]
    simp only [Result.andThen]
    rw [Oper.upon_value]
    have g0 := HP.out.1.get (k := o) (v := .pointer (some ⟨b, o, none⟩)) (by rw [List.getElem?_set_self (by have := hl.2; omega)])
    go_wp2_with fail
    go_end0
    exact ⟨rfl, HP.out.1, HP.out.2⟩
  · have c0 := hb.get h0
    have hcs : cs.set o (.pointer (some ⟨b, o, none⟩)) = cs := list_set_self _ _ _ h0
    rw [hcs]
    have HB := Lib.hid hb
    clear hb hcs h0
    go_enter Tryd.func92, Tryd.ntmps92
    go_wp2_with fail
    rw [Lib.run_neq_ptr_same w _ hu82 hj]
    go_wp2_with fail
    go_end0
    exact ⟨rfl, HB.out, Keep.refl _ _⟩

set_option maxHeartbeats 1000000 in
set_option maxRecDepth 100000 in
theorem bld_Write {B b o : Nat} {T : TypeId} {cs : List Value} {v : Value} {l : List UInt8} {w : World} (s : List UInt8) (h : Bd B w b o T cs v l) (hl : Lies T cs.length o) (hB : B ≤ w.heap.size) (hlen : l.length + s.length ≤ 140737488355328) :
    Calls Tryd.prog 62 #[.pointer (some ⟨b, o, none⟩), .string (S s)] w fun e w' => e = .returned (.tuple #[.int .i64 (s.length : Nat), .nilIface]) ∧
      ∃ v', Bd B w' b o T ((cs.set o (.pointer (some ⟨b, o, none⟩))).set (o + 1) v') v' (l ++ s) ∧ Keep (b :: v.ownBlock.toList) w w' ∧ (v'.ownBlock = v.ownBlock ∨ ∃ g, v'.ownBlock = some g ∧ w.heap.size ≤ g) := by
  obtain ⟨i, hi, hz, h1, h2⟩ := u8_info
  have hC := Lib.hid (bld_copyCheck b o T cs w h.blk hl h.ad)
  have hsz := S_size s
  have H := Lib.hid h
  clear h
  go_enter Tryd.func62, Tryd.ntmps62
  go_wp2_with fail
  refine hC.out.mono ?_
  rintro e w1 ⟨rfl, hb1, hk1⟩
  have hown1 : Own byteC 1 B 5 w1 v l := H.out.own.keep hk1 (fun g hg => by
    simp only [List.mem_singleton]
    rintro rfl
    exact H.out.ne hg)
  have c1 := hb1.get (k := o + 1) (v := v) (by rw [List.getElem?_set_ne (by omega)]; exact H.out.buf)
  have hor := hown1
  unfold Own at hor
  rw [rows_bytes] at hor
  have HO := Lib.hid hor
  have HB1 := Lib.hid hb1
  have HK1 := Lib.hid hk1
  clear hor hown1 hb1 hk1
  go_wp2_with (at_builtin; go_must (refine wpList_append_string_at rfl _ _ 83 9 rfl B 5 i Tryd.underlying83 Tryd.underlying9 hi hz h1 h2 v l.length (Lib.byteCells l) rfl HO.out (S s) rfl (by rw [hsz]; unfold maxLen; omega) (by rw [hsz]; exact hlen) (by have := HK1.out.size; omega) ?_))
  intro v' w2 hown' hgrow hat
  have hbl := HB1.out.lt
  have hb2 : Blk w2 b T (cs.set o (.pointer (some ⟨b, o, none⟩))) := by
    unfold Blk
    rw [hgrow.block b hbl (fun e => H.out.ne e.symm)]
    exact HB1.out
  have d1 := hb2.get (k := o + 1) (v := v) (by rw [List.getElem?_set_ne (by omega)]; exact H.out.buf)
  have f1 := hb2.frozen (o + 1)
  have hb3 := hb2.set (o + 1) v'
  have hne' : v'.ownBlock ≠ some b := by
    rcases hat with e | ⟨g, e, hg⟩
    · rw [e]; exact H.out.ne
    · rw [e]; intro e'; injection e' with e'; omega
  have hown2 : Own byteC 1 B 5 w2 v' (l ++ s) := by
    unfold Own
    rw [rows_bytes, List.length_append]
    try rw [hsz] at hown'
    have e : Lib.byteCells (l ++ s) = Lib.byteCells l ++ Lib.strCells (S s) := by unfold Lib.byteCells; rw [List.map_append]; rfl
    rw [e]
    exact hown'
  have hown3 : Own byteC 1 B 5 (w2.setCell ⟨b, o + 1, none⟩ v') v' (l ++ s) := hown2.keep (S := [b]) ((Keep.refl _ _).setCell _ _ (by simp)) (fun g hg => by
    simp only [List.mem_singleton]
    rintro rfl
    exact hne' hg)
  have hkk : Keep (b :: v.ownBlock.toList) w (w2.setCell ⟨b, o + 1, none⟩ v') := ((HK1.out.mono (by simp)).grown hgrow (fun k hk _ => by simp [hk])).setCell _ _ (by simp)
  have hat' : v'.ownBlock = v.ownBlock ∨ ∃ g, v'.ownBlock = some g ∧ w.heap.size ≤ g := by
    rcases hat with e | ⟨g, e, hg⟩
    · exact .inl e
    · exact .inr ⟨g, e, Nat.le_trans HK1.out.size hg⟩
  have HF := Lib.hid (And.intro hb3 (And.intro hne' (And.intro hown3 (And.intro hkk hat'))))
  obtain ⟨ao, n', cap, rfl⟩ : ∃ ao n' cap, v' = .slice ao n' cap := by
    rcases hown'.2 with ⟨hv, _⟩ | ⟨g, cap, cur, hv, _⟩
    · exact ⟨_, _, _, hv⟩
    · exact ⟨_, _, _, hv⟩
  clear hb3 hne' hown3 hown2 hkk hat hat' hgrow hown' hb2
  have h20 : (cs.set o (.pointer (some ⟨b, o, none⟩)))[o]? = some (.pointer (some ⟨b, o, none⟩)) := by rw [List.getElem?_set_self (by have := hl.2; omega)]
  go_wp2_with fail
  go_ret2
  refine ⟨by rw [← hsz]; rfl, _, ⟨HF.out.1, .inr ?_, ?_, HF.out.2.2.1, HF.out.2.1⟩, HF.out.2.2.2.1, HF.out.2.2.2.2⟩
  · rw [List.getElem?_set_ne (by omega)]
    exact h20
  · rw [List.getElem?_set_self (by simpa using hl.2)]
/-- as the library's contracts have it -/
theorem Bd.lib {B b : Nat} {cs : List Value} {v : Value} {l : List UInt8} {w : World} (h : Bd B w b 0 85 cs v l) (hc : cs.length = 2) (hb : B ≤ b) : Lib.IsBuilder 85 5 B b (Lib.byteCells l) w := by
  obtain ⟨p, q, rfl⟩ : ∃ p q, cs = [p, q] := by
    match cs, hc with
    | [p, q], _ => exact ⟨p, q, rfl⟩
  have hq : q = v := by have := h.buf; simpa using this
  subst hq
  have hown := h.own
  unfold Own at hown
  rw [rows_bytes, ← Lib.byteCells_length l] at hown
  rcases h.ad with e | e
  · simp at e
    subst e
    exact .inl ⟨hb, q, h.blk, hown, h.ne⟩
  · simp at e
    subst e
    exact .inr ⟨hb, q, h.blk, hown, h.ne⟩
/-- a builder of the call's own -/
def Bld (w0 w : World) (b : Nat) (l : List UInt8) : Prop := ∃ cs v, Bd w0.heap.size w b 0 85 cs v l ∧ cs.length = 2 ∧ w0.heap.size ≤ b ∧ Keep [] w0 w
theorem Bd.keep {B b o : Nat} {T : TypeId} {cs : List Value} {v : Value} {l : List UInt8} {w w' : World} {S : List Nat} (h : Bd B w b o T cs v l) (k : Keep S w w') (hb : b ∉ S) (hv : ∀ g, v.ownBlock = some g → g ∉ S) : Bd B w' b o T cs v l :=
  ⟨k.blk h.blk hb, h.ad, h.buf, h.own.keep k hv, h.ne⟩
theorem Bld.keep0 {w0 w w' : World} {b : Nat} {l : List UInt8} (h : Bld w0 w b l) (k : Keep [] w w') : Bld w0 w' b l := by
  obtain ⟨cs, v, h1, h2, h3, h4⟩ := h
  exact ⟨cs, v, h1.keep k (by simp) (by simp), h2, h3, h4.trans k⟩
theorem Bld.kept {w0 w : World} {b : Nat} {l : List UInt8} (h : Bld w0 w b l) : Keep [] w0 w := let ⟨_, _, _, _, _, h4⟩ := h; h4
theorem bld_new {w0 w : World} (k : Keep [] w0 w) : Bld w0 (w.alloc (.cells #[.pointer none, .slice none 0 0] 85)) w.heap.size [] :=
  ⟨[.pointer none, .slice none 0 0], .slice none 0 0, ⟨Blk.newA w _ _, .inl rfl, rfl, Own.nil _ _ _ _ _, by simp [Value.ownBlock]⟩, rfl, k.size, k.alloc _⟩
theorem bld_write {w0 w : World} {b : Nat} {l : List UInt8} (h : Bld w0 w b l) (s : List UInt8) (hlen : l.length + s.length ≤ 140737488355328) :
    Calls Tryd.prog 62 #[.pointer (some ⟨b, 0, none⟩), .string (S s)] w fun e w' => e = .returned (.tuple #[.int .i64 (s.length : Nat), .nilIface]) ∧ Bld w0 w' b (l ++ s) := by
  obtain ⟨cs, v, h1, h2, h3, h4⟩ := h
  refine (bld_Write s h1 (by rw [h2]; exact lies_own) h4.size hlen).mono ?_
  rintro e w' ⟨rfl, v', k1, k2, _⟩
  exact ⟨rfl, _, v', k1, by simpa using h2, h3, h4.trans' k2 (fun x hx hl => by
    rcases List.mem_cons.1 hx with rfl | hx
    · omega
    · have := (h1.own.lt x (by simpa using hx)).1; omega)⟩
theorem bld_len {w0 w : World} {b : Nat} {l : List UInt8} (h : Bld w0 w b l) :
    Calls Tryd.prog 74 #[.pointer (some ⟨b, 0, none⟩)] w fun e w' => e = .returned (.int .i64 (l.length : Nat)) ∧ w' = w := by
  obtain ⟨cs, v, h1, h2, h3, h4⟩ := h
  have := Tryd.Builder_Len w0.heap.size b _ w (h1.lib h2 h3)
  rw [Lib.byteCells_length] at this
  exact this
theorem bld_string {w0 w : World} {b : Nat} {l : List UInt8} (h : Bld w0 w b l) :
    Calls Tryd.prog 60 #[.pointer (some ⟨b, 0, none⟩)] w fun e w' => e = .returned (.string (S l)) ∧ Keep [] w0 w' := by
  obtain ⟨cs, v, h1, h2, h3, h4⟩ := h
  refine (Tryd.Builder_String_any w0.heap.size b l w (h1.lib h2 h3) h4.size).mono ?_
  rintro e w' ⟨rfl, hb⟩
  exact ⟨rfl, hb.os.trans h4.os, hb.tape.trans h4.tape, hb.output.trans h4.output, Nat.le_trans h4.size hb.size, fun k hk hn => (hb.block k hk).trans (h4.block k hk hn)⟩
end Go.Proofs.YtmfnciocnlmceaaDoor

/- Layer 13: laid: a head that is written. No conditions but on lengths. -/
namespace Go.Proofs.YtmfnciocnlmceaaDoor
open Go.RowKit Go.Shelf

def fin (l : List UInt8) (e : Int) : Value := .tuple #[.string (S l), .int .i64 e]
theorem laid_many {st : List UInt8} {L : List Fld} (h : 32 < L.length) : laidE st L = 1 ∧ laidS st L = [] := by
  have h0 : laidOk L = false := by unfold laidOk; simp; omega
  have h1 : laidE st L = 1 := by unfold laidE; rw [h0]; rfl
  exact ⟨h1, by unfold laidS; rw [h1]; rfl⟩
theorem laid_bad {st : List UInt8} {L : List Fld} {x : Fld} (hx : x ∈ L) (hg : goodF x = false) : laidE st L = 1 ∧ laidS st L = [] := by
  have h0 : laidOk L = false := by
    unfold laidOk
    rw [show L.all goodF = false from by rw [List.all_eq_false]; exact ⟨x, hx, by simp [hg]⟩, Bool.and_false]
  have h1 : laidE st L = 1 := by unfold laidE; rw [h0]; rfl
  exact ⟨h1, by unfold laidS; rw [h1]; rfl⟩
theorem laid_good {st : List UInt8} {L : List Fld} (h : L.length ≤ 32) (hg : L.all goodF = true) : laidE st L = (if (headT st L).length ≤ 4096 then 0 else 4) ∧ laidS st L = (if (headT st L).length ≤ 4096 then headT st L else []) := by
  have h0 : laidOk L = true := by unfold laidOk; rw [hg]; simp [h]
  have h1 : laidE st L = (if (headT st L).length ≤ 4096 then 0 else 4) := by unfold laidE; rw [h0]; rfl
  refine ⟨h1, ?_⟩
  unfold laidS
  rw [h1]
  by_cases h2 : (headT st L).length ≤ 4096
  · rw [if_pos h2, if_pos h2, if_pos rfl]
  · rw [if_neg h2, if_neg h2, if_neg (by decide)]
theorem body_take {L : List Fld} {k : Nat} {x : Fld} (h : L[k]? = some x) : bodyT (L.take (k + 1)) = bodyT (L.take k) ++ (printF x ++ [13, 10]) := by
  have e : L.take (k + 1) = L.take k ++ [x] := by rw [List.take_add_one, h]; rfl
  rw [e]
  simp [bodyT]

set_option maxRecDepth 100000 in
set_option maxHeartbeats 2000000 in
theorem outlet_laid (st : List UInt8) (va : Value) (L : List Fld) (w : World) (ha : Sl Fld.cells 2 w va L) (hg : L.length ≤ 32 → ∀ x ∈ L, x.name.length + x.value.length ≤ 1048576) (hst : st.length ≤ 1048576) :
    Calls Tryd.prog 46 #[.string (S st), va] w fun e w' => e = .returned (fin (laidS st L) (laidE st L)) ∧ Keep [] w w' := by
  obtain ⟨aa, ca, rfl, hal⟩ := ha.shape
  have hal' : L.length ≤ 9223372036854775807 := hal
  by_cases h32 : 32 < L.length
  · have h := laid_many (st := st) h32
    have HX := Lib.hid h
    clear h ha hg
    go_enter Tryd.func46, Tryd.ntmps46
    go_wp2_with fail
    go_ret2
    exact ⟨by rw [HX.out.1, HX.out.2]; rfl, Keep.refl _ _⟩
  · have hst2 : S st ++ ⟨#[13, 10]⟩ = S (st ++ [13, 10]) := S_append st [13, 10]
    have hsz := S_size st
    have HG := Lib.hid (hg (by omega))
    have HA := Lib.hid ha
    have hB := Lib.hid (bld_new (Keep.refl [] w))
    clear ha hg hal
    go_enter Tryd.func46, Tryd.ntmps46
    go_wp2_with fail
    refine (bld_write hB.out (st ++ [13, 10]) (by simp; omega)).mono ?_
    rintro e w1 ⟨rfl, hb1⟩
    rw [List.nil_append] at hb1
    have HB := Lib.hid hb1
    clear hb1 hB hst2
    go_wp2_with fail
    generalize w.heap.size = b at HB
    go_loopg [17] L.length (fun g i wr => ∃ (k : Nat) (T : List UInt8), i = .int .i64 k ∧ k ≤ L.length ∧ g = L.length - k ∧ T.length ≤ 1048578 + k * 1048580 ∧ Hid (T = st ++ [13, 10] ++ bodyT (L.take k) ∧ (L.take k).all goodF = true) ∧ Hid (Bld w wr b T))
    case atStart => exact ⟨0, st ++ [13, 10], rfl, Nat.zero_le _, by omega, by simp; omega, Lib.hid ⟨by simp [bodyT], by simp⟩, HB⟩
    case round =>
      obtain ⟨k, T, rfl, hk, hgk, hT, HE, HB⟩ := hrel
      by_cases hlt : k < L.length
      · obtain ⟨x, hx⟩ : ∃ x, L[k]? = some x := ⟨_, List.getElem?_eq_getElem hlt⟩
        have hxl := HG.out x (List.mem_of_getElem? hx)
        have har := HA.out.keep Fld.cells_length (by omega) HA.out HB.out.kept (by simp) (Nat.le_refl _)
        obtain ⟨ba, oa, ca', hva, _, hca, hcell⟩ := har.cell hx
        cases hva
        have hc0 := hcell 0 (by omega)
        have hc1 := hcell 1 (by omega)
        simp only [Fld.cells, List.getElem?_cons_zero, List.getElem?_cons_succ, Nat.add_zero] at hc0 hc1
        have hca' : ca ≤ 9223372036854775807 := hca
        have hGd := fun w1 => field_Good x w1 (show x.name.length ≤ 9223372036854775807 by omega) (show x.value.length ≤ 9223372036854775807 by omega)
        have HX := Lib.hid hx
        have hkA := (Keep.refl [] wr).alloc (.cells #[.string (S x.name), .string (S x.value)] 26)
        have hbA : Blk (wr.alloc (.cells #[.string (S x.name), .string (S x.value)] 26)) wr.heap.size 26 x.cells := Blk.newA wr _ _
        have HKA := Lib.hid (And.intro hkA hbA)
        clear hcell hx har hca hkA hbA
        cases hgx : goodF x with
        | false =>
          rw [hgx] at hGd
          have HGd := Lib.hid hGd
          have HF := Lib.hid (laid_bad (st := st) (List.mem_of_getElem? HX.out) hgx)
          clear hGd hgx
          go_wp2_with fail
          refine (HGd.out _).mono ?_
          rintro e w2 ⟨rfl, hk2⟩
          have HK2 := Lib.hid ((HB.out.kept.trans HKA.out.1).trans hk2)
          clear hk2
          go_wp2_with fail
          go_ret2
          exact ⟨by rw [HF.out.1, HF.out.2]; rfl, HK2.out⟩
        | true =>
          rw [hgx] at hGd
          have HGd := Lib.hid hGd
          have HPr := Lib.hid (fun w1 => field_Print x w1 (by omega))
          have hcat : S (printF x) ++ ⟨#[13, 10]⟩ = S (printF x ++ [13, 10]) := S_append _ [13, 10]
          have sP := S_size (printF x)
          have lP : (printF x).length ≤ 1048578 := by simp [printF]; omega
          have HGX := Lib.hid hgx
          clear hGd hgx
          go_wp2_with fail
          refine (HGd.out _).mono ?_
          rintro e w2 ⟨rfl, hk2⟩
          have HB2 := Lib.hid ((HB.out.keep0 HKA.out.1).keep0 hk2)
          have hb2 := hk2.blk HKA.out.2 (by simp)
          have d0 := hb2.get (k := 0) rfl
          have d1 := hb2.get (k := 1) rfl
          clear hk2 hb2
          go_wp2_with fail
          refine (HPr.out _).mono ?_
          rintro e w3 ⟨rfl, hk3⟩
          have HB3 := Lib.hid (HB2.out.keep0 hk3)
          clear hk3 d0 d1
          go_wp2_with fail
          refine (bld_write HB3.out (printF x ++ [13, 10]) (by simp; omega)).mono ?_
          rintro e w4 ⟨rfl, hb4⟩
          have HB4 := Lib.hid hb4
          clear hb4 hcat
          go_wp2_with fail
          go_roundg (L.length - (k + 1))
          case measure => omega
          case rel =>
            refine ⟨k + 1, T ++ (printF x ++ [13, 10]), by go_num, by omega, rfl, by simp; omega, Lib.hid ⟨?_, ?_⟩, HB4⟩
            · rw [body_take HX.out, HE.out.1]; simp
            · rw [show L.take (k + 1) = L.take k ++ [x] from by rw [List.take_add_one, HX.out]; rfl, List.all_append, HE.out.2]; simp [HGX.out]
      · have hkl : k = L.length := by omega
        have hE := HE.out
        rw [hkl, List.take_length] at hE
        have hhd : T ++ [13, 10] = headT st L := by unfold headT; rw [hE.1]
        have hlay := laid_good (st := st) (show L.length ≤ 32 by omega) hE.2
        rw [← hhd] at hlay
        have HL := Lib.hid hlay
        have hT' : (T ++ [13, 10]).length ≤ 70000000 := by simp; omega
        clear hE hhd hlay HE
        go_wp2_with fail
        refine (bld_write HB.out [13, 10] (by simp; omega)).mono ?_
        rintro e w2 ⟨rfl, hb2⟩
        have HB2 := Lib.hid hb2
        clear hb2
        generalize T ++ [13, 10] = H at HL HB2 hT'
        go_wp2_with fail
        refine (bld_len HB2.out).mono ?_
        rintro e w3 ⟨rfl, rfl⟩
        by_cases h4 : H.length ≤ 4096
        · have h4' : decide (4096 < ((H.length : Nat) : Int)) = false := by simp; omega
          have hl := HL.out
          rw [if_pos h4, if_pos h4] at hl
          have HL := Lib.hid hl
          clear hl h4
          go_wp2_with fail
          refine (bld_string HB2.out).mono ?_
          rintro e w4 ⟨rfl, hk4⟩
          go_wp2_with fail
          go_ret2
          exact ⟨by rw [HL.out.1, HL.out.2]; rfl, hk4⟩
        · have h4' : decide (4096 < ((H.length : Nat) : Int)) = true := by simp; omega
          have hl := HL.out
          rw [if_neg h4, if_neg h4] at hl
          have HL := Lib.hid hl
          clear hl h4
          go_wp2_with fail
          go_ret2
          exact ⟨by rw [HL.out.1, HL.out.2]; rfl, HB2.out.kept⟩
end Go.Proofs.YtmfnciocnlmceaaDoor

/- Layer 16: what the statements are awake to; the statements' own decimal numbers. No conditions but on sizes. -/
namespace Go.Proofs.YtmfnciocnlmceaaDoor
open Go.RowKit Go.Shelf

theorem cut_by (a b : List UInt8) (c : UInt8) (h : c ∉ a) : Lib.cut (a ++ c :: b) [c] = (a, b, true) := by
  unfold Lib.cut
  have hi : Lib.index (a ++ c :: b) [c] = (a.length : Int) := by
    rw [Lib.index_one]
    refine indexByte_at (by simp) (fun j hj => ?_)
    rw [List.getElem?_append_left hj]
    intro e
    exact h (List.mem_of_getElem? e)
  rw [hi, if_pos (by omega)]
  simp
theorem dec_no (u : Nat) {c : UInt8} (h : decB c = false) : c ∉ Lib.decDigits u := fun hm => by
  have := List.all_eq_true.1 (dec_all u) c hm
  rw [h] at this
  cases this
theorem unit_pre {u : List UInt8} (h6 : u.length = 6) (hu : (u.zip unitB).all (fun p => unitOk p.2 p.1) = true) (r : List UInt8) : isUnitM (u ++ r) = true ∧ (u ++ r).drop 6 = r := by
  refine ⟨?_, by rw [List.drop_append_of_le_length (by omega), List.drop_of_length_le (by omega)]; rfl⟩
  unfold isUnitM
  have : (u ++ r).zip unitB = u.zip unitB := by
    have e : unitB = unitB ++ [] := (List.append_nil _).symm
    rw [e, List.zip_append (by rw [h6]; rfl), List.zip_nil_right]
    simp
  rw [this, hu]
  simp; omega
/-- what a Range of two numbers is -/
theorem bds_of {u a b : List UInt8} (h6 : u.length = 6) (hu : (u.zip unitB).all (fun p => unitOk p.2 p.1) = true) (ha : (45 : UInt8) ∉ a) :
    bdsM (u ++ (a ++ 45 :: b)) = ⟨numN a, numI a, numN b, numI b, true && numK a && numK b && (numI a || numI b) && !(numI a && numI b && decide (numN b < numN a))⟩ := by
  unfold bdsM
  obtain ⟨h1, h2⟩ := unit_pre h6 hu (a ++ 45 :: b)
  rw [if_pos h1]
  simp only [h2, cut_by a b 45 ha]
theorem ask_get (l : List UInt8) : getV [⟨rangeB, l⟩] rangeB = l ∧ getN [⟨rangeB, l⟩] rangeB = 1 := by
  have : getS [⟨rangeB, l⟩] rangeB = [⟨rangeB, l⟩] := by
    unfold getS
    rw [List.filter_cons_of_pos (by simp [sameN]), List.filter_nil]
  unfold getV getN
  rw [this]
  exact ⟨rfl, rfl⟩
theorem ask_parse (l : List UInt8) (size : Int) : parseM [⟨rangeB, l⟩] size = prtM 1 (bdsM l) size := by
  unfold parseM
  rw [(ask_get l).1, (ask_get l).2]
  rfl

theorem nat_mod (n : Nat) : ((n : Int)).tmod 10 = ((n % 10 : Nat) : Int) := by rw [Int.tmod_eq_emod_of_nonneg (by omega)]; omega
theorem nat_div (n : Nat) : ((n : Int)).tdiv 10 = ((n / 10 : Nat) : Int) := by rw [Int.tdiv_eq_ediv_of_nonneg (by omega)]; omega
theorem dig_cut {r : Nat} (h : r < 10) : (⟨#[48, 49, 50, 51, 52, 53, 54, 55, 56, 57]⟩ : ByteArray).extract r (r + 1) = S [UInt8.ofNat (48 + r)] := by
  have : ∀ r : Fin 10, (⟨#[48, 49, 50, 51, 52, 53, 54, 55, 56, 57]⟩ : ByteArray).extract r.1 (r.1 + 1) = S [UInt8.ofNat (48 + r.1)] := by decide +kernel
  exact this ⟨r, h⟩
def decI (first : Bool) (n : Nat) : List UInt8 := if first = true ∨ 0 < n then Lib.decDigits n else []
theorem decI_step (first : Bool) (n : Nat) (h : first = true ∨ 0 < n) : decI first n = decI false (n / 10) ++ [UInt8.ofNat (48 + n % 10)] := by
  unfold decI
  rw [if_pos h]
  by_cases h1 : n < 10
  · rw [dec_small h1, if_neg (by simp; omega), Nat.mod_eq_of_lt h1]; rfl
  · rw [dec_big h1, if_pos (by right; omega)]

end Go.Proofs.YtmfnciocnlmceaaDoor

/- Layer 16: what the statements are awake to; the statement SliceCovers: its function answers true for every input. No conditions but on the library's tables. -/
namespace Go.Proofs.YtmfnciocnlmceaaDoor
open Go.RowKit Go.Shelf

def q1 : List UInt8 := [98, 121, 116, 101, 115, 61, 50, 45, 52]
def q2 : List UInt8 := [98, 121, 116, 101, 115, 61, 45, 51]
def q3 : List UInt8 := [98, 121, 116, 101, 115, 61, 49, 48, 45]
def q4 : List UInt8 := [98, 121, 116, 101, 115, 61, 49, 45, 50, 44, 52, 45, 53]
theorem awake16_parse : prtM 1 (bdsM q1) 10 = ⟨2, 2, 4⟩ ∧ prtM 1 (bdsM q2) 10 = ⟨2, 7, 9⟩ ∧ prtM 1 (bdsM q3) 10 = ⟨3, 0, 0⟩ ∧ prtM 1 (bdsM q4) 10 = ⟨1, 0, 9⟩ := by decide +kernel
theorem itoa_10 : Lib.itoa 10 = [49, 48] := by
  have := Lib.itoa_nonneg 10
  rw [show ((10 : Nat) : Int) = 10 from rfl] at this
  rw [this, dec_big (by omega), dec_small (by omega)]
  rfl
theorem itoa_1 {n : Nat} (h : n < 10) : Lib.itoa (n : Int) = [UInt8.ofNat (48 + n)] := by rw [Lib.itoa_nonneg, dec_small h]
theorem awake16_print : prnS 2 4 10 = [98, 121, 116, 101, 115, 32, 50, 45, 52, 47, 49, 48] ∧ prnE 2 4 10 = 0 ∧ unmetS 10 = [98, 121, 116, 101, 115, 32, 42, 47, 49, 48] := by
  have h2 : Lib.itoa 2 = [50] := itoa_1 (n := 2) (by omega)
  have h4 : Lib.itoa 4 = [52] := itoa_1 (n := 4) (by omega)
  refine ⟨?_, rfl, ?_⟩
  · unfold prnS
    rw [if_pos (show prnOk 2 4 10 = true by decide), h2, h4, itoa_10]; rfl
  · unfold unmetS
    rw [show max (10 : Int) 0 = 10 from rfl, itoa_10]; rfl

def unitC : List UInt8 := [66, 121, 116, 101, 115, 61]
theorem num_zero : numN [48] = 0 ∧ numI [48] = true ∧ numK [48] = true ∧ numN [] = 0 ∧ numI [] = false ∧ numK [] = true := by decide +kernel
/-- the three parts that are asked for -/
theorem covers_plain (size n : Nat) (h2 : 2 ≤ size) (hs : (size : Int) ≤ 4611686018427387904) (h1 : 1 ≤ n) (hn : n < size) :
    prtM 1 (bdsM (unitB ++ ([48] ++ 45 :: Lib.decDigits (n - 1)))) size = ⟨2, 0, (n : Int) - 1⟩ ∧ prtM 1 (bdsM (unitB ++ (Lib.decDigits n ++ 45 :: []))) size = ⟨2, n, (size : Int) - 1⟩ ∧ prtM 1 (bdsM (unitC ++ ([] ++ 45 :: Lib.decDigits (size - n)))) size = ⟨2, n, (size : Int) - 1⟩ := by
  obtain ⟨z1, z2, z3, z4, z5, z6⟩ := num_zero
  have hB : (unitB.zip unitB).all (fun p => unitOk p.2 p.1) = true := by decide
  have hC : (unitC.zip unitB).all (fun p => unitOk p.2 p.1) = true := by decide
  refine ⟨?_, ?_, ?_⟩
  · obtain ⟨n1, n2, n3⟩ := num_dec (n - 1) (by omega)
    rw [bds_of rfl hB (by decide), z1, z2, z3, n1, n2, n3]
    unfold prtM
    dsimp only
    rw [if_neg (by simp <;> omega), if_neg (by simp <;> omega), if_neg (by simp), if_pos rfl]
    congr 1
    omega
  · obtain ⟨n1, n2, n3⟩ := num_dec n (by omega)
    rw [bds_of rfl hB (dec_no n (by decide)), z4, z5, z6, n1, n2, n3]
    unfold prtM
    dsimp only
    rw [if_neg (by simp), if_neg (by simp <;> omega), if_neg (by simp), if_neg (by simp)]
    congr 1
    omega
  · obtain ⟨n1, n2, n3⟩ := num_dec (size - n) (by omega)
    rw [bds_of rfl hC (by simp), z4, z5, z6, n1, n2, n3]
    unfold prtM
    dsimp only
    rw [if_neg (by simp), if_neg (by simp <;> omega), if_pos rfl]
    congr 1
    · omega
    · omega
end Go.Proofs.YtmfnciocnlmceaaDoor

/- Layer 16: Read. No conditions but on lengths and the library's tables. -/
namespace Go.Proofs.YtmfnciocnlmceaaDoor
open Go.RowKit Go.Shelf

/-- what a Content-Range is read as -/
structure Rd3 where
  a : Int
  b : Int
  c : Int
  e : Int
  deriving DecidableEq
/-- the three texts -/
def rdA (l : List UInt8) : List UInt8 := (Lib.cut (Lib.trimPrefix l saidB) [45]).1
def rdB (l : List UInt8) : List UInt8 := (Lib.cut (Lib.cut (Lib.trimPrefix l saidB) [45]).2.1 [47]).1
def rdC (l : List UInt8) : List UInt8 := (Lib.cut (Lib.cut (Lib.trimPrefix l saidB) [45]).2.1 [47]).2.1
def rdcM (l : List UInt8) : Rd3 :=
  if undecE (rdA l) 4611686018427387904 ≠ 0 then ⟨0, 0, 0, 3⟩ else if undecE (rdB l) 4611686018427387904 ≠ 0 then ⟨0, 0, 0, 3⟩ else if undecE (rdC l) 4611686018427387904 ≠ 0 then ⟨0, 0, 0, 3⟩
  else if prnE (undecV (rdA l) 4611686018427387904) (undecV (rdB l) 4611686018427387904) (undecV (rdC l) 4611686018427387904) ≠ 0 ∨ prnS (undecV (rdA l) 4611686018427387904) (undecV (rdB l) 4611686018427387904) (undecV (rdC l) 4611686018427387904) ≠ l then ⟨0, 0, 0, 3⟩
  else ⟨undecV (rdA l) 4611686018427387904, undecV (rdB l) 4611686018427387904, undecV (rdC l) 4611686018427387904, 0⟩
def Rd3.asV (r : Rd3) : Value := .tuple #[.int .i64 r.a, .int .i64 r.b, .int .i64 r.c, .int .i64 r.e]
theorem trim_len (l p : List UInt8) : (Lib.trimPrefix l p).length ≤ l.length := by
  unfold Lib.trimPrefix
  split <;> simp

end Go.Proofs.YtmfnciocnlmceaaDoor

/- Layer 16: what is written is read as it was. Plain laws; arrays of three numbers. No conditions. -/
namespace Go.Proofs.YtmfnciocnlmceaaDoor
open Go.RowKit Go.Shelf

theorem trim_pre (p r : List UInt8) : Lib.trimPrefix (p ++ r) p = r := by
  unfold Lib.trimPrefix Lib.hasPrefix
  simp
theorem prn_nat {a b c : Int} (h : prnOk a b c = true) : ∃ x y z : Nat, a = x ∧ b = y ∧ c = z ∧ (x : Int) ≤ 4611686018427387904 ∧ (y : Int) ≤ 4611686018427387904 ∧ (z : Int) ≤ 4611686018427387904 := by
  unfold prnOk at h
  simp only [Bool.and_eq_true, decide_eq_true_eq] at h
  exact ⟨a.toNat, b.toNat, c.toNat, by omega, by omega, by omega, by omega, by omega, by omega⟩
theorem prn_parts {x y z : Nat} (h : prnOk x y z = true) : rdA (prnS x y z) = Lib.decDigits x ∧ rdB (prnS x y z) = Lib.decDigits y ∧ rdC (prnS x y z) = Lib.decDigits z := by
  have e : prnS x y z = saidB ++ (Lib.decDigits x ++ 45 :: (Lib.decDigits y ++ 47 :: Lib.decDigits z)) := by
    unfold prnS
    rw [if_pos h, Lib.itoa_nonneg, Lib.itoa_nonneg, Lib.itoa_nonneg]
    simp
  unfold rdA rdB rdC
  rw [e, trim_pre, cut_by _ _ _ (dec_no x (by decide)), cut_by _ _ _ (dec_no y (by decide))]
  exact ⟨rfl, rfl, rfl⟩
theorem rdc_ok {a b c : Int} (h : prnOk a b c = true) : rdcM (prnS a b c) = ⟨a, b, c, 0⟩ := by
  obtain ⟨x, y, z, rfl, rfl, rfl, h1, h2, h3⟩ := prn_nat h
  obtain ⟨p1, p2, p3⟩ := prn_parts h
  obtain ⟨u1, u2⟩ := undec_dec x 4611686018427387904 h1 (by omega)
  obtain ⟨u3, u4⟩ := undec_dec y 4611686018427387904 h2 (by omega)
  obtain ⟨u5, u6⟩ := undec_dec z 4611686018427387904 h3 (by omega)
  unfold rdcM
  rw [p1, p2, p3, u1, u2, u3, u4, u5, u6, if_neg (by simp), if_neg (by simp), if_neg (by simp), if_neg]
  have : prnE x y z = 0 := by unfold prnE; rw [if_pos h]
  simp [this]
theorem rdc_or (l : List UInt8) : rdcM l = ⟨0, 0, 0, 3⟩ ∨ ∃ a b c, rdcM l = ⟨a, b, c, 0⟩ ∧ prnOk a b c = true ∧ prnS a b c = l := by
  unfold rdcM
  split
  · exact .inl rfl
  · split
    · exact .inl rfl
    · split
      · exact .inl rfl
      · split
        · exact .inl rfl
        · rename_i h
          refine .inr ⟨_, _, _, rfl, ?_, ?_⟩
          · have h1 : prnE (undecV (rdA l) 4611686018427387904) (undecV (rdB l) 4611686018427387904) (undecV (rdC l) 4611686018427387904) = 0 := by
              by_cases hz : prnE (undecV (rdA l) 4611686018427387904) (undecV (rdB l) 4611686018427387904) (undecV (rdC l) 4611686018427387904) = 0
              · exact hz
              · exact absurd (Or.inl hz) h
            unfold prnE at h1
            split at h1
            · assumption
            · cases h1
          · by_cases hz : prnS (undecV (rdA l) 4611686018427387904) (undecV (rdB l) 4611686018427387904) (undecV (rdC l) 4611686018427387904) = l
            · exact hz
            · exact absurd (Or.inr hz) h
theorem prnE_iff (a b c : Int) : prnE a b c = 0 ↔ prnOk a b c = true := by
  unfold prnE
  split
  · rename_i h; simp [h]
  · rename_i h; simp [h]
theorem prn_inj {a b c a' b' c' : Int} (h : prnOk a b c = true) (h' : prnOk a' b' c' = true) : prnS a b c = prnS a' b' c' ↔ (a = a' ∧ b = b' ∧ c = c') := by
  constructor
  · intro e
    have h1 := rdc_ok h
    rw [e, rdc_ok h'] at h1
    injection h1 with e1 e2 e3
    exact ⟨e1.symm, e2.symm, e3.symm⟩
  · rintro ⟨rfl, rfl, rfl⟩; rfl
end Go.Proofs.YtmfnciocnlmceaaDoor
