/- Parts of the proof, in order. No conditions but those that each theorem states. -/
import Derived.Test.YtpimfoohpfkciaaDoorZB1
import Derived.Test.YtpimfoohpfkciaaDoorShelf
import Derived.Lib.Builder
import Derived.Lib.AppendStr
import Derived.WalkMore
/- Layer 10: the head: read, Split. No conditions but on lengths. -/
namespace Go.Proofs.YtpimfoohpfkciaaDoor
open Go.RowKit Go.Shelf

/-- what has been read: the start line, the fields, where it ends, the error -/
structure Rd where
  st : List UInt8
  F : List Fld
  n : Nat
  e : Int
  deriving Inhabited
def loopM (s st : List UInt8) : Nat → List Fld → Nat → Rd
  | 0, F, n => ⟨st, F, n, 17⟩
  | k + 1, F, n =>
    if (nextM s n).2.2 ≠ 0 then ⟨st, F, (nextM s n).2.1, (nextM s n).2.2⟩
    else if (nextM s n).1 = [] then ⟨st, F, (nextM s n).2.1, 0⟩
    else if (addM F (nextM s n).1).2 ≠ 0 then ⟨st, (addM F (nextM s n).1).1, (nextM s n).2.1, (addM F (nextM s n).1).2⟩
    else loopM s st k (addM F (nextM s n).1).1 (nextM s n).2.1
def readM (s : List UInt8) : Rd :=
  if (nextM s 0).2.2 ≠ 0 then ⟨[], [], (nextM s 0).2.1, (nextM s 0).2.2⟩
  else if beginE (nextM s 0).1 ≠ 0 then ⟨[], [], (nextM s 0).2.1, beginE (nextM s 0).1⟩
  else loopM s (nextM s 0).1 4097 [] (nextM s 0).2.1
def splitM (s : List UInt8) : Rd := if (readM s).e ≠ 0 then ⟨[], [], 0, (readM s).e⟩ else readM s

theorem lineM_length {l l' : List UInt8} (h : lineM l = some l') : l'.length ≤ l.length := by
  unfold lineM at h
  split at h
  · cases h
    unfold Lib.trimSuffix
    split <;> simp
  · cases h
theorem next_bounds {s : List UInt8} {n : Nat} (h1 : n ≤ s.length) (h2 : n ≤ 4096) : (nextM s n).2.1 ≤ s.length ∧ (nextM s n).2.1 ≤ 4096 ∧ ((nextM s n).2.2 = 0 → n < (nextM s n).2.1) ∧ (nextM s n).1.length ≤ s.length := by
  have hq : (seenM s n).length + n ≤ 4096 ∧ (seenM s n).length + n ≤ s.length := by unfold seenM; simp; omega
  obtain ⟨q1, q2⟩ := hq
  have hge := Lib.indexByte_ge (seenM s n) 10
  unfold nextM
  by_cases hi : Lib.indexByte (seenM s n) 10 < 0
  · rw [if_pos hi]
    refine ⟨h1, h2, ?_, by simp⟩
    dsimp only
    split <;> (intro h; cases h)
  · rw [if_neg hi]
    obtain ⟨o, ho⟩ : ∃ o : Nat, Lib.indexByte (seenM s n) 10 = o := ⟨(Lib.indexByte (seenM s n) 10).toNat, by omega⟩
    have hol := (List.getElem?_eq_some_iff.1 (Lib.indexByte_some ho).1).1
    rw [ho, Int.toNat_natCast]
    cases hl : lineM ((seenM s n).take (o + 1)) with
    | none => dsimp only; exact ⟨by omega, by omega, by omega, by simp⟩
    | some l =>
      have := lineM_length hl
      dsimp only
      exact ⟨by omega, by omega, by omega, by simp at this; omega⟩

set_option maxRecDepth 100000 in
set_option maxHeartbeats 1000000 in
theorem head_read (W : World) (hm : ML W) (s : List UInt8) (b : Nat) (w : World) (h : Hd W w b [] [] 0) (hs : s.length ≤ 1048576) :
    Calls Tryd.prog 43 #[.pointer (some ⟨b, 0, none⟩), .string (S s)] w fun e w' => e = .returned (.int .i64 (readM s).e) ∧ Hd W w' b (readM s).st (readM s).F (readM s).n := by
  have hN := head_next W s b [] [] 0 w h hs (Nat.zero_le _) (Nat.zero_le _)
  have hB := next_bounds (s := s) (n := 0) (Nat.zero_le _) (Nat.zero_le _)
  have hR : readM s = if (nextM s 0).2.2 ≠ 0 then ⟨[], [], (nextM s 0).2.1, (nextM s 0).2.2⟩
    else if beginE (nextM s 0).1 ≠ 0 then ⟨[], [], (nextM s 0).2.1, beginE (nextM s 0).1⟩
    else loopM s (nextM s 0).1 4097 [] (nextM s 0).2.1 := rfl
  generalize nextM s 0 = r at hN hB hR
  obtain ⟨l, n, e0⟩ := r
  dsimp only at hN hB hR
  obtain ⟨b1, b2, b3, b4⟩ := hB
  have HN := Lib.hid hN
  clear hN h
  by_cases he : e0 = 0
  · subst he
    rw [if_neg (by simp)] at hR
    have HG := Lib.hid (fun w1 (h : Hd W w1 b [] [] n) => head_begin W l b [] [] n w1 h (by omega))
    go_enter Tryd.func43, Tryd.ntmps43
    go_wp2_with fail
    refine HN.out.mono ?_
    rintro e w1 ⟨rfl, hd1⟩
    have H1 := Lib.hid hd1
    clear hd1
    go_wp2_with fail
    refine (HG.out _ H1.out).mono ?_
    rintro e w2 ⟨rfl, hd2⟩
    have hst : ∃ st2, Hid (Hd W w2 b st2 [] n) ∧ Hid (readM s = if beginE l ≠ 0 then ⟨st2, [], n, beginE l⟩ else loopM s st2 4097 [] n) := by
      by_cases hz : beginE l = 0
      · exact ⟨l, by rw [if_pos hz] at hd2; exact hd2, by rw [hR]; simp [hz, Hid]⟩
      · exact ⟨[], by rw [if_neg hz] at hd2; exact hd2, by rw [hR]; simp [hz, Hid]⟩
    obtain ⟨st2, H2, HR⟩ := hst
    clear hd2 hR
    generalize beginE l = e2 at HR
    go_wp2_with fail
    go_loopg [5, 6] (4097 - n) (fun g lv ev wr => ∃ (l' : List UInt8) (F : List Fld) (n' k : Nat) (e' : Int), lv = .string (S l') ∧ ev = .int .i64 e' ∧ n' ≤ s.length ∧ n' ≤ 4096 ∧ 4097 - n' ≤ k ∧ g = 4097 - n' ∧ Hid (Hd W wr b st2 F n') ∧
      Hid (readM s = if e' ≠ 0 then ⟨st2, F, n', e'⟩ else loopM s st2 k F n'))
    case atStart => exact ⟨l, [], n, 4097, e2, rfl, rfl, b1, b2, by omega, rfl, H2, HR⟩
    case round =>
      obtain ⟨l', F, n', k, e', rfl, rfl, c1, c2, c3, rfl, HD, HR2⟩ := hrel
      by_cases hz : e' = 0
      · subst hz
        obtain ⟨k', rfl⟩ : ∃ k', k = k' + 1 := ⟨k - 1, by omega⟩
        have hN2 := head_next W s b st2 F n' wr HD.out hs c1 c2
        have hB2 := next_bounds c1 c2
        have hR2 := HR2.out
        rw [if_neg (by simp), loopM] at hR2
        generalize nextM s n' = r2 at hN2 hB2 hR2
        obtain ⟨l2, n2, e3⟩ := r2
        dsimp only at hN2 hB2 hR2
        obtain ⟨p1, p2, p3, p4⟩ := hB2
        have HN2 := Lib.hid hN2
        have hte := S_toList l2
        clear hN2 HR HR2 H2 HG HN H1
        by_cases h3 : e3 = 0
        · subst h3
          have p5 := p3 rfl
          rw [if_neg (by simp)] at hR2
          by_cases hle : l2 = []
          · rw [if_pos hle] at hR2
            have HR3 := Lib.hid hR2
            subst hle
            have hq : (S []).toList = [] := S_toList []
            clear hR2 p3
            go_wp2_with fail
            refine HN2.out.mono ?_
            rintro e w3 ⟨rfl, hd3⟩
            have H3 := Lib.hid hd3
            clear hd3
            go_wp2_with fail
            go_ret
            rw [HR3.out]
            exact ⟨rfl, H3.out⟩
          · rw [if_neg hle] at hR2
            have hie : l2.isEmpty = false := by cases l2 <;> simp_all
            have HR3 := Lib.hid hR2
            have HA := Lib.hid (fun w1 (h : Hd W w1 b st2 F n2) => head_add W hm l2 b st2 F n2 w1 h (by omega))
            clear hR2 p3 hle
            go_wp2_with fail
            refine HN2.out.mono ?_
            rintro e w3 ⟨rfl, hd3⟩
            have H3 := Lib.hid hd3
            clear hd3
            go_wp2_with fail
            refine (HA.out _ H3.out).mono ?_
            rintro e w4 ⟨rfl, hd4⟩
            have H4 := Lib.hid hd4
            clear hd4
            go_wp2_with fail
            go_roundg (4097 - n2)
            case measure => omega
            case rel => exact ⟨l2, (addM F l2).1, n2, k', (addM F l2).2, rfl, rfl, p1, p2, by omega, rfl, H4, HR3⟩
        · rw [if_pos h3] at hR2
          have HR3 := Lib.hid hR2
          have hq1 : (e3 == 0) = false := by simpa using h3
          clear hR2 p3
          go_wp2_with fail
          refine HN2.out.mono ?_
          rintro e w3 ⟨rfl, hd3⟩
          have H3 := Lib.hid hd3
          clear hd3
          go_wp2_with fail
          go_ret
          rw [HR3.out]
          exact ⟨rfl, H3.out⟩
      · have hR2 := HR2.out
        rw [if_pos hz] at hR2
        have HR3 := Lib.hid hR2
        clear hR2 HR HR2 H2 HG HN H1
        go_wp2_with fail
        go_ret
        rw [HR3.out]
        exact ⟨rfl, HD.out⟩
  · rw [if_pos he] at hR
    have HR := Lib.hid hR
    clear hR b3
    go_enter Tryd.func43, Tryd.ntmps43
    go_wp2_with fail
    refine HN.out.mono ?_
    rintro e w1 ⟨rfl, hd1⟩
    have H1 := Lib.hid hd1
    clear hd1
    go_wp2_with fail
    go_loopg [5, 6] 1 (fun g lv ev wr => lv = .string (S l) ∧ ev = .int .i64 e0 ∧ wr = w1)
    case atStart => exact ⟨rfl, rfl, rfl⟩
    case round =>
      obtain ⟨rfl, rfl, rfl⟩ := hrel
      go_wp2_with fail
      go_ret
      rw [HR.out]
      exact ⟨rfl, H1.out⟩
end Go.Proofs.YtpimfoohpfkciaaDoor

/- Layer 10: Split. No conditions but on lengths. -/
namespace Go.Proofs.YtpimfoohpfkciaaDoor
open Go.RowKit Go.Shelf

theorem results_tmp4 {fn : Func} {t u v x : Tmp} (h : fn.results = #[.tmp t, .tmp u, .tmp v, .tmp x]) (tmps : Array Value) (P : Program) (w : World) :
    (results fn tmps).run P w = .ok (.tuple #[tmps.getD t undef, tmps.getD u undef, tmps.getD v undef, tmps.getD x undef]) w := by
  simp [results, h]
def SplitOut (w : World) (r : Rd) (e : Ending) (w' : World) : Prop := ∃ v, e = .returned (.tuple #[.string (S r.st), v, .int .i64 r.n, .int .i64 r.e]) ∧ Own Fld.cells 2 w.heap.size 44 w' v r.F ∧ Keep [] w w'
set_option maxRecDepth 100000 in
set_option maxHeartbeats 1000000 in
theorem field_Split (s : List UInt8) (w : World) (hm : ML w) (hs : s.length ≤ 1048576) :
    Calls Tryd.prog 31 #[.string (S s)] w (SplitOut w (splitM s)) := by
  have HR := Lib.hid (fun w1 (h : Hd w w1 w.heap.size [] [] 0) => head_read w hm s w.heap.size w1 h hs)
  have hH : Hd w (w.alloc (.cells #[.string ⟨#[]⟩, .slice none 0 0, .int .i64 0] 78)) w.heap.size [] [] 0 :=
    ⟨.slice none 0 0, Blk.newA w #[.string ⟨#[]⟩, .slice none 0 0, .int .i64 0] _, Own.nil _ _ _ _ _, by simp [Value.ownBlock], Nat.le_refl _, (Keep.refl _ _).alloc _⟩
  have HH := Lib.hid hH
  have hsp : splitM s = if (readM s).e ≠ 0 then ⟨[], [], 0, (readM s).e⟩ else readM s := rfl
  generalize readM s = r at HR hsp
  clear hH
  by_cases he : r.e = 0
  · rw [if_neg (by simpa using he)] at hsp
    have HS := Lib.hid hsp
    have HE := Lib.hid he
    rw [he] at HR
    clear hsp he
    go_enter Tryd.func31, Tryd.ntmps31
    go_wp2_with fail
    refine (HR.out _ HH.out).mono ?_
    rintro e w1 ⟨rfl, hd1⟩
    obtain ⟨fv, h1, h2, h3, h4, h5⟩ := hd1
    have c0 := h1.get (k := 0) rfl
    have c1 := h1.get (k := 1) rfl
    have c2 := h1.get (k := 2) rfl
    have H2 := Lib.hid h2
    have H5 := Lib.hid h5
    clear h1 h2 h3 h4 h5
    go_wp2_with fail
    go_quiet (fail)
    go_wp2_with fail
    refine bodyPost_ret (results_tmp4 rfl _ _ _) rfl ?_
    rw [HS.out]
    exact ⟨fv, by rw [HE.out]; rfl, H2.out.of_heap rfl, H5.out.drewN _⟩
  · rw [if_pos he] at hsp
    have HS := Lib.hid hsp
    have hq1 : (r.e == 0) = false := by simpa using he
    clear hsp he
    go_enter Tryd.func31, Tryd.ntmps31
    go_wp2_with fail
    refine (HR.out _ HH.out).mono ?_
    rintro e w1 ⟨rfl, hd1⟩
    have H1 := Lib.hid hd1
    clear hd1
    go_wp2_with fail
    refine bodyPost_ret (results_tmp4 rfl _ _ _) rfl ?_
    rw [HS.out]
    exact ⟨_, rfl, Own.nil _ _ _ _ _, H1.out.choose_spec.2.2.2.2⟩
end Go.Proofs.YtpimfoohpfkciaaDoor

/- Layer 10: what Split makes of a text that goes on. Plain laws; no program. No conditions. -/
namespace Go.Proofs.YtpimfoohpfkciaaDoor
open Go.RowKit Go.Shelf

theorem indexByte_append {l m : List UInt8} {c : UInt8} (h : 0 ≤ Lib.indexByte l c) : Lib.indexByte (l ++ m) c = Lib.indexByte l c := by
  obtain ⟨o, ho⟩ : ∃ o : Nat, Lib.indexByte l c = o := ⟨(Lib.indexByte l c).toNat, by omega⟩
  obtain ⟨h1, h2⟩ := Lib.indexByte_some ho
  have hlt := (List.getElem?_eq_some_iff.1 h1).1
  rw [ho]
  refine indexByte_at ?_ fun j hj => ?_
  · rw [List.getElem?_append_left hlt]; exact h1
  · rw [List.getElem?_append_left (by omega)]; exact h2 j hj
theorem seen_append (p m : List UInt8) (n : Nat) (_ : n ≤ p.length) (_ : n ≤ 4096) : ∃ m', seenM (p ++ m) n = seenM p n ++ m' := by
  unfold seenM
  rw [List.take_append, List.drop_append]
  exact ⟨_, rfl⟩
theorem seen_whole (p m : List UInt8) (n : Nat) (h : 4096 ≤ p.length) : seenM (p ++ m) n = seenM p n := by
  unfold seenM
  rw [List.take_append_of_le_length h]
theorem next_append (p m : List UInt8) (n : Nat) (h : n ≤ p.length) (h2 : n ≤ 4096) : (nextM p n).2.2 = 17 ∨ nextM (p ++ m) n = nextM p n := by
  by_cases hb : 4096 ≤ p.length
  · refine .inr ?_
    unfold nextM
    rw [seen_whole p m n hb]
    have : 4096 ≤ (p ++ m).length := by simp; omega
    rw [if_pos this, if_pos hb]
  · by_cases hi : Lib.indexByte (seenM p n) 10 < 0
    · refine .inl ?_
      unfold nextM
      rw [if_pos hi]
      simp [hb]
    · refine .inr ?_
      obtain ⟨m', hm'⟩ := seen_append p m n h h2
      unfold nextM
      have e := indexByte_append (m := m') (show 0 ≤ Lib.indexByte (seenM p n) 10 by omega)
      rw [hm', e, if_neg hi, if_neg hi]
      obtain ⟨o, ho⟩ : ∃ o : Nat, Lib.indexByte (seenM p n) 10 = o := ⟨(Lib.indexByte (seenM p n) 10).toNat, by omega⟩
      have hlt := (List.getElem?_eq_some_iff.1 (Lib.indexByte_some ho).1).1
      rw [ho, Int.toNat_natCast, List.take_append_of_le_length (by omega)]
theorem loop_append (p m st : List UInt8) : ∀ (k : Nat) (F : List Fld) (n : Nat), n ≤ p.length → n ≤ 4096 → (loopM p st k F n).e = 17 ∨ loopM (p ++ m) st k F n = loopM p st k F n
  | 0, F, n, _, _ => .inl rfl
  | k + 1, F, n, h, h2 => by
    have hb := next_bounds h h2
    rcases next_append p m n h h2 with h3 | h3
    · refine .inl ?_
      unfold loopM
      rw [h3]
      simp
    · unfold loopM
      rw [h3]
      by_cases h4 : (nextM p n).2.2 = 0
      · have h4' : ¬ (nextM p n).2.2 ≠ 0 := by simpa using h4
        rw [if_neg h4', if_neg h4']
        by_cases h5 : (nextM p n).1 = []
        · rw [if_pos h5, if_pos h5]; exact .inr rfl
        · rw [if_neg h5, if_neg h5]
          by_cases h6 : (addM F (nextM p n).1).2 = 0
          · have h6' : ¬ (addM F (nextM p n).1).2 ≠ 0 := by simpa using h6
            rw [if_neg h6', if_neg h6']
            exact loop_append p m st k _ _ hb.1 hb.2.1
          · rw [if_pos h6, if_pos h6]; exact .inr rfl
      · rw [if_pos h4, if_pos h4]; exact .inr rfl
theorem read_append (p m : List UInt8) : (readM p).e = 17 ∨ readM (p ++ m) = readM p := by
  have hb := next_bounds (s := p) (n := 0) (Nat.zero_le _) (Nat.zero_le _)
  rcases next_append p m 0 (Nat.zero_le _) (Nat.zero_le _) with h3 | h3
  · refine .inl ?_
    unfold readM
    rw [h3]
    simp
  · unfold readM
    rw [h3]
    by_cases h4 : (nextM p 0).2.2 = 0
    · have h4' : ¬ (nextM p 0).2.2 ≠ 0 := by simpa using h4
      rw [if_neg h4', if_neg h4']
      by_cases h6 : beginE (nextM p 0).1 = 0
      · have h6' : ¬ beginE (nextM p 0).1 ≠ 0 := by simpa using h6
        rw [if_neg h6', if_neg h6']
        exact loop_append p m _ _ _ _ hb.1 hb.2.1
      · rw [if_pos h6, if_pos h6]; exact .inr rfl
    · rw [if_pos h4, if_pos h4]; exact .inr rfl
/-- whatever comes later: an error stays, a head stays -/
theorem split_append (p m : List UInt8) : (splitM p).e = 17 ∨ splitM (p ++ m) = splitM p := by
  rcases read_append p m with h | h
  · refine .inl ?_
    unfold splitM
    rw [h]
    simp
  · refine .inr ?_
    unfold splitM
    rw [h]
theorem split_take (s : List UInt8) (k : Nat) : (splitM (s.take k)).e = 17 ∨ splitM s = splitM (s.take k) := by
  have := split_append (s.take k) (s.drop k)
  rwa [List.take_append_drop] at this
end Go.Proofs.YtpimfoohpfkciaaDoor

/- Layer 10: a head is read as it was written. Plain laws; no program. No conditions. -/
namespace Go.Proofs.YtpimfoohpfkciaaDoor
open Go.RowKit Go.Shelf

/-- the lines of fields -/
def bodyT (K : List Fld) : List UInt8 := K.flatMap fun f => printF f ++ [13, 10]
def headT (st : List UInt8) (K : List Fld) : List UInt8 := st ++ [13, 10] ++ bodyT K ++ [13, 10]
/-- no CR, no LF -/
def clean (l : List UInt8) : Prop := ∀ b ∈ l, b ≠ 13 ∧ b ≠ 10

theorem tchar_clean {b : UInt8} (h : tchar b = true) : b ≠ 13 ∧ b ≠ 10 ∧ b ≠ 58 := by
  refine ⟨?_, ?_, ?_⟩ <;> (rintro rfl; revert h; decide)
theorem textB_clean {b : UInt8} (h : textB b = true) : b ≠ 13 ∧ b ≠ 10 := by
  refine ⟨?_, ?_⟩ <;> (rintro rfl; revert h; decide)
theorem good_parts {f : Fld} (h : goodF f = true) : isTok f.name = true ∧ isTxt f.value = true ∧ trimW f.value = f.value := by
  unfold goodF at h
  simp only [Bool.and_eq_true, beq_iff_eq] at h
  exact ⟨h.1.1, h.1.2, h.2⟩
theorem isTok_parts {l : List UInt8} (h : isTok l = true) : (∀ b ∈ l, tchar b = true) ∧ l ≠ [] := by
  unfold isTok at h
  simp only [Bool.and_eq_true, List.all_eq_true] at h
  exact ⟨h.1, by intro e; subst e; simp at h⟩
theorem print_clean {f : Fld} (h : goodF f = true) : clean (printF f) := by
  obtain ⟨h1, h2, _⟩ := good_parts h
  intro b hb
  unfold printF at hb
  simp only [List.mem_append, List.mem_cons, List.mem_nil_iff, or_false] at hb
  rcases hb with (hb | rfl | rfl) | hb
  · have := tchar_clean ((isTok_parts h1).1 b hb)
    exact ⟨this.1, this.2.1⟩
  · decide
  · decide
  · unfold isTxt at h2
    exact textB_clean (List.all_eq_true.1 h2 b hb)

theorem indexByte_first {x r : List UInt8} {c : UInt8} (h : ∀ b ∈ x, b ≠ c) : Lib.indexByte (x ++ c :: r) c = x.length := by
  refine indexByte_at (by simp) fun j hj => ?_
  rw [List.getElem?_append_left hj]
  intro e
  exact h c (List.mem_of_getElem? e) rfl
/-- a whole line is read -/
theorem next_line (pre x rest : List UInt8) (hx : clean x) (h : pre.length + x.length + 2 ≤ 4096) :
    nextM (pre ++ (x ++ [13, 10] ++ rest)) pre.length = (x, pre.length + (x.length + 2), 0) := by
  have hseen : ∃ r, seenM (pre ++ (x ++ [13, 10] ++ rest)) pre.length = (x ++ [13]) ++ 10 :: r := by
    unfold seenM
    rw [List.take_append, List.drop_append]
    have e1 : (pre.take 4096) = pre := List.take_of_length_le (by omega)
    rw [e1, List.drop_length, List.nil_append, Nat.sub_self, List.drop_zero]
    have e3 : x ++ [13, 10] ++ rest = (x ++ [13]) ++ 10 :: rest := by simp
    rw [e3, List.take_append, List.take_of_length_le (by simp; omega)]
    obtain ⟨m, hm⟩ : ∃ m, 4096 - pre.length - (x ++ [13]).length = m + 1 := ⟨4096 - pre.length - (x ++ [13]).length - 1, by simp; omega⟩
    rw [hm, List.take_succ_cons]
    exact ⟨_, rfl⟩
  obtain ⟨r, hr⟩ := hseen
  have hi : Lib.indexByte (seenM (pre ++ (x ++ [13, 10] ++ rest)) pre.length) 10 = ((x.length + 1 : Nat) : Int) := by
    rw [hr, indexByte_first (x := x ++ [13])]
    · simp
    · intro b hb
      simp only [List.mem_append, List.mem_singleton] at hb
      rcases hb with hb | rfl
      · exact (hx b hb).2
      · decide
  have ht : (seenM (pre ++ (x ++ [13, 10] ++ rest)) pre.length).take (x.length + 1 + 1) = x ++ [13, 10] := by
    rw [hr, List.take_append, List.take_of_length_le (by simp)]
    simp
  have hl : lineM (x ++ [13, 10]) = some x := by
    unfold lineM
    have hs : Lib.hasSuffix (x ++ [13, 10]) [13, 10] = true := by unfold Lib.hasSuffix; simp
    have htr : Lib.trimSuffix (x ++ [13, 10]) [13, 10] = x := by
      unfold Lib.trimSuffix
      rw [if_pos hs]
      simp
    rw [htr, if_pos]
    refine ⟨hs, ?_⟩
    rw [indexByte_no]
    · omega
    · intro j hj
      exact (hx 13 (List.mem_of_getElem? hj)).1 rfl
  unfold nextM
  rw [hi, if_neg (by omega), Int.toNat_natCast, ht, hl]

theorem trim_blank (v : List UInt8) : trimW (32 :: v) = trimW v := by
  rw [trimW_eq, trimL_cons, if_pos (.inl rfl), ← trimW_eq]
theorem parse_print {f : Fld} (h : goodF f = true) : parseF (printF f) = some f := by
  obtain ⟨h1, h2, h3⟩ := good_parts h
  obtain ⟨ht, hne⟩ := isTok_parts h1
  have hi : Lib.indexByte (printF f) 58 = f.name.length := by
    have e : printF f = f.name ++ 58 :: (32 :: f.value) := by simp [printF]
    rw [e]
    exact indexByte_first fun b hb => (tchar_clean (ht b hb)).2.2
  have e1 : (printF f).take f.name.length = f.name := by simp [printF]
  have e2 : (printF f).drop (f.name.length + 1) = 32 :: f.value := by simp [printF]
  have h4 : isTxt (32 :: f.value) = true := by
    unfold isTxt at *
    rw [List.all_cons, h2]
    rfl
  rw [parseF_eq, hi, Int.toNat_natCast, e1, e2, if_pos ⟨by omega, h1, h4⟩, trim_blank, h3]

theorem print_ne (f : Fld) : printF f ≠ [] := by simp [printF]
theorem loop_body (st : List UInt8) : ∀ (K : List Fld) (pre : List UInt8) (F : List Fld) (k : Nat) (rest : List UInt8), (∀ f ∈ K, goodF f = true) → F.length + K.length ≤ 32 → pre.length + (bodyT K).length + 2 ≤ 4096 → K.length < k →
    loopM (pre ++ (bodyT K ++ ([13, 10] ++ rest))) st k F pre.length = ⟨st, F ++ K, pre.length + (bodyT K).length + 2, 0⟩
  | [], pre, F, k, rest, _, _, h, hk => by
    obtain ⟨k', rfl⟩ : ∃ k', k = k' + 1 := ⟨k - 1, by simp at hk; omega⟩
    have hn := next_line pre [] rest (by intro b hb; cases hb) (by simpa [bodyT] using h)
    simp only [bodyT, List.flatMap_nil, List.nil_append, List.length_nil, Nat.add_zero, Nat.zero_add] at *
    unfold loopM
    rw [hn]
    simp
  | f :: K, pre, F, k, rest, hg, hF, h, hk => by
    obtain ⟨k', rfl⟩ : ∃ k', k = k' + 1 := ⟨k - 1, by simp at hk; omega⟩
    have hgf := hg f (by simp)
    have hb : bodyT (f :: K) = printF f ++ [13, 10] ++ bodyT K := by simp [bodyT]
    have hlen : (bodyT (f :: K)).length = (printF f).length + 2 + (bodyT K).length := by rw [hb]; simp; omega
    have hn := next_line pre (printF f) (bodyT K ++ ([13, 10] ++ rest)) (print_clean hgf) (by omega)
    have he : pre ++ (bodyT (f :: K) ++ ([13, 10] ++ rest)) = pre ++ (printF f ++ [13, 10] ++ (bodyT K ++ ([13, 10] ++ rest))) := by rw [hb]; simp
    have ha : addM F (printF f) = (F ++ [f], 0) := by
      unfold addM
      rw [parse_print hgf]
      simp at hF
      simp only
      rw [if_neg (by omega)]
    have ih := loop_body st K (pre ++ (printF f ++ [13, 10])) (F ++ [f]) k' rest (fun x hx => hg x (by simp [hx])) (by simp at hF ⊢; omega) (by simp; omega) (by simp at hk; omega)
    rw [he]
    unfold loopM
    rw [hn]
    simp only [ne_eq, not_true_eq_false, if_false, print_ne, ha]
    have e2 : pre ++ (printF f ++ [13, 10] ++ (bodyT K ++ ([13, 10] ++ rest))) = pre ++ (printF f ++ [13, 10]) ++ (bodyT K ++ ([13, 10] ++ rest)) := by simp
    have e3 : pre.length + ((printF f).length + 2) = (pre ++ (printF f ++ [13, 10])).length := by simp
    rw [e2, e3, ih]
    simp [hlen]
    omega
theorem split_head (st : List UInt8) (K : List Fld) (rest : List UInt8) (hst : clean st) (h0 : st ≠ []) (h1 : st.length ≤ 1024) (hg : ∀ f ∈ K, goodF f = true) (h32 : K.length ≤ 32) (hl : (headT st K).length ≤ 4096) :
    splitM (headT st K ++ rest) = ⟨st, K, (headT st K).length, 0⟩ := by
  have hlen : (headT st K).length = st.length + 2 + (bodyT K).length + 2 := by simp [headT]; omega
  have he : headT st K ++ rest = [] ++ (st ++ [13, 10] ++ (bodyT K ++ ([13, 10] ++ rest))) := by simp [headT]
  have hn := next_line [] st (bodyT K ++ ([13, 10] ++ rest)) hst (by simp; omega)
  have hlo := loop_body st K (st ++ [13, 10]) [] 4097 rest hg (by simpa using h32) (by simp; omega) (by omega)
  have hr : readM (headT st K ++ rest) = ⟨st, K, (headT st K).length, 0⟩ := by
    rw [he]
    unfold readM
    rw [show (0 : Nat) = ([] : List UInt8).length from rfl, hn]
    have hb : beginE st = 0 := by unfold beginE; rw [if_neg h0, if_neg (by omega)]
    simp only [ne_eq, not_true_eq_false, if_false, hb, List.nil_append, List.length_nil, Nat.zero_add]
    have e2 : st ++ [13, 10] ++ (bodyT K ++ ([13, 10] ++ rest)) = (st ++ [13, 10]) ++ (bodyT K ++ ([13, 10] ++ rest)) := rfl
    have e3 : st.length + 2 = (st ++ [13, 10]).length := by simp
    rw [e3, hlo, hlen]
    simp
  unfold splitM
  rw [hr]
  simp
theorem loop_n_le (s st : List UInt8) : ∀ (k : Nat) (F : List Fld) (n : Nat), n ≤ s.length → n ≤ 4096 → (loopM s st k F n).n ≤ s.length
  | 0, F, n, h, _ => h
  | k + 1, F, n, h, h2 => by
    have hb := next_bounds h h2
    unfold loopM
    by_cases h4 : (nextM s n).2.2 ≠ 0
    · rw [if_pos h4]; exact hb.1
    · rw [if_neg h4]
      by_cases h5 : (nextM s n).1 = []
      · rw [if_pos h5]; exact hb.1
      · rw [if_neg h5]
        by_cases h6 : (addM F (nextM s n).1).2 ≠ 0
        · rw [if_pos h6]; exact hb.1
        · rw [if_neg h6]; exact loop_n_le s st k _ _ hb.1 hb.2.1
theorem split_n_le (s : List UInt8) : (splitM s).n ≤ s.length := by
  have hb := next_bounds (s := s) (n := 0) (Nat.zero_le _) (Nat.zero_le _)
  have hr : (readM s).n ≤ s.length := by
    unfold readM
    by_cases h4 : (nextM s 0).2.2 ≠ 0
    · rw [if_pos h4]; exact hb.1
    · rw [if_neg h4]
      by_cases h6 : beginE (nextM s 0).1 ≠ 0
      · rw [if_pos h6]; exact hb.1
      · rw [if_neg h6]; exact loop_n_le s _ _ _ _ hb.1 hb.2.1
  unfold splitM
  split
  · simp
  · exact hr
/-- cut off anywhere it is too short -/
theorem split_cut (st : List UInt8) (K : List Fld) (hst : clean st) (h0 : st ≠ []) (h1 : st.length ≤ 1024) (hg : ∀ f ∈ K, goodF f = true) (h32 : K.length ≤ 32) (hl : (headT st K).length ≤ 4096) (j : Nat) (hj : j < (headT st K).length) :
    (splitM ((headT st K).take j)).e = 17 := by
  rcases split_take (headT st K) j with h | h
  · exact h
  · have hw := split_head st K [] hst h0 h1 hg h32 hl
    rw [List.append_nil] at hw
    have := split_n_le ((headT st K).take j)
    rw [← h, hw] at this
    simp at this
    omega
end Go.Proofs.YtpimfoohpfkciaaDoor

/- Layer 11: what a chunked body's reader does, as a plain machine; however the bytes are cut it comes to the same. No program. No conditions but those that each theorem states. -/
namespace Go.Proofs.YtpimfoohpfkciaaDoor
open Go.RowKit

structure Ck where
  st : Nat
  left : Nat
  most : Nat
  flds : Nat
  inp : List UInt8
  dat : List UInt8
  err : Int
def Ck.add (c : Ck) (s : List UInt8) : Ck := { c with inp := c.inp ++ s }
structure LnR where
  t : List UInt8
  e : Int
  r : List UInt8
def crlfC : List UInt8 := [13, 10]
/-- the next line -/
def lnC (l : List UInt8) : LnR :=
  if Lib.indexByte (l.take 256) 10 < 0 then (if 256 ≤ l.length then ⟨[], 3, l⟩ else ⟨[], 17, l⟩)
  else if Lib.hasSuffix (l.take ((Lib.indexByte (l.take 256) 10).toNat + 1)) crlfC then ⟨Lib.trimSuffix (l.take ((Lib.indexByte (l.take 256) 10).toNat + 1)) crlfC, 0, l.drop ((Lib.indexByte (l.take 256) 10).toNat + 1)⟩ else ⟨[], 3, l⟩
def digitsB : List UInt8 := [48, 49, 50, 51, 52, 53, 54, 55, 56, 57, 97, 98, 99, 100, 101, 102, 65, 66, 67, 68, 69, 70]
def restOk (r : List UInt8) : Bool := r.isEmpty || (isTxt r && decide (0 ≤ Lib.indexByte [32, 9, 59] (r.getD 0 0)))
def numRest (t : List UInt8) : List UInt8 := Lib.trimLeftS t digitsB
def numT (t : List UInt8) : List UInt8 := t.take (t.length - (numRest t).length)
def numE (t : List UInt8) (m : Int) : Int := if restOk (numRest t) then (if unhexE (numT t) m = 14 then 4 else unhexE (numT t) m) else 3
def numV (t : List UInt8) (m : Int) : Int := unhexV (numT t) m
def beginM (c : Ck) : Ck × Int :=
  if (lnC c.inp).e ≠ 0 then (c, (lnC c.inp).e)
  else if numE (lnC c.inp).t ((c.most : Int) - c.dat.length) ≠ 0 then ({ c with inp := (lnC c.inp).r }, numE (lnC c.inp).t ((c.most : Int) - c.dat.length))
  else ({ c with inp := (lnC c.inp).r, left := (numV (lnC c.inp).t ((c.most : Int) - c.dat.length)).toNat, st := if numV (lnC c.inp).t ((c.most : Int) - c.dat.length) = 0 then 3 else 1 }, 0)
def dataM (c : Ck) : Ck × Int :=
  if 0 < c.left - min c.left c.inp.length then ({ c with inp := c.inp.drop (min c.left c.inp.length), dat := c.dat ++ c.inp.take (min c.left c.inp.length), left := c.left - min c.left c.inp.length }, 17)
  else ({ c with inp := c.inp.drop (min c.left c.inp.length), dat := c.dat ++ c.inp.take (min c.left c.inp.length), left := c.left - min c.left c.inp.length, st := 2 }, 0)
def closeM (c : Ck) : Ck × Int :=
  if c.inp.take 2 ≠ crlfC.take c.inp.length then (c, 3)
  else if c.inp.length < 2 then (c, 17)
  else ({ c with inp := c.inp.drop 2, st := 0 }, 0)
def trailM (c : Ck) : Ck × Int :=
  if (lnC c.inp).e ≠ 0 then (c, (lnC c.inp).e)
  else if (lnC c.inp).t = [] then ({ c with inp := (lnC c.inp).r, st := 4 }, 0)
  else if parseE (lnC c.inp).t ≠ 0 then ({ c with inp := (lnC c.inp).r }, parseE (lnC c.inp).t)
  else ({ c with inp := (lnC c.inp).r, flds := c.flds + 1 }, if 16 < c.flds + 1 then 4 else 0)
def stepM (c : Ck) : Ck × Int := if c.st = 0 then beginM c else if c.st = 1 then dataM c else if c.st = 2 then closeM c else if c.st = 3 then trailM c else (c, 17)

theorem suffix_len {a b : List UInt8} (h : Lib.hasSuffix a b = true) : b.length ≤ a.length := by
  unfold Lib.hasSuffix at h
  rw [List.isSuffixOf_iff_suffix] at h
  exact h.length_le
theorem line_short {l : List UInt8} (h : Lib.indexByte (l.take 256) 10 < 0) : lnC l = if 256 ≤ l.length then ⟨[], 3, l⟩ else ⟨[], 17, l⟩ := by unfold lnC; rw [if_pos h]
theorem line_at {l : List UInt8} {k : Nat} (h : Lib.indexByte (l.take 256) 10 = (k : Nat)) : lnC l = if Lib.hasSuffix (l.take (k + 1)) crlfC then ⟨Lib.trimSuffix (l.take (k + 1)) crlfC, 0, l.drop (k + 1)⟩ else ⟨[], 3, l⟩ := by
  unfold lnC
  rw [if_neg (by omega), h]
  rfl
theorem line_cases (l : List UInt8) : Lib.indexByte (l.take 256) 10 < 0 ∨ ∃ k : Nat, Lib.indexByte (l.take 256) 10 = (k : Nat) ∧ k < l.length ∧ k < 256 := by
  by_cases h : Lib.indexByte (l.take 256) 10 < 0
  · exact .inl h
  · obtain ⟨k, hk⟩ : ∃ k : Nat, Lib.indexByte (l.take 256) 10 = (k : Nat) := ⟨(Lib.indexByte (l.take 256) 10).toNat, by omega⟩
    have := (List.getElem?_eq_some_iff.1 (Lib.indexByte_some hk).1).1
    rw [List.length_take] at this
    exact .inr ⟨k, hk, by omega, by omega⟩
theorem line_app (l s : List UInt8) (h : (lnC l).e ≠ 17) : lnC (l ++ s) = ⟨(lnC l).t, (lnC l).e, (lnC l).r ++ s⟩ := by
  rcases line_cases l with hn | ⟨k, hk, hkl, h256⟩
  · rw [line_short hn] at h ⊢
    by_cases hl : 256 ≤ l.length
    · have e : (l ++ s).take 256 = l.take 256 := List.take_append_of_le_length hl
      have hn' : Lib.indexByte ((l ++ s).take 256) 10 < 0 := by rw [e]; exact hn
      rw [line_short hn', if_pos hl, if_pos (by simp; omega)]
    · rw [if_neg hl] at h; simp at h
  · obtain ⟨h1, h2⟩ := Lib.indexByte_some hk
    have e : Lib.indexByte ((l ++ s).take 256) 10 = (k : Nat) := by
      have ek : ∀ j, j < l.length → j < 256 → ((l ++ s).take 256)[j]? = (l.take 256)[j]? := by
        intro j hj hj2
        rw [List.getElem?_take, List.getElem?_take, if_pos hj2, if_pos hj2, List.getElem?_append_left hj]
      refine indexByte_at ?_ (fun j hj => ?_)
      · rw [ek k hkl h256]; exact h1
      · rw [ek j (by omega) (by omega)]; exact h2 j hj
    rw [line_at e, line_at hk, List.take_append_of_le_length (by omega), List.drop_append_of_le_length (by omega)]
    split <;> rfl
theorem line_le (l : List UInt8) : (lnC l).r.length ≤ l.length ∧ ((lnC l).e = 0 → (lnC l).r.length + 2 ≤ l.length) ∧ (lnC l).t.length ≤ 256 ∧ ((lnC l).e = 0 ∨ (lnC l).e = 3 ∨ (lnC l).e = 17) ∧ (lnC l).t.length ≤ l.length := by
  rcases line_cases l with hn | ⟨k, hk, hkl, h256⟩
  · rw [line_short hn]
    split <;> simp
  · rw [line_at hk]
    by_cases hs : Lib.hasSuffix (l.take (k + 1)) crlfC = true
    · rw [if_pos hs]
      have := suffix_len hs
      rw [List.length_take] at this
      have h2 : crlfC.length = 2 := rfl
      unfold Lib.trimSuffix
      rw [if_pos hs]
      simp
      omega
    · rw [if_neg hs]; simp
theorem line_err {l : List UInt8} (h : (lnC l).e ≠ 0) : (lnC l).r = l ∧ (lnC l).t = [] := by
  rcases line_cases l with hn | ⟨k, hk, hkl, h256⟩
  · rw [line_short hn]
    split <;> simp
  · rw [line_at hk] at h ⊢
    by_cases hs : Lib.hasSuffix (l.take (k + 1)) crlfC = true
    · rw [if_pos hs] at h; simp at h
    · rw [if_neg hs]; simp

theorem numE_cases (t : List UInt8) (m : Int) : numE t m = 0 ∨ numE t m = 3 ∨ numE t m = 4 := by
  unfold numE
  have := unhex_range (numT t) m
  by_cases h0 : unhexE (numT t) m = 0
  · rw [h0]; split <;> simp
  · rcases (this.2 h0).2 with h | h <;> rw [h] <;> split <;> simp
theorem numV_range {t : List UInt8} {m : Int} (h : numE t m = 0) : 0 ≤ numV t m ∧ numV t m ≤ m := by
  unfold numE at h
  have := unhex_range (numT t) m
  by_cases h0 : unhexE (numT t) m = 0
  · exact this.1 h0
  · rcases (this.2 h0).2 with h1 | h1 <;> rw [h1] at h <;> split at h <;> simp at h
theorem parseE_cases (l : List UInt8) : parseE l = 0 ∨ parseE l = 3 := by unfold parseE; split <;> simp

/-- what a step's result says of the same step with more bytes behind -/
def Goes (f : Ck → Ck × Int) (c : Ck) (s : List UInt8) : Prop := ((f c).2 ≠ 17 → f (c.add s) = ((f c).1.add s, (f c).2)) ∧ ((f c).2 = 17 → f (c.add s) = f ((f c).1.add s))
theorem goes_line {f : Ck → Ck × Int} {c : Ck} {s : List UInt8} (g : Ck → LnR → Ck × Int) (hf : ∀ c, f c = if (lnC c.inp).e ≠ 0 then (c, (lnC c.inp).e) else g c (lnC c.inp)) (hg : ∀ t r, g (c.add s) ⟨t, 0, r ++ s⟩ = ((g c ⟨t, 0, r⟩).1.add s, (g c ⟨t, 0, r⟩).2) ∧ (g c ⟨t, 0, r⟩).2 ≠ 17) : Goes f c s := by
  unfold Goes
  by_cases h0 : (lnC c.inp).e = 0
  · have h1 : f c = g c (lnC c.inp) := by rw [hf, if_neg (by simp [h0])]
    have h2 := line_app c.inp s (by rw [h0]; decide)
    have h3 : f (c.add s) = g (c.add s) (lnC (c.inp ++ s)) := by rw [hf, if_neg (by show ¬ (lnC (c.inp ++ s)).e ≠ 0; rw [h2]; simp [h0])]; rfl
    have h4 : lnC c.inp = ⟨(lnC c.inp).t, 0, (lnC c.inp).r⟩ := by rw [← h0]
    obtain ⟨g1, g2⟩ := hg (lnC c.inp).t (lnC c.inp).r
    rw [← h4] at g1 g2
    rw [h1, h3, h2, h0]
    exact ⟨fun _ => g1, fun h => absurd h g2⟩
  · have h1 : f c = (c, (lnC c.inp).e) := by rw [hf, if_pos h0]
    rw [h1]
    refine ⟨fun h => ?_, fun _ => rfl⟩
    have h2 := line_app c.inp s h
    rw [hf, if_pos (by show (lnC (c.inp ++ s)).e ≠ 0; rw [h2]; exact h0)]
    show (c.add s, (lnC (c.inp ++ s)).e) = _
    rw [h2]
theorem goes_begin (c : Ck) (s : List UInt8) : Goes beginM c s := by
  refine goes_line (fun c L => if numE L.t ((c.most : Int) - c.dat.length) ≠ 0 then ({ c with inp := L.r }, numE L.t ((c.most : Int) - c.dat.length))
    else ({ c with inp := L.r, left := (numV L.t ((c.most : Int) - c.dat.length)).toNat, st := if numV L.t ((c.most : Int) - c.dat.length) = 0 then 3 else 1 }, 0)) (fun c => rfl) (fun t r => ?_)
  have hc := numE_cases t ((c.most : Int) - c.dat.length)
  by_cases h : numE t ((c.most : Int) - c.dat.length) = 0
  · exact ⟨by simp [h, Ck.add]; rfl, by simp [h]⟩
  · exact ⟨by simp [h, Ck.add], by simp [h]; omega⟩
theorem goes_trail (c : Ck) (s : List UInt8) : Goes trailM c s := by
  refine goes_line (fun c L => if L.t = [] then ({ c with inp := L.r, st := 4 }, 0)
    else if parseE L.t ≠ 0 then ({ c with inp := L.r }, parseE L.t)
    else ({ c with inp := L.r, flds := c.flds + 1 }, if 16 < c.flds + 1 then 4 else 0)) (fun c => rfl) (fun t r => ?_)
  have hc := parseE_cases t
  by_cases h1 : t = []
  · exact ⟨by simp [h1, Ck.add], by simp [h1]⟩
  · by_cases h : parseE t = 0
    · exact ⟨by simp [h1, h, Ck.add]; rfl, by simp [h1, h]; split <;> decide⟩
    · exact ⟨by simp [h1, h, Ck.add], by simp [h1, h]; omega⟩
theorem goes_close (c : Ck) (s : List UInt8) : Goes closeM c s := by
  unfold Goes
  by_cases h1 : c.inp.take 2 = crlfC.take c.inp.length
  · by_cases h2 : c.inp.length < 2
    · have e : closeM c = (c, 17) := by unfold closeM; rw [if_neg (by simp [h1]), if_pos h2]
      rw [e]
      exact ⟨fun h => absurd rfl h, fun _ => rfl⟩
    · have e : closeM c = ({ c with inp := c.inp.drop 2, st := 0 }, 0) := by unfold closeM; rw [if_neg (by simp [h1]), if_neg h2]
      rw [e]
      refine ⟨fun _ => ?_, fun h => by simp at h⟩
      have hk : (c.inp ++ s).take 2 = c.inp.take 2 := List.take_append_of_le_length (by omega)
      have hd : (c.inp ++ s).drop 2 = c.inp.drop 2 ++ s := List.drop_append_of_le_length (by omega)
      have h3 : crlfC.take (c.inp ++ s).length = crlfC.take c.inp.length := by
        rw [List.take_of_length_le (by simp [crlfC]; omega), List.take_of_length_le (by simp [crlfC]; omega)]
      show (if (c.inp ++ s).take 2 ≠ crlfC.take (c.inp ++ s).length then (c.add s, (3 : Int)) else if (c.inp ++ s).length < 2 then (c.add s, 17) else ({ c.add s with inp := (c.inp ++ s).drop 2, st := 0 }, 0)) = _
      rw [hk, h3, if_neg (by simp [h1]), if_neg (by simp; omega), hd]
      rfl
  · have e : closeM c = (c, 3) := by unfold closeM; rw [if_pos h1]
    rw [e]
    refine ⟨fun _ => ?_, fun h => by simp at h⟩
    show (if (c.inp ++ s).take 2 ≠ crlfC.take (c.inp ++ s).length then (c.add s, (3 : Int)) else if (c.inp ++ s).length < 2 then (c.add s, 17) else ({ c.add s with inp := (c.inp ++ s).drop 2, st := 0 }, 0)) = _
    rw [if_pos]
    · intro h
      apply h1
      have := congrArg (List.take c.inp.length) h
      rw [List.take_take, List.take_take] at this
      have e1 : min c.inp.length (c.inp ++ s).length = c.inp.length := by simp
      rw [e1] at this
      rw [← this]
      rcases Nat.lt_or_ge c.inp.length 2 with hl | hl
      · rw [Nat.min_eq_left (by omega), List.take_left, List.take_of_length_le (by omega)]
      · rw [Nat.min_eq_right hl, List.take_append_of_le_length hl]
theorem data_eq (c : Ck) (n : Nat) (hn : min c.left c.inp.length = n) : dataM c = if 0 < c.left - n then ({ c with inp := c.inp.drop n, dat := c.dat ++ c.inp.take n, left := c.left - n }, 17)
    else ({ c with inp := c.inp.drop n, dat := c.dat ++ c.inp.take n, left := c.left - n, st := 2 }, 0) := by subst hn; rfl
theorem goes_data (c : Ck) (s : List UInt8) : Goes dataM c s := by
  unfold Goes
  by_cases h : c.inp.length < c.left
  · have e : dataM c = ({ c with inp := [], dat := c.dat ++ c.inp, left := c.left - c.inp.length }, 17) := by
      rw [data_eq c c.inp.length (by omega), if_pos (by omega), List.drop_length, List.take_length]
    rw [e]
    refine ⟨fun h => absurd rfl h, fun _ => ?_⟩
    rw [data_eq (c.add s) (c.inp.length + min (c.left - c.inp.length) s.length) (by show min c.left (c.inp ++ s).length = _; rw [List.length_append]; omega),
      data_eq (({ c with inp := [], dat := c.dat ++ c.inp, left := c.left - c.inp.length } : Ck).add s) (min (c.left - c.inp.length) s.length) (by show min (c.left - c.inp.length) ([] ++ s).length = _; rw [List.nil_append])]
    have ht : (c.inp ++ s).take (c.inp.length + min (c.left - c.inp.length) s.length) = c.inp ++ s.take (min (c.left - c.inp.length) s.length) := by rw [List.take_length_add_append]
    have hd : (c.inp ++ s).drop (c.inp.length + min (c.left - c.inp.length) s.length) = s.drop (min (c.left - c.inp.length) s.length) := by rw [List.drop_length_add_append]
    show (if 0 < c.left - (c.inp.length + min (c.left - c.inp.length) s.length) then (({ c.add s with inp := (c.inp ++ s).drop (c.inp.length + min (c.left - c.inp.length) s.length), dat := c.dat ++ (c.inp ++ s).take (c.inp.length + min (c.left - c.inp.length) s.length), left := c.left - (c.inp.length + min (c.left - c.inp.length) s.length) } : Ck), (17 : Int))
      else ({ c.add s with inp := (c.inp ++ s).drop (c.inp.length + min (c.left - c.inp.length) s.length), dat := c.dat ++ (c.inp ++ s).take (c.inp.length + min (c.left - c.inp.length) s.length), left := c.left - (c.inp.length + min (c.left - c.inp.length) s.length), st := 2 }, 0)) = _
    rw [ht, hd, ← List.append_assoc, ← Nat.sub_sub]
    rfl
  · have e : dataM c = ({ c with inp := c.inp.drop c.left, dat := c.dat ++ c.inp.take c.left, left := 0, st := 2 }, 0) := by
      rw [data_eq c c.left (by omega), if_neg (by omega), Nat.sub_self]
    rw [e]
    refine ⟨fun _ => ?_, fun h => by simp at h⟩
    rw [data_eq (c.add s) c.left (by show min c.left (c.inp ++ s).length = _; rw [List.length_append]; omega), if_neg (by show ¬ 0 < c.left - c.left; omega)]
    show (({ c.add s with inp := (c.inp ++ s).drop c.left, dat := c.dat ++ (c.inp ++ s).take c.left, left := c.left - c.left, st := 2 } : Ck), (0 : Int)) = _
    rw [Nat.sub_self, List.take_append_of_le_length (by omega), List.drop_append_of_le_length (by omega)]
    rfl
theorem begin_st (c : Ck) : (beginM c).2 = 17 → (beginM c).1 = c := by
  unfold beginM
  split
  · intro _; rfl
  · split
    · have := numE_cases (lnC c.inp).t ((c.most : Int) - c.dat.length)
      intro h; simp only at h; omega
    · intro h; simp at h
theorem trail_st (c : Ck) : (trailM c).2 = 17 → (trailM c).1 = c := by
  unfold trailM
  split
  · intro _; rfl
  · split
    · intro h; simp at h
    · split
      · have := parseE_cases (lnC c.inp).t
        intro h; simp only at h; omega
      · intro h; simp only at h; split at h <;> simp at h
theorem close_st (c : Ck) : (closeM c).2 = 17 → (closeM c).1 = c := by
  unfold closeM
  split
  · intro h; simp at h
  · split
    · intro _; rfl
    · intro h; simp at h
theorem data_st (c : Ck) : (dataM c).2 = 17 → (dataM c).1.st = c.st := by
  unfold dataM
  split
  · intro _; rfl
  · intro h; simp at h
theorem goes_step (c : Ck) (s : List UInt8) : Goes stepM c s := by
  have key : ∀ (f : Ck → Ck × Int), Goes f c s → ((f c).2 = 17 → (f c).1.st = c.st) → (∀ d, d.st = c.st → stepM d = f d) → Goes stepM c s := by
    intro f hg hst hs
    unfold Goes at hg ⊢
    rw [hs c rfl]
    refine ⟨fun h => ?_, fun h => ?_⟩
    · rw [hs (c.add s) rfl]; exact hg.1 h
    · rw [hs (c.add s) rfl, hs ((f c).1.add s) (hst h)]; exact hg.2 h
  by_cases h0 : c.st = 0
  · exact key beginM (goes_begin c s) (fun h => by rw [begin_st c h]) (fun d hd => by unfold stepM; rw [if_pos (by omega)])
  by_cases h1 : c.st = 1
  · exact key dataM (goes_data c s) (fun h => data_st c h) (fun d hd => by unfold stepM; rw [if_neg (by omega), if_pos (by omega)])
  by_cases h2 : c.st = 2
  · exact key closeM (goes_close c s) (fun h => by rw [close_st c h]) (fun d hd => by unfold stepM; rw [if_neg (by omega), if_neg (by omega), if_pos (by omega)])
  by_cases h3 : c.st = 3
  · exact key trailM (goes_trail c s) (fun h => by rw [trail_st c h]) (fun d hd => by unfold stepM; rw [if_neg (by omega), if_neg (by omega), if_neg (by omega), if_pos (by omega)])
  · refine key (fun c => (c, 17)) ⟨fun h => absurd rfl h, fun _ => rfl⟩ (fun _ => rfl) (fun d hd => by unfold stepM; rw [if_neg (by omega), if_neg (by omega), if_neg (by omega), if_neg (by omega)])

/-- what a chunk may be -/
def Ck.ok (c : Ck) : Prop := c.left + c.dat.length ≤ c.most ∧ c.flds ≤ 16 ∧ c.st ≤ 4
def Ck.mu (c : Ck) : Nat := 2 * c.inp.length + (if c.st = 1 then 1 else 0)
theorem begin_ok {c : Ck} (h : c.ok) (_h0 : c.st = 0) : ((beginM c).2 = 0 → (beginM c).1.mu < c.mu) ∧ (beginM c).1.ok ∧ (beginM c).1.most = c.most ∧ (beginM c).1.err = c.err ∧ (beginM c).1.inp.length + (beginM c).1.dat.length ≤ c.inp.length + c.dat.length ∧ c.dat <+: (beginM c).1.dat := by
  obtain ⟨h1, h2, h3⟩ := h
  have hl := line_le c.inp
  unfold beginM
  split
  · exact ⟨fun hh => absurd hh (by assumption), ⟨h1, h2, h3⟩, rfl, rfl, Nat.le_refl _, List.prefix_refl _⟩
  · rename_i he
    have he : (lnC c.inp).e = 0 := by simpa using he
    have hl2 := hl.2.1 he
    split
    · exact ⟨fun hh => absurd hh (by assumption), ⟨h1, h2, h3⟩, rfl, rfl, by simp only; omega, List.prefix_refl _⟩
    · rename_i hn
      have hn : numE (lnC c.inp).t ((c.most : Int) - c.dat.length) = 0 := by simpa using hn
      have hv := numV_range hn
      refine ⟨fun _ => ?_, ⟨?_, h2, ?_⟩, rfl, rfl, by simp only; omega, List.prefix_refl _⟩
      · unfold Ck.mu; simp only; split <;> split <;> omega
      · simp only; omega
      · simp only; split <;> omega
theorem trail_ok {c : Ck} (h : c.ok) (h0 : c.st = 3) : ((trailM c).2 = 0 → (trailM c).1.mu < c.mu) ∧ ((trailM c).2 = 0 ∨ (trailM c).2 = 17 → (trailM c).1.ok) ∧ (trailM c).1.most = c.most ∧ (trailM c).1.err = c.err ∧ (trailM c).1.inp.length + (trailM c).1.dat.length ≤ c.inp.length + c.dat.length ∧ c.dat <+: (trailM c).1.dat := by
  obtain ⟨h1, h2, h3⟩ := h
  have hl := line_le c.inp
  unfold trailM
  split
  · exact ⟨fun hh => absurd hh (by assumption), fun _ => ⟨h1, h2, h3⟩, rfl, rfl, Nat.le_refl _, List.prefix_refl _⟩
  · rename_i he
    have he : (lnC c.inp).e = 0 := by simpa using he
    have hl2 := hl.2.1 he
    have hmu : c.mu = 2 * c.inp.length := by unfold Ck.mu; rw [if_neg (by omega)]; omega
    split
    · exact ⟨fun _ => by rw [hmu]; unfold Ck.mu; simp; omega, fun _ => ⟨h1, h2, by simp only; omega⟩, rfl, rfl, by simp only; omega, List.prefix_refl _⟩
    · split
      · exact ⟨fun hh => absurd hh (by assumption), fun _ => ⟨h1, h2, h3⟩, rfl, rfl, by simp only; omega, List.prefix_refl _⟩
      · refine ⟨fun _ => by rw [hmu]; unfold Ck.mu; simp only; rw [if_neg (by omega)]; omega, fun hh => ⟨h1, ?_, h3⟩, rfl, rfl, by simp only; omega, List.prefix_refl _⟩
        simp only at hh ⊢
        split at hh
        · rcases hh with hh | hh <;> simp at hh
        · omega
theorem close_ok {c : Ck} (h : c.ok) (h0 : c.st = 2) : ((closeM c).2 = 0 → (closeM c).1.mu < c.mu) ∧ (closeM c).1.ok ∧ (closeM c).1.most = c.most ∧ (closeM c).1.err = c.err ∧ (closeM c).1.inp.length + (closeM c).1.dat.length ≤ c.inp.length + c.dat.length ∧ c.dat <+: (closeM c).1.dat := by
  obtain ⟨h1, h2, h3⟩ := h
  unfold closeM
  split
  · exact ⟨fun hh => by simp at hh, ⟨h1, h2, h3⟩, rfl, rfl, Nat.le_refl _, List.prefix_refl _⟩
  · split
    · exact ⟨fun hh => by simp at hh, ⟨h1, h2, h3⟩, rfl, rfl, Nat.le_refl _, List.prefix_refl _⟩
    · refine ⟨fun _ => ?_, ⟨h1, h2, by simp only; omega⟩, rfl, rfl, by simp only [List.length_drop]; omega, List.prefix_refl _⟩
      unfold Ck.mu
      simp only [List.length_drop]
      rw [if_neg (by omega), if_neg (by omega)]
      omega
theorem data_ok {c : Ck} (h : c.ok) (h0 : c.st = 1) : ((dataM c).2 = 0 → (dataM c).1.mu < c.mu) ∧ (dataM c).1.ok ∧ (dataM c).1.most = c.most ∧ (dataM c).1.err = c.err ∧ (dataM c).1.inp.length + (dataM c).1.dat.length ≤ c.inp.length + c.dat.length ∧ c.dat <+: (dataM c).1.dat := by
  obtain ⟨h1, h2, h3⟩ := h
  unfold dataM
  split
  · refine ⟨fun hh => by simp at hh, ⟨?_, h2, h3⟩, rfl, rfl, ?_, List.prefix_append _ _⟩
    · simp only [List.length_append, List.length_take]; omega
    · simp only [List.length_append, List.length_take, List.length_drop]; omega
  · refine ⟨fun _ => ?_, ⟨?_, h2, by simp only; omega⟩, rfl, rfl, ?_, List.prefix_append _ _⟩
    · unfold Ck.mu; simp only [List.length_drop]; rw [if_neg (by omega), if_pos h0]; omega
    · simp only [List.length_append, List.length_take]; omega
    · simp only [List.length_append, List.length_take, List.length_drop]; omega
theorem step_ok {c : Ck} (h : c.ok) : ((stepM c).2 = 0 → (stepM c).1.mu < c.mu) ∧ ((stepM c).2 = 0 ∨ (stepM c).2 = 17 → (stepM c).1.ok) ∧ (stepM c).1.most = c.most ∧ (stepM c).1.err = c.err ∧ (stepM c).1.inp.length + (stepM c).1.dat.length ≤ c.inp.length + c.dat.length ∧ c.dat <+: (stepM c).1.dat := by
  unfold stepM
  split
  · have := begin_ok h (by assumption); exact ⟨this.1, fun _ => this.2.1, this.2.2⟩
  split
  · have := data_ok h (by assumption); exact ⟨this.1, fun _ => this.2.1, this.2.2⟩
  split
  · have := close_ok h (by assumption); exact ⟨this.1, fun _ => this.2.1, this.2.2⟩
  split
  · exact trail_ok h (by assumption)
  · exact ⟨fun hh => by simp at hh, fun _ => h, rfl, rfl, Nat.le_refl _, List.prefix_refl _⟩

/-- steps till one stops -/
inductive Runs : Ck → Ck → Int → Prop
  | stop {c : Ck} : (stepM c).2 ≠ 0 → Runs c (stepM c).1 (stepM c).2
  | more {c d : Ck} {e : Int} : (stepM c).2 = 0 → Runs (stepM c).1 d e → Runs c d e
theorem runs_ne {c d : Ck} {e : Int} (h : Runs c d e) : e ≠ 0 := by
  induction h with
  | stop h => exact h
  | more _ _ ih => exact ih
theorem runs_det {c d d' : Ck} {e e' : Int} (h : Runs c d e) (h' : Runs c d' e') : d = d' ∧ e = e' := by
  induction h with
  | stop h => cases h' with
    | stop _ => exact ⟨rfl, rfl⟩
    | more k _ => exact absurd k h
  | more h _ ih => cases h' with
    | stop k => exact absurd h k
    | more _ k => exact ih k
theorem runs_ex : ∀ (n : Nat) (c : Ck), c.ok → c.mu ≤ n → ∃ d e, Runs c d e
  | n, c, h, hn => by
    by_cases h0 : (stepM c).2 = 0
    · have hs := step_ok h
      have hm := hs.1 h0
      match n, hn with
      | 0, hn => omega
      | n + 1, hn =>
        obtain ⟨d, e, hr⟩ := runs_ex n (stepM c).1 (hs.2.1 (.inl h0)) (by omega)
        exact ⟨d, e, .more h0 hr⟩
    · exact ⟨_, _, .stop h0⟩
theorem runs_of {x y d : Ck} {e : Int} (hxy : stepM x = stepM y) (h : Runs y d e) : Runs x d e := by
  cases h with
  | stop h => rw [← hxy] at h ⊢; exact .stop h
  | more h k => rw [← hxy] at h k; exact .more h k
theorem runs_app {c d : Ck} {e : Int} (h : Runs c d e) (s : List UInt8) : (e ≠ 17 → Runs (c.add s) (d.add s) e) ∧ (e = 17 → ∀ d' e', Runs (d.add s) d' e' → Runs (c.add s) d' e') := by
  induction h with
  | @stop c h =>
    have hg := goes_step c s
    refine ⟨fun h17 => ?_, fun h17 d' e' hr => runs_of (hg.2 h17) hr⟩
    have := hg.1 h17
    have hs : Runs (c.add s) (stepM (c.add s)).1 (stepM (c.add s)).2 := .stop (by rw [this]; exact h)
    rw [this] at hs
    exact hs
  | @more c d e h hr ih =>
    have hg := (goes_step c s).1 (by rw [h]; decide)
    have h0 : (stepM (c.add s)).2 = 0 := by rw [hg]; exact h
    have h1 : (stepM (c.add s)).1 = (stepM c).1.add s := by rw [hg]
    refine ⟨fun h17 => .more h0 (by rw [h1]; exact ih.1 h17), fun h17 d' e' hr => .more h0 (by rw [h1]; exact ih.2 h17 d' e' hr)⟩
theorem runs_ok {c d : Ck} {e : Int} (h : Runs c d e) (hc : c.ok) : (e = 17 → d.ok) ∧ d.most = c.most ∧ d.err = c.err ∧ d.inp.length + d.dat.length ≤ c.inp.length + c.dat.length ∧ c.dat <+: d.dat := by
  induction h with
  | stop h => have := step_ok hc; exact ⟨fun h17 => this.2.1 (.inr h17), this.2.2⟩
  | more h _ ih =>
    have hs := step_ok hc
    obtain ⟨i1, i2, i3, i4, i5⟩ := ih (hs.2.1 (.inl h))
    exact ⟨i1, i2.trans hs.2.2.1, i3.trans hs.2.2.2.1, Nat.le_trans i4 hs.2.2.2.2.1, hs.2.2.2.2.2.trans i5⟩
end Go.Proofs.YtpimfoohpfkciaaDoor

/- strings.Builder as this cut has it, at any place of a block of the call's own: copyCheck, WriteString. No conditions but on lengths. -/
namespace Go.Proofs.YtpimfoohpfkciaaDoor
open Go.RowKit Go.Shelf

/-- a builder lies in block b from cell o on, its bytes l in v -/
structure Bd (B : Nat) (w : World) (b o : Nat) (T : TypeId) (cs : List Value) (v : Value) (l : List UInt8) : Prop where
  blk : Blk w b T cs
  ad : cs[o]? = some (.pointer none) ∨ cs[o]? = some (.pointer (some ⟨b, o, none⟩))
  buf : cs[o + 1]? = some v
  own : Own byteC 1 B 5 w v l
  ne : v.ownBlock ≠ some b
/-- a builder may lie there in a block of type T -/
def Lies (T : TypeId) (n o : Nat) : Prop := liesAt Tryd.prog Tryd.prog.depth T (n / Tryd.prog.cellsOf T) o 83 1 = true ∧ o + 1 < n
theorem lies_own : Lies 83 2 0 := ⟨by kernel_rfl, by omega⟩
theorem bld_info : ∃ j, Tryd.prog.info? 83 = some j ∧ j.size = 2 := by
  have : (Tryd.prog.info? 83).map (·.size) = some 2 := by kernel_rfl
  cases h : Tryd.prog.info? 83 with
  | none => rw [h] at this; cases this
  | some j => exact ⟨j, rfl, by rw [h] at this; simpa using this⟩
theorem u8_info : ∃ i, Tryd.prog.info? 5 = some i ∧ i.zero = some (.int .u8 0) ∧ i.size = 1 ∧ i.bytes = 1 := by
  have : (Tryd.prog.info? 5).map (fun i => (i.zero, i.size, i.bytes)) = some (some (.int .u8 0), 1, 1) := by kernel_rfl
  cases h : Tryd.prog.info? 5 with
  | none => rw [h] at this; cases this
  | some i => rw [h] at this; simp at this; exact ⟨i, rfl, this⟩
theorem rows_bytes (l : List UInt8) : rows byteC l = Lib.byteCells l := by
  induction l with
  | nil => rfl
  | cons c r ih => show byteC c ++ rows byteC r = _; rw [ih]; rfl

theorem append_string_at {P : Program} {w : World} (base : Nat) (t u ty e : TypeId) (i : TypeInfo) (ht : P.underlying t = some (.slice e)) (hu : P.underlying u = some .string) (hi : P.info? e = some i) (hz : i.zero = some (.int .u8 0))
    (hsize : i.size = 1) (hby : i.bytes = 1) (v : Value) (n : Nat) (xs : List Value) (hown : w.ownsRow base e 1 v n xs) (s : ByteArray)
    (h63 : n + s.size ≤ maxLen) (hbytes : n + s.size ≤ 140737488355328) (hbase : base ≤ w.heap.size) :
    ∃ v' w', (Builtin.append_ #[t, u] ty #[v, .string s]).run P w = .ok v' w' ∧ w'.ownsRow base e 1 v' (n + s.size) (xs ++ Lib.strCells s) ∧ w.grownBy w' v.ownBlock ∧
      (v'.ownBlock = v.ownBlock ∨ ∃ g, v'.ownBlock = some g ∧ w.heap.size ≤ g) := by
  obtain ⟨v', w', hr, h2, h3, _⟩ := Lib.run_append_own_string (P := P) w base t u ty e i ht hu hi hz hsize hby v n xs hown s h63 hbytes hbase
  refine ⟨v', w', hr, h2, h3, ?_⟩
  have hown0 := hown
  rcases hown.2 with ⟨rfl, rfl⟩ | ⟨g, cap, cur, rfl, hbg, hg, hnc, hcm, hcs, htake⟩
  · obtain ⟨v2, w2, hr2, k2, _, _⟩ := Lib.run_append_own_string (P := P) w w.heap.size t u ty e i ht hu hi hz hsize hby (.slice none 0 0) 0 xs ⟨hown.1, .inl ⟨rfl, rfl⟩⟩ s h63 hbytes (Nat.le_refl _)
    rw [hr] at hr2
    injection hr2 with e1 e2
    subst e1
    cases hb : v'.ownBlock with
    | none => exact .inl rfl
    | some g => exact .inr ⟨g, rfl, (World.ownsRow.lt k2 g hb).1⟩
  · by_cases hroom : n + s.size ≤ cap
    · have hr2 := Lib.run_append_room_string (P := P) w t u ty e i ht hu hi hsize g n cap cur hg s hroom (by have := hcs; simp at this; omega)
      rw [hr] at hr2
      injection hr2 with e1 e2
      subst e1
      exact .inl rfl
    · have hsmall : n + s.size ≤ 9223372036854775807 := h63
      have hr2 := Lib.run_append_grow_string (P := P) w t u ty e i (.int .u8 0) ht hu hi hz ⟨g, 0, none⟩ n cap xs (by rw [hsize]; simpa using hown0.1) (World.ownsRow.cells hown0 (g := g) rfl) s (by omega) (by omega) (by rw [hby]; exact growslice_fits (by omega) (by omega))
      rw [hr] at hr2
      injection hr2 with e1 e2
      subst e1
      exact .inr ⟨w.heap.size, rfl, Nat.le_refl _⟩
theorem wpList_append_string_at {P : Program} {ops : Array Oper} {rest : List Oper} {o : Oper} {a : Act} {w : World} {Q : Exit → Act → World → Prop} (hgd : o.guard = none) (sl x : Operand) (t u : TypeId)
    (ho : o.op = .call { callee := .builtin .append, args := #[sl, x], argTypes := #[t, u] })
    (base : Nat) (e : TypeId) (i : TypeInfo) (ht : P.underlying t = some (.slice e)) (hu : P.underlying u = some .string) (hi : P.info? e = some i) (hz : i.zero = some (.int .u8 0))
    (hsize : i.size = 1) (hby : i.bytes = 1)
    (v : Value) (n : Nat) (xs : List Value) (hs : a.eval sl = v) (hown : w.ownsRow base e 1 v n xs) (s : ByteArray) (hx : a.eval x = .string s)
    (h63 : n + s.size ≤ maxLen) (hbytes : n + s.size ≤ 140737488355328) (hbase : base ≤ w.heap.size)
    (h : ∀ v' w', w'.ownsRow base e 1 v' (n + s.size) (xs ++ Lib.strCells s) → w.grownBy w' v.ownBlock → (v'.ownBlock = v.ownBlock ∨ ∃ g, v'.ownBlock = some g ∧ w.heap.size ≤ g) → wpList P ops Q rest (a.put o.dst v') w') : wpList P ops Q (o :: rest) a w := by
  refine wpList_plain hgd fun K hK => ?_
  obtain ⟨v', w', hr, h2, h3, h4⟩ := append_string_at (P := P) (w := w) base t u o.type e i ht hu hi hz hsize hby v n xs hown s h63 hbytes hbase
  unfold Oper.wp execOp
  simp only [ho, resolve, invoke, builtin, Sem.run_bind, Sem.run_pure, Result.andThen_ok, List.map_toArray, List.map_cons, List.map_nil, hs, hx, hr]
  exact hK _ _ (h v' w' h2 h3 h4)

set_option maxHeartbeats 1000000 in
set_option maxRecDepth 100000 in
theorem bld_copyCheck (b o : Nat) (T : TypeId) (cs : List Value) (w : World) (hb : Blk w b T cs) (hl : Lies T cs.length o) (had : cs[o]? = some (.pointer none) ∨ cs[o]? = some (.pointer (some ⟨b, o, none⟩))) :
    Calls Tryd.prog 88 #[.pointer (some ⟨b, o, none⟩)] w fun e w' => e = .returned (.tuple #[]) ∧ Blk w' b T (cs.set o (.pointer (some ⟨b, o, none⟩))) ∧ Keep [b] w w' := by
  obtain ⟨j, hj, hjs⟩ := bld_info
  have hu82 := Tryd.underlying81
  have hu112 := Tryd.underlying123
  rcases had with h0 | h0
  · have c0 := hb.get h0
    have f0 := hb.frozen o
    have hsh : w.shape? b = some (T, cs.length) := by
      have : w.heap[b]? = some (.cells cs.toArray T (0, 0)) := hb
      simp [World.shape?, this]
    have hk : Keep [b] w (w.setCell ⟨b, o, none⟩ (.pointer (some ⟨b, o, none⟩))) := (Keep.refl _ _).setCell _ _ (by simp)
    have hb' := hb.set o (.pointer (some ⟨b, o, none⟩))
    have HP := Lib.hid (And.intro hb' hk)
    have HB := Lib.hid hb
    clear hb' hk hb
    go_enter Tryd.func88, Tryd.ntmps88
    go_wp2_with fail
    rw [Lib.run_to_unsafe w ⟨b, o, none⟩ hu82 hu112 hj (by rw [hjs]; decide) hsh (by have := hl.2; show o < _; omega)]
    simp only [Result.andThen]
    rw [Oper.upon_value]
    go_wp2_with fail
    rw [run_callFunc_extern Tryd.func92 (by kernel_rfl) (by kernel_rfl) (by kernel_rfl) (e := Extern.AbiNoEscape.same) (by kernel_rfl)]
    rw [Lib.run_noEscape]
    simp only [Result.andThen]
    rw [Oper.upon_value]
    go_wp2_with fail
    rw [Lib.run_from_unsafe w ⟨b, o, none⟩ hu112 hu82 hj hsh hl.1]
    simp only [Result.andThen]
    rw [Oper.upon_value]
    have g0 := HP.out.1.get (k := o) (v := .pointer (some ⟨b, o, none⟩)) (by rw [List.getElem?_set_self (by have := hl.2; omega)])
    go_wp2_with fail
    go_end0
    exact ⟨rfl, HP.out.1, HP.out.2⟩
  · have c0 := hb.get h0
    have hcs : cs.set o (.pointer (some ⟨b, o, none⟩)) = cs := list_set_self _ _ _ h0
    rw [hcs]
    have HB := Lib.hid hb
    clear hb hcs h0
    go_enter Tryd.func88, Tryd.ntmps88
    go_wp2_with fail
    rw [Lib.run_neq_ptr_same w _ hu82 hj]
    go_wp2_with fail
    go_end0
    exact ⟨rfl, HB.out, Keep.refl _ _⟩

set_option maxHeartbeats 1000000 in
set_option maxRecDepth 100000 in
theorem bld_Write {B b o : Nat} {T : TypeId} {cs : List Value} {v : Value} {l : List UInt8} {w : World} (s : List UInt8) (h : Bd B w b o T cs v l) (hl : Lies T cs.length o) (hB : B ≤ w.heap.size) (hlen : l.length + s.length ≤ 140737488355328) :
    Calls Tryd.prog 82 #[.pointer (some ⟨b, o, none⟩), .string (S s)] w fun e w' => e = .returned (.tuple #[.int .i64 (s.length : Nat), .nilIface]) ∧
      ∃ v', Bd B w' b o T ((cs.set o (.pointer (some ⟨b, o, none⟩))).set (o + 1) v') v' (l ++ s) ∧ Keep (b :: v.ownBlock.toList) w w' ∧ (v'.ownBlock = v.ownBlock ∨ ∃ g, v'.ownBlock = some g ∧ w.heap.size ≤ g) := by
  obtain ⟨i, hi, hz, h1, h2⟩ := u8_info
  have hC := Lib.hid (bld_copyCheck b o T cs w h.blk hl h.ad)
  have hsz := S_size s
  have H := Lib.hid h
  clear h
  go_enter Tryd.func82, Tryd.ntmps82
  go_wp2_with fail
  refine hC.out.mono ?_
  rintro e w1 ⟨rfl, hb1, hk1⟩
  have hown1 : Own byteC 1 B 5 w1 v l := H.out.own.keep hk1 (fun g hg => by
    simp only [List.mem_singleton]
    rintro rfl
    exact H.out.ne hg)
  have c1 := hb1.get (k := o + 1) (v := v) (by rw [List.getElem?_set_ne (by omega)]; exact H.out.buf)
  have hor := hown1
  unfold Own at hor
  rw [rows_bytes] at hor
  have HO := Lib.hid hor
  have HB1 := Lib.hid hb1
  have HK1 := Lib.hid hk1
  clear hor hown1 hb1 hk1
  go_wp2_with (at_builtin; go_must (refine wpList_append_string_at rfl _ _ 62 9 rfl B 5 i Tryd.underlying62 Tryd.underlying9 hi hz h1 h2 v l.length (Lib.byteCells l) rfl HO.out (S s) rfl (by rw [hsz]; unfold maxLen; omega) (by rw [hsz]; exact hlen) (by have := HK1.out.size; omega) ?_))
  intro v' w2 hown' hgrow hat
  have hbl := HB1.out.lt
  have hb2 : Blk w2 b T (cs.set o (.pointer (some ⟨b, o, none⟩))) := by
    unfold Blk
    rw [hgrow.block b hbl (fun e => H.out.ne e.symm)]
    exact HB1.out
  have d1 := hb2.get (k := o + 1) (v := v) (by rw [List.getElem?_set_ne (by omega)]; exact H.out.buf)
  have f1 := hb2.frozen (o + 1)
  have hb3 := hb2.set (o + 1) v'
  have hne' : v'.ownBlock ≠ some b := by
    rcases hat with e | ⟨g, e, hg⟩
    · rw [e]; exact H.out.ne
    · rw [e]; intro e'; injection e' with e'; omega
  have hown2 : Own byteC 1 B 5 w2 v' (l ++ s) := by
    unfold Own
    rw [rows_bytes, List.length_append]
    try rw [hsz] at hown'
    have e : Lib.byteCells (l ++ s) = Lib.byteCells l ++ Lib.strCells (S s) := by unfold Lib.byteCells; rw [List.map_append]; rfl
    rw [e]
    exact hown'
  have hown3 : Own byteC 1 B 5 (w2.setCell ⟨b, o + 1, none⟩ v') v' (l ++ s) := hown2.keep (S := [b]) ((Keep.refl _ _).setCell _ _ (by simp)) (fun g hg => by
    simp only [List.mem_singleton]
    rintro rfl
    exact hne' hg)
  have hkk : Keep (b :: v.ownBlock.toList) w (w2.setCell ⟨b, o + 1, none⟩ v') := ((HK1.out.mono (by simp)).grown hgrow (fun k hk _ => by simp [hk])).setCell _ _ (by simp)
  have hat' : v'.ownBlock = v.ownBlock ∨ ∃ g, v'.ownBlock = some g ∧ w.heap.size ≤ g := by
    rcases hat with e | ⟨g, e, hg⟩
    · exact .inl e
    · exact .inr ⟨g, e, Nat.le_trans HK1.out.size hg⟩
  have HF := Lib.hid (And.intro hb3 (And.intro hne' (And.intro hown3 (And.intro hkk hat'))))
  obtain ⟨ao, n', cap, rfl⟩ : ∃ ao n' cap, v' = .slice ao n' cap := by
    rcases hown'.2 with ⟨hv, _⟩ | ⟨g, cap, cur, hv, _⟩
    · exact ⟨_, _, _, hv⟩
    · exact ⟨_, _, _, hv⟩
  clear hb3 hne' hown3 hown2 hkk hat hat' hgrow hown' hb2
  have h20 : (cs.set o (.pointer (some ⟨b, o, none⟩)))[o]? = some (.pointer (some ⟨b, o, none⟩)) := by rw [List.getElem?_set_self (by have := hl.2; omega)]
  go_wp2_with fail
  go_ret2
  refine ⟨by rw [← hsz]; rfl, _, ⟨HF.out.1, .inr ?_, ?_, HF.out.2.2.1, HF.out.2.1⟩, HF.out.2.2.2.1, HF.out.2.2.2.2⟩
  · rw [List.getElem?_set_ne (by omega)]
    exact h20
  · rw [List.getElem?_set_self (by simpa using hl.2)]
/-- as the library's contracts have it -/
theorem Bd.lib {B b : Nat} {cs : List Value} {v : Value} {l : List UInt8} {w : World} (h : Bd B w b 0 83 cs v l) (hc : cs.length = 2) (hb : B ≤ b) : Lib.IsBuilder 83 5 B b (Lib.byteCells l) w := by
  obtain ⟨p, q, rfl⟩ : ∃ p q, cs = [p, q] := by
    match cs, hc with
    | [p, q], _ => exact ⟨p, q, rfl⟩
  have hq : q = v := by have := h.buf; simpa using this
  subst hq
  have hown := h.own
  unfold Own at hown
  rw [rows_bytes, ← Lib.byteCells_length l] at hown
  rcases h.ad with e | e
  · simp at e
    subst e
    exact .inl ⟨hb, q, h.blk, hown, h.ne⟩
  · simp at e
    subst e
    exact .inr ⟨hb, q, h.blk, hown, h.ne⟩
/-- a builder of the call's own -/
def Bld (w0 w : World) (b : Nat) (l : List UInt8) : Prop := ∃ cs v, Bd w0.heap.size w b 0 83 cs v l ∧ cs.length = 2 ∧ w0.heap.size ≤ b ∧ Keep [] w0 w
theorem Bd.keep {B b o : Nat} {T : TypeId} {cs : List Value} {v : Value} {l : List UInt8} {w w' : World} {S : List Nat} (h : Bd B w b o T cs v l) (k : Keep S w w') (hb : b ∉ S) (hv : ∀ g, v.ownBlock = some g → g ∉ S) : Bd B w' b o T cs v l :=
  ⟨k.blk h.blk hb, h.ad, h.buf, h.own.keep k hv, h.ne⟩
theorem Bld.keep0 {w0 w w' : World} {b : Nat} {l : List UInt8} (h : Bld w0 w b l) (k : Keep [] w w') : Bld w0 w' b l := by
  obtain ⟨cs, v, h1, h2, h3, h4⟩ := h
  exact ⟨cs, v, h1.keep k (by simp) (by simp), h2, h3, h4.trans k⟩
theorem Bld.kept {w0 w : World} {b : Nat} {l : List UInt8} (h : Bld w0 w b l) : Keep [] w0 w := let ⟨_, _, _, _, _, h4⟩ := h; h4
theorem bld_new {w0 w : World} (k : Keep [] w0 w) : Bld w0 (w.alloc (.cells #[.pointer none, .slice none 0 0] 83)) w.heap.size [] :=
  ⟨[.pointer none, .slice none 0 0], .slice none 0 0, ⟨Blk.newA w _ _, .inl rfl, rfl, Own.nil _ _ _ _ _, by simp [Value.ownBlock]⟩, rfl, k.size, k.alloc _⟩
theorem bld_write {w0 w : World} {b : Nat} {l : List UInt8} (h : Bld w0 w b l) (s : List UInt8) (hlen : l.length + s.length ≤ 140737488355328) :
    Calls Tryd.prog 82 #[.pointer (some ⟨b, 0, none⟩), .string (S s)] w fun e w' => e = .returned (.tuple #[.int .i64 (s.length : Nat), .nilIface]) ∧ Bld w0 w' b (l ++ s) := by
  obtain ⟨cs, v, h1, h2, h3, h4⟩ := h
  refine (bld_Write s h1 (by rw [h2]; exact lies_own) h4.size hlen).mono ?_
  rintro e w' ⟨rfl, v', k1, k2, _⟩
  exact ⟨rfl, _, v', k1, by simpa using h2, h3, h4.trans' k2 (fun x hx hl => by
    rcases List.mem_cons.1 hx with rfl | hx
    · omega
    · have := (h1.own.lt x (by simpa using hx)).1; omega)⟩
end Go.Proofs.YtpimfoohpfkciaaDoor

/- Layer 11: a chunked body's reader in memory; its line, isRest. No conditions but on lengths. -/
namespace Go.Proofs.YtpimfoohpfkciaaDoor
open Go.RowKit Go.Shelf

def ckC (c : Ck) (ad v : Value) : List Value := [.int .i64 (c.st : Nat), .int .i64 (c.left : Nat), .int .i64 (c.most : Nat), .int .i64 (c.flds : Nat), .string (S c.inp), ad, v, .int .i64 (c.dat.length : Nat), .int .i64 c.err]
theorem ck_lies : Lies 85 9 5 := ⟨by kernel_rfl, by omega⟩
/-- a reader of a chunked body lies in block b, its builder's bytes in v; of its data, p was taken -/
def Ct (B : Nat) (w : World) (b : Nat) (p : List UInt8) (c : Ck) (v : Value) : Prop := ∃ ad o, Bd B w b 5 85 (ckC c ad v) v o ∧ c.dat = p ++ o
theorem Ct.keep {B b : Nat} {w w' : World} {p : List UInt8} {c : Ck} {v : Value} {S : List Nat} (h : Ct B w b p c v) (k : Keep S w w') (hb : b ∉ S) (hv : ∀ g, v.ownBlock = some g → g ∉ S) : Ct B w' b p c v := by
  obtain ⟨ad, o, h1, h2⟩ := h
  exact ⟨ad, o, h1.keep k hb hv, h2⟩
theorem Ct.keep0 {B b : Nat} {w w' : World} {p : List UInt8} {c : Ck} {v : Value} (h : Ct B w b p c v) (k : Keep [] w w') : Ct B w' b p c v := h.keep k (by simp) (by simp)
theorem Ct.drew {B b : Nat} {w : World} {p : List UInt8} {c : Ck} {v : Value} (h : Ct B w b p c v) : Ct B w.drew b p c v := h.keep0 ((Keep.refl [] w).drew)
theorem Ct.cells {B b : Nat} {w : World} {p : List UInt8} {c : Ck} {v : Value} (h : Ct B w b p c v) : ∃ ad, Blk w b 85 (ckC c ad v) := let ⟨ad, _, h1, _⟩ := h; ⟨ad, h1.blk⟩
/-- a cell of a reader is stored -/
theorem Ct.set {B b : Nat} {w : World} {p : List UInt8} {c c' : Ck} {v : Value} (h : Ct B w b p c v) (k : Nat) (x : Value) (hc : ∀ ad, (ckC c ad v).set k x = ckC c' ad v) (hd : c'.dat = c.dat) : Ct B (w.setCell ⟨b, k, none⟩ x) b p c' v := by
  obtain ⟨ad, o, h1, h2⟩ := h
  refine ⟨ad, o, ⟨?_, ?_, rfl, ?_, h1.ne⟩, hd.trans h2⟩
  · rw [← hc ad]; exact h1.blk.set k x
  · have := h1.ad
    simpa [ckC] using this
  · exact h1.own.keep (S := [b]) ((Keep.refl _ _).setCell _ _ (by simp)) (fun g hg => by
      simp only [List.mem_singleton]
      rintro rfl
      exact h1.ne hg)
theorem Ct.at {B b : Nat} {w : World} {p : List UInt8} {c : Ck} {v : Value} (h : Ct B w b p c v) : w.cell? ⟨b, 0, none⟩ = some (.int .i64 (c.st : Nat)) ∧ w.cell? ⟨b, 1, none⟩ = some (.int .i64 (c.left : Nat)) ∧ w.cell? ⟨b, 2, none⟩ = some (.int .i64 (c.most : Nat)) ∧ w.cell? ⟨b, 3, none⟩ = some (.int .i64 (c.flds : Nat)) ∧
    w.cell? ⟨b, 4, none⟩ = some (.string (S c.inp)) ∧ w.cell? ⟨b, 7, none⟩ = some (.int .i64 (c.dat.length : Nat)) ∧ w.cell? ⟨b, 8, none⟩ = some (.int .i64 c.err) := by
  obtain ⟨ad, h1⟩ := h.cells
  exact ⟨h1.get rfl, h1.get rfl, h1.get rfl, h1.get rfl, h1.get rfl, h1.get rfl, h1.get rfl⟩
theorem Ct.free {B b : Nat} {w : World} {p : List UInt8} {c : Ck} {v : Value} (h : Ct B w b p c v) (k : Nat) : w.frozen? ⟨b, k, none⟩ = false := let ⟨_, h1⟩ := h.cells; h1.frozen k

theorem idx_n {l : List UInt8} {m : Nat} {w : World} (_hm : m ≤ l.length) : Calls Tryd.prog 41 #[.string ((S l).extract 0 m), .int .u8 10] w fun e w' => e = .returned (.int .i64 (Lib.indexByte (l.take m) 10)) ∧ w' = w := by
  have h := Tryd.strings_IndexByte ((S l).extract 0 m) 10 w
  rw [S_extract, List.drop_zero] at h ⊢
  exact h

set_option maxRecDepth 100000 in
set_option maxHeartbeats 1000000 in
theorem chunk_line (B b : Nat) (p : List UInt8) (c : Ck) (v : Value) (w : World) (h : Ct B w b p c v) (hl : c.inp.length ≤ 1048576) :
    Calls Tryd.prog 78 #[.pointer (some ⟨b, 0, none⟩)] w fun e w' => e = .returned (.tuple #[.string (S (lnC c.inp).t), .int .i64 (lnC c.inp).e]) ∧ Ct B w' b p { c with inp := (lnC c.inp).r } v ∧ Keep [b] w w' := by
  have sz := S_size c.inp
  obtain ⟨_, _, _, _, c4, _, _⟩ := h.at
  have H := Lib.hid h
  have hI := fun w1 => idx_n (l := c.inp) (m := min c.inp.length 256) (w := w1) (Nat.min_le_left _ _)
  have e256 : c.inp.take (min c.inp.length 256) = c.inp.take 256 := by
    rcases Nat.le_total c.inp.length 256 with hh | hh
    · rw [Nat.min_eq_left hh, List.take_length, List.take_of_length_le hh]
    · rw [Nat.min_eq_right hh]
  rw [e256] at hI
  have hmin : min ((c.inp.length : Nat) : Int) 256 = ((min c.inp.length 256 : Nat) : Int) := by omega
  generalize hmm : min c.inp.length 256 = m at *
  have m1 : (m : Int) ≤ (c.inp.length : Int) := by omega
  have m0 : (0 : Int) ≤ (m : Int) := by omega
  have HI := Lib.hid hI
  have hcases := line_cases c.inp
  have hshort := line_short (l := c.inp)
  have hat := fun k => line_at (l := c.inp) (k := k)
  clear h e256 hmm hI
  generalize Lib.indexByte (c.inp.take 256) 10 = ix at *
  go_enter Tryd.func78, Tryd.ntmps78
  go_upto_region 1 with fail
  go_cut [4] (fun y wx => y = .int .i64 ix ∧ Hid (Keep [] w wx))
  case first =>
    clear hcases hshort hat
    go_region_with (first
      | (go_at_call 41; refine (HI.out _).mono ?_; rintro e w1 ⟨rfl, rfl⟩)
      | fail)
    all_goals
      go_wp2_with fail
      go_meet
      exact ⟨rfl, Lib.hid (by repeat (first | exact Keep.refl _ _ | apply Keep.drew))⟩
  case rest =>
  obtain ⟨rfl, KX⟩ := hcut
  have H1 := Lib.hid (H.out.keep0 KX.out)
  clear c4 HI hmin m1 m0
  obtain ⟨_, _, _, _, c4, _, _⟩ := H1.out.at
  have f4 := H1.out.free 4
  have K1 := Lib.hid (KX.out.mono (S' := [b]) (by simp))
  rcases hcases with hn | ⟨k, hk, hkl, h256⟩
  · have hL := hshort hn
    by_cases h2 : 256 ≤ c.inp.length
    · rw [if_pos h2] at hL
      have HL := Lib.hid hL
      have h2' : decide (((c.inp.length : Nat) : Int) ≥ 256) = true := by simp; omega
      clear hL hshort hat
      go_wp2_with fail
      go_ret2
      rw [HL.out]
      exact ⟨rfl, H1.out, K1.out⟩
    · rw [if_neg h2] at hL
      have HL := Lib.hid hL
      have h2' : decide (((c.inp.length : Nat) : Int) ≥ 256) = false := by simp; omega
      clear hL hshort hat
      go_wp2_with fail
      go_ret2
      rw [HL.out]
      exact ⟨rfl, H1.out, K1.out⟩
  · have hL := hat k hk
    subst hk
    have hx1 : (S c.inp).extract 0 (k + 1) = S (c.inp.take (k + 1)) := by rw [S_extract, List.drop_zero]
    have hx2 : (S c.inp).extract (k + 1) c.inp.length = S (c.inp.drop (k + 1)) := by rw [S_extract, List.take_length]
    have hCS : ∀ w1, Calls Tryd.prog 75 #[.string (S (c.inp.take (k + 1))), .string ⟨#[13, 10]⟩] w1 fun e w' => e = .returned (.tuple #[.string (S (Lib.trimSuffix (c.inp.take (k + 1)) crlfC)), .bool (Lib.hasSuffix (c.inp.take (k + 1)) crlfC)]) ∧ w' = w1 := fun w1 =>
      Tryd.strings_CutSuffix (S (c.inp.take (k + 1))) ⟨#[13, 10]⟩ w1 (by rw [S_size, List.length_take]; omega)
    generalize Lib.trimSuffix (c.inp.take (k + 1)) crlfC = t at *
    generalize hsx : Lib.hasSuffix (c.inp.take (k + 1)) crlfC = sx at *
    have hkw := IntWalk.i64_in ((k : Int) + 1) (by omega)
    have hk1 : (k : Int) + 1 ≤ (c.inp.length : Int) := by omega
    have hk0 : (0 : Int) ≤ (k : Int) + 1 := by omega
    have hkn : ((k : Int) + 1).toNat = k + 1 := by omega
    have hkl0 : decide ((k : Int) < 0) = false := by simp
    clear hshort hat hsx
    cases sx with
    | false =>
      have HL := Lib.hid (show lnC c.inp = ⟨[], 3, c.inp⟩ from hL)
      have HCS := Lib.hid hCS
      clear hL hCS
      go_wp2_with fail
      refine (HCS.out _).mono ?_
      rintro e w1 ⟨rfl, rfl⟩
      go_wp2_with fail
      go_ret2
      rw [HL.out]
      exact ⟨rfl, H1.out, K1.out⟩
    | true =>
      have HL := Lib.hid (show lnC c.inp = ⟨t, 0, c.inp.drop (k + 1)⟩ from hL)
      have HCS := Lib.hid hCS
      clear hL hCS
      go_wp2_with fail
      refine (HCS.out _).mono ?_
      rintro e w1 ⟨rfl, rfl⟩
      go_wp2_with fail
      go_ret2
      rw [HL.out]
      exact ⟨rfl, H1.out.set 4 _ (fun _ => rfl) rfl, K1.out.setCell _ _ (by simp)⟩

def xColon : List UInt8 := [120, 58]
theorem isRest_parse (r : List UInt8) : parseE (xColon ++ r) = if isTxt r then 0 else 3 := by
  have hi : Lib.indexByte (xColon ++ r) 58 = ((1 : Nat) : Int) := indexByte_at rfl (fun j hj => by
    have : j = 0 := by omega
    subst this
    show (some (120 : UInt8)) ≠ some 58
    decide)
  unfold parseE
  rw [parseF_eq, hi]
  have h1 : (xColon ++ r).take ((1 : Nat) : Int).toNat = [120] := rfl
  have h2 : (xColon ++ r).drop (((1 : Nat) : Int).toNat + 1) = r := rfl
  rw [h1, h2]
  have h3 : isTok [120] = true := by decide +kernel
  cases isTxt r <;> simp [h3]

theorem parse_two (l : List UInt8) (w : World) (hm : ML w) (hl : l.length < 4294967281) : Calls Tryd.prog 76 #[.string (S l)] w fun e w' => e = .returned (.tuple #[.agg #[.string (S (parseV l).name), .string (S (parseV l).value)], .int .i64 (parseE l)]) ∧ Keep [] w w' := field_Parse l w hm hl

set_option maxRecDepth 100000 in
set_option maxHeartbeats 1000000 in
theorem chunk_isRest (r : List UInt8) (w : World) (hm : ML w) (hl : r.length ≤ 1048576) :
    Calls Tryd.prog 80 #[.string (S r)] w fun e w' => e = .returned (.bool (restOk r)) ∧ Keep [] w w' := by
  have hsz := S_size r
  have hte := S_toList r
  cases r with
  | nil =>
    go_enter Tryd.func80, Tryd.ntmps80
    go_wp2_with fail
    go_ret
    exact ⟨rfl, Keep.refl _ _⟩
  | cons c r =>
    have hO : restOk (c :: r) = (isTxt (c :: r) && decide (0 ≤ Lib.indexByte [32, 9, 59] c)) := rfl
    have hg := fun hk => S_get (l := c :: r) (k := 0) (c := c) rfl hk
    have hP := parse_two (xColon ++ (c :: r)) w hm (by simp [xColon] at hl ⊢; omega)
    rw [isRest_parse] at hP
    have hcat : (⟨#[120, 58]⟩ : ByteArray) ++ S (c :: r) = S (xColon ++ (c :: r)) := S_append xColon _
    have hix := Tryd.strings_IndexByte ⟨#[32, 9, 59]⟩ c.toNat
    have ec : ((c.toNat : Int)).toNat.toUInt8 = c := by simp
    rw [ec] at hix
    change ∀ w1, Calls Tryd.prog 41 #[.string ⟨#[32, 9, 59]⟩, .int .u8 c.toNat] w1 fun e w' => e = .returned (.int .i64 (Lib.indexByte [32, 9, 59] c)) ∧ w' = w1 at hix
    generalize restOk (c :: r) = ro at *
    generalize hl0 : c :: r = l at *
    have hemp : l.isEmpty = false := by rw [← hl0]; rfl
    have hlen : 0 < l.length := by rw [← hl0]; simp
    generalize (parseV (xColon ++ l)).name = pn at *
    generalize (parseV (xColon ++ l)).value = pw at *
    generalize xColon ++ l = xl at *
    generalize Lib.indexByte [32, 9, 59] c = ix at *
    have hcc := u8_nat c
    clear hl0 ec
    have HIX := Lib.hid hix
    cases htx : isTxt l with
    | false =>
      rw [htx] at hP hO
      have HP := Lib.hid hP
      have HO := Lib.hid hO
      clear hP hO htx hix hg
      go_enter Tryd.func80, Tryd.ntmps80
      go_wp2_with fail
      refine HP.out.mono ?_
      rintro e w1 ⟨rfl, k1⟩
      go_wp2_with fail
      go_ret
      refine ⟨ret_bool (by rw [HO.out]; rfl), ?_⟩
      repeat (first | exact k1 | exact Keep.alloc k1 _ | (refine Keep.setCell ?_ _ _ (by first | omega | (intro hh; exact absurd hh (by have := k1.size; simp; omega)))))
    | true =>
      rw [htx] at hP hO
      have HP := Lib.hid hP
      have HO := Lib.hid hO
      clear hP hO htx hix
      by_cases h0 : 0 ≤ ix
      · have h0' : decide (ix ≥ 0) = true := by simp; omega
        go_enter Tryd.func80, Tryd.ntmps80
        go_wp2_with fail
        refine HP.out.mono ?_
        rintro e w1 ⟨rfl, k1⟩
        go_wp2_with fail
        refine (HIX.out _).mono ?_
        rintro e w2 ⟨rfl, rfl⟩
        go_wp2_with fail
        go_ret
        refine ⟨ret_bool (by rw [HO.out]; simp [h0]), ?_⟩
        repeat (first | exact k1 | exact Keep.alloc k1 _ | (refine Keep.setCell ?_ _ _ (by first | omega | (intro hh; exact absurd hh (by have := k1.size; simp; omega)))))
      · have h0' : decide (ix ≥ 0) = false := by simp; omega
        go_enter Tryd.func80, Tryd.ntmps80
        go_wp2_with fail
        refine HP.out.mono ?_
        rintro e w1 ⟨rfl, k1⟩
        go_wp2_with fail
        refine (HIX.out _).mono ?_
        rintro e w2 ⟨rfl, rfl⟩
        go_wp2_with fail
        go_ret
        refine ⟨ret_bool (by rw [HO.out]; simp [h0]), ?_⟩
        repeat (first | exact k1 | exact Keep.alloc k1 _ | (refine Keep.setCell ?_ _ _ (by first | omega | (intro hh; exact absurd hh (by have := k1.size; simp; omega)))))
end Go.Proofs.YtpimfoohpfkciaaDoor

/- Layer 11: begin, close, trailer, data, step. No conditions but on lengths. -/
namespace Go.Proofs.YtpimfoohpfkciaaDoor
open Go.RowKit Go.Shelf

theorem num_len (t : List UInt8) : (numRest t).length ≤ t.length := by unfold numRest Lib.trimLeftS; exact List.Sublist.length_le (List.dropWhile_sublist _)

set_option maxRecDepth 100000 in
set_option maxHeartbeats 2000000 in
theorem chunk_begin (B b : Nat) (p : List UInt8) (c : Ck) (v : Value) (w : World) (hm : ML w) (hb : 0 ≠ b) (h : Ct B w b p c v) (hl : c.inp.length ≤ 1048576) (hmost : (c.most : Int) ≤ 9223372036854775807) (hok : c.dat.length ≤ c.most) :
    Calls Tryd.prog 65 #[.pointer (some ⟨b, 0, none⟩)] w fun e w' => e = .returned (.int .i64 (beginM c).2) ∧ Ct B w' b p (beginM c).1 v ∧ Keep [b] w w' := by
  have HL := Lib.hid (chunk_line B b p c v w h hl)
  have hle := line_le c.inp
  have HT := Lib.hid (fun w1 => show Calls Tryd.prog 79 #[.string (S (lnC c.inp).t), .string ⟨#[48, 49, 50, 51, 52, 53, 54, 55, 56, 57, 97, 98, 99, 100, 101, 102, 65, 66, 67, 68, 69, 70]⟩] w1 fun e w' => e = .returned (.string (S (numRest (lnC c.inp).t))) ∧ Below w1.heap.size w1 w' from
    Any.strings_TrimLeft_laid Tryd.lays161 (by kernel_rfl) (S (lnC c.inp).t) ⟨#[48, 49, 50, 51, 52, 53, 54, 55, 56, 57, 97, 98, 99, 100, 101, 102, 65, 66, 67, 68, 69, 70]⟩ w1 (by decide) (ascii_of_all (by decide)))
  have hnl := num_len (lnC c.inp).t
  have HR := Lib.hid (fun w1 (hm1 : ML w1) => chunk_isRest (numRest (lnC c.inp).t) w1 hm1 (by omega))
  have HU := Lib.hid (fun w1 => hexa_Unhexnum (numT (lnC c.inp).t) ((c.most : Int) - (c.dat.length : Nat)) w1 (show (numT (lnC c.inp).t).length ≤ 9223372036854775807 by unfold numT; rw [List.length_take]; omega))
  have hbe : beginM c = if (lnC c.inp).e ≠ 0 then (c, (lnC c.inp).e)
    else if numE (lnC c.inp).t ((c.most : Int) - (c.dat.length : Nat)) ≠ 0 then ({ c with inp := (lnC c.inp).r }, numE (lnC c.inp).t ((c.most : Int) - (c.dat.length : Nat)))
    else ({ c with inp := (lnC c.inp).r, left := (numV (lnC c.inp).t ((c.most : Int) - (c.dat.length : Nat))).toNat, st := if numV (lnC c.inp).t ((c.most : Int) - (c.dat.length : Nat)) = 0 then 3 else 1 }, 0) := rfl
  have hE : numE (lnC c.inp).t ((c.most : Int) - (c.dat.length : Nat)) = if restOk (numRest (lnC c.inp).t) then (if unhexE (numT (lnC c.inp).t) ((c.most : Int) - (c.dat.length : Nat)) = 14 then 4 else unhexE (numT (lnC c.inp).t) ((c.most : Int) - (c.dat.length : Nat))) else 3 := rfl
  have hV : numV (lnC c.inp).t ((c.most : Int) - (c.dat.length : Nat)) = unhexV (numT (lnC c.inp).t) ((c.most : Int) - (c.dat.length : Nat)) := rfl
  have hVr := fun hh => numV_range (t := (lnC c.inp).t) (m := (c.most : Int) - (c.dat.length : Nat)) hh
  have hEr := unhex_range (numT (lnC c.inp).t) ((c.most : Int) - (c.dat.length : Nat))
  have hle2 := line_err (l := c.inp)
  generalize (lnC c.inp).e = le at *
  generalize hrr : (lnC c.inp).r = lr at *
  have hx : (S (lnC c.inp).t).extract 0 ((lnC c.inp).t.length - (numRest (lnC c.inp).t).length) = S (numT (lnC c.inp).t) := by rw [S_extract, List.drop_zero]; rfl
  generalize numT (lnC c.inp).t = nt at *
  generalize restOk (numRest (lnC c.inp).t) = ro at *
  generalize numE (lnC c.inp).t ((c.most : Int) - (c.dat.length : Nat)) = ne at *
  generalize numV (lnC c.inp).t ((c.most : Int) - (c.dat.length : Nat)) = nv at *
  generalize unhexE nt ((c.most : Int) - (c.dat.length : Nat)) = ue at *
  generalize unhexV nt ((c.most : Int) - (c.dat.length : Nat)) = uv at *
  generalize numRest (lnC c.inp).t = nr at *
  generalize (lnC c.inp).t = lt at *
  have s1 := S_size lt
  have s2 := S_size nr
  subst hV
  clear h
  by_cases h0 : le = 0
  · subst h0
    rw [if_neg (by simp)] at hbe
    cases ro with
    | false =>
      rw [if_neg (by simp)] at hE
      subst hE
      rw [if_pos (by decide)] at hbe
      have HB := Lib.hid hbe
      clear hbe hVr hEr hx hle2
      go_enter Tryd.func65, Tryd.ntmps65
      go_wp2_with fail
      refine HL.out.mono ?_
      rintro e w1 ⟨rfl, t1, k1⟩
      have T1 := Lib.hid t1
      have K1 := Lib.hid k1
      clear t1 k1
      go_wp2_with fail
      refine (HT.out _).mono ?_
      rintro e w2 ⟨rfl, k2⟩
      have K2 := Lib.hid (Keep.of_below k2 [])
      clear k2
      go_wp2_with fail
      refine (HR.out _ ((hm.keep K1.out (by simpa using hb)).keep K2.out (by simp))).mono ?_
      rintro e w3 ⟨rfl, k3⟩
      have K3 := Lib.hid k3
      clear k3
      go_wp2_with fail
      go_ret
      rw [HB.out]
      exact ⟨rfl, (T1.out.keep0 K2.out).keep0 K3.out, (K1.out.trans' K2.out (by simp)).trans' K3.out (by simp)⟩
    | true =>
      rw [if_pos rfl] at hE
      have hsub : ((lt.length : Nat) : Int) - ((nr.length : Nat) : Int) = ((lt.length - nr.length : Nat) : Int) := by omega
      have hsw := IntWalk.i64_in (((lt.length - nr.length : Nat)) : Int) (by omega)
      have hs0 : (0 : Int) ≤ ((lt.length - nr.length : Nat) : Int) := by omega
      have hs1 : ((lt.length - nr.length : Nat) : Int) ≤ ((lt.length : Nat) : Int) := by omega
      have hmw := IntWalk.i64_in ((c.most : Int) - (c.dat.length : Nat)) (by omega)
      generalize lt.length - nr.length = sl at *
      by_cases hu0 : ue = 0
      · subst hu0
        rw [if_neg (by decide)] at hE
        subst hE
        rw [if_neg (by simp)] at hbe
        obtain ⟨v0, v1⟩ := hVr rfl
        obtain ⟨m, rfl⟩ : ∃ m : Nat, nv = m := ⟨nv.toNat, by omega⟩
        have htn : ((m : Nat) : Int).toNat = m := by omega
        rw [htn] at hbe
        by_cases hz : m = 0
        · rw [if_pos (by omega)] at hbe
          subst hz
          have HB := Lib.hid hbe
          clear hbe hVr hEr hle2
          go_enter Tryd.func65, Tryd.ntmps65
          go_wp2_with fail
          refine HL.out.mono ?_
          rintro e w1 ⟨rfl, t1, k1⟩
          have T1 := Lib.hid t1
          have K1 := Lib.hid k1
          clear t1 k1
          go_wp2_with fail
          refine (HT.out _).mono ?_
          rintro e w2 ⟨rfl, k2⟩
          have K2 := Lib.hid (Keep.of_below k2 [])
          clear k2
          go_wp2_with fail
          refine (HR.out _ ((hm.keep K1.out (by simpa using hb)).keep K2.out (by simp))).mono ?_
          rintro e w3 ⟨rfl, k3⟩
          have T3 := Lib.hid ((T1.out.keep0 K2.out).keep0 k3)
          have K3 := Lib.hid ((K1.out.trans' K2.out (by simp)).trans' k3 (by simp))
          clear k3
          obtain ⟨_, _, c2, _, _, c7, _⟩ := T3.out.at
          dsimp only at c2 c7
          go_upto_region 7 with fail
          go_cut [6, 4] (fun y z wx => y = .int .i64 0 ∧ z = .int .i64 0 ∧ Hid (Keep [] w3 wx))
          case first =>
            go_region_with (first
              | (go_at_call 81; refine (HU.out _).mono ?_; rintro e w4 ⟨rfl, k4⟩; have K4 := Lib.hid (Keep.trans (S := []) (a := w3) (by repeat (first | exact Keep.refl [] _ | apply Keep.drew)) k4); clear k4)
              | fail)
            all_goals
              go_wp2_with fail
              go_meet
              exact ⟨rfl, rfl, Lib.hid (by repeat (first | exact K4.out | apply Keep.drew))⟩
          case rest =>
          obtain ⟨rfl, rfl, KX⟩ := hcut
          have T4 := Lib.hid (T3.out.keep0 KX.out)
          have K4 := Lib.hid (K3.out.trans' KX.out (by simp))
          clear KX c2 c7
          obtain ⟨d0, d1, _, _, _, _, _⟩ := T4.out.at
          have f0 := T4.out.free 0
          have f1 := T4.out.free 1
          dsimp only at d0 d1
          go_wp2_with fail
          go_ret
          rw [HB.out]
          refine ⟨rfl, ?_, ((K4.out.setCell _ _ (by simp)).setCell _ _ (by simp)).setCell _ _ (by simp)⟩
          exact (((T4.out.set 1 _ (fun _ => rfl) rfl (c' := { c with inp := lr, left := 0 })).set 0 _ (fun _ => rfl) rfl (c' := { c with inp := lr, left := 0, st := 1 })).set 0 _ (fun _ => rfl) rfl)
        · rw [if_neg (by omega)] at hbe
          have HB := Lib.hid hbe
          have hz' := (int_ne (show ((m : Nat) : Int) ≠ 0 by omega)).1
          clear hbe hVr hEr hle2
          go_enter Tryd.func65, Tryd.ntmps65
          go_wp2_with fail
          refine HL.out.mono ?_
          rintro e w1 ⟨rfl, t1, k1⟩
          have T1 := Lib.hid t1
          have K1 := Lib.hid k1
          clear t1 k1
          go_wp2_with fail
          refine (HT.out _).mono ?_
          rintro e w2 ⟨rfl, k2⟩
          have K2 := Lib.hid (Keep.of_below k2 [])
          clear k2
          go_wp2_with fail
          refine (HR.out _ ((hm.keep K1.out (by simpa using hb)).keep K2.out (by simp))).mono ?_
          rintro e w3 ⟨rfl, k3⟩
          have T3 := Lib.hid ((T1.out.keep0 K2.out).keep0 k3)
          have K3 := Lib.hid ((K1.out.trans' K2.out (by simp)).trans' k3 (by simp))
          clear k3
          obtain ⟨_, _, c2, _, _, c7, _⟩ := T3.out.at
          dsimp only at c2 c7
          go_upto_region 7 with fail
          go_cut [6, 4] (fun y z wx => y = .int .i64 (m : Nat) ∧ z = .int .i64 0 ∧ Hid (Keep [] w3 wx))
          case first =>
            go_region_with (first
              | (go_at_call 81; refine (HU.out _).mono ?_; rintro e w4 ⟨rfl, k4⟩; have K4 := Lib.hid (Keep.trans (S := []) (a := w3) (by repeat (first | exact Keep.refl [] _ | apply Keep.drew)) k4); clear k4)
              | fail)
            all_goals
              go_wp2_with fail
              go_meet
              exact ⟨rfl, rfl, Lib.hid (by repeat (first | exact K4.out | apply Keep.drew))⟩
          case rest =>
          obtain ⟨rfl, rfl, KX⟩ := hcut
          have T4 := Lib.hid (T3.out.keep0 KX.out)
          have K4 := Lib.hid (K3.out.trans' KX.out (by simp))
          clear KX c2 c7
          obtain ⟨d0, d1, _, _, _, _, _⟩ := T4.out.at
          have f0 := T4.out.free 0
          have f1 := T4.out.free 1
          dsimp only at d0 d1
          go_wp2_with fail
          go_ret
          rw [HB.out]
          refine ⟨rfl, ?_, (K4.out.setCell _ _ (by simp)).setCell _ _ (by simp)⟩
          exact ((T4.out.set 1 _ (fun _ => rfl) rfl (c' := { c with inp := lr, left := m })).set 0 _ (fun _ => rfl) rfl)
      · have hne : ne ≠ 0 := by rw [hE]; split <;> omega
        rw [if_pos hne] at hbe
        have hcase : (ue = 14 ∧ ne = 4) ∨ (ue = 3 ∧ ne = 3) := by
          rcases (hEr.2 hu0).2 with h14 | h3
          · exact .inl ⟨h14, by rw [hE, if_pos h14]⟩
          · exact .inr ⟨h3, by rw [hE, if_neg (by omega), h3]⟩
        rcases hcase with ⟨h14, hne4⟩ | ⟨h3, hne4⟩
        · rw [hne4] at hbe
          have q1 := (int_eq h14).1
          clear h14 hne4
          have HB := Lib.hid hbe
          clear hbe hVr hEr hle2 hE hne hu0
          go_enter Tryd.func65, Tryd.ntmps65
          go_wp2_with fail
          refine HL.out.mono ?_
          rintro e w1 ⟨rfl, t1, k1⟩
          have T1 := Lib.hid t1
          have K1 := Lib.hid k1
          clear t1 k1
          go_wp2_with fail
          refine (HT.out _).mono ?_
          rintro e w2 ⟨rfl, k2⟩
          have K2 := Lib.hid (Keep.of_below k2 [])
          clear k2
          go_wp2_with fail
          refine (HR.out _ ((hm.keep K1.out (by simpa using hb)).keep K2.out (by simp))).mono ?_
          rintro e w3 ⟨rfl, k3⟩
          have T3 := Lib.hid ((T1.out.keep0 K2.out).keep0 k3)
          have K3 := Lib.hid ((K1.out.trans' K2.out (by simp)).trans' k3 (by simp))
          clear k3
          obtain ⟨_, _, c2, _, _, c7, _⟩ := T3.out.at
          dsimp only at c2 c7
          go_upto_region 7 with fail
          go_cut [6, 4] (fun y z wx => y = .int .i64 nv ∧ z = .int .i64 ue ∧ Hid (Keep [] w3 wx))
          case first =>
            go_region_with (first
              | (go_at_call 81; refine (HU.out _).mono ?_; rintro e w4 ⟨rfl, k4⟩; have K4 := Lib.hid (Keep.trans (S := []) (a := w3) (by repeat (first | exact Keep.refl [] _ | apply Keep.drew)) k4); clear k4)
              | fail)
            all_goals
              go_wp2_with fail
              go_meet
              exact ⟨rfl, rfl, Lib.hid (by repeat (first | exact K4.out | apply Keep.drew))⟩
          case rest =>
          obtain ⟨rfl, rfl, KX⟩ := hcut
          have T4 := Lib.hid (T3.out.keep0 KX.out)
          have K4 := Lib.hid (K3.out.trans' KX.out (by simp))
          clear KX c2 c7
          go_wp2_with fail
          go_ret
          rw [HB.out]
          exact ⟨rfl, T4.out, K4.out⟩
        · rw [hne4, ← h3] at hbe
          have q1 := (int_ne (show ue ≠ 14 by omega)).1
          have q2 := (int_ne hu0).2
          clear h3 hne4
          have HB := Lib.hid hbe
          clear hbe hVr hEr hle2 hE hne hu0
          go_enter Tryd.func65, Tryd.ntmps65
          go_wp2_with fail
          refine HL.out.mono ?_
          rintro e w1 ⟨rfl, t1, k1⟩
          have T1 := Lib.hid t1
          have K1 := Lib.hid k1
          clear t1 k1
          go_wp2_with fail
          refine (HT.out _).mono ?_
          rintro e w2 ⟨rfl, k2⟩
          have K2 := Lib.hid (Keep.of_below k2 [])
          clear k2
          go_wp2_with fail
          refine (HR.out _ ((hm.keep K1.out (by simpa using hb)).keep K2.out (by simp))).mono ?_
          rintro e w3 ⟨rfl, k3⟩
          have T3 := Lib.hid ((T1.out.keep0 K2.out).keep0 k3)
          have K3 := Lib.hid ((K1.out.trans' K2.out (by simp)).trans' k3 (by simp))
          clear k3
          obtain ⟨_, _, c2, _, _, c7, _⟩ := T3.out.at
          dsimp only at c2 c7
          go_upto_region 7 with fail
          go_cut [6, 4] (fun y z wx => y = .int .i64 nv ∧ z = .int .i64 ue ∧ Hid (Keep [] w3 wx))
          case first =>
            go_region_with (first
              | (go_at_call 81; refine (HU.out _).mono ?_; rintro e w4 ⟨rfl, k4⟩; have K4 := Lib.hid (Keep.trans (S := []) (a := w3) (by repeat (first | exact Keep.refl [] _ | apply Keep.drew)) k4); clear k4)
              | fail)
            all_goals
              go_wp2_with fail
              go_meet
              exact ⟨rfl, rfl, Lib.hid (by repeat (first | exact K4.out | apply Keep.drew))⟩
          case rest =>
          obtain ⟨rfl, rfl, KX⟩ := hcut
          have T4 := Lib.hid (T3.out.keep0 KX.out)
          have K4 := Lib.hid (K3.out.trans' KX.out (by simp))
          clear KX c2 c7
          go_wp2_with fail
          go_ret
          rw [HB.out]
          exact ⟨rfl, T4.out, K4.out⟩
  · rw [if_pos h0] at hbe
    obtain ⟨rfl, rfl⟩ := hle2 h0
    have h0' := (int_ne h0).2
    have HB := Lib.hid hbe
    clear hbe hVr hEr hle2 hE hx h0
    go_enter Tryd.func65, Tryd.ntmps65
    go_wp2_with fail
    refine HL.out.mono ?_
    rintro e w1 ⟨rfl, t1, k1⟩
    have T1 := Lib.hid t1
    have K1 := Lib.hid k1
    clear t1 k1
    go_wp2_with fail
    go_ret
    rw [HB.out]
    exact ⟨rfl, T1.out, K1.out⟩
end Go.Proofs.YtpimfoohpfkciaaDoor

/- Layer 11: close, trailer, data, step. No conditions but on lengths. -/
namespace Go.Proofs.YtpimfoohpfkciaaDoor
open Go.RowKit Go.Shelf

set_option maxRecDepth 100000 in
set_option maxHeartbeats 2000000 in
theorem chunk_trailer (B b : Nat) (p : List UInt8) (c : Ck) (v : Value) (w : World) (hm : ML w) (hb : 0 ≠ b) (h : Ct B w b p c v) (hl : c.inp.length ≤ 1048576) (hfl : c.flds ≤ 16) :
    Calls Tryd.prog 68 #[.pointer (some ⟨b, 0, none⟩)] w fun e w' => e = .returned (.int .i64 (trailM c).2) ∧ Ct B w' b p (trailM c).1 v ∧ Keep [b] w w' := by
  have HL := Lib.hid (chunk_line B b p c v w h hl)
  have hle := line_le c.inp
  have HP := Lib.hid (fun w1 (hm1 : ML w1) => parse_two (lnC c.inp).t w1 hm1 (by omega))
  have hbe : trailM c = if (lnC c.inp).e ≠ 0 then (c, (lnC c.inp).e)
    else if (lnC c.inp).t = [] then ({ c with inp := (lnC c.inp).r, st := 4 }, 0)
    else if parseE (lnC c.inp).t ≠ 0 then ({ c with inp := (lnC c.inp).r }, parseE (lnC c.inp).t)
    else ({ c with inp := (lnC c.inp).r, flds := c.flds + 1 }, if 16 < c.flds + 1 then 4 else 0) := rfl
  have hPe := parseE_cases (lnC c.inp).t
  have hle2 := line_err (l := c.inp)
  generalize (lnC c.inp).e = le at *
  generalize (lnC c.inp).r = lr at *
  generalize (parseV (lnC c.inp).t).name = pn at *
  generalize (parseV (lnC c.inp).t).value = pw at *
  generalize parseE (lnC c.inp).t = pe at *
  generalize (lnC c.inp).t = lt at *
  have s1 := S_size lt
  have s2 := S_toList lt
  clear h
  by_cases h0 : le = 0
  · subst h0
    rw [if_neg (by simp)] at hbe
    by_cases ht : lt = []
    · rw [if_pos ht] at hbe
      have ht' : lt.isEmpty = true := by rw [ht]; rfl
      have HB := Lib.hid hbe
      clear hbe hle2 ht
      go_enter Tryd.func68, Tryd.ntmps68
      go_wp2_with fail
      refine HL.out.mono ?_
      rintro e w1 ⟨rfl, t1, k1⟩
      have T1 := Lib.hid t1
      have K1 := Lib.hid k1
      clear t1 k1
      obtain ⟨d0, _, _, _, _, _, _⟩ := T1.out.at
      have f0 := T1.out.free 0
      dsimp only at d0
      go_wp2_with fail
      go_ret
      rw [HB.out]
      exact ⟨rfl, T1.out.set 0 _ (fun _ => rfl) rfl, K1.out.setCell _ _ (by simp)⟩
    · have ht' : lt.isEmpty = false := by cases lt with | nil => exact absurd rfl ht | cons => rfl
      rw [if_neg ht] at hbe
      by_cases hp0 : pe = 0
      · subst hp0
        rw [if_neg (by simp)] at hbe
        have HB := Lib.hid hbe
        have hfw := IntWalk.i64_in ((c.flds : Int) + 1) (by omega)
        by_cases h16 : 16 < c.flds + 1
        · have h16' : decide ((c.flds : Int) + 1 > 16) = true := by simp; omega
          have HB := Lib.hid (hbe.trans (by rw [if_pos h16]))
          clear hbe hle2 ht h16
          go_enter Tryd.func68, Tryd.ntmps68
          go_wp2_with fail
          refine HL.out.mono ?_
          rintro e w1 ⟨rfl, t1, k1⟩
          have T1 := Lib.hid t1
          have K1 := Lib.hid k1
          clear t1 k1
          go_wp2_with fail
          refine (HP.out _ (hm.keep K1.out (by simpa using hb))).mono ?_
          rintro e w2 ⟨rfl, k2⟩
          have k3 := k2.alloc (.cells #[.string (S pn), .string (S pw)] 44)
          have T2 := Lib.hid (T1.out.keep0 k3)
          have K2 := Lib.hid (K1.out.trans' k3 (by simp))
          clear k2 k3
          obtain ⟨_, _, _, d3, _, _, _⟩ := T2.out.at
          have f3 := T2.out.free 3
          dsimp only at d3
          go_wp2_with fail
          go_ret
          rw [HB.out]
          refine ⟨rfl, T2.out.set 3 _ (fun _ => rfl) rfl, K2.out.setCell _ _ (by simp)⟩
        · have h16' : decide ((c.flds : Int) + 1 > 16) = false := by simp; omega
          have HB := Lib.hid (hbe.trans (by rw [if_neg h16]))
          clear hbe hle2 ht h16
          go_enter Tryd.func68, Tryd.ntmps68
          go_wp2_with fail
          refine HL.out.mono ?_
          rintro e w1 ⟨rfl, t1, k1⟩
          have T1 := Lib.hid t1
          have K1 := Lib.hid k1
          clear t1 k1
          go_wp2_with fail
          refine (HP.out _ (hm.keep K1.out (by simpa using hb))).mono ?_
          rintro e w2 ⟨rfl, k2⟩
          have k3 := k2.alloc (.cells #[.string (S pn), .string (S pw)] 44)
          have T2 := Lib.hid (T1.out.keep0 k3)
          have K2 := Lib.hid (K1.out.trans' k3 (by simp))
          clear k2 k3
          obtain ⟨_, _, _, d3, _, _, _⟩ := T2.out.at
          have f3 := T2.out.free 3
          dsimp only at d3
          go_wp2_with fail
          go_ret
          rw [HB.out]
          refine ⟨rfl, T2.out.set 3 _ (fun _ => rfl) rfl, K2.out.setCell _ _ (by simp)⟩
      · rw [if_pos hp0] at hbe
        have hp0' := (int_ne hp0).2
        have HB := Lib.hid hbe
        clear hbe hle2 ht hp0
        go_enter Tryd.func68, Tryd.ntmps68
        go_wp2_with fail
        refine HL.out.mono ?_
        rintro e w1 ⟨rfl, t1, k1⟩
        have T1 := Lib.hid t1
        have K1 := Lib.hid k1
        clear t1 k1
        go_wp2_with fail
        refine (HP.out _ (hm.keep K1.out (by simpa using hb))).mono ?_
        rintro e w2 ⟨rfl, k2⟩
        have k3 := k2.alloc (.cells #[.string (S pn), .string (S pw)] 44)
        have T2 := Lib.hid (T1.out.keep0 k3)
        have K2 := Lib.hid (K1.out.trans' k3 (by simp))
        clear k2 k3
        go_wp2_with fail
        go_ret
        rw [HB.out]
        exact ⟨rfl, T2.out, K2.out⟩
  · rw [if_pos h0] at hbe
    obtain ⟨rfl, rfl⟩ := hle2 h0
    have h0' := (int_ne h0).2
    have HB := Lib.hid hbe
    clear hbe hle2 h0
    go_enter Tryd.func68, Tryd.ntmps68
    go_wp2_with fail
    refine HL.out.mono ?_
    rintro e w1 ⟨rfl, t1, k1⟩
    have T1 := Lib.hid t1
    have K1 := Lib.hid k1
    clear t1 k1
    go_wp2_with fail
    go_ret
    rw [HB.out]
    exact ⟨rfl, T1.out, K1.out⟩

set_option maxRecDepth 100000 in
set_option maxHeartbeats 2000000 in
theorem chunk_close (B b : Nat) (p : List UInt8) (c : Ck) (v : Value) (w : World) (h : Ct B w b p c v) (hl : c.inp.length ≤ 1048576) :
    Calls Tryd.prog 67 #[.pointer (some ⟨b, 0, none⟩)] w fun e w' => e = .returned (.int .i64 (closeM c).2) ∧ Ct B w' b p (closeM c).1 v ∧ Keep [b] w w' := by
  have sz := S_size c.inp
  obtain ⟨c0, _, _, _, c4, _, _⟩ := h.at
  have f0 := h.free 0
  have f4 := h.free 4
  have H := Lib.hid h
  have hbe : closeM c = if c.inp.take 2 ≠ crlfC.take c.inp.length then (c, 3) else if c.inp.length < 2 then (c, 17) else ({ c with inp := c.inp.drop 2, st := 0 }, 0) := rfl
  have hmin : min ((c.inp.length : Nat) : Int) 2 = ((min c.inp.length 2 : Nat) : Int) := by omega
  have e2 : c.inp.take (min c.inp.length 2) = c.inp.take 2 := by
    rcases Nat.le_total c.inp.length 2 with hh | hh
    · rw [Nat.min_eq_left hh, List.take_length, List.take_of_length_le hh]
    · rw [Nat.min_eq_right hh]
  have e3 : crlfC.take (min c.inp.length 2) = crlfC.take c.inp.length := by
    rcases Nat.le_total c.inp.length 2 with hh | hh
    · rw [Nat.min_eq_left hh]
    · rw [Nat.min_eq_right hh, List.take_of_length_le (show crlfC.length ≤ c.inp.length from hh)]; rfl
  have x1 : (S c.inp).extract 0 (min c.inp.length 2) = S (c.inp.take 2) := by rw [S_extract, List.drop_zero, e2]
  have x2 : (⟨#[13, 10]⟩ : ByteArray).extract 0 (min c.inp.length 2) = S (crlfC.take c.inp.length) := by
    have := S_extract crlfC 0 (min c.inp.length 2)
    rw [List.drop_zero, e3] at this
    exact this
  have l1 := S_toList (c.inp.take 2)
  have l2 := S_toList (crlfC.take c.inp.length)
  have m2 : min c.inp.length 2 ≤ 2 := Nat.min_le_right _ _
  have m1 : min c.inp.length 2 ≤ c.inp.length := Nat.min_le_left _ _
  have x3 : (S c.inp).extract 2 c.inp.length = S (c.inp.drop 2) := by rw [S_extract, List.take_length]
  have hd : c.inp.length < 2 ↔ min c.inp.length 2 < 2 := by omega
  have hm2 : ¬ c.inp.length < 2 → min c.inp.length 2 = 2 := by omega
  generalize hmm : min c.inp.length 2 = m at *
  have i0 : (0 : Int) ≤ (m : Int) := by omega
  have i1 : (m : Int) ≤ (c.inp.length : Int) := by omega
  have i2 : (m : Int) ≤ 2 := by omega
  clear e2 e3 h hmm
  by_cases h1 : c.inp.take 2 = crlfC.take c.inp.length
  · rw [if_neg (by simp [h1])] at hbe
    have q1 : (c.inp.take 2 != crlfC.take c.inp.length) = false := by rw [h1]; simp
    have q2 : (c.inp.take 2 == crlfC.take c.inp.length) = true := by rw [h1]; simp
    generalize c.inp.take 2 = A1 at *
    generalize crlfC.take c.inp.length = A2 at *
    by_cases h2 : c.inp.length < 2
    · rw [if_pos h2] at hbe
      have h2' : decide ((m : Int) < 2) = true := by simp; omega
      have HB := Lib.hid hbe
      clear hbe h1 h2 hd hm2
      go_enter Tryd.func67, Tryd.ntmps67
      go_upto_region 2 with fail
      go_cut [10] (fun y wx => y = .bool false ∧ Hid (Keep [] w wx))
      case first =>
        go_region_with fail
        all_goals
          go_wp2_with fail
          go_meet
          exact ⟨rfl, Lib.hid (by repeat (first | exact Keep.refl _ _ | apply Keep.drew))⟩
      case rest =>
      obtain ⟨rfl, KX⟩ := hcut
      have H1 := Lib.hid (H.out.keep0 KX.out)
      have K1 := Lib.hid (KX.out.mono (S' := [b]) (by simp))
      clear c0 c4 f0 f4 KX
      obtain ⟨c0, _, _, _, c4, _, _⟩ := H1.out.at
      have f0 := H1.out.free 0
      have f4 := H1.out.free 4
      go_wp2_with fail
      go_ret
      rw [HB.out]
      exact ⟨rfl, H1.out, K1.out⟩
    · rw [if_neg h2] at hbe
      have hm := hm2 h2
      subst hm
      have HB := Lib.hid hbe
      clear hbe h1 hd hm2
      go_enter Tryd.func67, Tryd.ntmps67
      go_upto_region 2 with fail
      go_cut [10] (fun y wx => y = .bool false ∧ Hid (Keep [] w wx))
      case first =>
        go_region_with fail
        all_goals
          go_wp2_with fail
          go_meet
          exact ⟨rfl, Lib.hid (by repeat (first | exact Keep.refl _ _ | apply Keep.drew))⟩
      case rest =>
      obtain ⟨rfl, KX⟩ := hcut
      have H1 := Lib.hid (H.out.keep0 KX.out)
      have K1 := Lib.hid (KX.out.mono (S' := [b]) (by simp))
      clear c0 c4 f0 f4 KX
      obtain ⟨c0, _, _, _, c4, _, _⟩ := H1.out.at
      have f0 := H1.out.free 0
      have f4 := H1.out.free 4
      go_wp2_with fail
      go_ret
      rw [HB.out]
      exact ⟨rfl, (H1.out.set 4 _ (fun _ => rfl) rfl (c' := { c with inp := c.inp.drop 2 })).set 0 _ (fun _ => rfl) rfl, (K1.out.setCell _ _ (by simp)).setCell _ _ (by simp)⟩
  · rw [if_pos h1] at hbe
    have q1 : (c.inp.take 2 != crlfC.take c.inp.length) = true := by simp [h1]
    have q2 : (c.inp.take 2 == crlfC.take c.inp.length) = false := by simp [h1]
    generalize c.inp.take 2 = A1 at *
    generalize crlfC.take c.inp.length = A2 at *
    have HB := Lib.hid hbe
    clear hbe h1 hd hm2
    go_enter Tryd.func67, Tryd.ntmps67
    go_upto_region 2 with fail
    go_cut [10] (fun y wx => y = .bool true ∧ Hid (Keep [] w wx))
    case first =>
      go_region_with fail
      all_goals
        go_wp2_with fail
        go_meet
        exact ⟨rfl, Lib.hid (by repeat (first | exact Keep.refl _ _ | apply Keep.drew))⟩
    case rest =>
    obtain ⟨rfl, KX⟩ := hcut
    have H1 := Lib.hid (H.out.keep0 KX.out)
    have K1 := Lib.hid (KX.out.mono (S' := [b]) (by simp))
    clear c0 c4 f0 f4 KX
    obtain ⟨c0, _, _, _, c4, _, _⟩ := H1.out.at
    have f0 := H1.out.free 0
    have f4 := H1.out.free 4
    go_wp2_with fail
    go_ret
    rw [HB.out]
    exact ⟨rfl, H1.out, K1.out⟩
end Go.Proofs.YtpimfoohpfkciaaDoor

/- Layer 11: data, step. No conditions but on lengths. -/
namespace Go.Proofs.YtpimfoohpfkciaaDoor
open Go.RowKit Go.Shelf

theorem Bd.set {B b o : Nat} {T : TypeId} {cs : List Value} {v : Value} {l : List UInt8} {w : World} (h : Bd B w b o T cs v l) (k : Nat) (x : Value) (h1 : k ≠ o) (h2 : k ≠ o + 1) : Bd B (w.setCell ⟨b, k, none⟩ x) b o T (cs.set k x) v l := by
  refine ⟨h.blk.set k x, ?_, ?_, ?_, h.ne⟩
  · rw [List.getElem?_set_ne h1]; exact h.ad
  · rw [List.getElem?_set_ne h2]; exact h.buf
  · exact h.own.keep (S := [b]) ((Keep.refl _ _).setCell _ _ (by simp)) (fun g hg => by
      simp only [List.mem_singleton]
      rintro rfl
      exact h.ne hg)
/-- what a call on a reader leaves -/
def Aft (B : Nat) (w : World) (b : Nat) (p : List UInt8) (v : Value) (c' : Ck) (w' : World) : Prop := ∃ v', Ct B w' b p c' v' ∧ Keep (b :: v.ownBlock.toList) w w' ∧ (v'.ownBlock = v.ownBlock ∨ ∃ g, v'.ownBlock = some g ∧ w.heap.size ≤ g)
theorem Aft.of {B b : Nat} {w w' : World} {p : List UInt8} {v : Value} {c' : Ck} (h : Ct B w' b p c' v) (k : Keep [b] w w') : Aft B w b p v c' w' := ⟨v, h, k.mono (fun x hx _ => by simp at hx; simp [hx]), .inl rfl⟩
theorem Aft.trans {B b : Nat} {w w1 w2 : World} {p : List UInt8} {v v1 v2 : Value} {c1 c2 : Ck} (h : Ct B w1 b p c1 v1) (k : Keep (b :: v.ownBlock.toList) w w1) (hv : v1.ownBlock = v.ownBlock ∨ ∃ g, v1.ownBlock = some g ∧ w.heap.size ≤ g)
    (h2 : Ct B w2 b p c2 v2) (k2 : Keep (b :: v1.ownBlock.toList) w1 w2) (hv2 : v2.ownBlock = v1.ownBlock ∨ ∃ g, v2.ownBlock = some g ∧ w1.heap.size ≤ g) : Aft B w b p v c2 w2 := by
  refine ⟨v2, h2, k.trans' k2 (fun x hx hl => ?_), ?_⟩
  · rcases List.mem_cons.1 hx with rfl | hx
    · simp
    · rcases hv with e | ⟨g, e, hg⟩
      · rw [e] at hx; exact List.mem_cons_of_mem _ hx
      · rw [e] at hx
        have : x = g := by simpa using hx
        omega
  · rcases hv2 with e | ⟨g, e, hg⟩
    · rcases hv with e' | ⟨g, e', hg⟩
      · exact .inl (e.trans e')
      · exact .inr ⟨g, e.trans e', hg⟩
    · exact .inr ⟨g, e, Nat.le_trans k.size hg⟩

set_option maxRecDepth 100000 in
set_option maxHeartbeats 2000000 in
theorem chunk_data (B b : Nat) (p : List UInt8) (c : Ck) (v : Value) (w : World) (h : Ct B w b p c v) (hB : B ≤ w.heap.size) (hl : c.inp.length + c.dat.length ≤ 1048576) (hleft : (c.left : Int) ≤ 9223372036854775807) :
    Calls Tryd.prog 66 #[.pointer (some ⟨b, 0, none⟩)] w fun e w' => e = .returned (.int .i64 (dataM c).2) ∧ Aft B w b p v (dataM c).1 w' := by
  have sz := S_size c.inp
  obtain ⟨_, c1, _, _, c4, _, _⟩ := h.at
  have hmin : min ((c.left : Nat) : Int) ((c.inp.length : Nat) : Int) = ((min c.left c.inp.length : Nat) : Int) := by omega
  have hd := data_eq c _ rfl
  have hn1 : min c.left c.inp.length ≤ c.left := Nat.min_le_left _ _
  have hn2 : min c.left c.inp.length ≤ c.inp.length := Nat.min_le_right _ _
  generalize min c.left c.inp.length = n at *
  obtain ⟨ad, o, hbd, hdo⟩ := h
  have ho : o.length ≤ c.dat.length := by rw [hdo]; simp
  have H := Lib.hid hbd
  have HB := Lib.hid hB
  have HD := Lib.hid hd
  have HDO := Lib.hid hdo
  clear hd hdo hbd hB
  have hx1 : (S c.inp).extract 0 n = S (c.inp.take n) := by rw [S_extract, List.drop_zero]
  have hx2 : (S c.inp).extract n c.inp.length = S (c.inp.drop n) := by rw [S_extract, List.take_length]
  have lt : (c.inp.take n).length = n := by rw [List.length_take]; omega
  have i0 : (0 : Int) ≤ (n : Int) := by omega
  have i1 : (n : Int) ≤ (c.inp.length : Int) := by omega
  go_enter Tryd.func66, Tryd.ntmps66
  go_upto_region 1 with fail
  go_cut [3] (fun y wx => y = .int .i64 (n : Nat) ∧ Hid (Keep [] w wx))
  case first =>
    go_region_with fail
    all_goals
      go_wp2_with fail
      go_meet
      exact ⟨rfl, Lib.hid (by repeat (first | exact Keep.refl _ _ | apply Keep.drew))⟩
  case rest =>
  obtain ⟨rfl, KX⟩ := hcut
  have H1 := Lib.hid (H.out.keep KX.out (by simp) (by simp))
  have K1 := Lib.hid KX.out
  clear c1 c4 hmin KX
  have c4 := H1.out.blk.get (k := 4) rfl
  have HW := Lib.hid (fun w2 (k2 : Keep [] wc w2) => bld_Write (c.inp.take n) (H1.out.keep k2 (by simp) (by simp)) ck_lies (Nat.le_trans (Nat.le_trans HB.out K1.out.size) k2.size) (by rw [lt]; omega))
  go_upto_region 2 with fail
  go_cut [] (fun wx => Hid (∃ v', Bd B wx b 5 85 (ckC c (.pointer (some ⟨b, 5, none⟩)) v') v' (o ++ c.inp.take n) ∧ Keep (b :: v.ownBlock.toList) w wx ∧ (v'.ownBlock = v.ownBlock ∨ ∃ g, v'.ownBlock = some g ∧ w.heap.size ≤ g)))
  case first =>
    go_region_with (first
      | (go_at_call 82; refine (HW.out _ (by repeat (first | exact Keep.refl _ _ | apply Keep.drew))).mono ?_; rintro e w2 ⟨rfl, v', hb', hk', hv'⟩; have HX := Lib.hid (And.intro hb' (And.intro hk' hv')); clear hb' hk' hv')
      | fail)
    all_goals
      go_wp2_with fail
      go_meet
      refine Lib.hid ?_
      obtain ⟨hb', hk', hv'⟩ := HX.out
      refine ⟨v', ?_, ?_, ?_⟩
      · exact hb'
      · refine Keep.trans' (Keep.mono (S' := b :: v.ownBlock.toList) (S := []) ?_ (by simp)) hk' (fun x hx _ => hx)
        repeat (first | exact K1.out | apply Keep.drew)
      · rcases hv' with e | ⟨g, e, hg⟩
        · exact .inl e
        · exact .inr ⟨g, e, Nat.le_trans K1.out.size hg⟩
  case rest =>
  have HC := hcut
  clear hcut H1 K1 c4 HW hx1
  obtain ⟨v', hb, hk, hv⟩ := HC.out
  have HN := Lib.hid (And.intro hb (And.intro hk hv))
  have c1 := hb.blk.get (k := 1) rfl
  have c4 := hb.blk.get (k := 4) rfl
  have c7 := hb.blk.get (k := 7) rfl
  have c0 := hb.blk.get (k := 0) rfl
  have f1 := hb.blk.frozen 1
  have f4 := hb.blk.frozen 4
  have f7 := hb.blk.frozen 7
  have f0 := hb.blk.frozen 0
  have w2 := IntWalk.i64_in ((c.dat.length : Int) + (n : Int)) (by omega)
  have ld : (c.dat ++ c.inp.take n).length = c.dat.length + n := by rw [List.length_append, lt]
  clear hb hk hv HC
  have e1 : ((c.left : Int) - (n : Int)) = ((c.left - n : Nat) : Int) := by omega
  have e7 : ((c.dat.length : Int) + (n : Int)) = ((c.dat.length + n : Nat) : Int) := by omega
  have hdat : c.dat ++ c.inp.take n = p ++ (o ++ c.inp.take n) := by rw [HDO.out, List.append_assoc]
  generalize hlf : c.left - n = lf at *
  have w1 := IntWalk.i64_in ((lf : Nat) : Int) (by omega)
  have HE := Lib.hid (And.intro e1 (And.intro e7 (And.intro ld hdat)))
  clear e7 ld hdat hlf
  by_cases h0 : 0 < lf
  · have hd := HD.out
    rw [if_pos h0] at hd
    have HF := Lib.hid hd
    have h0' : decide ((lf : Int) > 0) = true := by simp; omega
    clear hd HD
    go_wp2_with fail
    go_ret
    rw [HF.out]
    try rw [HE.out.2.1, ← HE.out.2.2.1]
    refine ⟨rfl, v', ⟨.pointer (some ⟨b, 5, none⟩), o ++ c.inp.take n, ?_, HE.out.2.2.2⟩, ((HN.out.2.1.setCell _ _ (by simp)).setCell _ _ (by simp)).setCell _ _ (by simp), HN.out.2.2⟩
    have := ((HN.out.1.set 4 (.string (S (c.inp.drop n))) (by omega) (by omega)).set 1 (.int .i64 ((lf : Nat) : Int)) (by omega) (by omega)).set 7 (.int .i64 ((c.dat.length : Int) + (n : Int))) (by omega) (by omega)
    rw [HE.out.2.1, ← HE.out.2.2.1] at this
    exact this
  · have hd := HD.out
    rw [if_neg h0] at hd
    have HF := Lib.hid hd
    have h0' : decide ((lf : Int) > 0) = false := by simp; omega
    clear hd HD
    go_wp2_with fail
    go_ret
    rw [HF.out]
    try rw [HE.out.2.1, ← HE.out.2.2.1]
    refine ⟨rfl, v', ⟨.pointer (some ⟨b, 5, none⟩), o ++ c.inp.take n, ?_, HE.out.2.2.2⟩, (((HN.out.2.1.setCell _ _ (by simp)).setCell _ _ (by simp)).setCell _ _ (by simp)).setCell _ _ (by simp), HN.out.2.2⟩
    have := (((HN.out.1.set 4 (.string (S (c.inp.drop n))) (by omega) (by omega)).set 1 (.int .i64 ((lf : Nat) : Int)) (by omega) (by omega)).set 7 (.int .i64 ((c.dat.length : Int) + (n : Int))) (by omega) (by omega)).set 0 (.int .i64 2) (by omega) (by omega)
    rw [HE.out.2.1, ← HE.out.2.2.1] at this
    exact this

set_option maxRecDepth 100000 in
set_option maxHeartbeats 2000000 in
theorem chunk_step (B b : Nat) (p : List UInt8) (c : Ck) (v : Value) (w : World) (hm : ML w) (hb : 0 ≠ b) (h : Ct B w b p c v) (hB : B ≤ w.heap.size) (hl : c.inp.length + c.dat.length ≤ 1048576) (hmost : (c.most : Int) ≤ 9223372036854775807) (hok : c.ok) :
    Calls Tryd.prog 46 #[.pointer (some ⟨b, 0, none⟩)] w fun e w' => e = .returned (.int .i64 (stepM c).2) ∧ Aft B w b p v (stepM c).1 w' := by
  obtain ⟨k1, k2, k3⟩ := hok
  obtain ⟨c0, _⟩ := h.at
  have hs : stepM c = if c.st = 0 then beginM c else if c.st = 1 then dataM c else if c.st = 2 then closeM c else if c.st = 3 then trailM c else (c, 17) := rfl
  by_cases h0 : c.st = 0
  · have HC := Lib.hid (chunk_begin B b p c v w hm hb h (by omega) hmost (by omega))
    rw [if_pos h0] at hs
    have HS := Lib.hid hs
    rw [h0] at c0
    clear hs h
    go_enter Tryd.func46, Tryd.ntmps46
    go_wp2_with fail
    refine HC.out.mono ?_
    rintro e w1 ⟨rfl, hx, hk⟩
    have HX := Lib.hid (Aft.of hx hk)
    clear hx hk
    go_wp2_with fail
    go_ret
    rw [HS.out]
    exact ⟨rfl, HX.out⟩
  by_cases h1 : c.st = 1
  · have HC := Lib.hid (chunk_data B b p c v w h hB hl (by omega))
    rw [if_neg h0, if_pos h1] at hs
    have HS := Lib.hid hs
    rw [h1] at c0
    clear hs h
    go_enter Tryd.func46, Tryd.ntmps46
    go_wp2_with fail
    refine HC.out.mono ?_
    rintro e w1 ⟨rfl, hx⟩
    have HX := Lib.hid hx
    clear hx
    go_wp2_with fail
    go_ret
    rw [HS.out]
    exact ⟨rfl, HX.out⟩
  by_cases h2 : c.st = 2
  · have HC := Lib.hid (chunk_close B b p c v w h (by omega))
    rw [if_neg h0, if_neg h1, if_pos h2] at hs
    have HS := Lib.hid hs
    rw [h2] at c0
    clear hs h
    go_enter Tryd.func46, Tryd.ntmps46
    go_wp2_with fail
    refine HC.out.mono ?_
    rintro e w1 ⟨rfl, hx, hk⟩
    have HX := Lib.hid (Aft.of hx hk)
    clear hx hk
    go_wp2_with fail
    go_ret
    rw [HS.out]
    exact ⟨rfl, HX.out⟩
  by_cases h3 : c.st = 3
  · have HC := Lib.hid (chunk_trailer B b p c v w hm hb h (by omega) k2)
    rw [if_neg h0, if_neg h1, if_neg h2, if_pos h3] at hs
    have HS := Lib.hid hs
    rw [h3] at c0
    clear hs h
    go_enter Tryd.func46, Tryd.ntmps46
    go_wp2_with fail
    refine HC.out.mono ?_
    rintro e w1 ⟨rfl, hx, hk⟩
    have HX := Lib.hid (Aft.of hx hk)
    clear hx hk
    go_wp2_with fail
    go_ret
    rw [HS.out]
    exact ⟨rfl, HX.out⟩
  · have h4 : c.st = 4 := by omega
    rw [if_neg h0, if_neg h1, if_neg h2, if_neg h3] at hs
    have HS := Lib.hid hs
    have HX := Lib.hid h
    rw [h4] at c0
    clear hs h
    go_enter Tryd.func46, Tryd.ntmps46
    go_wp2_with fail
    go_ret
    rw [HS.out]
    exact ⟨rfl, Aft.of HX.out (Keep.refl _ _)⟩
end Go.Proofs.YtpimfoohpfkciaaDoor

/- Layer 11: a builder that lies in another struct: String, Reset; a reader's New, Add, Take, Done, Rest, Size. No conditions but on lengths. -/
namespace Go.Proofs.YtpimfoohpfkciaaDoor
open Go.RowKit Go.Shelf

theorem keep_freeze {S : List Nat} {w w' : World} (h : Keep S w w') {p : Addr} (hp : p.block ∈ S) (n : Nat) : Keep S w (w'.freeze p n) := by
  refine h.trans ?_
  unfold World.freeze
  split
  · exact Keep.refl _ _
  · exact ⟨rfl, rfl, rfl, by simp, fun k hk hn => by
      simp only [Array.getElem?_modify]
      rw [if_neg (fun e => hn (by rw [← e]; exact hp))]⟩

def ck0 (most : Int) : Ck := ⟨0, 0, (max most 0).toNat, 0, [], [], 0⟩
theorem ck0_ok (m : Int) : (ck0 m).ok := ⟨by simp [ck0], by simp [ck0], by simp [ck0]⟩
set_option maxHeartbeats 2000000 in
set_option maxRecDepth 100000 in
theorem chunk_New (B : Nat) (m : Int) (w : World) (_hB : B ≤ w.heap.size) :
    Calls Tryd.prog 34 #[.int .i64 m] w fun e w' => ∃ b, e = .returned (.pointer (some ⟨b, 0, none⟩)) ∧ w.heap.size ≤ b ∧ b < w'.heap.size ∧ Ct B w' b [] (ck0 m) (.slice none 0 0) ∧ Keep [] w w' := by
  have hmx : max m 0 = (((max m 0).toNat : Nat) : Int) := by omega
  have hbk := Blk.newA w (ckC (ck0 m) (.pointer none) (.slice none 0 0)).toArray 85
  have H := Lib.hid hbk
  have HM := Lib.hid hmx
  have hmx2 : max m 0 = ((ck0 m).most : Int) := hmx
  generalize hmm : (ck0 m).most = k at *
  clear hbk hmx
  go_enter Tryd.func34, Tryd.ntmps34
  go_wp2_with fail
  go_ret
  refine ⟨w.heap.size, rfl, Nat.le_refl _, by simp, ⟨.pointer none, [], ⟨?_, .inl rfl, rfl, Own.nil _ _ _ _ _, by simp [Value.ownBlock]⟩, rfl⟩, (Keep.refl [] w).alloc _⟩
  have := H.out
  subst hmm
  exact this

set_option maxHeartbeats 1000000 in
set_option maxRecDepth 100000 in
theorem chunk_Done {B b : Nat} {p : List UInt8} {c : Ck} {v : Value} {w : World} (h : Ct B w b p c v) (_ : c.st ≤ 4) :
    Calls Tryd.prog 37 #[.pointer (some ⟨b, 0, none⟩)] w fun e w' => e = .returned (.bool (decide (c.st = 4))) ∧ w = w' := by
  obtain ⟨c0, _⟩ := h.at
  clear h
  by_cases h4 : c.st = 4
  · rw [h4] at c0
    go_enter Tryd.func37, Tryd.ntmps37
    go_wp2_with fail
    go_ret
    exact ⟨by simp [h4], rfl⟩
  · have h4' := (nat_ne (show c.st ≠ 4 from h4)).1
    have h5 := (int_ne (show ((c.st : Nat) : Int) ≠ 4 by omega)).1
    have h6 : decide (c.st = 4) = false := by simp [h4]
    have HF := Lib.hid h6
    generalize c.st = st at *
    go_enter Tryd.func37, Tryd.ntmps37
    go_wp2_with fail
    go_ret
    exact ⟨ret_bool (by simp [h4]), rfl⟩
set_option maxHeartbeats 1000000 in
set_option maxRecDepth 100000 in
theorem chunk_Rest {B b : Nat} {p : List UInt8} {c : Ck} {v : Value} {w : World} (h : Ct B w b p c v) (hs : c.st ≤ 4) :
    Calls Tryd.prog 38 #[.pointer (some ⟨b, 0, none⟩)] w fun e w' => e = .returned (.string (S (if c.st = 4 then c.inp else []))) ∧ w = w' := by
  have HD := Lib.hid (chunk_Done h hs)
  obtain ⟨_, _, _, _, c4, _, _⟩ := h.at
  clear h
  by_cases h4 : c.st = 4
  · rw [decide_eq_true h4] at HD
    rw [if_pos h4]
    go_enter Tryd.func38, Tryd.ntmps38
    go_wp2_with fail
    refine HD.out.mono ?_
    rintro e w1 ⟨rfl, rfl⟩
    go_wp2_with fail
    go_ret
    exact ⟨rfl, rfl⟩
  · rw [decide_eq_false h4] at HD
    rw [if_neg h4]
    go_enter Tryd.func38, Tryd.ntmps38
    go_wp2_with fail
    refine HD.out.mono ?_
    rintro e w1 ⟨rfl, rfl⟩
    go_wp2_with fail
    go_ret
    exact ⟨rfl, rfl⟩
/-- what Add comes to -/
def AddR (c : Ck) (s : List UInt8) (c' : Ck) : Prop := if c.err ≠ 0 then c' = c else ∃ d e, Runs (c.add s) d e ∧ c' = { d with err := if e = 17 then 0 else e }
theorem add_ok {c : Ck} (h : c.ok) (s : List UInt8) : (c.add s).ok := h

set_option maxHeartbeats 2000000 in
set_option maxRecDepth 100000 in
theorem chunk_Add (B b : Nat) (p s : List UInt8) (c c' : Ck) (v : Value) (w : World) (hm : ML w) (hb : 0 ≠ b) (h : Ct B w b p c v) (hB : B ≤ w.heap.size) (hbig : 0 < B) (hl : c.inp.length + c.dat.length + s.length ≤ 1048576) (hmost : (c.most : Int) ≤ 9223372036854775807) (hok : c.err = 0 → c.ok) (ha : AddR c s c') :
    Calls Tryd.prog 36 #[.pointer (some ⟨b, 0, none⟩), .string (S s)] w fun e w' => e = .returned (.int .i64 c'.err) ∧ Aft B w b p v c' w' := by
  obtain ⟨_, _, _, _, c4, _, c8⟩ := h.at
  unfold AddR at ha
  by_cases he : c.err = 0
  · rw [if_neg (by simp [he])] at ha
    obtain ⟨d, e0, hr, hc'⟩ := ha
    have s1 := S_size c.inp
    have s2 := S_size s
    have hcat := S_append c.inp s
    have lc : (c.inp ++ s).length = c.inp.length + s.length := by simp
    have f4 := h.free 4
    have hko := hok he
    have hro := runs_ok hr (add_ok hko s)
    have hderr : d.err = 0 := hro.2.2.1.trans he
    have H1 := Lib.hid (h.set 4 (.string (S (c.inp ++ s))) (c' := c.add s) (fun _ => rfl) rfl)
    have K1 := Lib.hid ((Keep.refl [b] w).setCell ⟨b, 4, none⟩ (.string (S (c.inp ++ s))) (by simp))
    have HR := Lib.hid hr
    have HM := Lib.hid hm
    rw [he] at c8
    clear h hr hok hm hro
    go_enter Tryd.func36, Tryd.ntmps36
    go_wp2_with fail
    go_step3
    go_wp2_with fail
    go_step3
    go_wp2_with fail
    generalize hw1 : w.setCell ⟨b, 4, none⟩ (.string (S (c.inp ++ s))) = w1 at *
    try rw [hw1]
    clear hw1 c4 c8 f4
    go_loopg [5] (c.add s).mu (fun g ev wr => ∃ cur : Ck, g = cur.mu ∧ Hid (Aft B w b p v cur wr) ∧ Hid (Runs cur d e0) ∧ Hid (cur.ok) ∧ Hid (cur.inp.length + cur.dat.length ≤ 1048576 ∧ cur.most = c.most ∧ cur.err = 0))
    case atStart => exact ⟨c.add s, rfl, Lib.hid (Aft.of H1.out K1.out), HR, Lib.hid hko, Lib.hid ⟨by show (c.inp ++ s).length + c.dat.length ≤ _; omega, rfl, he⟩⟩
    case round =>
      obtain ⟨cur, hg, HA, HRu, HK, HL⟩ := hrel
      obtain ⟨v1, hct, hk, hv⟩ := HA.out
      obtain ⟨hl1, hmo, hce⟩ := HL.out
      have hso := step_ok HK.out
      have hS := chunk_step B b p cur v1 wr (by
        obtain ⟨x, hx⟩ := HM.out
        exact (ML.keep ⟨x, hx⟩ hk (by
          simp only [List.mem_cons, not_or]
          refine ⟨hb, fun hh => ?_⟩
          have : v.ownBlock = some 0 := by simpa using hh
          have hlt : B ≤ 0 := by
            obtain ⟨ad, o, hbd, _⟩ := H1.out
            exact (hbd.own.lt _ this).1
          omega))) hb hct (Nat.le_trans hB hk.size) hl1 (by rw [hmo]; exact hmost) HK.out
      have HS := Lib.hid hS
      have HCt := Lib.hid (And.intro hct (And.intro hk hv))
      have HRc := Lib.hid (show (stepM cur).2 = 0 ∧ Runs (stepM cur).1 d e0 ∨ (stepM cur).2 ≠ 0 ∧ d = (stepM cur).1 ∧ e0 = (stepM cur).2 by
        cases HRu.out with
        | stop hh => exact .inr ⟨hh, rfl, rfl⟩
        | more hh hh2 => exact .inl ⟨hh, hh2⟩)
      have HSo := Lib.hid hso
      generalize hst : stepM cur = sr at HS HRc HSo
      obtain ⟨nx, er⟩ := sr
      dsimp only at HS HRc HSo
      clear hso hS hct hk hv HA HRu hst hl1 hmo hce
      by_cases h0 : er = 0
      · subst h0
        have hR2 : Runs nx d e0 := by
          rcases HRc.out with hh | hh
          · exact hh.2
          · exact absurd rfl hh.1
        have HR2 := Lib.hid hR2
        clear hR2
        go_wp2_with fail
        refine HS.out.mono ?_
        rintro e w2 ⟨rfl, v2, a1, a2, a3⟩
        have HA2 := Lib.hid (Aft.trans HCt.out.1 HCt.out.2.1 HCt.out.2.2 a1 a2 a3)
        clear a1 a2 a3
        go_wp2_with fail
        go_roundg nx.mu
        case measure => rw [hg]; exact HSo.out.1 (by first | rfl | trivial)
        case rel =>
          obtain ⟨q1, q2, q3, q4, q5, _⟩ := HSo.out
          exact ⟨nx, rfl, HA2, HR2, Lib.hid (q2 (.inl (by first | rfl | trivial))), Lib.hid ⟨Nat.le_trans q5 HL.out.1, q3.trans HL.out.2.1, q4.trans HL.out.2.2⟩⟩
      · have hde : d = nx ∧ e0 = er := by
          rcases HRc.out with hh | hh
          · exact absurd hh.1 h0
          · exact hh.2
        obtain ⟨rfl, rfl⟩ := hde
        by_cases h17 : e0 = 17
        · subst h17
          have HC := Lib.hid (show c' = d by rw [hc', if_pos rfl, ← hderr])
          clear hc'
          go_wp2_with fail
          refine HS.out.mono ?_
          rintro e w2 ⟨rfl, v2, a1, a2, a3⟩
          have HA2 := Lib.hid (Aft.trans HCt.out.1 HCt.out.2.1 HCt.out.2.2 a1 a2 a3)
          obtain ⟨_, _, _, _, _, _, e8⟩ := a1.at
          clear a1 a2 a3
          go_wp2_with fail
          rw [Exit.noGoto_ret]
          go_ret
          rw [HC.out]
          exact ⟨by rw [hderr]; rfl, HA2.out⟩
        · have q1 := (int_ne h0).1
          have q2 := (int_ne h17).1
          have HC := Lib.hid (show c' = { d with err := e0 } by rw [hc', if_neg h17])
          clear hc' h17 h0
          go_wp2_with fail
          refine HS.out.mono ?_
          rintro e w2 ⟨rfl, v2, a1, a2, a3⟩
          have HA2 := Lib.hid (Aft.trans HCt.out.1 HCt.out.2.1 HCt.out.2.2 a1 a2 a3)
          obtain ⟨_, _, _, _, _, _, e8⟩ := a1.at
          have g8 := a1.free 8
          clear a1 a2 a3
          go_wp2_with fail
          rw [Exit.noGoto_ret]
          go_ret
          obtain ⟨v3, a1, a2, a3⟩ := HA2.out
          rw [HC.out]
          exact ⟨rfl, v3, a1.set 8 _ (fun _ => rfl) rfl, a2.setCell _ _ (by simp), a3⟩
  · rw [if_pos he] at ha
    have q1 := (int_ne he).1
    have q2 := (int_ne he).2
    have H := Lib.hid h
    subst ha
    clear h
    go_enter Tryd.func36, Tryd.ntmps36
    go_wp2_with fail
    go_step3
    go_wp2_with fail
    rw [Exit.noGoto_ret]
    go_ret
    exact ⟨rfl, Aft.of H.out (Keep.refl _ _)⟩
end Go.Proofs.YtpimfoohpfkciaaDoor

/- Layer 11, plain laws: the document's line, number; the machine's steps one by one. No program. No conditions but those that each theorem states. -/
namespace Go.Proofs.YtpimfoohpfkciaaDoor
open Go.RowKit

theorem runs_step {c d : Ck} {e : Int} (h : Runs c d e) : (stepM c).2 = 0 ∧ Runs (stepM c).1 d e ∨ (stepM c).2 ≠ 0 ∧ d = (stepM c).1 ∧ e = (stepM c).2 := by
  cases h with
  | stop hh => exact .inr ⟨hh, rfl, rfl⟩
  | more hh hh2 => exact .inl ⟨hh, hh2⟩
theorem step0 {c : Ck} (h : c.st = 0) : stepM c = beginM c := by unfold stepM; rw [if_pos h]
theorem step1 {c : Ck} (h : c.st = 1) : stepM c = dataM c := by unfold stepM; rw [if_neg (by omega), if_pos h]
theorem step2 {c : Ck} (h : c.st = 2) : stepM c = closeM c := by unfold stepM; rw [if_neg (by omega), if_neg (by omega), if_pos h]
theorem step3 {c : Ck} (h : c.st = 3) : stepM c = trailM c := by unfold stepM; rw [if_neg (by omega), if_neg (by omega), if_neg (by omega), if_pos h]
theorem step4 {c : Ck} (h : c.st = 4) : stepM c = (c, 17) := by unfold stepM; rw [if_neg (by omega), if_neg (by omega), if_neg (by omega), if_neg (by omega)]
theorem runs_eq {c d : Ck} {e : Int} {r : Ck × Int} (h : Runs c d e) (hs : stepM c = r) : r.2 = 0 ∧ Runs r.1 d e ∨ r.2 ≠ 0 ∧ d = r.1 ∧ e = r.2 := by rw [← hs]; exact runs_step h
/-- a chunk's line -/
theorem runs_begin {c d : Ck} {e : Int} (h : Runs c d e) (h0 : c.st = 0) :
    ((lnC c.inp).e ≠ 0 ∧ d = c ∧ e = (lnC c.inp).e) ∨
    ((lnC c.inp).e = 0 ∧ numE (lnC c.inp).t ((c.most : Int) - c.dat.length) ≠ 0 ∧ d = { c with inp := (lnC c.inp).r } ∧ e = numE (lnC c.inp).t ((c.most : Int) - c.dat.length)) ∨
    ((lnC c.inp).e = 0 ∧ numE (lnC c.inp).t ((c.most : Int) - c.dat.length) = 0 ∧ Runs { c with inp := (lnC c.inp).r, left := (numV (lnC c.inp).t ((c.most : Int) - c.dat.length)).toNat, st := if numV (lnC c.inp).t ((c.most : Int) - c.dat.length) = 0 then 3 else 1 } d e) := by
  have hr := runs_eq h (step0 h0)
  unfold beginM at hr
  by_cases h1 : (lnC c.inp).e = 0
  · rw [if_neg (by simp [h1])] at hr
    by_cases h2 : numE (lnC c.inp).t ((c.most : Int) - c.dat.length) = 0
    · rw [if_neg (by simp [h2])] at hr
      rcases hr with hr | hr
      · exact .inr (.inr ⟨h1, h2, hr.2⟩)
      · exact absurd rfl hr.1
    · rw [if_pos h2] at hr
      rcases hr with hr | hr
      · exact absurd hr.1 h2
      · exact .inr (.inl ⟨h1, h2, hr.2⟩)
  · rw [if_pos h1] at hr
    rcases hr with hr | hr
    · exact absurd hr.1 h1
    · exact .inl ⟨h1, hr.2⟩
/-- a chunk's data -/
theorem runs_data {c d : Ck} {e : Int} (h : Runs c d e) (h0 : c.st = 1) :
    (c.inp.length < c.left ∧ d = { c with inp := [], dat := c.dat ++ c.inp, left := c.left - c.inp.length } ∧ e = 17) ∨
    (c.left ≤ c.inp.length ∧ Runs { c with inp := c.inp.drop c.left, dat := c.dat ++ c.inp.take c.left, left := 0, st := 2 } d e) := by
  have hr := runs_eq h (step1 h0)
  unfold dataM at hr
  by_cases h1 : c.inp.length < c.left
  · have hm : min c.left c.inp.length = c.inp.length := by omega
    rw [hm, if_pos (by omega), List.drop_length, List.take_length] at hr
    rcases hr with hr | hr
    · have := hr.1; simp at this
    · exact .inl ⟨h1, hr.2⟩
  · have hm : min c.left c.inp.length = c.left := by omega
    rw [hm, if_neg (by omega), Nat.sub_self] at hr
    rcases hr with hr | hr
    · exact .inr ⟨by omega, hr.2⟩
    · exact absurd rfl hr.1
/-- what follows a chunk's data -/
theorem runs_close {c d : Ck} {e : Int} (h : Runs c d e) (h0 : c.st = 2) :
    (c.inp.take 2 ≠ crlfC.take c.inp.length ∧ d = c ∧ e = 3) ∨
    (c.inp.take 2 = crlfC.take c.inp.length ∧ c.inp.length < 2 ∧ d = c ∧ e = 17) ∨
    (c.inp.take 2 = crlfC.take c.inp.length ∧ 2 ≤ c.inp.length ∧ Runs { c with inp := c.inp.drop 2, st := 0 } d e) := by
  have hr := runs_eq h (step2 h0)
  unfold closeM at hr
  by_cases h1 : c.inp.take 2 = crlfC.take c.inp.length
  · rw [if_neg (by simp [h1])] at hr
    by_cases h2 : c.inp.length < 2
    · rw [if_pos h2] at hr
      rcases hr with hr | hr
      · have := hr.1; simp at this
      · exact .inr (.inl ⟨h1, h2, hr.2⟩)
    · rw [if_neg h2] at hr
      rcases hr with hr | hr
      · exact .inr (.inr ⟨h1, by omega, hr.2⟩)
      · exact absurd rfl hr.1
  · rw [if_pos h1] at hr
    rcases hr with hr | hr
    · have := hr.1; simp at this
    · exact .inl ⟨h1, hr.2⟩
/-- a line behind the last chunk -/
theorem runs_trail {c d : Ck} {e : Int} (h : Runs c d e) (h0 : c.st = 3) :
    ((lnC c.inp).e ≠ 0 ∧ d = c ∧ e = (lnC c.inp).e) ∨
    ((lnC c.inp).e = 0 ∧ (lnC c.inp).t = [] ∧ d = { c with inp := (lnC c.inp).r, st := 4 } ∧ e = 17) ∨
    ((lnC c.inp).e = 0 ∧ (lnC c.inp).t ≠ [] ∧ parseE (lnC c.inp).t ≠ 0 ∧ d = { c with inp := (lnC c.inp).r } ∧ e = 3) ∨
    ((lnC c.inp).e = 0 ∧ (lnC c.inp).t ≠ [] ∧ parseE (lnC c.inp).t = 0 ∧ 16 ≤ c.flds ∧ d = { c with inp := (lnC c.inp).r, flds := c.flds + 1 } ∧ e = 4) ∨
    ((lnC c.inp).e = 0 ∧ (lnC c.inp).t ≠ [] ∧ parseE (lnC c.inp).t = 0 ∧ c.flds < 16 ∧ Runs { c with inp := (lnC c.inp).r, flds := c.flds + 1 } d e) := by
  have hr := runs_eq h (step3 h0)
  unfold trailM at hr
  by_cases h1 : (lnC c.inp).e = 0
  · rw [if_neg (by simp [h1])] at hr
    by_cases h2 : (lnC c.inp).t = []
    · rw [if_pos h2] at hr
      rcases hr with hr | hr
      · have hq := runs_eq hr.2 (step4 rfl)
        rcases hq with hq | hq
        · have := hq.1; simp at this
        · exact .inr (.inl ⟨h1, h2, hq.2⟩)
      · exact absurd rfl hr.1
    · rw [if_neg h2] at hr
      by_cases h3 : parseE (lnC c.inp).t = 0
      · rw [if_neg (by simp [h3])] at hr
        by_cases h4 : 16 < c.flds + 1
        · rw [if_pos h4] at hr
          rcases hr with hr | hr
          · have := hr.1; simp at this
          · exact .inr (.inr (.inr (.inl ⟨h1, h2, h3, by omega, hr.2⟩)))
        · rw [if_neg h4] at hr
          rcases hr with hr | hr
          · exact .inr (.inr (.inr (.inr ⟨h1, h2, h3, by omega, hr.2⟩)))
          · exact absurd rfl hr.1
      · rw [if_pos h3] at hr
        rcases hr with hr | hr
        · exact absurd hr.1 h3
        · have h5 : parseE (lnC c.inp).t = 3 := by rcases parseE_cases (lnC c.inp).t with h | h; exact absurd h h3; exact h
          exact .inr (.inr (.inl ⟨h1, h2, h3, hr.2.1, hr.2.2.trans h5⟩))
  · rw [if_pos h1] at hr
    rcases hr with hr | hr
    · exact absurd hr.1 h1
    · exact .inl ⟨h1, hr.2⟩

theorem suffix_crlf {l : List UInt8} {k : Nat} (h : l[k]? = some 10) : Lib.hasSuffix (l.take (k + 1)) crlfC = (decide (0 < k) && decide (l[k - 1]? = some 13)) := by
  unfold Lib.hasSuffix
  rw [Bool.eq_iff_iff, List.isSuffixOf_iff_suffix]
  have e1 : l.take (k + 1) = l.take k ++ [10] := take_snoc h
  rw [e1]
  cases k with
  | zero =>
    simp
    intro hs
    have := hs.length_le
    simp [crlfC] at this
  | succ j =>
    have hj : j < l.length := by have := (List.getElem?_eq_some_iff.1 h).1; omega
    obtain ⟨x, hx⟩ : ∃ x, l[j]? = some x := ⟨_, List.getElem?_eq_getElem hj⟩
    rw [take_snoc hx]
    have hs : (l.take j ++ [x] ++ [10] : List UInt8) = l.take j ++ [x, 10] := by simp
    rw [hs, show j + 1 - 1 = j by omega, hx]
    simp
    constructor
    · rintro ⟨p, hp⟩
      have := (List.append_inj' hp (by simp [crlfC])).2
      have h2 : (13 : UInt8) = x := by simpa [crlfC] using this
      exact h2.symm
    · rintro rfl
      exact ⟨l.take j, rfl⟩
/-- the place behind a line -/
def nxt (s : List UInt8) (a : Nat) : Nat := if (lnC (s.drop a)).e = 0 then s.length - (lnC (s.drop a)).r.length else 0
theorem ln_suffix (l : List UInt8) : (lnC l).r <:+ l := by
  rcases line_cases l with hn | ⟨k, hk, hkl, h256⟩
  · rw [line_short hn]; split <;> exact List.suffix_refl _
  · rw [line_at hk]
    split
    · exact List.drop_suffix _ _
    · exact List.suffix_refl _
theorem drop_of_suffix {s r : List UInt8} (h : r <:+ s) : s.drop (s.length - r.length) = r := by
  obtain ⟨p, rfl⟩ := h
  simp
theorem nxt_drop {s : List UInt8} {a : Nat} (h : (lnC (s.drop a)).e = 0) : s.drop (nxt s a) = (lnC (s.drop a)).r ∧ nxt s a ≤ s.length ∧ (a ≤ s.length → a + 2 ≤ nxt s a) := by
  have h1 := ln_suffix (s.drop a)
  have h2 := line_le (s.drop a)
  have h3 := h2.2.1 h
  rw [List.length_drop] at h3
  have hl := h1.length_le
  rw [List.length_drop] at hl
  unfold nxt
  rw [if_pos h]
  exact ⟨drop_of_suffix (h1.trans (List.drop_suffix _ _)), by omega, fun _ => by omega⟩
theorem dig_mem (b : UInt8) : digitsB.contains b = digOk b := by
  have : ∀ n : Fin 256, digitsB.contains (UInt8.ofNat n.1) = digOk (UInt8.ofNat n.1) := by decide +kernel
  have h := this ⟨b.toNat, b.toNat_lt⟩
  simpa using h
theorem numRest_at {t : List UInt8} {k : Nat} (hk : k ≤ t.length) (h1 : (t.take k).all digOk = true) (h2 : ∀ b, t[k]? = some b → digOk b = false) : numRest t = t.drop k := by
  unfold numRest
  refine Lib.trimLeftS_drop t digitsB k hk (fun j b hj hb => ?_) (fun b hb => ?_)
  · rw [dig_mem]
    exact List.all_eq_true.1 h1 b (List.mem_of_getElem? (i := j) (by rw [List.getElem?_take, if_pos hj]; exact hb))
  · rw [dig_mem]; exact h2 b hb
theorem num_len' (t : List UInt8) : (numRest t).length ≤ t.length := by unfold numRest Lib.trimLeftS; exact List.Sublist.length_le (List.dropWhile_sublist _)
theorem numT_at {t : List UInt8} {k : Nat} (hk : k ≤ t.length) (h : numRest t = t.drop k) : numT t = t.take k := by
  unfold numT
  rw [h, List.length_drop, show t.length - (t.length - k) = k by omega]
theorem sep_mem (b : UInt8) : decide (0 ≤ Lib.indexByte [32, 9, 59] b) = (decide (b = 32) || decide (b = 9) || decide (b = 59)) := by
  have : ∀ n : Fin 256, decide (0 ≤ Lib.indexByte [32, 9, 59] (UInt8.ofNat n.1)) = (decide (UInt8.ofNat n.1 = 32) || decide (UInt8.ofNat n.1 = 9) || decide (UInt8.ofNat n.1 = 59)) := by decide +kernel
  have h := this ⟨b.toNat, b.toNat_lt⟩
  simpa using h
/-- the document's number -/
def numV2 (t : List UInt8) (m : Int) : Int := if restOk (numRest t) then unhexV (numT t) m else 0

/-- what a body comes to: data, whether whole, how long the whole, error -/
structure Bdy where
  dat : List UInt8
  done : Bool
  size : Nat
  err : Int
def Bdy.cells (b : Bdy) : List Value := [.string (S b.dat), .bool b.done, .int .i64 (b.size : Nat), .int .i64 b.err]
def bodyOf (s : List UInt8) (d : Ck) (e : Int) : Bdy := ⟨d.dat, decide (d.st = 4), if d.st = 4 then s.length - d.inp.length else 0, if e = 17 then 0 else e⟩
def endB (b : Bdy) (e : Int) : Bdy := { b with err := if e = 17 then b.err else e }
end Go.Proofs.YtpimfoohpfkciaaDoor

/- Layer 11, plain laws: bytes that come piece by piece. No program. No conditions but those that each theorem states. -/
namespace Go.Proofs.YtpimfoohpfkciaaDoor
open Go.RowKit

theorem step_suffix (c : Ck) : (stepM c).1.inp <:+ c.inp := by
  have hl := ln_suffix c.inp
  unfold stepM
  split
  · unfold beginM; split
    · exact List.suffix_refl _
    · split <;> exact hl
  split
  · unfold dataM; split <;> exact List.drop_suffix _ _
  split
  · unfold closeM; split
    · exact List.suffix_refl _
    · split
      · exact List.suffix_refl _
      · exact List.drop_suffix _ _
  split
  · unfold trailM; split
    · exact List.suffix_refl _
    · split
      · exact hl
      · split <;> exact hl
  · exact List.suffix_refl _
theorem runs_suffix {c d : Ck} {e : Int} (h : Runs c d e) : d.inp <:+ c.inp := by
  induction h with
  | stop _ => exact step_suffix _
  | more _ _ ih => exact ih.trans (step_suffix _)
theorem step_st (c : Ck) (h : c.st ≤ 4) : (stepM c).1.st ≤ 4 ∧ ((stepM c).1.st = 4 → (stepM c).2 = 0 ∨ (stepM c).2 = 17) := by
  unfold stepM
  split
  · unfold beginM; split
    · exact ⟨h, fun hh => by simp only at hh; omega⟩
    · split
      · exact ⟨h, fun hh => by simp only at hh; omega⟩
      · exact ⟨by simp only; split <;> omega, fun _ => .inl rfl⟩
  split
  · unfold dataM; split
    · exact ⟨h, fun _ => .inr rfl⟩
    · exact ⟨by simp only; omega, fun _ => .inl rfl⟩
  split
  · unfold closeM; split
    · exact ⟨h, fun hh => by simp only at hh; omega⟩
    · split
      · exact ⟨h, fun _ => .inr rfl⟩
      · exact ⟨by simp only; omega, fun _ => .inl rfl⟩
  split
  · unfold trailM; split
    · exact ⟨h, fun hh => by simp only at hh; omega⟩
    · split
      · exact ⟨by simp only; omega, fun _ => .inl rfl⟩
      · split
        · exact ⟨h, fun hh => by simp only at hh; omega⟩
        · exact ⟨h, fun hh => by simp only at hh; omega⟩
  · exact ⟨h, fun _ => .inr rfl⟩
theorem runs_st {c d : Ck} {e : Int} (h : Runs c d e) (hc : c.st ≤ 4) : d.st ≤ 4 ∧ (d.st = 4 → e = 17) := by
  induction h with
  | stop hh => have := step_st _ hc; exact ⟨this.1, fun h4 => by rcases this.2 h4 with h | h; exact absurd h hh; exact h⟩
  | more _ _ ih => exact ih (step_st _ hc).1
/-- what a reader is behind all bytes -/
def Rdc (m : Int) (all : List UInt8) (c : Ck) : Prop := ∃ d e, Runs ((ck0 m).add all) d e ∧ c = { d with err := if e = 17 then 0 else e }
theorem rd_nil (m : Int) : Rdc m [] (ck0 m) := by
  refine ⟨ck0 m, 17, ?_, rfl⟩
  have h : stepM ((ck0 m).add []) = (ck0 m, 17) := by
    show beginM ⟨0, 0, (max m 0).toNat, 0, [], [], 0⟩ = _
    unfold beginM
    rw [if_pos (by show (lnC []).e ≠ 0; decide)]
    rfl
  have := Runs.stop (c := (ck0 m).add []) (by rw [h]; show (17 : Int) ≠ 0; decide)
  rw [h] at this
  exact this
theorem Rdc.mk' {m : Int} {all : List UInt8} {d : Ck} {e : Int} (h : Runs ((ck0 m).add all) d e) : Rdc m all { d with err := if e = 17 then 0 else e } := ⟨d, e, h, rfl⟩
theorem Rdc.sound {m : Int} {all : List UInt8} {c : Ck} (h : Rdc m all c) : (c.err = 0 → c.ok ∧ Runs ((ck0 m).add all) c 17) ∧ c.most = (max m 0).toNat ∧ c.inp.length + c.dat.length ≤ all.length ∧ c.st ≤ 4 ∧ (c.st = 4 → c.err = 0) ∧ c.inp <:+ all := by
  obtain ⟨d, e, hr, rfl⟩ := h
  have ho := runs_ok hr (add_ok (ck0_ok m) all)
  have hd : d.err = 0 := ho.2.2.1
  have hs := runs_st hr (show ((ck0 m).add all).st ≤ 4 by simp [Ck.add, ck0])
  have hx := runs_suffix hr
  refine ⟨fun h0 => ?_, ho.2.1, ?_, hs.1, fun h4 => ?_, ?_⟩
  · have he : e = 17 := by
      simp only at h0
      split at h0
      · assumption
      · exact absurd h0 (runs_ne hr)
    subst he
    have : ({ d with err := if (17 : Int) = 17 then 0 else 17 } : Ck) = d := by rw [if_pos rfl, ← hd]
    rw [this]
    exact ⟨ho.1 rfl, hr⟩
  · have := ho.2.2.2.1; simpa [Ck.add, ck0] using this
  · simp only; rw [if_pos (hs.2 h4)]
  · simpa [Ck.add, ck0] using hx
theorem Rdc.add {m : Int} {all s : List UInt8} {c c' : Ck} (h : Rdc m all c) (ha : AddR c s c') : (c.err = 0 → Rdc m (all ++ s) c') ∧ (c.err ≠ 0 → c' = c) := by
  unfold AddR at ha
  by_cases h0 : c.err = 0
  · rw [if_neg (by simp [h0])] at ha
    obtain ⟨d, e, hr, hc⟩ := ha
    have hq := (h.sound.1 h0).2
    have := (runs_app hq s).2 rfl d e hr
    refine ⟨fun _ => ⟨d, e, ?_, hc⟩, fun hh => absurd h0 hh⟩
    have ee : ((ck0 m).add all).add s = (ck0 m).add (all ++ s) := by simp [Ck.add]
    rw [← ee]; exact this
  · rw [if_pos h0] at ha
    exact ⟨fun hh => absurd hh h0, fun _ => ha⟩
theorem addR_ex (c : Ck) (s : List UInt8) (h : c.err = 0 → c.ok) : ∃ c', AddR c s c' := by
  unfold AddR
  by_cases h0 : c.err = 0
  · obtain ⟨d, e, hr⟩ := runs_ex (c.add s).mu (c.add s) (add_ok (h h0) s) (Nat.le_refl _)
    exact ⟨_, by rw [if_neg (by simp [h0])]; exact ⟨d, e, hr, rfl⟩⟩
  · exact ⟨c, by rw [if_pos h0]⟩
theorem Rdc.more {m : Int} {all : List UInt8} {c : Ck} (h : Rdc m all c) (s : List UInt8) : ∃ c', AddR c s c' := addR_ex c s (fun h0 => (h.sound.1 h0).1)
/-- the document's answer, of the reader -/
theorem Rdc.body {m : Int} {all : List UInt8} {c : Ck} (h : Rdc m all c) : ∃ d e, Runs ((ck0 m).add all) d e ∧ (bodyOf all d e).dat = c.dat ∧ (bodyOf all d e).done = decide (c.st = 4) ∧ (bodyOf all d e).size = (if c.st = 4 then all.length - c.inp.length else 0) ∧ (bodyOf all d e).err = c.err ∧ (c.st = 4 → all.drop (all.length - c.inp.length) = c.inp) := by
  have hs := h.sound
  obtain ⟨d, e, hr, rfl⟩ := h
  exact ⟨d, e, hr, rfl, rfl, rfl, rfl, fun _ => drop_of_suffix hs.2.2.2.2.2⟩
/-- with an error earlier, the error of all -/
theorem rd_prefix {m : Int} {all s : List UInt8} {c c' : Ck} (h : Rdc m all c) (he : c.err ≠ 0) (h' : Rdc m (all ++ s) c') : c'.err = c.err ∧ c'.dat = c.dat ∧ c'.st = c.st := by
  obtain ⟨d, e, hr, rfl⟩ := h
  obtain ⟨d', e', hr', rfl⟩ := h'
  have h17 : e ≠ 17 := by intro hh; subst hh; exact he rfl
  have := (runs_app hr s).1 h17
  have ee : ((ck0 m).add all).add s = (ck0 m).add (all ++ s) := by simp [Ck.add]
  rw [ee] at this
  obtain ⟨rfl, rfl⟩ := runs_det hr' this
  exact ⟨rfl, rfl, rfl⟩
theorem rd_det {m : Int} {all : List UInt8} {c c' : Ck} (h : Rdc m all c) (h' : Rdc m all c') : c = c' := by
  obtain ⟨d, e, hr, rfl⟩ := h
  obtain ⟨d', e', hr', rfl⟩ := h'
  obtain ⟨rfl, rfl⟩ := runs_det hr hr'
  rfl
/-- alike for who asks: the same error, data, end; without an error the same rest -/
def Like (a b : Ck) : Prop := b.err = a.err ∧ b.dat = a.dat ∧ b.st = a.st ∧ (a.err = 0 → b.inp = a.inp)
/-- pieces added one behind the other -/
def Rq (m : Int) (all : List UInt8) (c : Ck) : Prop := ∃ p s, all = p ++ s ∧ Rdc m p c ∧ (c.err = 0 → s = [])
theorem rq_nil (m : Int) : Rq m [] (ck0 m) := ⟨[], [], rfl, rd_nil m, fun _ => rfl⟩
theorem Rq.add {m : Int} {all s : List UInt8} {c c' : Ck} (h : Rq m all c) (ha : AddR c s c') : Rq m (all ++ s) c' := by
  obtain ⟨p, t, rfl, hr, hz⟩ := h
  have := hr.add ha
  by_cases h0 : c.err = 0
  · rw [hz h0]
    exact ⟨p ++ s, [], by simp, this.1 h0, fun _ => rfl⟩
  · have hc := this.2 h0
    subst hc
    exact ⟨p, t ++ s, by simp, hr, fun hh => absurd hh h0⟩
theorem Rq.sound {m : Int} {all : List UInt8} {c : Ck} (h : Rq m all c) : (c.err = 0 → c.ok) ∧ c.most = (max m 0).toNat ∧ c.inp.length + c.dat.length ≤ all.length ∧ c.st ≤ 4 := by
  obtain ⟨p, t, rfl, hr, hz⟩ := h
  have := hr.sound
  exact ⟨fun h0 => (this.1 h0).1, this.2.1, by rw [List.length_append]; omega, this.2.2.2.1⟩
theorem Rq.like {m : Int} {all : List UInt8} {a b : Ck} (ha : Rdc m all a) (hb : Rq m all b) : Like a b := by
  obtain ⟨p, t, rfl, hr, hz⟩ := hb
  by_cases h0 : b.err = 0
  · have := hz h0
    subst this
    rw [List.append_nil] at ha
    have := rd_det ha hr
    subst this
    exact ⟨rfl, rfl, rfl, fun _ => rfl⟩
  · obtain ⟨h1, h2, h3⟩ := rd_prefix hr h0 ha
    exact ⟨h1.symm, h2.symm, h3.symm, fun hh => absurd (h1.symm.trans hh) h0⟩
theorem Rdc.rq {m : Int} {all : List UInt8} {c : Ck} (h : Rdc m all c) : Rq m all c := ⟨all, [], by simp, h, fun _ => rfl⟩
theorem ckd_le {c : Ck} (h : c.ok) : c.dat.length ≤ c.most := by have := h.1; omega
theorem step_dat {c : Ck} (h : c.ok) : (stepM c).1.dat.length ≤ c.most := by
  have hm := (step_ok h).2.2.1
  have key : (stepM c).1.ok → (stepM c).1.dat.length ≤ c.most := fun hh => by have := ckd_le hh; omega
  unfold stepM at key hm ⊢
  split at key
  · rw [if_pos (by assumption)]; exact key (begin_ok h (by assumption)).2.1
  split at key
  · rw [if_neg (by assumption), if_pos (by assumption)]; exact key (data_ok h (by assumption)).2.1
  split at key
  · rw [if_neg (by assumption), if_neg (by assumption), if_pos (by assumption)]; exact key (close_ok h (by assumption)).2.1
  split at key
  · rw [if_neg (by assumption), if_neg (by assumption), if_neg (by assumption), if_pos (by assumption)]
    have : (trailM c).1.dat = c.dat := by
      unfold trailM
      split
      · rfl
      · split
        · rfl
        · split <;> rfl
    rw [this]; exact ckd_le h
  · rw [if_neg (by assumption), if_neg (by assumption), if_neg (by assumption), if_neg (by assumption)]; exact ckd_le h
theorem runs_dat {c d : Ck} {e : Int} (h : Runs c d e) (hc : c.ok) : d.dat.length ≤ c.most := by
  induction h with
  | stop hh => exact step_dat hc
  | more hh _ ih =>
    have hs := step_ok hc
    rw [← hs.2.2.1]
    exact ih (hs.2.1 (.inl hh))
theorem Rdc.dat {m : Int} {all : List UInt8} {c : Ck} (h : Rdc m all c) : c.dat.length ≤ (max m 0).toNat := by
  obtain ⟨d, e, hr, rfl⟩ := h
  exact runs_dat hr (add_ok (ck0_ok m) all)
end Go.Proofs.YtpimfoohpfkciaaDoor

/- Layer 11: a reader among others in memory. No conditions but on lengths. -/
namespace Go.Proofs.YtpimfoohpfkciaaDoor
open Go.RowKit Go.Shelf

/-- the reader's run, with so many steps at most -/
def runF : Nat → Ck → Ck × Int
  | 0, c => stepM c
  | n + 1, c => if (stepM c).2 = 0 then runF n (stepM c).1 else stepM c
theorem runF_runs : ∀ (n : Nat) (c : Ck), c.ok → c.mu ≤ n → Runs c (runF n c).1 (runF n c).2
  | n, c, h, hn => by
    by_cases h0 : (stepM c).2 = 0
    · have hs := step_ok h
      have hm := hs.1 h0
      match n, hn with
      | 0, hn => omega
      | n + 1, hn =>
        have hr := runF_runs n (stepM c).1 (hs.2.1 (.inl h0)) (by omega)
        rw [runF, if_pos h0]
        exact .more h0 hr
    · match n, hn with
      | 0, hn => rw [runF]; exact .stop h0
      | n + 1, hn => rw [runF, if_neg h0]; exact .stop h0
def addC (c : Ck) (s : List UInt8) : Ck := if c.err ≠ 0 then c else { (runF (c.add s).mu (c.add s)).1 with err := if (runF (c.add s).mu (c.add s)).2 = 17 then 0 else (runF (c.add s).mu (c.add s)).2 }
theorem addC_R {c : Ck} {s : List UInt8} (h : c.err = 0 → c.ok) : AddR c s (addC c s) := by
  unfold AddR addC
  by_cases h0 : c.err = 0
  · rw [if_neg (by simp [h0]), if_neg (by simp [h0])]
    exact ⟨_, _, runF_runs _ _ (add_ok (h h0) s) (Nat.le_refl _), rfl⟩
  · rw [if_pos h0, if_pos h0]


/-- a reader in memory: X: what its calls write -/
structure Cx (B : Nat) (w : World) (b : Nat) (X : List Nat) (p : List UInt8) (c : Ck) : Prop where
  at' : ∃ v, Ct B w b p c v ∧ ∀ g, v.ownBlock = some g → g ∈ X
  mem : b ∈ X
  lo : ∀ x ∈ X, B ≤ x ∧ x < w.heap.size
theorem Cx.keep {B b : Nat} {w w' : World} {X S : List Nat} {p : List UInt8} {c : Ck} (h : Cx B w b X p c) (k : Keep S w w') (hX : ∀ x ∈ X, x ∉ S) : Cx B w' b X p c := by
  obtain ⟨⟨v, h1, h2⟩, h3, h4⟩ := h
  exact ⟨⟨v, h1.keep k (hX b h3) (fun g hg => hX g (h2 g hg)), h2⟩, h3, fun x hx => ⟨(h4 x hx).1, Nat.lt_of_lt_of_le (h4 x hx).2 k.size⟩⟩
theorem Cx.keep0 {B b : Nat} {w w' : World} {X : List Nat} {p : List UInt8} {c : Ck} (h : Cx B w b X p c) (k : Keep [] w w') : Cx B w' b X p c := h.keep k (by simp)
theorem ML.keepB {B : Nat} {w w' : World} {X : List Nat} (hm : ML w) (hbig : 0 < B) (k : Keep X w w') (hX : ∀ x ∈ X, B ≤ x) : ML w' := hm.keep k (fun hh => absurd (hX _ hh) (by omega))
theorem ML.lt {w : World} (hm : ML w) : 0 < w.heap.size := let ⟨_, h⟩ := hm; World.block_lt_of_cell? w _ h
/-- what lies apart stays apart -/
theorem apart_new {w : World} {X X' Y : List Nat} (h : ∀ x ∈ X, x ∉ Y) (hn : ∀ x ∈ X', x ∈ X ∨ w.heap.size ≤ x) (hY : ∀ y ∈ Y, y < w.heap.size) : ∀ x ∈ X', x ∉ Y := fun x hx hy => by
  rcases hn x hx with h1 | h1
  · exact h x h1 hy
  · have := hY x hy; omega
theorem apart_symm {X Y : List Nat} (h : ∀ x ∈ X, x ∉ Y) : ∀ y ∈ Y, y ∉ X := fun y hy hx => h y hx hy
/-- seen from where the call began, nothing has changed -/
theorem Keep.above {w0 w w' : World} {X : List Nat} (h : Keep [] w0 w) (k : Keep X w w') (hX : ∀ x ∈ X, w0.heap.size ≤ x) : Keep [] w0 w' := h.trans' k (fun x hx hl => absurd (hX x hx) (by omega))
theorem cx_new (B : Nat) (m : Int) (w : World) (hB : B ≤ w.heap.size) :
    Calls Tryd.prog 34 #[.int .i64 m] w fun e w' => ∃ b, e = .returned (.pointer (some ⟨b, 0, none⟩)) ∧ w.heap.size ≤ b ∧ Cx B w' b [b] [] (ck0 m) ∧ Keep [] w w' := by
  refine (chunk_New B m w hB).mono ?_
  rintro e w' ⟨b, rfl, h1, h2, h3, h4⟩
  exact ⟨b, rfl, h1, ⟨⟨_, h3, by simp [Value.ownBlock]⟩, by simp, fun x hx => by simp at hx; subst hx; exact ⟨by omega, h2⟩⟩, h4⟩
theorem cx_add {B b : Nat} {X : List Nat} {p s : List UInt8} {c : Ck} {w : World} (h : Cx B w b X p c) (hm : ML w) (hbig : 0 < B) (hl : c.inp.length + c.dat.length + s.length ≤ 1048576) (hmost : (c.most : Int) ≤ 9223372036854775807) (hok : c.err = 0 → c.ok) :
    Calls Tryd.prog 36 #[.pointer (some ⟨b, 0, none⟩), .string (S s)] w fun e w' => e = .returned (.int .i64 (addC c s).err) ∧ ∃ X', Cx B w' b X' p (addC c s) ∧ Keep X w w' ∧ ∀ x ∈ X', x ∈ X ∨ w.heap.size ≤ x := by
  obtain ⟨⟨v, h1, h2⟩, h3, h4⟩ := h
  have hb := h4 b h3
  refine (chunk_Add B b p s c (addC c s) v w hm (by omega) h1 (by omega) hbig hl hmost hok (addC_R hok)).mono ?_
  rintro e w' ⟨rfl, v', g1, g2, g3⟩
  have g4 : Keep X w w' := g2.mono (fun x hx _ => by
    rcases List.mem_cons.1 hx with rfl | hx
    · exact h3
    · exact h2 x (by simpa using hx))
  refine ⟨rfl, b :: v'.ownBlock.toList, ⟨⟨v', g1, fun g hg => by rw [hg]; simp⟩, by simp, fun x hx => ?_⟩, g4, fun x hx => ?_⟩
  · rcases List.mem_cons.1 hx with rfl | hx
    · exact ⟨hb.1, Nat.lt_of_lt_of_le hb.2 g4.size⟩
    · obtain ⟨_, _, gb, _⟩ := g1
      exact gb.own.lt x (by simpa using hx)
  · rcases List.mem_cons.1 hx with rfl | hx
    · exact .inl h3
    · rcases g3 with e3 | ⟨g, e3, hg⟩
      · rw [e3] at hx; exact .inl (h2 x (by simpa using hx))
      · rw [e3] at hx
        have : x = g := by simpa using hx
        exact .inr (by omega)
theorem cx_done {B b : Nat} {X : List Nat} {p : List UInt8} {c : Ck} {w : World} (h : Cx B w b X p c) (hs : c.st ≤ 4) :
    Calls Tryd.prog 37 #[.pointer (some ⟨b, 0, none⟩)] w fun e w' => e = .returned (.bool (decide (c.st = 4))) ∧ w = w' := let ⟨⟨_, h1, _⟩, _, _⟩ := h; chunk_Done h1 hs
theorem cx_rest {B b : Nat} {X : List Nat} {p : List UInt8} {c : Ck} {w : World} (h : Cx B w b X p c) (hs : c.st ≤ 4) :
    Calls Tryd.prog 38 #[.pointer (some ⟨b, 0, none⟩)] w fun e w' => e = .returned (.string (S (if c.st = 4 then c.inp else []))) ∧ w = w' := let ⟨⟨_, h1, _⟩, _, _⟩ := h; chunk_Rest h1 hs
end Go.Proofs.YtpimfoohpfkciaaDoor
