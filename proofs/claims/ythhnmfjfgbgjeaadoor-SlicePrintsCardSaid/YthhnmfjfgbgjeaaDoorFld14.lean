/- Layer 10: the head: read, Split. No conditions but on lengths. -/
import Derived.Test.YthhnmfjfgbgjeaaDoorFld13
namespace Go.Proofs.YthhnmfjfgbgjeaaDoor
open Go.RowKit Go.Shelf

/-- what has been read: the start line, the fields, where it ends, the error -/
structure Rd where
  st : List UInt8
  F : List Fld
  n : Nat
  e : Int
  deriving Inhabited
def loopM (s st : List UInt8) : Nat → List Fld → Nat → Rd
  | 0, F, n => ⟨st, F, n, 17⟩
  | k + 1, F, n =>
    if (nextM s n).2.2 ≠ 0 then ⟨st, F, (nextM s n).2.1, (nextM s n).2.2⟩
    else if (nextM s n).1 = [] then ⟨st, F, (nextM s n).2.1, 0⟩
    else if (addM F (nextM s n).1).2 ≠ 0 then ⟨st, (addM F (nextM s n).1).1, (nextM s n).2.1, (addM F (nextM s n).1).2⟩
    else loopM s st k (addM F (nextM s n).1).1 (nextM s n).2.1
def readM (s : List UInt8) : Rd :=
  if (nextM s 0).2.2 ≠ 0 then ⟨[], [], (nextM s 0).2.1, (nextM s 0).2.2⟩
  else if beginE (nextM s 0).1 ≠ 0 then ⟨[], [], (nextM s 0).2.1, beginE (nextM s 0).1⟩
  else loopM s (nextM s 0).1 4097 [] (nextM s 0).2.1
def splitM (s : List UInt8) : Rd := if (readM s).e ≠ 0 then ⟨[], [], 0, (readM s).e⟩ else readM s

theorem lineM_length {l l' : List UInt8} (h : lineM l = some l') : l'.length ≤ l.length := by
  unfold lineM at h
  split at h
  · cases h
    unfold Lib.trimSuffix
    split <;> simp
  · cases h
theorem next_bounds {s : List UInt8} {n : Nat} (h1 : n ≤ s.length) (h2 : n ≤ 4096) : (nextM s n).2.1 ≤ s.length ∧ (nextM s n).2.1 ≤ 4096 ∧ ((nextM s n).2.2 = 0 → n < (nextM s n).2.1) ∧ (nextM s n).1.length ≤ s.length := by
  have hq : (seenM s n).length + n ≤ 4096 ∧ (seenM s n).length + n ≤ s.length := by unfold seenM; simp; omega
  obtain ⟨q1, q2⟩ := hq
  have hge := Lib.indexByte_ge (seenM s n) 10
  unfold nextM
  by_cases hi : Lib.indexByte (seenM s n) 10 < 0
  · rw [if_pos hi]
    refine ⟨h1, h2, ?_, by simp⟩
    dsimp only
    split <;> (intro h; cases h)
  · rw [if_neg hi]
    obtain ⟨o, ho⟩ : ∃ o : Nat, Lib.indexByte (seenM s n) 10 = o := ⟨(Lib.indexByte (seenM s n) 10).toNat, by omega⟩
    have hol := (List.getElem?_eq_some_iff.1 (Lib.indexByte_some ho).1).1
    rw [ho, Int.toNat_natCast]
    cases hl : lineM ((seenM s n).take (o + 1)) with
    | none => dsimp only; exact ⟨by omega, by omega, by omega, by simp⟩
    | some l =>
      have := lineM_length hl
      dsimp only
      exact ⟨by omega, by omega, by omega, by simp at this; omega⟩

set_option maxRecDepth 100000 in
set_option maxHeartbeats 1000000 in
theorem head_read (W : World) (hm : ML W) (s : List UInt8) (b : Nat) (w : World) (h : Hd W w b [] [] 0) (hs : s.length ≤ 1048576) :
    Calls Tryd.prog 40 #[.pointer (some ⟨b, 0, none⟩), .string (S s)] w fun e w' => e = .returned (.int .i64 (readM s).e) ∧ Hd W w' b (readM s).st (readM s).F (readM s).n := by
  have hN := head_next W s b [] [] 0 w h hs (Nat.zero_le _) (Nat.zero_le _)
  have hB := next_bounds (s := s) (n := 0) (Nat.zero_le _) (Nat.zero_le _)
  have hR : readM s = if (nextM s 0).2.2 ≠ 0 then ⟨[], [], (nextM s 0).2.1, (nextM s 0).2.2⟩
    else if beginE (nextM s 0).1 ≠ 0 then ⟨[], [], (nextM s 0).2.1, beginE (nextM s 0).1⟩
    else loopM s (nextM s 0).1 4097 [] (nextM s 0).2.1 := rfl
  generalize nextM s 0 = r at hN hB hR
  obtain ⟨l, n, e0⟩ := r
  dsimp only at hN hB hR
  obtain ⟨b1, b2, b3, b4⟩ := hB
  have HN := Lib.hid hN
  clear hN h
  by_cases he : e0 = 0
  · subst he
    rw [if_neg (by simp)] at hR
    have HG := Lib.hid (fun w1 (h : Hd W w1 b [] [] n) => head_begin W l b [] [] n w1 h (by omega))
    go_enter Tryd.func40, Tryd.ntmps40
    go_wp2_with fail
    refine HN.out.mono ?_
    rintro e w1 ⟨rfl, hd1⟩
    have H1 := Lib.hid hd1
    clear hd1
    go_wp2_with fail
    refine (HG.out _ H1.out).mono ?_
    rintro e w2 ⟨rfl, hd2⟩
    have hst : ∃ st2, Hid (Hd W w2 b st2 [] n) ∧ Hid (readM s = if beginE l ≠ 0 then ⟨st2, [], n, beginE l⟩ else loopM s st2 4097 [] n) := by
      by_cases hz : beginE l = 0
      · exact ⟨l, by rw [if_pos hz] at hd2; exact hd2, by rw [hR]; simp [hz, Hid]⟩
      · exact ⟨[], by rw [if_neg hz] at hd2; exact hd2, by rw [hR]; simp [hz, Hid]⟩
    obtain ⟨st2, H2, HR⟩ := hst
    clear hd2 hR
    generalize beginE l = e2 at HR
    go_wp2_with fail
    go_loopg [5, 6] (4097 - n) (fun g lv ev wr => ∃ (l' : List UInt8) (F : List Fld) (n' k : Nat) (e' : Int), lv = .string (S l') ∧ ev = .int .i64 e' ∧ n' ≤ s.length ∧ n' ≤ 4096 ∧ 4097 - n' ≤ k ∧ g = 4097 - n' ∧ Hid (Hd W wr b st2 F n') ∧
      Hid (readM s = if e' ≠ 0 then ⟨st2, F, n', e'⟩ else loopM s st2 k F n'))
    case atStart => exact ⟨l, [], n, 4097, e2, rfl, rfl, b1, b2, by omega, rfl, H2, HR⟩
    case round =>
      obtain ⟨l', F, n', k, e', rfl, rfl, c1, c2, c3, rfl, HD, HR2⟩ := hrel
      by_cases hz : e' = 0
      · subst hz
        obtain ⟨k', rfl⟩ : ∃ k', k = k' + 1 := ⟨k - 1, by omega⟩
        have hN2 := head_next W s b st2 F n' wr HD.out hs c1 c2
        have hB2 := next_bounds c1 c2
        have hR2 := HR2.out
        rw [if_neg (by simp), loopM] at hR2
        generalize nextM s n' = r2 at hN2 hB2 hR2
        obtain ⟨l2, n2, e3⟩ := r2
        dsimp only at hN2 hB2 hR2
        obtain ⟨p1, p2, p3, p4⟩ := hB2
        have HN2 := Lib.hid hN2
        have hte := S_toList l2
        clear hN2 HR HR2 H2 HG HN H1
        by_cases h3 : e3 = 0
        · subst h3
          have p5 := p3 rfl
          rw [if_neg (by simp)] at hR2
          by_cases hle : l2 = []
          · rw [if_pos hle] at hR2
            have HR3 := Lib.hid hR2
            subst hle
            have hq : (S []).toList = [] := S_toList []
            clear hR2 p3
            go_wp2_with fail
            refine HN2.out.mono ?_
            rintro e w3 ⟨rfl, hd3⟩
            have H3 := Lib.hid hd3
            clear hd3
            go_wp2_with fail
            go_ret
            rw [HR3.out]
            exact ⟨rfl, H3.out⟩
          · rw [if_neg hle] at hR2
            have hie : l2.isEmpty = false := by cases l2 <;> simp_all
            have HR3 := Lib.hid hR2
            have HA := Lib.hid (fun w1 (h : Hd W w1 b st2 F n2) => head_add W hm l2 b st2 F n2 w1 h (by omega))
            clear hR2 p3 hle
            go_wp2_with fail
            refine HN2.out.mono ?_
            rintro e w3 ⟨rfl, hd3⟩
            have H3 := Lib.hid hd3
            clear hd3
            go_wp2_with fail
            refine (HA.out _ H3.out).mono ?_
            rintro e w4 ⟨rfl, hd4⟩
            have H4 := Lib.hid hd4
            clear hd4
            go_wp2_with fail
            go_roundg (4097 - n2)
            case measure => omega
            case rel => exact ⟨l2, (addM F l2).1, n2, k', (addM F l2).2, rfl, rfl, p1, p2, by omega, rfl, H4, HR3⟩
        · rw [if_pos h3] at hR2
          have HR3 := Lib.hid hR2
          have hq1 : (e3 == 0) = false := by simpa using h3
          clear hR2 p3
          go_wp2_with fail
          refine HN2.out.mono ?_
          rintro e w3 ⟨rfl, hd3⟩
          have H3 := Lib.hid hd3
          clear hd3
          go_wp2_with fail
          go_ret
          rw [HR3.out]
          exact ⟨rfl, H3.out⟩
      · have hR2 := HR2.out
        rw [if_pos hz] at hR2
        have HR3 := Lib.hid hR2
        clear hR2 HR HR2 H2 HG HN H1
        go_wp2_with fail
        go_ret
        rw [HR3.out]
        exact ⟨rfl, HD.out⟩
  · rw [if_pos he] at hR
    have HR := Lib.hid hR
    clear hR b3
    go_enter Tryd.func40, Tryd.ntmps40
    go_wp2_with fail
    refine HN.out.mono ?_
    rintro e w1 ⟨rfl, hd1⟩
    have H1 := Lib.hid hd1
    clear hd1
    go_wp2_with fail
    go_loopg [5, 6] 1 (fun g lv ev wr => lv = .string (S l) ∧ ev = .int .i64 e0 ∧ wr = w1)
    case atStart => exact ⟨rfl, rfl, rfl⟩
    case round =>
      obtain ⟨rfl, rfl, rfl⟩ := hrel
      go_wp2_with fail
      go_ret
      rw [HR.out]
      exact ⟨rfl, H1.out⟩
end Go.Proofs.YthhnmfjfgbgjeaaDoor
