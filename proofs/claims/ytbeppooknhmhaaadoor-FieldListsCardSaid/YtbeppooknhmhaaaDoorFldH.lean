/- Layer 10: the document's Split. No conditions but on lengths. -/
import Derived.Test.YtbeppooknhmhaaaDoorFld15
import Derived.Test.YtbeppooknhmhaaaDoorFldP
namespace Go.Proofs.YtbeppooknhmhaaaDoor
open Go.RowKit Go.Shelf

theorem hasSuffix_two {l : List UInt8} {a b : UInt8} : Lib.hasSuffix l [a, b] = true ↔ ∃ x, l = x ++ [a, b] := by
  unfold Lib.hasSuffix
  constructor
  · intro h
    obtain ⟨x, hx⟩ : [a, b] <:+ l := by simpa using h
    exact ⟨x, hx.symm⟩
  · rintro ⟨x, rfl⟩
    simp
theorem trimSuffix_two {x : List UInt8} {a b : UInt8} : Lib.trimSuffix (x ++ [a, b]) [a, b] = x := by
  have h : Lib.hasSuffix (x ++ [a, b]) [a, b] = true := hasSuffix_two.2 ⟨x, rfl⟩
  unfold Lib.trimSuffix
  rw [if_pos h]
  simp
/-- a line that ends in LF: as the document takes it -/
theorem line_no {l : List UInt8} (h : l.length < 2 ∨ Lib.indexByte l 13 ≠ (l.length : Int) - 2) : lineM l = none := by
  unfold lineM
  rw [if_neg]
  rintro ⟨h1, h2⟩
  obtain ⟨x, rfl⟩ := hasSuffix_two.1 h1
  rw [trimSuffix_two] at h2
  have e : Lib.indexByte (x ++ [13, 10]) 13 = x.length := by
    have hge := Lib.indexByte_ge x 13
    have hn := Lib.indexByte_none (l := x) (c := 13) (by omega)
    refine indexByte_at (by simp) fun j hj => ?_
    rw [List.getElem?_append_left hj]
    exact hn j
  rw [e] at h
  simp at h
  omega
theorem line_yes {l : List UInt8} (hn : l[l.length - 1]? = some 10) (h1 : 2 ≤ l.length) (h : Lib.indexByte l 13 = (l.length : Int) - 2) : lineM l = some (l.take (l.length - 2)) := by
  have h2 : Lib.indexByte l 13 = ((l.length - 2 : Nat) : Int) := by rw [h]; omega
  obtain ⟨h3, h4⟩ := Lib.indexByte_some h2
  have e : l = l.take (l.length - 2) ++ [13, 10] := by
    have e1 : l.drop (l.length - 2) = [13, 10] := by
      rw [drop_at h3, show l.length - 2 + 1 = l.length - 1 by omega, drop_at hn]
      simp; omega
    rw [← e1, List.take_append_drop]
  have hs : Lib.hasSuffix l [13, 10] = true := hasSuffix_two.2 ⟨_, e⟩
  have ht : Lib.trimSuffix l [13, 10] = l.take (l.length - 2) := by
    conv => lhs; rw [e]
    exact trimSuffix_two
  unfold lineM
  rw [ht, if_pos]
  refine ⟨hs, ?_⟩
  rw [indexByte_no]
  · omega
  · intro j hj
    rw [List.getElem?_take] at hj
    split at hj
    · exact h4 j (by assumption) hj
    · cases hj

theorem isEmpty_false {l : List UInt8} (h : l ≠ []) : l.isEmpty = false := by cases l <;> simp at *
theorem ret4 {a b c c' d : Value} (h : c = c') : Ending.returned (.tuple #[a, b, c, d]) = Ending.returned (.tuple #[a, b, c', d]) := by rw [h]
/-- where the document's loop stands -/
def Stage (s st : List UInt8) (F : List Fld) (n : Nat) (first : Bool) : Prop :=
  (first = true ∧ st = [] ∧ F = [] ∧ n = 0) ∨ (first = false ∧ ∃ k, readM s = loopM s st k F n ∧ 4097 - n ≤ k)

set_option maxRecDepth 100000 in
set_option maxHeartbeats 2000000 in
theorem ref_Split (s : List UInt8) (w : World) (hs : s.length ≤ 1048576) :
    Calls Tryd.prog 12 #[.string (S s)] w (SplitOut w (splitM s)) := by
  have hsz := S_size s
  have HM := Lib.hid (show maxLen = 9223372036854775807 from rfl)
  obtain ⟨is, Hs⟩ := fldinfo'
  have HF := Lib.hid (fun (x : List UInt8) (b : UInt8) (h : x.length ≤ 1048576) (w1 : World) => ref_Find x b w1 (show x.length ≤ 9223372036854775807 by omega))
  have hsp : splitM s = if (readM s).e ≠ 0 then ⟨[], [], 0, (readM s).e⟩ else readM s := rfl
  have HSP := Lib.hid hsp
  clear hsp
  have hO0 := Lib.hid (Own.none Fld.cells 2 34 (base := w.heap.size) w (Nat.le_refl _))
  have hK0 := Lib.hid ((Keep.refl [] w).alloc (.cells #[] 34))
  go_enter Tryd.func12, Tryd.ntmps12
  go_wp2_with fail
  go_loopg [6, 7, 8, 9] 4097 (fun g sv fv av bv wr => ∃ (st : List UInt8) (F : List Fld) (n : Nat) (first : Bool), sv = .string (S st) ∧ av = .int .i64 n ∧ bv = .bool first ∧ n ≤ s.length ∧ n ≤ 4096 ∧ F.length ≤ 32 ∧ g = 4097 - n ∧ Hid (Own Fld.cells 2 w.heap.size 34 wr fv F) ∧ Hid (Keep [] w wr) ∧ Hid (Stage s st F n first))
  case atStart => exact ⟨[], [], 0, true, rfl, rfl, rfl, by omega, by omega, by simp, rfl, hO0, hK0, Lib.hid (.inl ⟨rfl, rfl, rfl, rfl⟩)⟩
  case round =>
    obtain ⟨st, F, n, first, rfl, rfl, rfl, c1, c2, c3, rfl, HO, HK, HT⟩ := hrel
    obtain ⟨fa, fc, rfl, _⟩ := HO.out.shape
    clear hO0 hK0
    have hx : (S s).extract n (min ((s.length : Nat) : Int) 4096).toNat = S (seenM s n) := by
      have e : (min ((s.length : Nat) : Int) 4096).toNat = min s.length 4096 := by omega
      rw [e, S_extract]
      unfold seenM
      congr 2
      rw [Nat.min_comm, List.take_eq_take_iff]
      omega
    have hseen : (seenM s n).length + n ≤ 4096 ∧ (seenM s n).length + n ≤ s.length := by unfold seenM; simp; omega
    obtain ⟨hq1, hq2⟩ := hseen
    have hN : nextM s n = (if Lib.indexByte (seenM s n) 10 < 0 then ([], n, if 4096 ≤ s.length then 4 else 17)
      else match lineM ((seenM s n).take ((Lib.indexByte (seenM s n) 10).toNat + 1)) with
        | none => ([], n + ((Lib.indexByte (seenM s n) 10).toNat + 1), 3)
        | some l => (l, n + ((Lib.indexByte (seenM s n) 10).toNat + 1), 0) : List UInt8 × Nat × Int) := rfl
    have hpc : ∀ j, (S s).extract n (n + j) = S ((s.drop n).take j) := fun j => by
      rw [S_extract, List.drop_take]
      congr 2
      omega
    have hsl : ∀ j, n + j ≤ 4096 → (s.drop n).take j = (seenM s n).take j := fun j hj => by
      unfold seenM
      rw [List.drop_take, List.take_take]
      congr 1
      omega
    have hFq := HF.out (seenM s n) 10 (by omega)
    have hge := Lib.indexByte_ge (seenM s n) 10
    generalize hl : seenM s n = l at hx hq1 hq2 hN hFq hge hsl
    have hE : ∀ (z : Int) (n' : Nat), nextM s n = ([], n', z) → z ≠ 0 → splitM s = ⟨[], [], 0, z⟩ := fun z n' hz h0 => by
      have hr : (readM s).e = z := by
        rcases HT.out with ⟨_, _, _, rfl⟩ | ⟨_, k, hk, hk2⟩
        · unfold readM; rw [hz]; simp [h0]
        · rw [hk]
          obtain ⟨k', rfl⟩ : ∃ k', k = k' + 1 := ⟨k - 1, by omega⟩
          unfold loopM; rw [hz]; simp [h0]
      rw [HSP.out, hr, if_pos h0]
    by_cases hi : Lib.indexByte l 10 = -1
    · rw [hi] at hN hFq
      rw [if_pos (by omega)] at hN
      have HFq := Lib.hid hFq
      by_cases hbig : 4096 ≤ s.length
      · rw [if_pos hbig] at hN
        have HE := Lib.hid (hE 4 _ hN (by omega))
        clear hE hN hi hge hFq hpc hsl hl
        go_wp2_with fail
        refine (HFq.out _).mono ?_
        rintro e w1 ⟨rfl, rfl⟩
        go_wp2_with fail
        refine bodyPost_ret (results_tmp4 rfl _ _ _) rfl ?_
        rw [HE.out]
        exact ⟨_, rfl, Own.nil _ _ _ _ _, HK.out⟩
      · rw [if_neg hbig] at hN
        have HE := Lib.hid (hE 17 _ hN (by omega))
        clear hE hN hi hge hFq hpc hsl hl
        go_wp2_with fail
        refine (HFq.out _).mono ?_
        rintro e w1 ⟨rfl, rfl⟩
        go_wp2_with fail
        refine bodyPost_ret (results_tmp4 rfl _ _ _) rfl ?_
        rw [HE.out]
        exact ⟨_, rfl, Own.nil _ _ _ _ _, HK.out⟩
    · obtain ⟨o, ho⟩ : ∃ o : Nat, Lib.indexByte l 10 = o := ⟨(Lib.indexByte l 10).toNat, by omega⟩
      have ho10 := (Lib.indexByte_some ho).1
      have hol := (List.getElem?_eq_some_iff.1 ho10).1
      rw [ho] at hN hFq
      rw [if_neg (by omega), Int.toNat_natCast] at hN
      have hp1 := hpc (o + 1)
      rw [hsl (o + 1) (by omega)] at hp1
      have hll : (l.take (o + 1)).length = o + 1 := by simp; omega
      have hlast : (l.take (o + 1))[(l.take (o + 1)).length - 1]? = some 10 := by
        rw [hll, List.getElem?_take]
        simp [ho10]
      have hF2 := HF.out (l.take (o + 1)) 13 (by omega)
      have htn : ((n : Int) + (o : Int) + 1).toNat = n + (o + 1) := by omega
      have hb1 : (n : Int) + (o : Int) + 1 ≤ (s.length : Int) := by omega
      have hb2 : (n : Int) + (o : Int) + 1 ≤ 4096 := by omega
      generalize l.take (o + 1) = q at hp1 hll hlast hF2 hN
      have hqs := S_size q
      clear hpc hsl hge hi ho10
      by_cases ha : o = 0 ∨ Lib.indexByte q 13 ≠ (q.length : Int) - 2
      · rw [line_no (by omega)] at hN
        have HE := Lib.hid (hE 3 _ hN (by omega))
        have HFq := Lib.hid hFq
        have HF2 := Lib.hid hF2
        clear hE hN hFq hF2 hlast hl
        rcases Nat.eq_zero_or_pos o with rfl | hpos
        · go_wp2_with fail
          refine (HFq.out _).mono ?_
          rintro e w1 ⟨rfl, rfl⟩
          go_wp2_with fail
          refine bodyPost_ret (results_tmp4 rfl _ _ _) rfl ?_
          rw [HE.out]
          exact ⟨_, rfl, Own.nil _ _ _ _ _, HK.out⟩
        · obtain ⟨j, rfl⟩ : ∃ j, o = j + 1 := ⟨o - 1, by omega⟩
          have htn' : ((n : Int) + ((j : Int) + 1) + 1).toNat = n + (j + 1 + 1) := by omega
          have hb1' : (n : Int) + ((j : Int) + 1) + 1 ≤ (s.length : Int) := by omega
          have hb2' : (n : Int) + ((j : Int) + 1) + 1 ≤ 4096 := by omega
          clear htn hb1 hb2
          have hz : Lib.indexByte q 13 ≠ (j : Int) + 1 + 1 - 2 := by
            intro h
            rcases ha with h1 | h1
            · omega
            · exact h1 (by omega)
          obtain ⟨z1, z2⟩ := int_ne hz
          generalize Lib.indexByte q 13 = z at HF2 z1 z2
          clear hz ha
          go_wp2_with fail
          refine (HFq.out _).mono ?_
          rintro e w1 ⟨rfl, rfl⟩
          go_wp2_with fail
          refine (HF2.out _).mono ?_
          rintro e w1 ⟨rfl, rfl⟩
          go_wp2_with fail
          refine bodyPost_ret (results_tmp4 rfl _ _ _) rfl ?_
          rw [HE.out]
          exact ⟨_, rfl, Own.nil _ _ _ _ _, HK.out⟩
      · have ha1 : o ≠ 0 := fun h => ha (.inl h)
        have ha2 : Lib.indexByte q 13 = (q.length : Int) - 2 := Decidable.byContradiction fun h => ha (.inr h)
        obtain ⟨j, rfl⟩ : ∃ j, o = j + 1 := ⟨o - 1, by omega⟩
        rw [line_yes hlast (by omega) ha2] at hN
        rw [ha2] at hF2
        have eqj : (q.length : Int) - 2 = (j : Int) := by omega
        have eqn : q.length - 2 = j := by omega
        rw [eqj] at hF2
        rw [eqn] at hN
        have htn' : ((n : Int) + ((j : Int) + 1) + 1).toNat = n + (j + 1 + 1) := by omega
        have hb1' : (n : Int) + ((j : Int) + 1) + 1 ≤ (s.length : Int) := by omega
        have hb2' : (n : Int) + ((j : Int) + 1) + 1 ≤ 4096 := by omega
        obtain ⟨z1, z2⟩ := int_eq (show (j : Int) = (j : Int) + 1 + 1 - 2 by omega)
        have htz : ((j : Int) + 1 + 1 - 2).toNat = j := by omega
        have hb3 : (0 : Int) ≤ (j : Int) + 1 + 1 - 2 := by omega
        have hb4 : (j : Int) + 1 + 1 - 2 ≤ (j : Int) + 1 + 1 := by omega
        have hqx : (S q).extract 0 j = S (q.take j) := by rw [S_extract, List.drop_zero]
        have hlj : (q.take j).length = j := by simp; omega
        have hNs : nextM s n = (q.take j, n + (j + 1 + 1), 0) := hN
        generalize q.take j = l' at hqx hlj hNs
        have hls := S_size l'
        have hlt := S_toList l'
        have HFq := Lib.hid hFq
        have HF2 := Lib.hid hF2
        have HN := Lib.hid hNs
        clear hE hN hFq hF2 hlast hl ha ha1 ha2 eqj eqn htn hb1 hb2 hNs
        have hrel' : ∀ (i : Nat), (i : Int) = (n : Int) + ((j : Int) + 1) + 1 → (Value.int .i64 ((n : Int) + ((j : Int) + 1) + 1)) = .int .i64 (i : Int) := fun i h => by rw [h]
        have HREL := Lib.hid hrel'
        clear hrel'
        cases first with
        | true =>
          obtain ⟨hst, hFn, hn0⟩ : st = [] ∧ F = [] ∧ n = 0 := by
            rcases HT.out with ⟨_, h1, h2, h3⟩ | ⟨h, _⟩
            · exact ⟨h1, h2, h3⟩
            · cases h
          have hR : readM s = if beginE l' ≠ 0 then ⟨[], [], n + (j + 1 + 1), beginE l'⟩ else loopM s l' 4097 F (n + (j + 1 + 1)) := by
            have h1 := HN.out
            rw [hn0] at h1 ⊢
            unfold readM; rw [h1, hFn]; simp
          have HST := Lib.hid (And.intro hst (And.intro hFn hn0))
          clear hst hFn hn0
          have hS : beginE l' ≠ 0 → splitM s = ⟨[], [], 0, beginE l'⟩ := fun h0 => by
            rw [HSP.out, hR, if_pos h0, if_pos h0]
          by_cases hle : l' = []
          · have hb : beginE l' = 3 := if_pos hle
            rw [hb] at hS
            have HS := Lib.hid (hS (by omega))
            clear hR hS hb
            subst hle
            go_wp2_with fail
            refine (HFq.out _).mono ?_
            rintro e w1 ⟨rfl, rfl⟩
            go_wp2_with fail
            refine (HF2.out _).mono ?_
            rintro e w1 ⟨rfl, rfl⟩
            go_wp2_with fail
            refine bodyPost_ret (results_tmp4 rfl _ _ _) rfl ?_
            rw [HS.out]
            exact ⟨_, rfl, Own.nil _ _ _ _ _, HK.out⟩
          · have hie : l'.isEmpty = false := isEmpty_false hle
            by_cases hbig : 1024 < l'.length
            · have hb : beginE l' = 4 := by unfold beginE; rw [if_neg hle, if_pos hbig]
              rw [hb] at hS
              have HS := Lib.hid (hS (by omega))
              clear hR hS hb hle
              go_wp2_with fail
              refine (HFq.out _).mono ?_
              rintro e w1 ⟨rfl, rfl⟩
              go_wp2_with fail
              refine (HF2.out _).mono ?_
              rintro e w1 ⟨rfl, rfl⟩
              go_wp2_with fail
              refine bodyPost_ret (results_tmp4 rfl _ _ _) rfl ?_
              rw [HS.out]
              exact ⟨_, rfl, Own.nil _ _ _ _ _, HK.out⟩
            · have hb : beginE l' = 0 := by unfold beginE; rw [if_neg hle, if_neg hbig]
              rw [hb, if_neg (by simp)] at hR
              have HR := Lib.hid hR
              clear hR hS hb hle
              go_wp2_with fail
              refine (HFq.out _).mono ?_
              rintro e w1 ⟨rfl, rfl⟩
              go_wp2_with fail
              refine (HF2.out _).mono ?_
              rintro e w1 ⟨rfl, rfl⟩
              go_wp2_with fail
              go_roundg (4097 - (n + (j + 1 + 1)))
              case measure => omega
              case rel => exact ⟨l', F, n + (j + 1 + 1), false, rfl, HREL.out _ (by omega), rfl, by omega, by omega, c3, rfl, HO, HK, Lib.hid (.inr ⟨rfl, 4097, HR.out, by omega⟩)⟩
        | false =>
          obtain ⟨k, hk, hk2⟩ : ∃ k, readM s = loopM s st k F n ∧ 4097 - n ≤ k := by
            rcases HT.out with ⟨h, _⟩ | ⟨_, h⟩
            · cases h
            · exact h
          obtain ⟨k', rfl⟩ : ∃ k', k = k' + 1 := ⟨k - 1, by omega⟩
          have hR : readM s = if l' = [] then ⟨st, F, n + (j + 1 + 1), 0⟩ else if (addM F l').2 ≠ 0 then ⟨st, (addM F l').1, n + (j + 1 + 1), (addM F l').2⟩ else loopM s st k' (addM F l').1 (n + (j + 1 + 1)) := by
            rw [hk]; conv => lhs; unfold loopM
            rw [HN.out]; simp
          clear hk
          by_cases hle : l' = []
          · rw [if_pos hle] at hR
            have hS : splitM s = ⟨st, F, n + (j + 1 + 1), 0⟩ := by rw [HSP.out, hR]; simp
            have HS := Lib.hid hS
            clear hR hS
            subst hle
            go_wp2_with fail
            refine (HFq.out _).mono ?_
            rintro e w1 ⟨rfl, rfl⟩
            go_wp2_with fail
            refine (HF2.out _).mono ?_
            rintro e w1 ⟨rfl, rfl⟩
            go_wp2_with fail
            refine bodyPost_ret (results_tmp4 rfl _ _ _) rfl ?_
            rw [HS.out]
            exact ⟨_, ret4 (HREL.out (n + (j + 1 + 1)) (by omega)), HO.out, HK.out⟩
          · rw [if_neg hle] at hR
            have hie : l'.isEmpty = false := isEmpty_false hle
            have hA : addM F l' = (match parseF l' with | none => (F, 3) | some f => if 32 ≤ F.length then (F, 4) else (F ++ [f], 0)) := rfl
            have hPM : l'.length ≤ 4611686018427387904 := by omega
            cases hp : parseF l' with
            | none =>
              rw [hp] at hA
              dsimp only at hA
              have HP := Lib.hid (fun w1 => ref_parse_is w1 hPM (show parseV l' = ⟨[], []⟩ by unfold parseV; rw [hp]; rfl) (show parseE l' = 3 by unfold parseE; rw [hp]; rfl))
              rw [hA, if_pos (by simp)] at hR
              have hS : splitM s = ⟨[], [], 0, 3⟩ := by rw [HSP.out, hR]; simp
              have HS := Lib.hid hS
              clear hR hS hA hp hle hPM
              go_wp2_with fail
              refine (HFq.out _).mono ?_
              rintro e w1 ⟨rfl, rfl⟩
              go_wp2_with fail
              refine (HF2.out _).mono ?_
              rintro e w1 ⟨rfl, rfl⟩
              go_wp2_with fail
              refine (HP.out _).mono ?_
              rintro e w2 ⟨rfl, hk2⟩
              have K2 := Lib.hid ((HK.out.trans hk2).alloc (.cells #[.string (S []), .string (S [])] 34))
              clear hk2
              go_wp2_with fail
              refine bodyPost_ret (results_tmp4 rfl _ _ _) rfl ?_
              rw [HS.out]
              exact ⟨_, rfl, Own.nil _ _ _ _ _, K2.out⟩
            | some f =>
              rw [hp] at hA
              dsimp only at hA
              have HP := Lib.hid (fun w1 => ref_parse_is w1 hPM (show parseV l' = ⟨f.name, f.value⟩ by unfold parseV; rw [hp]; rfl) (show parseE l' = 0 by unfold parseE; rw [hp]; rfl))
              by_cases h32 : 32 ≤ F.length
              · rw [if_pos h32] at hA
                rw [hA, if_pos (by simp)] at hR
                have hS : splitM s = ⟨[], [], 0, 4⟩ := by rw [HSP.out, hR]; simp
                have HS := Lib.hid hS
                clear hR hS hA hp hle hPM
                go_wp2_with fail
                refine (HFq.out _).mono ?_
                rintro e w1 ⟨rfl, rfl⟩
                go_wp2_with fail
                refine (HF2.out _).mono ?_
                rintro e w1 ⟨rfl, rfl⟩
                go_wp2_with fail
                refine (HP.out _).mono ?_
                rintro e w2 ⟨rfl, hk2⟩
                have K2 := Lib.hid ((HK.out.trans hk2).alloc (.cells #[.string (S f.name), .string (S f.value)] 34))
                clear hk2
                go_wp2_with fail
                refine bodyPost_ret (results_tmp4 rfl _ _ _) rfl ?_
                rw [HS.out]
                exact ⟨_, rfl, Own.nil _ _ _ _ _, K2.out⟩
              · rw [if_neg h32] at hA
                rw [hA, if_neg (by simp)] at hR
                have HR := Lib.hid hR
                have c33 : F.length < 32 := by omega
                clear hR hA hp hle hPM h32
                go_wp2_with fail
                refine (HFq.out _).mono ?_
                rintro e w1 ⟨rfl, rfl⟩
                go_wp2_with fail
                refine (HF2.out _).mono ?_
                rintro e w1 ⟨rfl, rfl⟩
                go_wp2_with fail
                refine (HP.out _).mono ?_
                rintro e w2 ⟨rfl, hk2⟩
                have K2 := Lib.hid ((HK.out.trans hk2).alloc (.cells #[.string (S f.name), .string (S f.value)] 34))
                have O2 := Lib.hid ((HO.out.keep0 hk2).alloc (.cells #[.string (S f.name), .string (S f.value)] 34))
                have b2 := Blk.newA w2 #[.string (S f.name), .string (S f.value)] 34
                generalize hw4 : w2.alloc (.cells #[.string (S f.name), .string (S f.value)] 34) = w4 at K2 O2 b2
                have d0 := b2.get (k := 0) rfl
                have d1 := b2.get (k := 1) rfl
                clear hk2 b2
                go_wp2_with (first | (at_builtin; go_must (refine wpList_append1 rfl _ _ 23 rfl is (.agg #[.string ⟨#[]⟩, .string ⟨#[]⟩]) 32 Tryd.underlying23 Hs rfl (by decide) Fld.cells_length Fld.one w _ rfl K2.out (by rfl) O2.out f _ rfl _ rfl (by have := HM.out; omega) (by omega) ?_); intro v' w3 hown' hk' hgrow) | fail)
                have HO3 := Lib.hid hown'
                have HK3 := Lib.hid hk'
                clear hown' hk' hgrow d0 d1 hw4
                go_roundg (4097 - (n + (j + 1 + 1)))
                case measure => omega
                case rel => exact ⟨st, F ++ [f], n + (j + 1 + 1), false, rfl, HREL.out _ (by omega), rfl, by omega, by omega, by simp; omega, rfl, HO3, HK3, Lib.hid (.inr ⟨rfl, k', HR.out, by omega⟩)⟩
end Go.Proofs.YtbeppooknhmhaaaDoor
