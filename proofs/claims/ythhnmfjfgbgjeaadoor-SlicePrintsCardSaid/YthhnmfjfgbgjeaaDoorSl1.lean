/- Layer 16: number, isUnit. No conditions but on lengths. -/
import Derived.Test.YthhnmfjfgbgjeaaDoorSlN
import Derived.Test.YthhnmfjfgbgjeaaDoorFld9
namespace Go.Proofs.YthhnmfjfgbgjeaaDoor
open Go.RowKit Go.Shelf

def NumOut (w : World) (l : List UInt8) (e : Ending) (w' : World) : Prop := e = .returned (.tuple #[.agg #[.int .i64 (numN l), .bool (numI l)], .bool (numK l)]) ∧ Keep [] w w'
theorem num_ret {a c : Int} {b d x y : Bool} (h : a = c) (h2 : b = d) (h3 : x = y) : Ending.returned (.tuple #[.agg #[.int .i64 a, .bool b], .bool x]) = .returned (.tuple #[.agg #[.int .i64 c, .bool d], .bool y]) := by rw [h, h2, h3]

set_option maxRecDepth 100000 in
set_option maxHeartbeats 2000000 in
theorem slice_number (l : List UInt8) (w : World) (hs : l.length ≤ maxLen) :
    Calls Tryd.prog 46 #[.string (S l)] w (NumOut w l) := by
  have hT := fun w1 => Any.strings_Trim_laid Tryd.lays160 (by kernel_rfl) (S l) ⟨#[48, 49, 50, 51, 52, 53, 54, 55, 56, 57]⟩ w1 hs (by decide) (ascii_of_all (by decide))
  have hL := fun w1 => Any.strings_TrimLeft_one Tryd.lays161 (S l) 48 (by decide) w1
  rw [S_list] at hT hL
  change ∀ w1, Calls Tryd.prog 65 #[.string (S l), .string ⟨#[48, 49, 50, 51, 52, 53, 54, 55, 56, 57]⟩] w1 fun e w' => e = .returned (.string (S (Lib.trimS l digs))) ∧ Below w1.heap.size w1 w' at hT
  change ∀ w1, Calls Tryd.prog 66 #[.string (S l), .string ⟨#[48]⟩] w1 fun e w' => e = .returned (.string (S (Lib.trimLeftB l 48))) ∧ w' = w1 at hL
  have hbA := Blk.newA w #[.int .i64 0, .bool false] 58
  have hkA := (Keep.refl [] w).alloc (.cells #[.int .i64 0, .bool false] 58)
  have HT := Lib.hid hT
  have HL := Lib.hid hL
  have HS := Lib.hid hs
  clear hT hL hs
  cases l with
  | nil =>
    have hb1 := hbA
    have d0 := hb1.get (k := 0) rfl
    have d1 := hb1.get (k := 1) rfl
    have f1 := hb1.frozen
    have hs1 := hb1.lt
    have q0 : (S []).toList = [] := S_toList []
    go_enter Tryd.func46, Tryd.ntmps46
    go_wp2_with fail
    have hb2 := (hb1.set 0 (.int .i64 0)).set 1 (.bool false)
    have d2 := hb2.get (k := 0) rfl
    have d3 := hb2.get (k := 1) rfl
    refine bodyPost_ret (v := .tuple #[.agg #[.int .i64 0, .bool false], .bool true]) ?_ rfl ⟨rfl, ?_⟩
    · simp [results, Tryd.results46, go_sem, d0, d1, d2, d3]
    · first | exact hkA | exact (hkA.setCell ⟨w.heap.size, 0, none⟩ _ (by simp)).setCell ⟨w.heap.size, 1, none⟩ _ (by simp)
  | cons b r =>
    have q0 : (S (b :: r)).toList = b :: r := S_toList _
    generalize hl : b :: r = l at HT HL HS q0
    have hne : l ≠ [] := by rw [← hl]; simp
    have hq : l.isEmpty = false := by simp [hne]
    cases ha : l.all decB with
    | false =>
      have hN : numN l = 0 := by unfold numN; simp [ha]
      have hI : numI l = false := by unfold numI; simp [ha]
      have hK : numK l = false := ha
      have ht : (Lib.trimS l digs).isEmpty = false := by simpa using trim_nodec ha
      have q1 := S_toList (Lib.trimS l digs)
      have HN := Lib.hid hN
      have HI := Lib.hid hI
      have HK := Lib.hid hK
      clear hN hI hK ha
      generalize Lib.trimS l digs = tt at HT ht q1
      go_enter Tryd.func46, Tryd.ntmps46
      go_wp2_with fail
      refine (HT.out _).mono ?_
      rintro e w1 ⟨rfl, hk1⟩
      have hk1 := Keep.of_below hk1 []
      have hb1 := hk1.blk hbA (by simp)
      have d0 := hb1.get (k := 0) rfl
      have d1 := hb1.get (k := 1) rfl
      have f1 := hb1.frozen
      have hs1 := hb1.lt
      go_wp2_with fail
      have hb2 := (hb1.set 0 (.int .i64 0)).set 1 (.bool false)
      have d2 := hb2.get (k := 0) rfl
      have d3 := hb2.get (k := 1) rfl
      refine bodyPost_ret (v := .tuple #[.agg #[.int .i64 0, .bool false], .bool false]) ?_ rfl ⟨num_ret HN.out.symm HI.out.symm HK.out.symm, ?_⟩
      · simp [results, Tryd.results46, go_sem, d0, d1, d2, d3]
      · first | exact hkA.trans hk1 | exact ((hkA.trans hk1).setCell ⟨w.heap.size, 0, none⟩ _ (by simp)).setCell ⟨w.heap.size, 1, none⟩ _ (by simp)
    | true =>
      have hI : numI l = true := by unfold numI; simp [ha, hne]
      have hK : numK l = true := ha
      have hN : numN l = if undecE (numD l) GT = 14 then GT else undecV (numD l) GT := by unfold numN; simp [ha, hne]
      have hG : GT = 4611686018427387904 := rfl
      have ht := trim_dec ha
      rw [ht] at HT
      have qe : (S []).toList = [] := S_toList []
      have q2 := S_toList (Lib.trimLeftB l 48)
      have hD : numD l = if Lib.trimLeftB l 48 = [] then [48] else Lib.trimLeftB l 48 := rfl
      have hll : (Lib.trimLeftB l 48).length ≤ l.length := (List.dropWhile_sublist _).length_le
      have hlm := HS.out
      rw [hG] at hN
      generalize Lib.trimLeftB l 48 = td at HL q2 hD hll
      have HI := Lib.hid hI
      have HK := Lib.hid hK
      clear hI hK ha ht hG
      have HU := Lib.hid (fun w1 => hexa_Undec (numD l) 4611686018427387904 w1 (by rw [hD]; split; exact (by decide : (1 : Nat) ≤ 9223372036854775807); exact Nat.le_trans hll hlm))
      cases td with
      | nil =>
        rw [if_pos rfl] at hD
        rw [hD] at HU hN
        by_cases h14 : undecE [48] 4611686018427387904 = 14
        · rw [if_pos h14] at hN
          exact absurd h14 (by decide)
        · rw [if_neg h14] at hN
          have HN := Lib.hid hN
          obtain ⟨z1, z2⟩ := int_ne h14
          generalize undecE [48] 4611686018427387904 = ue at HU h14 z1 z2
          generalize undecV [48] 4611686018427387904 = uv at HU HN
          clear hN hD hll hlm
          go_enter Tryd.func46, Tryd.ntmps46
          go_wp2_with fail
          refine (HT.out _).mono ?_
          rintro e w1 ⟨rfl, hk1⟩
          have hk1 := Keep.of_below hk1 []
          go_wp2_with fail
          refine (HL.out _).mono ?_
          rintro e w2 ⟨rfl, rfl⟩
          go_wp2_with fail
          refine (HU.out _).mono ?_
          rintro e w3 ⟨rfl, hk3⟩
          have hb1 := hk3.blk (hk1.blk hbA (by simp)) (by simp)
          have d0 := hb1.get (k := 0) rfl
          have d1 := hb1.get (k := 1) rfl
          have f1 := hb1.frozen
          have hs1 := hb1.lt
          go_wp2_with fail
          have hb2 := (hb1.set 0 (.int .i64 uv)).set 1 (.bool true)
          have d2 := hb2.get (k := 0) rfl
          have d3 := hb2.get (k := 1) rfl
          refine bodyPost_ret (v := .tuple #[.agg #[.int .i64 uv, .bool true], .bool true]) ?_ rfl ⟨num_ret HN.out.symm HI.out.symm HK.out.symm, ?_⟩
          · simp [results, Tryd.results46, go_sem, d0, d1, d2, d3]
          · exact (((hkA.trans hk1).trans hk3).setCell ⟨w.heap.size, 0, none⟩ _ (by simp)).setCell ⟨w.heap.size, 1, none⟩ _ (by simp)
      | cons x y =>
        rw [if_neg (by simp)] at hD
        rw [hD] at HU hN
        generalize htd : x :: y = td at HU hN hD HL q2 hll
        have hqt : td.isEmpty = false := by rw [← htd]; rfl
        clear htd
        by_cases h14 : undecE td 4611686018427387904 = 14
        · rw [if_pos h14] at hN
          have HN := Lib.hid hN
          obtain ⟨z1, z2⟩ := int_eq h14
          rw [h14] at HU z1 z2
          generalize undecV td 4611686018427387904 = uv at HU HN
          clear hN hD hll hlm h14
          go_enter Tryd.func46, Tryd.ntmps46
          go_wp2_with fail
          refine (HT.out _).mono ?_
          rintro e w1 ⟨rfl, hk1⟩
          have hk1 := Keep.of_below hk1 []
          go_wp2_with fail
          refine (HL.out _).mono ?_
          rintro e w2 ⟨rfl, rfl⟩
          go_wp2_with fail
          refine (HU.out _).mono ?_
          rintro e w3 ⟨rfl, hk3⟩
          have hb1 := hk3.blk (hk1.blk hbA (by simp)) (by simp)
          have d0 := hb1.get (k := 0) rfl
          have d1 := hb1.get (k := 1) rfl
          have f1 := hb1.frozen
          have hs1 := hb1.lt
          go_wp2_with fail
          have hb2 := (hb1.set 0 (.int .i64 4611686018427387904)).set 1 (.bool true)
          have d2 := hb2.get (k := 0) rfl
          have d3 := hb2.get (k := 1) rfl
          refine bodyPost_ret (v := .tuple #[.agg #[.int .i64 4611686018427387904, .bool true], .bool true]) ?_ rfl ⟨num_ret HN.out.symm HI.out.symm HK.out.symm, ?_⟩
          · simp [results, Tryd.results46, go_sem, d0, d1, d2, d3]
          · exact (((hkA.trans hk1).trans hk3).setCell ⟨w.heap.size, 0, none⟩ _ (by simp)).setCell ⟨w.heap.size, 1, none⟩ _ (by simp)
        · rw [if_neg h14] at hN
          have HN := Lib.hid hN
          obtain ⟨z1, z2⟩ := int_ne h14
          generalize undecE td 4611686018427387904 = ue at HU h14 z1 z2
          generalize undecV td 4611686018427387904 = uv at HU HN
          clear hN hD hll hlm
          go_enter Tryd.func46, Tryd.ntmps46
          go_wp2_with fail
          refine (HT.out _).mono ?_
          rintro e w1 ⟨rfl, hk1⟩
          have hk1 := Keep.of_below hk1 []
          go_wp2_with fail
          refine (HL.out _).mono ?_
          rintro e w2 ⟨rfl, rfl⟩
          go_wp2_with fail
          refine (HU.out _).mono ?_
          rintro e w3 ⟨rfl, hk3⟩
          have hb1 := hk3.blk (hk1.blk hbA (by simp)) (by simp)
          have d0 := hb1.get (k := 0) rfl
          have d1 := hb1.get (k := 1) rfl
          have f1 := hb1.frozen
          have hs1 := hb1.lt
          go_wp2_with fail
          have hb2 := (hb1.set 0 (.int .i64 uv)).set 1 (.bool true)
          have d2 := hb2.get (k := 0) rfl
          have d3 := hb2.get (k := 1) rfl
          refine bodyPost_ret (v := .tuple #[.agg #[.int .i64 uv, .bool true], .bool true]) ?_ rfl ⟨num_ret HN.out.symm HI.out.symm HK.out.symm, ?_⟩
          · simp [results, Tryd.results46, go_sem, d0, d1, d2, d3]
          · exact (((hkA.trans hk1).trans hk3).setCell ⟨w.heap.size, 0, none⟩ _ (by simp)).setCell ⟨w.heap.size, 1, none⟩ _ (by simp)
end Go.Proofs.YthhnmfjfgbgjeaaDoor
