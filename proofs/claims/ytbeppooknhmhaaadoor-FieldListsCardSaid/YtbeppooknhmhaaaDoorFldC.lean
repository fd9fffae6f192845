/- Layer 10: Closes, both sides; the document's Undec and Frame. No conditions but on lengths. -/
import Derived.Test.YtbeppooknhmhaaaDoorFldPr
import Derived.Test.YtbeppooknhmhaaaDoorFld11
import Derived.Test.YtbeppooknhmhaaaDoorFldFr
namespace Go.Proofs.YtbeppooknhmhaaaDoor
open Go.RowKit Go.Shelf

def nConn : List UInt8 := [67, 111, 110, 110, 101, 99, 116, 105, 111, 110]
def nClose : List UInt8 := [99, 108, 111, 115, 101]
def nKeep : List UInt8 := [107, 101, 101, 112, 45, 97, 108, 105, 118, 101]
def closeL : List (List UInt8) → Bool → Bool
  | [], k => !k
  | x :: r, k => if lowW x = nClose then true else closeL r (k || decide (lowW x = nKeep))
def closesM (L : List Fld) (minor : Int) : Bool := closeL (elsM L nConn) (decide (1 ≤ minor))
theorem els_congr {n m : List UInt8} (L : List Fld) (h : lowW n = lowW m) : elsM L n = elsM L m := by
  have : sameN n = sameN m := by funext f; unfold sameN; rw [h]
  unfold elsM getS
  rw [this]
theorem els_elem {L : List Fld} {n x : List UInt8} {m : Nat} (hg : ∀ f ∈ L, f.value.length ≤ m) (h : x ∈ elsM L n) : x.length ≤ m := by
  unfold elsM at h
  obtain ⟨f, hf, hx⟩ := List.mem_flatMap.1 h
  have h1 := (List.mem_filter.1 hf).1
  have h2 := (List.mem_filter.1 hx).1
  exact Nat.le_trans (cutW_elem h2) (hg f h1)

set_option maxRecDepth 100000 in
set_option maxHeartbeats 1000000 in
theorem field_Closes (va : Value) (L : List Fld) (minor : Int) (w : World) (ha : Sl Fld.cells 2 w va L) (hg : ∀ x ∈ L, x.name.length ≤ 1048576 ∧ x.value.length ≤ 1048576) (hl : L.length ≤ 1024) :
    Calls Tryd.prog 30 #[va, .int .i64 minor] w fun e w' => e = .returned (.bool (closesM L minor)) ∧ Keep [] w w' := by
  have hE := field_Elements va L nConn w ha hg (by decide) hl
  have hC : closesM L minor = closeL (elsM L nConn) (decide (1 ≤ minor)) := rfl
  have hel : ∀ x ∈ elsM L nConn, x.length ≤ 1048576 := fun x hx => els_elem (fun f hf => (hg f hf).2) hx
  generalize elsM L nConn = M at hE hC hel
  generalize closesM L minor = res at hC
  have HE := Lib.hid hE
  have HC := Lib.hid hC
  have HEL := Lib.hid hel
  have HLW := Lib.hid (fun (x : List UInt8) (h : x.length ≤ 1048576) (w1 : World) => field_low x w1 (show x.length ≤ 9223372036854775807 by omega))
  clear hE hC hel ha hg
  generalize hdec : decide (1 ≤ minor) = kp0 at HC
  have hmin : (decide ((1 : Int) ≤ minor)) = kp0 := hdec
  go_enter Tryd.func30, Tryd.ntmps30
  go_wp2_with fail
  refine HE.out.mono ?_
  rintro e w1 ⟨pv, rfl, ho1, hk1⟩
  obtain ⟨pa, pc, rfl, hml⟩ := ho1.shape
  have hml' : M.length ≤ 9223372036854775807 := hml
  have HO := Lib.hid ho1
  have K1 := Lib.hid hk1
  clear ho1 hk1 hml hdec
  go_wp2_with fail
  clear hmin
  go_loopg [5, 13] M.length (fun g kv j wr => ∃ (k : Nat) (b : Bool), j = .int .i64 k ∧ kv = .bool b ∧ k ≤ M.length ∧ g = M.length - k ∧ Hid (Own strC 1 w.heap.size 9 wr (.slice pa M.length pc) M) ∧ Hid (Keep [] w wr) ∧ Hid (res = closeL (M.drop k) b))
  case atStart => exact ⟨0, _, rfl, rfl, by omega, by omega, HO, K1, HC⟩
  case round =>
    obtain ⟨k, b, rfl, rfl, hk, rfl, HO, HK, HF⟩ := hrel
    by_cases hlt : k < M.length
    · obtain ⟨x, hx⟩ : ∃ x, M[k]? = some x := ⟨_, List.getElem?_eq_getElem hlt⟩
      have HL := Lib.hid (HLW.out x (HEL.out x (List.mem_of_getElem? hx)))
      obtain ⟨b1, o1, c1, hv1, _, hc1, hx1⟩ := (HO.out.sl strC_length).cell hx
      cases hv1
      have hc1' : pc ≤ 9223372036854775807 := hc1
      have e0 := hx1 0 (by omega)
      simp only [strC, List.getElem?_cons_zero, Nat.mul_one, Nat.add_zero] at e0
      have hF := HF.out
      rw [drop_atG hx, closeL] at hF
      have ht := S_toList (lowW x)
      clear hx1 hx HF hc1
      by_cases h1 : lowW x = nClose
      · rw [if_pos h1] at hF
        have q1 : (lowW x == [99, 108, 111, 115, 101]) = true := by rw [h1]; rfl
        have HF := Lib.hid hF
        clear hF h1
        go_wp2_with fail
        refine (HL.out _).mono ?_
        rintro e w2 ⟨rfl, hk2⟩
        have K2 := Lib.hid (HK.out.trans hk2)
        clear hk2
        go_wp2_with fail
        go_ret
        exact ⟨ret_bool HF.out.symm, K2.out⟩
      · rw [if_neg h1] at hF
        have q1 : (lowW x == [99, 108, 111, 115, 101]) = false := beq_eq_false_iff_ne.2 h1
        by_cases h2 : lowW x = nKeep
        · have q2 : (lowW x == [107, 101, 101, 112, 45, 97, 108, 105, 118, 101]) = true := by rw [h2]; rfl
          have HF : Hid (res = closeL (M.drop (k + 1)) true) := by rw [Hid, hF]; simp [h2]
          clear hF h1 h2
          go_wp2_with fail
          refine (HL.out _).mono ?_
          rintro e w2 ⟨rfl, hk2⟩
          have K2 := Lib.hid (HK.out.trans hk2)
          have O2 := Lib.hid (HO.out.keep0 hk2)
          clear hk2
          go_wp2_with fail
          go_roundg (M.length - (k + 1))
          case measure => omega
          case rel => exact ⟨k + 1, true, by go_num, rfl, by omega, rfl, O2, K2, HF⟩
        · have q2 : (lowW x == [107, 101, 101, 112, 45, 97, 108, 105, 118, 101]) = false := beq_eq_false_iff_ne.2 h2
          have HF : Hid (res = closeL (M.drop (k + 1)) b) := by rw [Hid, hF]; simp [h2]
          clear hF h1 h2
          go_wp2_with fail
          refine (HL.out _).mono ?_
          rintro e w2 ⟨rfl, hk2⟩
          have K2 := Lib.hid (HK.out.trans hk2)
          have O2 := Lib.hid (HO.out.keep0 hk2)
          clear hk2
          go_wp2_with fail
          go_roundg (M.length - (k + 1))
          case measure => omega
          case rel => exact ⟨k + 1, b, by go_num, rfl, by omega, rfl, O2, K2, HF⟩
    · have hF := HF.out
      rw [List.drop_eq_nil_of_le (by omega), closeL] at hF
      have HF2 := Lib.hid hF
      clear hF HF
      go_wp2_with fail
      go_ret
      exact ⟨ret_bool HF2.out.symm, HK.out⟩

set_option maxRecDepth 100000 in
set_option maxHeartbeats 1000000 in
theorem ref_Closes (va : Value) (L : List Fld) (minor : Int) (w : World) (ha : Sl Fld.cells 2 w va L) (hg : ∀ x ∈ L, x.name.length ≤ 1048576 ∧ x.value.length ≤ 1048576) (hl : L.length ≤ 1024) :
    Calls Tryd.prog 31 #[va, .int .i64 minor] w fun e w' => e = .returned (.bool (closesM L minor)) ∧ Keep [] w w' := by
  have hE := ref_Elements va L [99, 111, 110, 110, 101, 99, 116, 105, 111, 110] w ha hg (by decide) hl
  rw [els_congr (m := nConn) L (by decide)] at hE
  have hC : closesM L minor = closeL (elsM L nConn) (decide (1 ≤ minor)) := rfl
  have hel : ∀ x ∈ elsM L nConn, x.length ≤ 1048576 := fun x hx => els_elem (fun f hf => (hg f hf).2) hx
  generalize elsM L nConn = M at hE hC hel
  generalize closesM L minor = res at hC
  have HE := Lib.hid hE
  have HC := Lib.hid hC
  have HEL := Lib.hid hel
  have HLW := Lib.hid (fun (x : List UInt8) (h : x.length ≤ 1048576) (w1 : World) => ref_Low x w1 (show x.length ≤ 70368744177664 by omega))
  clear hE hC hel ha hg
  generalize hdec : decide (1 ≤ minor) = kp0 at HC
  have hmin : (decide ((1 : Int) ≤ minor)) = kp0 := hdec
  go_enter Tryd.func31, Tryd.ntmps31
  go_wp2_with fail
  refine HE.out.mono ?_
  rintro e w1 ⟨pv, rfl, ho1, hk1⟩
  obtain ⟨pa, pc, rfl, hml⟩ := ho1.shape
  have hml' : M.length ≤ 9223372036854775807 := hml
  have HO := Lib.hid ho1
  have K1 := Lib.hid hk1
  clear ho1 hk1 hml hdec
  go_wp2_with fail
  clear hmin
  go_loopg [6, 7] M.length (fun g kv j wr => ∃ (k : Nat) (b : Bool), j = .int .i64 k ∧ kv = .bool b ∧ k ≤ M.length ∧ g = M.length - k ∧ Hid (Own strC 1 w.heap.size 9 wr (.slice pa M.length pc) M) ∧ Hid (Keep [] w wr) ∧ Hid (res = closeL (M.drop k) b))
  case atStart => exact ⟨0, _, rfl, rfl, by omega, by omega, HO, K1, HC⟩
  case round =>
    obtain ⟨k, b, rfl, rfl, hk, rfl, HO, HK, HF⟩ := hrel
    by_cases hlt : k < M.length
    · obtain ⟨x, hx⟩ : ∃ x, M[k]? = some x := ⟨_, List.getElem?_eq_getElem hlt⟩
      have HL := Lib.hid (HLW.out x (HEL.out x (List.mem_of_getElem? hx)))
      obtain ⟨b1, o1, c1, hv1, _, hc1, hx1⟩ := (HO.out.sl strC_length).cell hx
      cases hv1
      have hc1' : pc ≤ 9223372036854775807 := hc1
      have e0 := hx1 0 (by omega)
      simp only [strC, List.getElem?_cons_zero, Nat.mul_one, Nat.add_zero] at e0
      have hF := HF.out
      rw [drop_atG hx, closeL] at hF
      have ht := S_toList (lowW x)
      clear hx1 hx HF hc1
      by_cases h1 : lowW x = nClose
      · rw [if_pos h1] at hF
        have q1 : (lowW x == [99, 108, 111, 115, 101]) = true := by rw [h1]; rfl
        have HF := Lib.hid hF
        clear hF h1
        go_wp2_with fail
        refine (HL.out _).mono ?_
        rintro e w2 ⟨rfl, hk2⟩
        have K2 := Lib.hid (HK.out.trans hk2)
        clear hk2
        go_wp2_with fail
        go_ret
        exact ⟨ret_bool HF.out.symm, K2.out⟩
      · rw [if_neg h1] at hF
        have q1 : (lowW x == [99, 108, 111, 115, 101]) = false := beq_eq_false_iff_ne.2 h1
        cases b with
        | true =>
          have HF : Hid (res = closeL (M.drop (k + 1)) true) := by rw [Hid, hF]; simp
          clear hF h1
          go_wp2_with fail
          refine (HL.out _).mono ?_
          rintro e w2 ⟨rfl, hk2⟩
          have K2 := Lib.hid (HK.out.trans hk2)
          have O2 := Lib.hid (HO.out.keep0 hk2)
          clear hk2
          go_wp2_with fail
          go_roundg (M.length - (k + 1))
          case measure => omega
          case rel => exact ⟨k + 1, true, by go_num, rfl, by omega, rfl, O2, K2, HF⟩
        | false =>
          have q2 : ∃ q, (lowW x == [107, 101, 101, 112, 45, 97, 108, 105, 118, 101]) = q ∧ Hid (res = closeL (M.drop (k + 1)) q) := by
            refine ⟨_, rfl, ?_⟩
            rw [Hid, hF]
            by_cases h2 : lowW x = nKeep
            · rw [h2]; rfl
            · have : (lowW x == [107, 101, 101, 112, 45, 97, 108, 105, 118, 101]) = false := beq_eq_false_iff_ne.2 h2
              rw [this]; simp [h2]
          obtain ⟨q, q2, HF⟩ := q2
          clear hF h1
          go_wp2_with fail
          refine (HL.out _).mono ?_
          rintro e w2 ⟨rfl, hk2⟩
          have K2 := Lib.hid (HK.out.trans hk2)
          have O2 := Lib.hid (HO.out.keep0 hk2)
          have e2 := hk2.load e0
          clear hk2 e0
          go_wp2_with fail
          refine (HL.out _).mono ?_
          rintro e w3 ⟨rfl, hk3⟩
          have K3 := Lib.hid (K2.out.trans hk3)
          have O3 := Lib.hid (O2.out.keep0 hk3)
          clear hk3 e2
          go_wp2_with fail
          go_roundg (M.length - (k + 1))
          case measure => omega
          case rel => exact ⟨k + 1, q, by go_num, rfl, by omega, rfl, O3, K3, HF⟩
    · have hF := HF.out
      rw [List.drop_eq_nil_of_le (by omega), closeL] at hF
      have HF2 := Lib.hid hF
      clear hF HF
      go_wp2_with fail
      go_ret
      exact ⟨ret_bool HF2.out.symm, HK.out⟩
end Go.Proofs.YtbeppooknhmhaaaDoor
