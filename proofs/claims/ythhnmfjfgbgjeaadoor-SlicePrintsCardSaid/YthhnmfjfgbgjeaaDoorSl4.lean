/- Layer 16: Parse. No conditions but on lengths. -/
import Derived.Test.YthhnmfjfgbgjeaaDoorSl3
namespace Go.Proofs.YthhnmfjfgbgjeaaDoor
open Go.RowKit Go.Shelf

def rangeB : List UInt8 := [82, 97, 110, 103, 101]
structure Prt where
  kind : Int
  a : Int
  b : Int
  deriving DecidableEq
/-- what is asked for -/
def prtM (n : Int) (r : Bds) (size : Int) : Prt :=
  if n ≠ 1 ∨ r.ok = false then ⟨1, 0, max size 0 - 1⟩
  else if size ≤ 0 ∨ size ≤ r.ln ∨ (r.li = false ∧ r.hn = 0) then ⟨3, 0, 0⟩
  else if r.li = false then ⟨2, size - min r.hn size, max size 0 - 1⟩
  else if r.hi then ⟨2, r.ln, min r.hn (max size 0 - 1)⟩
  else ⟨2, r.ln, max size 0 - 1⟩
def parseM (L : List Fld) (size : Int) : Prt := prtM (getN L rangeB) (bdsM (getV L rangeB)) size

theorem numN_range (l : List UInt8) : 0 ≤ numN l ∧ numN l ≤ GT := by
  have h := undec_range (numD l) GT
  unfold numN
  have hG : GT = 4611686018427387904 := rfl
  split
  · omega
  · split
    · omega
    · by_cases h0 : undecE (numD l) GT = 0
      · exact h.1 h0
      · have := (h.2 h0).1; omega
theorem bds_range (l : List UInt8) : 0 ≤ (bdsM l).ln ∧ 0 ≤ (bdsM l).hn ∧ (bdsM l).ln ≤ GT ∧ (bdsM l).hn ≤ GT := by
  have hG : GT = 4611686018427387904 := rfl
  unfold bdsM
  split
  · exact ⟨(numN_range _).1, (numN_range _).1, (numN_range _).2, (numN_range _).2⟩
  · exact ⟨by decide, by decide, by decide, by decide⟩
theorem prt_ret {r : Prt} {a b c : Int} (h : r = ⟨a, b, c⟩) : Ending.returned (.tuple #[.int .i64 a, .int .i64 b, .int .i64 c]) = .returned (.tuple #[.int .i64 r.kind, .int .i64 r.a, .int .i64 r.b]) := by rw [h]

set_option maxRecDepth 100000 in
set_option maxHeartbeats 2000000 in
theorem slice_Parse (va : Value) (L : List Fld) (size : Int) (w : World) (ha : Sl Fld.cells 2 w va L) (hg : ∀ x ∈ L, x.name.length ≤ maxLen) (hm : ML w) (hv : (getV L rangeB).length ≤ 1048576) (hs : in64 size) :
    Calls Tryd.prog 9 #[va, .int .i64 size] w fun e w' => e = .returned (.tuple #[.int .i64 (parseM L size).kind, .int .i64 (parseM L size).a, .int .i64 (parseM L size).b]) ∧ Keep [] w w' := by
  have hG := field_Get va L rangeB w ha hg (by decide)
  have hB := fun w1 (k : Keep [] w w1) => slice_bounds (getV L rangeB) w1 (hm.keep k (by simp)) hv
  have hR : parseM L size = prtM (getN L rangeB) (bdsM (getV L rangeB)) size := rfl
  change Calls Tryd.prog 29 #[va, .string ⟨#[82, 97, 110, 103, 101]⟩] w _ at hG
  unfold GetOut at hG
  unfold BdsOut at hB
  have hrg := bds_range (getV L rangeB)
  have hgt : GT = 4611686018427387904 := rfl
  generalize parseM L size = res at hR ⊢
  generalize getV L rangeB = v at *
  generalize getN L rangeB = n at *
  generalize bdsM v = r at *
  obtain ⟨ln, li, hn, hi, ok⟩ := r
  unfold prtM at hR
  dsimp only at hR hB hrg
  have HG := Lib.hid hG
  have HB := Lib.hid hB
  obtain ⟨hs1, hs2⟩ := hs
  clear hG hB hv hg
  go_enter Tryd.func9, Tryd.ntmps9
  go_wp2_with fail
  refine HG.out.mono ?_
  rintro e w1 ⟨rfl, hk1⟩
  go_wp2_with fail
  refine (HB.out _ hk1).mono ?_
  rintro e w2 ⟨rfl, hk2⟩
  have hk3 := hk1.trans hk2
  clear hk1 hk2
  go_upto_region 4 with fail
  have hla : max size 0 ≤ 9223372036854775807 ∧ 0 ≤ max size 0 := by omega
  have hlz : size ≤ 0 → max size 0 = 0 := by omega
  have hlp : 0 < size → max size 0 = size := by omega
  generalize max size 0 = mx at hR hla hlz hlp
  generalize hlast : mx - 1 = last at hR
  have hbL := (Blk.newA w2 #[.int .i64 ln, .bool li] 58).alloc (.cells #[.int .i64 hn, .bool hi] 58)
  have hbH := Blk.newA (w2.alloc (.cells #[.int .i64 ln, .bool li] 58)) #[.int .i64 hn, .bool hi] 58
  have hsz2 : (w2.alloc (.cells #[.int .i64 ln, .bool li] 58)).heap.size = w2.heap.size + 1 := by simp
  rw [hsz2] at hbH
  have hk4 := (hk3.alloc (.cells #[.int .i64 ln, .bool li] 58)).alloc (.cells #[.int .i64 hn, .bool hi] 58)
  generalize (w2.alloc (.cells #[.int .i64 ln, .bool li] 58)).alloc (.cells #[.int .i64 hn, .bool hi] 58) = w4 at hbL hbH hk4 ⊢
  generalize hzz : w2.heap.size + 1 = z1 at hbH ⊢
  have c0 := hbL.get (k := 0) rfl
  have c1 := hbL.get (k := 1) rfl
  have c2 := hbH.get (k := 0) rfl
  have c3 := hbH.get (k := 1) rfl
  have HK := Lib.hid hk4
  have HZ := Lib.hid hzz
  have HLA := Lib.hid hlast
  clear hbL hbH hk3 hk4 hsz2 hzz hlast
  by_cases hn1 : n = 1
  · have hn1' : ((n : Int) != 1) = false := by simp [hn1]
    have HN1 := Lib.hid hn1
    clear hn1
    cases ok with
    | false =>
      have HX := Lib.hid (hR.trans (if_pos (Or.inr rfl)))
      clear hR
      go_wp2_with fail
      go_ret3
      first | exact ⟨rfl, HK.out⟩ | exact ⟨by rw [HX.out]; rfl, HK.out⟩
    | true =>
      rw [if_neg (by simp [HN1.out])] at hR
      by_cases hs0 : size ≤ 0
      · have HX := Lib.hid (hR.trans (if_pos (Or.inl hs0)))
        clear hR
        go_wp2_with fail
        go_ret3
        first | exact ⟨rfl, HK.out⟩ | exact ⟨by rw [HX.out]; rfl, HK.out⟩
      · have hs0' : decide (size ≤ 0) = false := by simp; omega
        have hmx := hlp (by omega)
        by_cases hln : size ≤ ln
        · have HX := Lib.hid (hR.trans (if_pos (Or.inr (Or.inl hln))))
          clear hR
          have hln' : decide (ln ≥ size) = true := by simp; omega
          clear hs0
          go_wp2_with fail
          go_ret3
          first | exact ⟨rfl, HK.out⟩ | exact ⟨by rw [HX.out]; rfl, HK.out⟩
        · have hln' : decide (ln ≥ size) = false := by simp; omega
          cases li with
          | false =>
            by_cases hz : hn = 0
            · have HX := Lib.hid (hR.trans (if_pos (Or.inr (Or.inr ⟨rfl, hz⟩))))
              clear hR
              have hz' : (hn == 0) = true := by simp [hz]
              have HZ0 := Lib.hid hz
              clear hs0 hln hz
              go_wp2_with fail
              go_ret3
              first | exact ⟨rfl, HK.out⟩ | exact ⟨by rw [HX.out]; rfl, HK.out⟩
            · rw [if_neg (by omega), if_pos rfl] at hR
              have HX := Lib.hid hR
              clear hR
              have hz' : (hn == 0) = false := by simp [hz]
              have hw := IntWalk.i64_in (size - min hn size) (by omega)
              clear hs0 hln hz
              go_wp2_with fail
              go_region
              go_wp2_with fail
              go_ret3
              first | exact ⟨rfl, HK.out.drew⟩ | exact ⟨by rw [HX.out]; rfl, HK.out.drew⟩
          | true =>
            rw [if_neg (by simp; omega), if_neg (by simp)] at hR
            cases hi with
            | true =>
              rw [if_pos rfl] at hR
              have HX := Lib.hid hR
              clear hR
              clear hs0 hln
              go_wp2_with fail
              go_region
              go_wp2_with fail
              go_ret3
              first | exact ⟨rfl, HK.out.drew⟩ | exact ⟨by rw [HX.out]; rfl, HK.out.drew⟩
            | false =>
              rw [if_neg (by simp)] at hR
              have HX := Lib.hid hR
              clear hR
              clear hs0 hln
              go_wp2_with fail
              go_region
              go_wp2_with fail
              go_ret3
              first | exact ⟨rfl, HK.out.drew⟩ | exact ⟨by rw [HX.out]; rfl, HK.out.drew⟩
  · have hn1' : ((n : Int) != 1) = true := by simp; omega
    have HX := Lib.hid (hR.trans (if_pos (Or.inl (by omega))))
    clear hR
    clear hn1
    go_wp2_with fail
    go_ret3
    first | exact ⟨rfl, HK.out⟩ | exact ⟨by rw [HX.out]; rfl, HK.out⟩
end Go.Proofs.YthhnmfjfgbgjeaaDoor
