/- Layer 16: Read. No conditions but on lengths and the library's tables. -/
import Derived.Test.YthhnmfjfgbgjeaaDoorSl6
namespace Go.Proofs.YthhnmfjfgbgjeaaDoor
open Go.RowKit Go.Shelf

/-- what a Content-Range is read as -/
structure Rd3 where
  a : Int
  b : Int
  c : Int
  e : Int
  deriving DecidableEq
/-- the three texts -/
def rdA (l : List UInt8) : List UInt8 := (Lib.cut (Lib.trimPrefix l saidB) [45]).1
def rdB (l : List UInt8) : List UInt8 := (Lib.cut (Lib.cut (Lib.trimPrefix l saidB) [45]).2.1 [47]).1
def rdC (l : List UInt8) : List UInt8 := (Lib.cut (Lib.cut (Lib.trimPrefix l saidB) [45]).2.1 [47]).2.1
def rdcM (l : List UInt8) : Rd3 :=
  if undecE (rdA l) 4611686018427387904 ≠ 0 then ⟨0, 0, 0, 3⟩ else if undecE (rdB l) 4611686018427387904 ≠ 0 then ⟨0, 0, 0, 3⟩ else if undecE (rdC l) 4611686018427387904 ≠ 0 then ⟨0, 0, 0, 3⟩
  else if prnE (undecV (rdA l) 4611686018427387904) (undecV (rdB l) 4611686018427387904) (undecV (rdC l) 4611686018427387904) ≠ 0 ∨ prnS (undecV (rdA l) 4611686018427387904) (undecV (rdB l) 4611686018427387904) (undecV (rdC l) 4611686018427387904) ≠ l then ⟨0, 0, 0, 3⟩
  else ⟨undecV (rdA l) 4611686018427387904, undecV (rdB l) 4611686018427387904, undecV (rdC l) 4611686018427387904, 0⟩
def Rd3.asV (r : Rd3) : Value := .tuple #[.int .i64 r.a, .int .i64 r.b, .int .i64 r.c, .int .i64 r.e]
theorem trim_len (l p : List UInt8) : (Lib.trimPrefix l p).length ≤ l.length := by
  unfold Lib.trimPrefix
  split <;> simp

set_option maxRecDepth 100000 in
set_option maxHeartbeats 2000000 in
theorem slice_Read (l : List UInt8) (w : World) (hm : ML w) (hp : P10 w) (hl : l.length ≤ 1048576) :
    Calls Tryd.prog 22 #[.string (S l)] w fun e w' => e = .returned (rdcM l).asV ∧ Keep [] w w' := by
  have hR : rdcM l = if undecE (rdA l) 4611686018427387904 ≠ 0 then ⟨0, 0, 0, 3⟩ else if undecE (rdB l) 4611686018427387904 ≠ 0 then ⟨0, 0, 0, 3⟩ else if undecE (rdC l) 4611686018427387904 ≠ 0 then ⟨0, 0, 0, 3⟩
    else if prnE (undecV (rdA l) 4611686018427387904) (undecV (rdB l) 4611686018427387904) (undecV (rdC l) 4611686018427387904) ≠ 0 ∨ prnS (undecV (rdA l) 4611686018427387904) (undecV (rdB l) 4611686018427387904) (undecV (rdC l) 4611686018427387904) ≠ l then ⟨0, 0, 0, 3⟩
    else ⟨undecV (rdA l) 4611686018427387904, undecV (rdB l) 4611686018427387904, undecV (rdC l) 4611686018427387904, 0⟩ := rfl
  have hP : Calls Tryd.prog 35 #[.string (S l), .string ⟨#[98, 121, 116, 101, 115, 32]⟩] w fun e w' => e = .returned (.tuple #[.string (S (Lib.trimPrefix l saidB)), .bool (Lib.hasPrefix l saidB)]) ∧ w' = w := by
    have := Tryd.strings_CutPrefix (S l) ⟨#[98, 121, 116, 101, 115, 32]⟩ w
    rw [S_list] at this
    exact this
  have hrl := trim_len l saidB
  have hA : rdA l = (Lib.cut (Lib.trimPrefix l saidB) [45]).1 := rfl
  have hB : rdB l = (Lib.cut (Lib.cut (Lib.trimPrefix l saidB) [45]).2.1 [47]).1 := rfl
  have hC : rdC l = (Lib.cut (Lib.cut (Lib.trimPrefix l saidB) [45]).2.1 [47]).2.1 := rfl
  generalize Lib.hasPrefix l saidB = hb at hP
  generalize Lib.trimPrefix l saidB = r at *
  have hC1 : Calls Tryd.prog 36 #[.string (S r), .string ⟨#[45]⟩] w fun e w' => e = .returned (.tuple #[.string (S (Lib.cut r [45]).1), .string (S (Lib.cut r [45]).2.1), .bool (Lib.cut r [45]).2.2]) ∧ Keep [] w w' := strings_Cut r ⟨#[45]⟩ w hm (by omega)
  have hl1 := cut_len r [45]
  generalize Lib.cut r [45] = c1 at *
  obtain ⟨xa, r2, ok1⟩ := c1
  dsimp only at *
  have hC2 := fun w1 (k : Keep [] w w1) => show Calls Tryd.prog 36 #[.string (S r2), .string ⟨#[47]⟩] w1 fun e w' => e = .returned (.tuple #[.string (S (Lib.cut r2 [47]).1), .string (S (Lib.cut r2 [47]).2.1), .bool (Lib.cut r2 [47]).2.2]) ∧ Keep [] w1 w' from strings_Cut r2 ⟨#[47]⟩ w1 (hm.keep k (by simp)) (by omega)
  have hl2 := cut_len r2 [47]
  generalize Lib.cut r2 [47] = c2 at *
  obtain ⟨xb, xc, ok2⟩ := c2
  dsimp only at *
  rw [hA, hB, hC] at hR
  have UA := fun w' => hexa_Undec xa 4611686018427387904 w' (show xa.length ≤ 9223372036854775807 by omega)
  have UB := fun w' => hexa_Undec xb 4611686018427387904 w' (show xb.length ≤ 9223372036854775807 by omega)
  have UC := fun w' => hexa_Undec xc 4611686018427387904 w' (show xc.length ≤ 9223372036854775807 by omega)
  have ga := undec_range xa 4611686018427387904
  have gb := undec_range xb 4611686018427387904
  have gc := undec_range xc 4611686018427387904
  generalize undecE xa 4611686018427387904 = ea at *
  generalize undecE xb 4611686018427387904 = eb at *
  generalize undecE xc 4611686018427387904 = ec at *
  generalize undecV xa 4611686018427387904 = va at *
  generalize undecV xb 4611686018427387904 = vb at *
  generalize undecV xc 4611686018427387904 = vc at *
  have HUA := Lib.hid UA
  have HUB := Lib.hid UB
  have HUC := Lib.hid UC
  have HP := Lib.hid hP
  have HC1 := Lib.hid hC1
  have HC2 := Lib.hid hC2
  have HPR := Lib.hid (fun w' (k : Keep [] w w') (h : ea = 0 ∧ eb = 0 ∧ ec = 0) => slice_Print va vb vc w' (by have := ga.1 h.1; unfold in64; omega) (by have := gb.1 h.2.1; unfold in64; omega) (by have := gc.1 h.2.2; unfold in64; omega) (hp.keep0 k))
  generalize hres : rdcM l = res at hR ⊢
  have HR := Lib.hid hR
  have htl := S_toList l
  clear UA UB UC hP hC1 hC2 hl1 hl2 hrl hA hB hC hR ga gb gc hres
  go_enter Tryd.func22, Tryd.ntmps22
  go_wp2_with fail
  refine HP.out.mono ?_
  rintro e w1 ⟨rfl, hw1⟩
  have hw1 := hw1.symm
  subst hw1
  go_wp2_with fail
  refine HC1.out.mono ?_
  rintro e w2 ⟨rfl, k2⟩
  go_wp2_with fail
  refine (HC2.out w2 k2).mono ?_
  rintro e w3 ⟨rfl, k3⟩
  have k3 := k2.trans k3
  clear k2
  go_upto_block 2 with fail
  have hn0 := (Blk.newA w3 #[.int .i64 0, .int .i64 0, .int .i64 0] 42).alloc (.cells #[.string (S xa), .string (S xb), .string (S xc)] 9)
  have hs0 := Blk.newA (w3.alloc (.cells #[.int .i64 0, .int .i64 0, .int .i64 0] 42)) #[.string (S xa), .string (S xb), .string (S xc)] 9
  have hsz3 : (w3.alloc (.cells #[.int .i64 0, .int .i64 0, .int .i64 0] 42)).heap.size = w3.heap.size + 1 := by simp
  rw [hsz3] at hs0
  have k4 := (k3.alloc (.cells #[.int .i64 0, .int .i64 0, .int .i64 0] 42)).alloc (.cells #[.string (S xa), .string (S xb), .string (S xc)] 9)
  generalize (w3.alloc (.cells #[.int .i64 0, .int .i64 0, .int .i64 0] 42)).alloc (.cells #[.string (S xa), .string (S xb), .string (S xc)] 9) = w4 at hn0 hs0 k4 ⊢
  have hne : w3.heap.size ≠ w3.heap.size + 1 := by omega
  have hnw : w.heap.size ≤ w3.heap.size := k3.size
  generalize hsb : w3.heap.size + 1 = sb at hs0 hne ⊢
  generalize w3.heap.size = nb at hn0 hne hnw hsb ⊢
  have HB := Lib.hid (And.intro hne hnw)
  have HN0 := Lib.hid hn0
  have HS0 := Lib.hid hs0
  have HK0 := Lib.hid k4
  clear hn0 hs0 k4 k3 hsz3 hsb hne hnw
  go_loopg [42] 3 (fun g s42 wr => ∃ (k : Nat) (n0 n1 n2 : Int), s42 = .int .i64 k ∧ k ≤ 3 ∧ g = 3 - k ∧ Hid (Blk wr nb 42 [.int .i64 n0, .int .i64 n1, .int .i64 n2]) ∧ Hid (Blk wr sb 9 [.string (S xa), .string (S xb), .string (S xc)]) ∧ Hid (Keep [] w wr) ∧
      Hid ((1 ≤ k → n0 = va ∧ ea = 0) ∧ (2 ≤ k → n1 = vb ∧ eb = 0) ∧ (3 ≤ k → n2 = vc ∧ ec = 0)))
  case atStart => exact ⟨0, 0, 0, 0, rfl, by omega, by omega, HN0, HS0, HK0, Lib.hid ⟨fun h => by omega, fun h => by omega, fun h => by omega⟩⟩
  case round =>
    obtain ⟨k, n0, n1, n2, rfl, hk, hgk, HN, HS, HK, HI⟩ := hrel
    clear HN0 HS0 HK0
    have f0 := HN.out.frozen
    have d0 := HN.out.get (k := 0) rfl
    have d1 := HN.out.get (k := 1) rfl
    have d2 := HN.out.get (k := 2) rfl
    have g0 := HS.out.get (k := 0) rfl
    have g1 := HS.out.get (k := 1) rfl
    have g2 := HS.out.get (k := 2) rfl
    rcases (show k = 0 ∨ k = 1 ∨ k = 2 ∨ k = 3 by omega) with rfl | rfl | rfl | rfl
    · by_cases he : ea = 0
      · have HE := Lib.hid he
        have U := HUA.out
        rw [he] at U
        have HU := Lib.hid U
        clear U he
        go_wp2_with fail
        refine (HU.out _).mono ?_
        rintro e w5 ⟨rfl, k5⟩
        have HN5 := k5.blk HN.out (by simp)
        have HS5 := Lib.hid (k5.blk HS.out (by simp))
        have K5 := Lib.hid (HK.out.trans k5)
        have f5 := HN5.frozen
        have e0 := HN5.get (k := 0) rfl
        have HN6 := Lib.hid (HN5.set 0 (.int .i64 va))
        have HS6 := Lib.hid (HS5.out.setOther (a := ⟨nb, 0, none⟩) (fun h => HB.out.1 h.symm) (.int .i64 va))
        have K6 := Lib.hid (K5.out.setCell ⟨nb, 0, none⟩ (.int .i64 va) (fun h => by have := HB.out.2; simp at h; omega))
        clear k5 HN5 f0 d0 d1 d2 g0 g1 g2
        go_wp2_with fail
        go_roundg (3 - (0 + 1))
        case measure => omega
        case rel =>
          obtain ⟨i1, i2, i3⟩ := HI.out
          exact ⟨0 + 1, va, n1, n2, by first | rfl | go_num, by omega, rfl, HN6, HS6, K6, Lib.hid ⟨fun _ => ⟨rfl, HE.out⟩, fun h => by omega, fun h => by omega⟩⟩
      · have HX := Lib.hid (show res = ⟨0, 0, 0, 3⟩ by
          rw [HR.out]
          rw [if_pos he])
        obtain ⟨z1, z2⟩ := int_ne he
        generalize ea = ex at HUA z1 z2
        go_wp2_with fail
        refine (HUA.out _).mono ?_
        rintro e w5 ⟨rfl, k5⟩
        go_wp2_with fail
        refine bodyPost_ret (v := .tuple #[.int .i64 0, .int .i64 0, .int .i64 0, .int .i64 3]) (by simp [results, Tryd.results22]) rfl ⟨by rw [HX.out]; rfl, HK.out.trans k5⟩
    · by_cases he : eb = 0
      · have HE := Lib.hid he
        have U := HUB.out
        rw [he] at U
        have HU := Lib.hid U
        clear U he
        go_wp2_with fail
        refine (HU.out _).mono ?_
        rintro e w5 ⟨rfl, k5⟩
        have HN5 := k5.blk HN.out (by simp)
        have HS5 := Lib.hid (k5.blk HS.out (by simp))
        have K5 := Lib.hid (HK.out.trans k5)
        have f5 := HN5.frozen
        have e0 := HN5.get (k := 1) rfl
        have HN6 := Lib.hid (HN5.set 1 (.int .i64 vb))
        have HS6 := Lib.hid (HS5.out.setOther (a := ⟨nb, 1, none⟩) (fun h => HB.out.1 h.symm) (.int .i64 vb))
        have K6 := Lib.hid (K5.out.setCell ⟨nb, 1, none⟩ (.int .i64 vb) (fun h => by have := HB.out.2; simp at h; omega))
        clear k5 HN5 f0 d0 d1 d2 g0 g1 g2
        go_wp2_with fail
        go_roundg (3 - (1 + 1))
        case measure => omega
        case rel =>
          obtain ⟨i1, i2, i3⟩ := HI.out
          exact ⟨1 + 1, n0, vb, n2, by first | rfl | go_num, by omega, rfl, HN6, HS6, K6, Lib.hid ⟨fun _ => i1 (by omega), fun h => ⟨rfl, HE.out⟩, fun h => by omega⟩⟩
      · have HX := Lib.hid (show res = ⟨0, 0, 0, 3⟩ by
          rw [HR.out]
          rw [if_neg (by simp [(HI.out.1 (by omega)).2])]
          rw [if_pos he])
        obtain ⟨z1, z2⟩ := int_ne he
        generalize eb = ex at HUB z1 z2
        go_wp2_with fail
        refine (HUB.out _).mono ?_
        rintro e w5 ⟨rfl, k5⟩
        go_wp2_with fail
        refine bodyPost_ret (v := .tuple #[.int .i64 0, .int .i64 0, .int .i64 0, .int .i64 3]) (by simp [results, Tryd.results22]) rfl ⟨by rw [HX.out]; rfl, HK.out.trans k5⟩
    · by_cases he : ec = 0
      · have HE := Lib.hid he
        have U := HUC.out
        rw [he] at U
        have HU := Lib.hid U
        clear U he
        go_wp2_with fail
        refine (HU.out _).mono ?_
        rintro e w5 ⟨rfl, k5⟩
        have HN5 := k5.blk HN.out (by simp)
        have HS5 := Lib.hid (k5.blk HS.out (by simp))
        have K5 := Lib.hid (HK.out.trans k5)
        have f5 := HN5.frozen
        have e0 := HN5.get (k := 2) rfl
        have HN6 := Lib.hid (HN5.set 2 (.int .i64 vc))
        have HS6 := Lib.hid (HS5.out.setOther (a := ⟨nb, 2, none⟩) (fun h => HB.out.1 h.symm) (.int .i64 vc))
        have K6 := Lib.hid (K5.out.setCell ⟨nb, 2, none⟩ (.int .i64 vc) (fun h => by have := HB.out.2; simp at h; omega))
        clear k5 HN5 f0 d0 d1 d2 g0 g1 g2
        go_wp2_with fail
        go_roundg (3 - (2 + 1))
        case measure => omega
        case rel =>
          obtain ⟨i1, i2, i3⟩ := HI.out
          exact ⟨2 + 1, n0, n1, vc, by first | rfl | go_num, by omega, rfl, HN6, HS6, K6, Lib.hid ⟨fun _ => i1 (by omega), fun h => i2 (by omega), fun h => ⟨rfl, HE.out⟩⟩⟩
      · have HX := Lib.hid (show res = ⟨0, 0, 0, 3⟩ by
          rw [HR.out]
          rw [if_neg (by simp [(HI.out.1 (by omega)).2]), if_neg (by simp [(HI.out.2.1 (by omega)).2])]
          rw [if_pos he])
        obtain ⟨z1, z2⟩ := int_ne he
        generalize ec = ex at HUC z1 z2
        go_wp2_with fail
        refine (HUC.out _).mono ?_
        rintro e w5 ⟨rfl, k5⟩
        go_wp2_with fail
        refine bodyPost_ret (v := .tuple #[.int .i64 0, .int .i64 0, .int .i64 0, .int .i64 3]) (by simp [results, Tryd.results22]) rfl ⟨by rw [HX.out]; rfl, HK.out.trans k5⟩
    · obtain ⟨i1, i2, i3⟩ := HI.out
      obtain ⟨rfl, ha0⟩ := i1 (by omega)
      obtain ⟨rfl, hb0⟩ := i2 (by omega)
      obtain ⟨rfl, hc0⟩ := i3 (by omega)
      have hR := HR.out
      rw [if_neg (by simp [ha0]), if_neg (by simp [hb0]), if_neg (by simp [hc0])] at hR
      have HPr := Lib.hid (HPR.out wr HK.out ⟨ha0, hb0, hc0⟩)
      clear i1 i2 i3 ha0 hb0 hc0 HR HPR HUA HUB HUC g0 g1 g2 HI
      generalize prnE n0 n1 n2 = pe at hR HPr
      generalize prnS n0 n1 n2 = ps at hR HPr
      have tps := S_toList ps
      have HR := Lib.hid hR
      clear hR
      by_cases hpe : pe = 0
      · by_cases hps : ps = l
        · have HX := Lib.hid (show res = ⟨n0, n1, n2, 0⟩ by rw [HR.out, if_neg (by simp [hpe, hps])])
          rw [hpe, hps] at HPr
          have hll : (l != l) = false := by simp
          clear hpe hps HR tps
          go_wp2_with fail
          refine HPr.out.mono ?_
          rintro e w5 ⟨rfl, k5⟩
          have HN5 := k5.blk HN.out (by simp)
          have e0 := HN5.get (k := 0) rfl
          have e1 := HN5.get (k := 1) rfl
          have e2 := HN5.get (k := 2) rfl
          go_wp2_with fail
          go_quiet (fail)
          go_wp2_with fail
          refine bodyPost_ret (v := .tuple #[.int .i64 n0, .int .i64 n1, .int .i64 n2, .int .i64 0]) (by simp [results, Tryd.results22]) rfl ⟨by rw [HX.out]; rfl, (HK.out.trans k5).drewN _⟩
        · have HX := Lib.hid (show res = ⟨0, 0, 0, 3⟩ by rw [HR.out, if_pos (Or.inr hps)])
          rw [hpe] at HPr
          have hll : ((S ps).toList != (S l).toList) = true := by rw [tps, htl]; simp [hps]
          have hll2 : ((S ps).toList == (S l).toList) = false := by rw [tps, htl]; simp [hps]
          clear hpe hps HR tps htl
          go_wp2_with fail
          refine HPr.out.mono ?_
          rintro e w5 ⟨rfl, k5⟩
          go_wp2_with fail
          refine bodyPost_ret (v := .tuple #[.int .i64 0, .int .i64 0, .int .i64 0, .int .i64 3]) (by simp [results, Tryd.results22]) rfl ⟨by rw [HX.out]; rfl, HK.out.trans k5⟩
      · have HX := Lib.hid (show res = ⟨0, 0, 0, 3⟩ by rw [HR.out, if_pos (Or.inl hpe)])
        obtain ⟨z1, z2⟩ := int_ne hpe
        clear hpe HR
        go_wp2_with fail
        refine HPr.out.mono ?_
        rintro e w5 ⟨rfl, k5⟩
        go_wp2_with fail
        refine bodyPost_ret (v := .tuple #[.int .i64 0, .int .i64 0, .int .i64 0, .int .i64 3]) (by simp [results, Tryd.results22]) rfl ⟨by rw [HX.out]; rfl, HK.out.trans k5⟩
end Go.Proofs.YthhnmfjfgbgjeaaDoor
