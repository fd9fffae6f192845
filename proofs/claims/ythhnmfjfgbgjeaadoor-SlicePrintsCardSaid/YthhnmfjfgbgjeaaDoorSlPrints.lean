/- The statement SlicePrints: its function answers true for every input. No conditions but on the library's tables. -/
import Derived.Test.YthhnmfjfgbgjeaaDoorSlRr
import Derived.Deep.RegionHeld3
namespace Go.Proofs.YthhnmfjfgbgjeaaDoor
open Go.RowKit Go.Shelf

set_option maxRecDepth 100000 in
set_option maxHeartbeats 4000000 in
theorem slicePrints_walk (a b c : Int) (l : List UInt8) (w : World) (hm : ML w) (hp : P10 w) (ha : in64 a ∧ in64 b ∧ in64 c) :
    Calls Tryd.prog 5 #[.agg #[.int .i64 a, .int .i64 b, .int .i64 c], .string (S l)] w fun e w' => e = .returned (.bool true) ∧ Below w.heap.size w w' := by
  have hA := Blk.newA w #[.int .i64 a, .int .i64 b, .int .i64 c] 42
  have hk := (Keep.refl [] w).alloc (.cells #[.int .i64 a, .int .i64 b, .int .i64 c] 42)
  generalize hwA : w.alloc (.cells #[.int .i64 a, .int .i64 b, .int .i64 c] 42) = wA at hA hk
  have HA := Lib.hid (fun w' (k : Keep [] wA w') => k.blk hA (by simp))
  have HK := Lib.hid hk
  have HM := Lib.hid (fun w' (k : Keep [] wA w') => And.intro (hm.keep (hk.trans k) (by simp)) (hp.keep0 (hk.trans k)))
  have hsl := S_size l
  have HAW := Lib.hid (slice_awake wA (hm.keep hk (by simp)) (hp.keep0 hk))
  have HI := Lib.hid ha
  clear hA hk hm hp ha
  go_enter Tryd.func5, Tryd.ntmps5
  go_wp2_with fail
  refine HAW.out.mono ?_
  rintro e w1 ⟨rfl, k1⟩
  by_cases h200 : l.length ≤ 200
  · have h200' : decide (200 < ((l.length : Nat) : Int)) = false := by simp; omega
    have HL := Lib.hid h200
    clear h200
    have c0 := (HA.out w1 k1).get (k := 0) rfl
    have c1 := (HA.out w1 k1).get (k := 1) rfl
    have c2 := (HA.out w1 k1).get (k := 2) rfl
    have HP1 := Lib.hid (fun w' hp => slice_Print a b c w' HI.out.1 HI.out.2.1 HI.out.2.2 hp)
    have HP2 := Lib.hid (fun w' => ref16_Print a b c w' HI.out.1 HI.out.2.1 HI.out.2.2)
    generalize prnE a b c = pe at HP1 HP2
    generalize prnS a b c = ps at HP1 HP2
    go_wp2_with fail
    refine (HP1.out w1 (HM.out w1 k1).2).mono ?_
    rintro e w2 ⟨rfl, k2⟩
    have k2 := k1.trans k2
    have d0 := (HA.out w2 k2).get (k := 0) rfl
    have d1 := (HA.out w2 k2).get (k := 1) rfl
    have d2 := (HA.out w2 k2).get (k := 2) rfl
    clear c0 c1 c2 k1 HP1
    go_wp2_with fail
    refine (HP2.out w2).mono ?_
    rintro e w3 ⟨rfl, k3⟩
    have k3 := k2.trans k3
    clear d0 d1 d2 k2 HP2
    have HR1 := Lib.hid (slice_Read l w3 (HM.out w3 k3).1 (HM.out w3 k3).2 (by have := HL.out; omega))
    have HR2 := Lib.hid (fun w' => ref16_Read l w' (by have := HL.out; omega))
    rw [rr_same] at HR2
    generalize rdcM l = r at HR1 HR2
    obtain ⟨ra, rb, rc, re⟩ := r
    unfold Rd3.asV at HR1 HR2
    dsimp only at HR1 HR2
    go_wp2_with fail
    refine HR1.out.mono ?_
    rintro e w4 ⟨rfl, k4⟩
    have k4 := k3.trans k4
    clear HR1 k3
    go_wp2_with fail
    refine (HR2.out w4).mono ?_
    rintro e w5 ⟨rfl, k5⟩
    have k5 := k4.trans k5
    clear HR2 k4
    have d0 := (HA.out w5 k5).get (k := 2) rfl
    have HU := Lib.hid (fun w' (k : Keep [] w5 w') => slice_Unmet c w' HI.out.2.2 (HM.out w' (k5.trans k)).2)
    have HD := Lib.hid (fun w' => ref_DecI (max c 0) w' (by omega) (by have := HI.out.2.2; unfold in64 at this; omega))
    have HP := Lib.hid (fun w' (h : Keep [] w5 w') => (HA.out w' (k5.trans h)).get (k := 2) rfl)
    have hU : (⟨#[98, 121, 116, 101, 115, 32, 42, 47]⟩ : ByteArray) ++ S (Lib.itoa (max c 0)) = S (unmetS c) := S_append [98, 121, 116, 101, 115, 32, 42, 47] (Lib.itoa (max c 0))
    have hdl := itoa_len (max c 0) (by have := HI.out.2.2; unfold in64 at *; omega)
    generalize unmetS c = us at HU hU
    generalize Lib.itoa (max c 0) = ds at HD hU hdl
    have hdz := S_size ds
    have hcap : ¬ 9223372036854775807 < 8 + ds.length := by omega
    clear hdl
    have hps : (ps == ps) = true := by simp
    have hus : (us == us) = true := by simp
    have j0 := Keep.refl [] w5
    have K5 := Lib.hid k5
    clear k5
    go_wp2_with fail
    go_cut [4] (fun v wx => v = .bool true ∧ Hid (Keep [] wA wx))
    case first =>
      go_region_held3 (fun w' => w'.cell? ⟨w.heap.size, 2, none⟩ = some (.int .i64 c))
        (first | assumption | go_keep)
        (first
        | (go_at_call 24; refine (HU.out _ (by repeat (first | assumption | (with_reducible apply Keep.drew)))).mono ?_; rintro e wE ⟨rfl, hkE⟩; have jE : Keep [] w5 wE := Keep.trans (by repeat (first | assumption | (with_reducible apply Keep.drew))) hkE; have dE := HP.out _ jE; clear hkE)
        | (go_at_call 25; refine (HD.out _).mono ?_; rintro e wT ⟨rfl, hkT⟩; have jT : Keep [] w5 wT := Keep.trans (by repeat (first | assumption | (with_reducible apply Keep.drew))) hkT; have dT := HP.out _ jT; clear hkT))
      all_goals
        go_wp2_with fail
        go_meet
        exact ⟨rfl, Lib.hid (K5.out.trans (by repeat (first | assumption | (with_reducible apply Keep.drew))))⟩
    case rest =>
      obtain ⟨rfl, HK7⟩ := hcut
      go_wp2_with fail
      go_ret
      exact ⟨rfl, (HK.out.trans HK7.out).below (by simp)⟩
  · have h200' : decide (200 < ((l.length : Nat) : Int)) = true := by simp; omega
    clear h200
    go_wp2_with fail
    go_ret
    exact ⟨rfl, (HK.out.trans k1).below (by simp)⟩
end Go.Proofs.YthhnmfjfgbgjeaaDoor
