/- Layer 21: the document's Victim, Same; what is not there. No conditions. -/
import Derived.Test.YtbfnpoknamajnaaRkY
namespace Go.Proofs.Ytbfnpoknamajnaa
open Go.RowKit Go.Maps

set_option maxRecDepth 100000 in
set_option maxHeartbeats 2000000 in
theorem ref_Victim21 (u : Nat) (v : Value) (L : List Jar) (budget : Int) (w : World) (h : Dk w u v L budget) (hL : L.length ≤ 64) (hg : ∀ j ∈ L, okJar j) :
    Calls Try.prog 44 #[.pointer (some ⟨u, 0, none⟩)] w fun e w' => e = .returned (.tuple #[.agg (digC (vicD (vicL budget L))).toArray, .bool (vicL budget L).isSome]) ∧ Keep [] w w' := by
  have hkA := (Keep.refl [] w).alloc (.cells (digC dig0).toArray 44)
  have hbA := Blk.newA w (digC dig0).toArray 44
  have hV : vicL budget L = if sumL L ≤ budget ∧ L.length < 64 then none else L.reverse.find? zeroPins := rfl
  generalize vicL budget L = res at hV ⊢
  rw [dig0_cells] at hkA hbA
  generalize hwA : w.alloc (.cells #[.int .u8 0, .int .u8 0, .int .u8 0, .int .u8 0, .int .u8 0, .int .u8 0, .int .u8 0, .int .u8 0, .int .u8 0, .int .u8 0, .int .u8 0, .int .u8 0, .int .u8 0, .int .u8 0, .int .u8 0, .int .u8 0, .int .u8 0, .int .u8 0, .int .u8 0, .int .u8 0, .int .u8 0, .int .u8 0, .int .u8 0, .int .u8 0, .int .u8 0, .int .u8 0, .int .u8 0, .int .u8 0, .int .u8 0, .int .u8 0, .int .u8 0, .int .u8 0] 44) = wA at hkA hbA
  have hbA : Blk wA w.heap.size 44 (digC dig0) := by rw [← dig0_cells] at hbA; exact hbA
  have HSU := Lib.hid (ref_Sums u v L budget wA (h.keep0 hkA) hL hg)
  have HD0 := Lib.hid (fun w' (k : Keep [] w w') => h.keep0 k)
  obtain ⟨a, cap, rfl, hml⟩ := h.own.shape
  have HBA := Lib.hid hbA
  have HKA := Lib.hid hkA
  have HS0 := Lib.hid (And.intro (show (Try.prog.info? 44).map (·.size) = some (digC dig0).toArray.size by rw [List.size_toArray, digC_length]; exact dig_size) (all_oneCell_toArray (digC_one dig0)))
  have HV := Lib.hid hV
  have hwl := IntWalk.i64_in ((L.length : Int) - 1) (by omega)
  generalize sumL L = sa at *
  generalize usedL L = sb at *
  clear h hkA hbA hml hV hg
  by_cases hle : sa ≤ budget ∧ L.length < 64
  · have hl1 : decide (sa ≤ budget) = true := decide_eq_true hle.1
    have hl2 : (L.length : Int) < 64 := by omega
    have HN := Lib.hid (HV.out.trans (if_pos hle))
    clear hle
    go_enter Try.func44, Try.ntmps44
    go_wp2_with fail
    refine HSU.out.mono ?_
    rintro e w1 ⟨rfl, k1⟩
    have c0 := (HD0.out w1 (HKA.out.trans k1)).blk.get (k := 0) rfl
    have c1 := (HD0.out w1 (HKA.out.trans k1)).blk.get (k := 1) rfl
    have hbq := k1.blk HBA.out (by simp)
    have hkq := HKA.out.trans k1
    go_wp2_with (first
      | (refine wpList_store_mid rfl 44 (.tmp 2) (.tmp 26) rfl w.heap.size 0 (digC dig0).toArray (by rfl) (by first | rfl | kernel_rfl) (hbq.there 0 _ (by simp)) HS0.out.1 HS0.out.2 ?_)
      | fail)
    have hwt : w1.there w.heap.size 0 (digC dig0).length := hbq.there 0 _ (by simp [digC_length])
    have hr := World.rangeAt_setCells_same w1 w.heap.size 0 (digC dig0) hwt
    have hload := run_loadVar_mid (P := Try.prog) (w1.setCells w.heap.size 0 (digC dig0)) w.heap.size 0 44 (digC dig0) _ hr Try.underlying44 rfl (by rw [digC_length]; exact dig_size)
    refine bodyPost_ret (v := .tuple #[.agg (digC dig0).toArray, .bool false]) (by simp [results, Try.results44, asAddr, Result.andThen, hload]) rfl ⟨?_, ?_⟩
    · rw [HN.out]; rfl
    · exact Keep.setCells _ (by omega) _ _ _ hkq
  · have HN := Lib.hid (HV.out.trans (if_neg hle))
    by_cases hsb : sa ≤ budget
    · have hl1 : decide (sa ≤ budget) = true := decide_eq_true hsb
      have hl2 : ¬ (L.length : Int) < 64 := by omega
      clear hle hsb
      go_enter Try.func44, Try.ntmps44
      go_wp2_with fail
      refine HSU.out.mono ?_
      rintro e w1 ⟨rfl, k1⟩
      have c0 := (HD0.out w1 (HKA.out.trans k1)).blk.get (k := 0) rfl
      have c1 := (HD0.out w1 (HKA.out.trans k1)).blk.get (k := 1) rfl
      have HBQ := Lib.hid (k1.blk HBA.out (by simp))
      have HKQ := Lib.hid (HKA.out.trans k1)
      clear k1
      go_wp2_with fail
      go_loopg [6] L.length (fun g s6 wr => ∃ (m : Nat) (i : Int), s6 = .int .i64 i ∧ g = m ∧ m ≤ L.length ∧ i = (m : Int) - 1 ∧ wr = w1 ∧ Hid (res = (L.take m).reverse.find? zeroPins))
      case atStart => exact ⟨L.length, _, rfl, rfl, Nat.le_refl _, rfl, rfl, Lib.hid (by rw [HN.out, List.take_of_length_le (Nat.le_refl _)])⟩
      case round =>
        obtain ⟨m, i, rfl, hgm, hm, him, rfl, HF⟩ := hrel
        cases m with
        | zero =>
          have hi : decide ((0 : Int) ≤ i) = false := decide_eq_false (by omega)
          have HX : Hid (res = none) := by rw [HF.out]; rfl
          clear him
          go_wp2_with (first
            | (refine wpList_store_mid rfl 44 (.tmp 2) (.tmp 54) rfl w.heap.size 0 (digC dig0).toArray (by rfl) (by first | rfl | kernel_rfl) (HBQ.out.there 0 _ (by simp)) HS0.out.1 HS0.out.2 ?_)
            | fail)
          have hwt : wr.there w.heap.size 0 (digC dig0).length := HBQ.out.there 0 _ (by simp [digC_length])
          have hr := World.rangeAt_setCells_same wr w.heap.size 0 (digC dig0) hwt
          have hload := run_loadVar_mid (P := Try.prog) (wr.setCells w.heap.size 0 (digC dig0)) w.heap.size 0 44 (digC dig0) _ hr Try.underlying44 rfl (by rw [digC_length]; exact dig_size)
          refine bodyPost_ret (v := .tuple #[.agg (digC dig0).toArray, .bool false]) (by simp [results, Try.results44, asAddr, Result.andThen, hload]) rfl ⟨?_, ?_⟩
          · rw [HX.out]; rfl
          · exact Keep.setCells _ (by omega) _ _ _ HKQ.out
        | succ m =>
          obtain rfl : i = (m : Int) := by omega
          obtain ⟨x, hx⟩ : ∃ x, L[m]? = some x := ⟨_, List.getElem?_eq_getElem (by omega)⟩
          obtain ⟨g', cap', hv, _, _, hr0⟩ := own_at (HD0.out wr HKQ.out).own hx
          cases hv
          have hF := HF.out
          rw [take_rev hx] at hF
          have c34 := hr0 34 (.int .i64 x.pins) (by simp [Jar.cells, digC_length, List.getElem?_append])
          have hR2 : Hid (wr.rangeAt g' (m * 35) (digC x.dig)) := fun j v hv => by
            refine hr0 j v ?_
            unfold Jar.cells
            rw [List.getElem?_append_left (List.getElem?_eq_some_iff.1 hv).1]
            exact hv
          have hm0 : (0 : Int) ≤ (m : Int) := by omega
          have hm1 : (m : Int) < (L.length : Int) := by omega
          have hwm := IntWalk.i64_in ((m : Int) - 1) (by omega)
          clear him hr0
          by_cases hz : x.pins = 0
          · have HX : Hid (res = some x) := Lib.hid (by rw [hF, if_pos (by simp [zeroPins, hz])])
            rw [hz] at c34
            have HL := Lib.hid (show (Try.prog.info? 44).map (·.size) = some (digC x.dig).length by rw [digC_length]; exact dig_size)
            have HL2 := Lib.hid (show (Try.prog.info? 44).map (·.size) = some (digC x.dig).toArray.size by rw [List.size_toArray, digC_length]; exact dig_size)
            have H1 := Lib.hid (all_oneCell_toArray (digC_one x.dig))
            clear hF hx hz
            obtain ⟨dd, hdd⟩ : ∃ dd, dd = x.dig := ⟨_, rfl⟩
            rw [← hdd] at hR2 HL HL2 H1
            have HDD := Lib.hid hdd
            clear hdd
            go_wp2_with (first
              | (refine wpList_load_mid rfl 44 (.tmp 52) rfl g' (m * 35) (by simp [Act.eval, Addr.add]) (digC dd) _ hR2.out Try.underlying44 rfl HL.out ?_)
              | (refine wpList_store_mid rfl 44 (.tmp 2) (.tmp 53) rfl w.heap.size 0 (digC dd).toArray (by rfl) (by rfl) (HBQ.out.there 0 _ (by simp [digC_length])) HL2.out H1.out ?_)
              | fail)
            try simp only [Act.put, List.setIfInBounds_toArray, List.set_cons_succ, List.set_cons_zero]
            try go_wp2_with fail
            have hwt : wr.there w.heap.size 0 (digC dd).length := HBQ.out.there 0 _ (by simp [digC_length])
            have hr := World.rangeAt_setCells_same wr w.heap.size 0 (digC dd) hwt
            have hload := run_loadVar_mid (P := Try.prog) (wr.setCells w.heap.size 0 (digC dd)) w.heap.size 0 44 (digC dd) _ hr Try.underlying44 rfl (by rw [digC_length]; exact dig_size)
            refine bodyPost_ret (v := .tuple #[.agg (digC dd).toArray, .bool true]) (by simp [results, Try.results44, asAddr, Result.andThen, hload]) rfl ⟨?_, ?_⟩
            · rw [HX.out, HDD.out]; rfl
            · exact Keep.setCells _ (by omega) _ _ _ HKQ.out
          · have HX : Hid (res = (L.take m).reverse.find? zeroPins) := Lib.hid (by rw [hF, if_neg (by simp [zeroPins, hz])])
            obtain ⟨z1, z2⟩ := int_ne' hz
            clear hF hz hx
            go_wp2_with fail
            go_roundg m
            case measure => omega
            case rel => exact ⟨m, _, rfl, rfl, by omega, rfl, rfl, HX⟩
    · have hl1 : decide (sa ≤ budget) = false := decide_eq_false hsb
      clear hle hsb
      go_enter Try.func44, Try.ntmps44
      go_wp2_with fail
      refine HSU.out.mono ?_
      rintro e w1 ⟨rfl, k1⟩
      have c0 := (HD0.out w1 (HKA.out.trans k1)).blk.get (k := 0) rfl
      have c1 := (HD0.out w1 (HKA.out.trans k1)).blk.get (k := 1) rfl
      have HBQ := Lib.hid (k1.blk HBA.out (by simp))
      have HKQ := Lib.hid (HKA.out.trans k1)
      clear k1
      go_wp2_with fail
      go_loopg [6] L.length (fun g s6 wr => ∃ (m : Nat) (i : Int), s6 = .int .i64 i ∧ g = m ∧ m ≤ L.length ∧ i = (m : Int) - 1 ∧ wr = w1 ∧ Hid (res = (L.take m).reverse.find? zeroPins))
      case atStart => exact ⟨L.length, _, rfl, rfl, Nat.le_refl _, rfl, rfl, Lib.hid (by rw [HN.out, List.take_of_length_le (Nat.le_refl _)])⟩
      case round =>
        obtain ⟨m, i, rfl, hgm, hm, him, rfl, HF⟩ := hrel
        cases m with
        | zero =>
          have hi : decide ((0 : Int) ≤ i) = false := decide_eq_false (by omega)
          have HX : Hid (res = none) := by rw [HF.out]; rfl
          clear him
          go_wp2_with (first
            | (refine wpList_store_mid rfl 44 (.tmp 2) (.tmp 54) rfl w.heap.size 0 (digC dig0).toArray (by rfl) (by first | rfl | kernel_rfl) (HBQ.out.there 0 _ (by simp)) HS0.out.1 HS0.out.2 ?_)
            | fail)
          have hwt : wr.there w.heap.size 0 (digC dig0).length := HBQ.out.there 0 _ (by simp [digC_length])
          have hr := World.rangeAt_setCells_same wr w.heap.size 0 (digC dig0) hwt
          have hload := run_loadVar_mid (P := Try.prog) (wr.setCells w.heap.size 0 (digC dig0)) w.heap.size 0 44 (digC dig0) _ hr Try.underlying44 rfl (by rw [digC_length]; exact dig_size)
          refine bodyPost_ret (v := .tuple #[.agg (digC dig0).toArray, .bool false]) (by simp [results, Try.results44, asAddr, Result.andThen, hload]) rfl ⟨?_, ?_⟩
          · rw [HX.out]; rfl
          · exact Keep.setCells _ (by omega) _ _ _ HKQ.out
        | succ m =>
          obtain rfl : i = (m : Int) := by omega
          obtain ⟨x, hx⟩ : ∃ x, L[m]? = some x := ⟨_, List.getElem?_eq_getElem (by omega)⟩
          obtain ⟨g', cap', hv, _, _, hr0⟩ := own_at (HD0.out wr HKQ.out).own hx
          cases hv
          have hF := HF.out
          rw [take_rev hx] at hF
          have c34 := hr0 34 (.int .i64 x.pins) (by simp [Jar.cells, digC_length, List.getElem?_append])
          have hR2 : Hid (wr.rangeAt g' (m * 35) (digC x.dig)) := fun j v hv => by
            refine hr0 j v ?_
            unfold Jar.cells
            rw [List.getElem?_append_left (List.getElem?_eq_some_iff.1 hv).1]
            exact hv
          have hm0 : (0 : Int) ≤ (m : Int) := by omega
          have hm1 : (m : Int) < (L.length : Int) := by omega
          have hwm := IntWalk.i64_in ((m : Int) - 1) (by omega)
          clear him hr0
          by_cases hz : x.pins = 0
          · have HX : Hid (res = some x) := Lib.hid (by rw [hF, if_pos (by simp [zeroPins, hz])])
            rw [hz] at c34
            have HL := Lib.hid (show (Try.prog.info? 44).map (·.size) = some (digC x.dig).length by rw [digC_length]; exact dig_size)
            have HL2 := Lib.hid (show (Try.prog.info? 44).map (·.size) = some (digC x.dig).toArray.size by rw [List.size_toArray, digC_length]; exact dig_size)
            have H1 := Lib.hid (all_oneCell_toArray (digC_one x.dig))
            clear hF hx hz
            obtain ⟨dd, hdd⟩ : ∃ dd, dd = x.dig := ⟨_, rfl⟩
            rw [← hdd] at hR2 HL HL2 H1
            have HDD := Lib.hid hdd
            clear hdd
            go_wp2_with (first
              | (refine wpList_load_mid rfl 44 (.tmp 52) rfl g' (m * 35) (by simp [Act.eval, Addr.add]) (digC dd) _ hR2.out Try.underlying44 rfl HL.out ?_)
              | (refine wpList_store_mid rfl 44 (.tmp 2) (.tmp 53) rfl w.heap.size 0 (digC dd).toArray (by rfl) (by rfl) (HBQ.out.there 0 _ (by simp [digC_length])) HL2.out H1.out ?_)
              | fail)
            try simp only [Act.put, List.setIfInBounds_toArray, List.set_cons_succ, List.set_cons_zero]
            try go_wp2_with fail
            have hwt : wr.there w.heap.size 0 (digC dd).length := HBQ.out.there 0 _ (by simp [digC_length])
            have hr := World.rangeAt_setCells_same wr w.heap.size 0 (digC dd) hwt
            have hload := run_loadVar_mid (P := Try.prog) (wr.setCells w.heap.size 0 (digC dd)) w.heap.size 0 44 (digC dd) _ hr Try.underlying44 rfl (by rw [digC_length]; exact dig_size)
            refine bodyPost_ret (v := .tuple #[.agg (digC dd).toArray, .bool true]) (by simp [results, Try.results44, asAddr, Result.andThen, hload]) rfl ⟨?_, ?_⟩
            · rw [HX.out, HDD.out]; rfl
            · exact Keep.setCells _ (by omega) _ _ _ HKQ.out
          · have HX : Hid (res = (L.take m).reverse.find? zeroPins) := Lib.hid (by rw [hF, if_neg (by simp [zeroPins, hz])])
            obtain ⟨z1, z2⟩ := int_ne' hz
            clear hF hz hx
            go_wp2_with fail
            go_roundg m
            case measure => omega
            case rel => exact ⟨m, _, rfl, rfl, by omega, rfl, rfl, HX⟩
set_option maxRecDepth 100000 in
set_option maxHeartbeats 2000000 in
theorem ref_Same21 (va vb : Value) (L : List Jar) (w : World) (ha : Own Jar.cells 35 0 46 w va L) (hb : Own Jar.cells 35 0 46 w vb L) (hg : ∀ j ∈ L, goodIn j) :
    Calls Try.prog 46 #[va, vb] w fun e w' => e = .returned (.bool true) ∧ Keep [] w w' := by
  obtain ⟨aa, ca, rfl, hal⟩ := ha.shape
  obtain ⟨ab, cb, rfl, hbl⟩ := hb.shape
  have hal' : L.length ≤ 9223372036854775807 := hal
  have HA := Lib.hid (fun w' (k : Keep [] w w') => ha.keep0 k)
  have HB := Lib.hid (fun w' (k : Keep [] w w') => hb.keep0 k)
  have HG := Lib.hid hg
  have q1 : (L.length == L.length) = true := by simp
  clear ha hb hal hbl hg
  go_enter Try.func46, Try.ntmps46
  go_wp2_with fail
  go_loopg [5] L.length (fun g i wr => ∃ k : Nat, i = .int .i64 k ∧ k ≤ L.length ∧ g = L.length - k ∧ Hid (Keep [] w wr))
  case atStart => exact ⟨0, rfl, Nat.zero_le _, by omega, Lib.hid (Keep.refl _ _)⟩
  case round =>
    obtain ⟨k, rfl, hk, hgk, HK⟩ := hrel
    by_cases hlt : k < L.length
    · obtain ⟨x, hx⟩ : ∃ x, L[k]? = some x := ⟨_, List.getElem?_eq_getElem hlt⟩
      obtain ⟨ga, c1, e1, _, _, r1⟩ := own_at (HA.out wr HK.out) hx
      obtain ⟨gb, c2, e2, _, _, r2⟩ := own_at (HB.out wr HK.out) hx
      cases e1
      cases e2
      have h0 : (0 : Int) ≤ (k : Int) := by omega
      have h1 : (k : Int) < (L.length : Int) := by omega
      have hgx := HG.out x (List.mem_of_getElem? hx)
      have hq := fun w' => eqJar x x hgx hgx w'
      rw [decide_eq_true rfl] at hq
      have HL := Lib.hid (show (Try.prog.info? 46).map (·.size) = some x.cells.length by rw [Jar.cells_length]; exact jar_size)
      have R1 : Hid (∀ w', (∃ y, w' = wr.drewN y) → w'.rangeAt ga (k * 35) x.cells) := fun w' hw' => by
        obtain ⟨y, rfl⟩ := hw'
        exact r1
      have R2 : Hid (∀ w', (∃ y, w' = wr.drewN y) → w'.rangeAt gb (k * 35) x.cells) := fun w' hw' => by
        obtain ⟨y, rfl⟩ := hw'
        exact r2
      generalize x.cells = xc at *
      clear hx r1 r2 hgx
      go_wp2_with fail
      refine wp_region_quiet_lit (by kernel_rfl) (by kernel_rfl) ?_
      repeat (go_big_quiet_step (fail))
      refine wpQuiet_load rfl 46 (.tmp 19) rfl ga (k * 35) (by simp [Act.eval, Addr.add]) xc _ R1.out Try.underlying46 rfl HL.out ?_
      simp only [Act.put, List.setIfInBounds_toArray, List.set_cons_succ, List.set_cons_zero]
      repeat (go_big_quiet_step (fail))
      refine wpQuiet_load rfl 46 (.tmp 23) rfl gb (k * 35) (by simp [Act.eval, Addr.add]) xc _ R2.out Try.underlying46 rfl HL.out ?_
      simp only [Act.put, List.setIfInBounds_toArray, List.set_cons_succ, List.set_cons_zero]
      repeat (go_big_quiet_step (fail))
      refine wpQuiet_nil ?_
      intro _ hw'
      obtain ⟨nq, hw''⟩ := hw'
      subst hw''
      go_wp2_with fail
      go_roundg (L.length - (k + 1))
      case measure => omega
      case rel => exact ⟨k + 1, rfl, by omega, rfl, Lib.hid (HK.out.drewN nq)⟩
    · have hlt2 : ¬ (k : Int) < (L.length : Int) := by omega
      clear hlt
      go_wp2_with fail
      go_ret
      exact ⟨rfl, HK.out⟩
end Go.Proofs.Ytbfnpoknamajnaa
