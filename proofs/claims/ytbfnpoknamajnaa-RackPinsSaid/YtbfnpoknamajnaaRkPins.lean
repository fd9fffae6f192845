/- The statement RackPins: its function answers true for every input. No conditions. -/
import Derived.Test.YtbfnpoknamajnaaRkA
import Derived.Deep.LoopGhost
namespace Go.Proofs.Ytbfnpoknamajnaa
open Go.RowKit Go.Maps

def jk (j : Jar) (k : Int) : Jar := { j with pins := k }
theorem find_one (j : Jar) (k : Int) : findL [jk j k] j.dig = some (jk j k) := by simp [findL, jk]
theorem pins_one (j : Jar) (k n : Int) : pinsL [jk j k] j.dig n = [jk j n] := by simp [pinsL, jk]
theorem rest_one (j : Jar) (k : Int) : restL [jk j k] j.dig = [] := by simp [restL, jk]
theorem pin_one (j : Jar) (k : Int) (h : k < 1000) : pinE [jk j k] j.dig = 0 ∧ pinL [jk j k] j.dig = [jk j (k + 1)] := by
  unfold pinE pinL
  rw [find_one]
  have : ¬ 1073741824 ≤ (jk j k).pins := by show ¬ 1073741824 ≤ k; omega
  simp only [this, if_false, pins_one]
  exact ⟨trivial, rfl⟩
theorem unpin_one (j : Jar) (k : Int) (h : 1 ≤ k) : unpinE [jk j k] j.dig = 0 ∧ unpinL [jk j k] j.dig = [jk j (k - 1)] := by
  unfold unpinE unpinL
  rw [find_one]
  have : ¬ (jk j k).pins = 0 := by show ¬ k = 0; omega
  simp only [this, if_false, pins_one]
  exact ⟨trivial, rfl⟩
theorem drop_one (j : Jar) (k : Int) (h : 1 ≤ k) : dropE [jk j k] j.dig = 8 ∧ dropL [jk j k] j.dig = [jk j k] := by
  unfold dropE dropL
  rw [find_one]
  have : 0 < (jk j k).pins := by show 0 < k; omega
  simp only [this, if_true]
  exact ⟨trivial, trivial⟩
theorem drop_zero (j : Jar) : dropE [jk j 0] j.dig = 0 ∧ dropL [jk j 0] j.dig = [] ∧ unpinE [jk j 0] j.dig = 8 ∧ unpinL [jk j 0] j.dig = [jk j 0] := by
  unfold dropE dropL unpinE unpinL
  rw [find_one]
  have h1 : ¬ 0 < (jk j 0).pins := by show ¬ (0 : Int) < 0; omega
  have h2 : (jk j 0).pins = 0 := rfl
  exact ⟨if_neg h1, (if_neg h1).trans (rest_one j 0), if_pos h2, if_pos h2⟩
theorem vic_one (j : Jar) (k : Int) (h : 1 ≤ k) : vicL 0 [jk j k] = none := by
  unfold vicL
  split
  · rfl
  · have : zeroPins (jk j k) = false := decide_eq_false (by show ¬ k = 0; omega)
    simp [this]
theorem used_one (j : Jar) (k : Int) (h : 1 ≤ k) : usedL [jk j k] = j.size := by
  have : (jk j k).pins > 0 := by show k > 0; omega
  unfold usedL
  simp only [List.map_cons, List.map_nil, if_pos this, List.sum_cons, List.sum_nil]
  show j.size + 0 = j.size
  omega
theorem get_one (j : Jar) (k : Int) : getJ [jk j k] j.dig = jk j k ∧ hasJ [jk j k] j.dig = true := by
  unfold getJ hasJ
  rw [find_one]
  exact ⟨rfl, rfl⟩
theorem none_all (d : Dig) : pinE [] d = 7 ∧ pinL [] d = [] ∧ unpinE [] d = 7 ∧ unpinL [] d = [] := ⟨rfl, rfl, rfl, rfl⟩
theorem put_nil (j : Jar) : (goodJ j = false → putE [] j = 1 ∧ putL [] j = []) ∧ (goodJ j = true → putE [] j = 0 ∧ putL [] j = [jk j 0]) := by
  refine ⟨fun h => ?_, fun h => ?_⟩
  · have : putE [] j = 1 := by unfold putE; rw [if_pos h]
    exact ⟨this, by unfold putL; rw [this]; rfl⟩
  · have : putE [] j = 0 := by unfold putE; rw [if_neg (by simp [h])]; rfl
    have hz : j.pins = 0 := by
      unfold goodJ at h
      simp only [Bool.and_eq_true, decide_eq_true_eq] at h
      exact h.2
    refine ⟨this, ?_⟩
    unfold putL
    rw [this]
    have : j = jk j 0 := by unfold jk; rw [← hz]
    rw [← this]
    rfl

set_option maxRecDepth 100000 in
set_option maxHeartbeats 2000000 in
theorem rackPins_walk (j : Jar) (pins : Int) (w : World) :
    Calls Try.prog 9 #[.agg j.cells.toArray, .int .i64 pins] w fun e w' => e = .returned (.bool true) ∧ Below w.heap.size w w' := by
  have hkA := (Keep.refl [] w).alloc (.cells j.cells.toArray 46)
  have hbA : Blk (w.alloc (.cells j.cells.toArray 46)) w.heap.size 46 j.cells := by simpa using Blk.newA w j.cells.toArray 46
  have HJ := Lib.hid (show (Try.prog.info? 46).map (·.size) = some j.cells.length by rw [Jar.cells_length]; exact jar_size)
  have HRD : Hid (∀ (w' : World) (n : Nat), Blk w' n 46 j.cells → w'.rangeAt n 0 (digC j.dig)) := fun w' n hb x v hv => by
    refine hb.rangeAt x v ?_
    unfold Jar.cells
    rw [List.getElem?_append_left (List.getElem?_eq_some_iff.1 hv).1]
    exact hv
  have H32 : Hid (∀ (w' : World) (n : Nat), Blk w' n 46 j.cells → w'.cell? ⟨n, 32, none⟩ = some (.string (S j.typ))) := fun w' n hb => hb.get (by simp [Jar.cells, digC_length, List.getElem?_append])
  have H33 : Hid (∀ (w' : World) (n : Nat), Blk w' n 46 j.cells → w'.cell? ⟨n, 33, none⟩ = some (.int .i64 j.size)) := fun w' n hb => hb.get (by simp [Jar.cells, digC_length, List.getElem?_append])
  have HDL := Lib.hid (fun d : Dig => (show (Try.prog.info? 44).map (·.size) = some (digC d).length by rw [digC_length]; exact dig_size))
  have hsz := S_size j.typ
  have hB0 : Below w.heap.size w (w.alloc (.cells j.cells.toArray 46)) := hkA.below (by simp)
  obtain ⟨jb, hjb⟩ : ∃ jb, jb = w.heap.size := ⟨_, rfl⟩
  have hjlt : jb < (w.alloc (.cells j.cells.toArray 46)).heap.size := by rw [hjb]; simp
  generalize hwA : w.alloc (.cells j.cells.toArray 46) = wA at hbA hB0 hjlt
  have HBA := Lib.hid hbA
  have HB0 := Lib.hid (And.intro hB0 hjlt)
  clear hkA hbA hB0 hjlt
  go_enter Try.func9, Try.ntmps9
  go_wp2_with fail
  refine (rack_awake _).mono ?_
  rintro e w1 ⟨rfl, hk1⟩
  have hk1 := Keep.of_below hk1 []
  have HBA := Lib.hid (hk1.blk HBA.out (by simp))
  have HB1 := Lib.hid (And.intro (below_keep HB0.out.1 hk1 HB0.out.1.size (by simp)) (Nat.lt_of_lt_of_le HB0.out.2 hk1.size))
  clear hk1
  go_wp2_with fail
  refine (rkx_New w [jb] 0 w1 HB1.out.1 (by intro x hx; simp at hx; rw [hx]; exact HB1.out.2) (by omega) (by omega)).mono ?_
  rintro e w2 ⟨b, rfl, hr2, hk2⟩
  have BJ := Lib.hid (hk2.blk HBA.out (by simp))
  have R := Lib.hid hr2
  clear hr2 hk2
  rw [← hjb] at BJ
  have c32 := H32.out _ _ BJ.out
  subst hjb
  by_cases h5 : j.typ.length ≤ 500
  · have h5' : decide (500 < ((j.typ.length : Nat) : Int)) = false := by simp; omega
    clear h5
    have hp := put_nil j
    cases hg : goodJ j with
    | false =>
      obtain ⟨p1, p2⟩ := hp.1 hg
      clear hp hg
      go_wp2_with (first
        | (refine wpList_load_mid rfl 46 (.tmp 2) rfl w.heap.size 0 (by rfl) j.cells _ (BJ.out.rangeAt) Try.underlying46 rfl HJ.out ?_)
        | fail)
      try simp only [Act.put, List.setIfInBounds_toArray, List.set_cons_succ, List.set_cons_zero]
      try go_wp2_with fail
      have hc := rkx_Put R.out j
      rw [p1, p2] at hc
      refine hc.mono ?_
      rintro e w3 ⟨rfl, hr, hs⟩
      have BJ := Lib.hid (hs.blk BJ.out (by simp))
      have R := Lib.hid hr
      clear hr hs hc
      go_wp2_with (first
        | (refine wpList_load_mid rfl 44 (.tmp 48) rfl w.heap.size 0 (by rfl) (digC j.dig) _ (HRD.out _ _ BJ.out) Try.underlying44 rfl (HDL.out _) ?_)
        | fail)
      try simp only [Act.put, List.setIfInBounds_toArray, List.set_cons_succ, List.set_cons_zero]
      try go_wp2_with fail
      have hc := rkx_Pin R.out j.dig
      rw [(none_all j.dig).1, (none_all j.dig).2.1] at hc
      refine hc.mono ?_
      rintro e w4 ⟨rfl, hr, hs⟩
      have R := Lib.hid hr
      clear hr hs hc
      go_wp2_with fail
      refine (rkx_Len R.out).mono ?_
      rintro e w5 ⟨rfl, hr, hs⟩
      have R := Lib.hid hr
      clear hr hs
      go_wp2_with fail
      go_ret
      exact ⟨rfl, R.out.below⟩
    | true =>
      obtain ⟨p1, p2⟩ := hp.2 hg
      clear hp hg
      go_wp2_with (first
        | (refine wpList_load_mid rfl 46 (.tmp 2) rfl w.heap.size 0 (by rfl) j.cells _ (BJ.out.rangeAt) Try.underlying46 rfl HJ.out ?_)
        | fail)
      try simp only [Act.put, List.setIfInBounds_toArray, List.set_cons_succ, List.set_cons_zero]
      try go_wp2_with fail
      have hc := rkx_Put R.out j
      rw [p1, p2] at hc
      refine hc.mono ?_
      rintro e w3 ⟨rfl, hr, hs⟩
      have BJ := Lib.hid (hs.blk BJ.out (by simp))
      have R := Lib.hid hr
      clear hr hs hc c32
      obtain ⟨p, hp, hpe⟩ := u64_mod pins 100 (by omega)
      have hpe : (IntKind.u64.wrap pins).tmod 100 = (p : Int) := hpe
      have hw1 := IntWalk.i64_in (p : Int) (by omega)
      have hw2 := IntWalk.i64_in (1 + (p : Int)) (by omega)
      go_wp2_with fail
      go_loopg [8] (1 + p) (fun g s8 wr => ∃ (k : Nat), s8 = .int .i64 k ∧ k ≤ 1 + p ∧ g = 1 + p - k ∧ Hid (Rkx w [w.heap.size] wr b 0 [jk j k]) ∧ Hid (Blk wr w.heap.size 46 j.cells))
      case atStart => exact ⟨0, rfl, by omega, by omega, R, BJ⟩
      case round =>
        obtain ⟨k, rfl, hk, hgk, R, BJ⟩ := hrel
        by_cases hlt : k < 1 + p
        · have hlt' : ((k : Nat) : Int) < 1 + (p : Int) := by omega
          go_wp2_with (first
            | (refine wpList_load_mid rfl 44 (.tmp 68) rfl w.heap.size 0 (by rfl) (digC j.dig) _ (HRD.out _ _ BJ.out) Try.underlying44 rfl (HDL.out _) ?_)
            | fail)
          try simp only [Act.put, List.setIfInBounds_toArray, List.set_cons_succ, List.set_cons_zero]
          try go_wp2_with fail
          have hc := rkx_Pin R.out j.dig
          rw [(pin_one j k (by omega)).1, (pin_one j k (by omega)).2] at hc
          refine hc.mono ?_
          rintro e w4 ⟨rfl, hr, hs⟩
          have BJ := Lib.hid (hs.blk BJ.out (by simp))
          have R := Lib.hid hr
          clear hr hs hc
          have hkw := IntWalk.i64_in ((k : Int) + 1) (by omega)
          go_wp2_with fail
          go_roundg (1 + p - (k + 1))
          case measure => omega
          case rel => exact ⟨k + 1, by go_num, by omega, rfl, R, BJ⟩
        · have hke : k = 1 + p := by omega
          subst hke
          have hlt' : ¬ (((1 + p : Nat) : Nat) : Int) < 1 + (p : Int) := by omega
          have R : Hid (Rkx w [w.heap.size] wr b 0 [jk j (1 + (p : Int) - ((0 : Nat) : Int))]) := Lib.hid (by have := R.out; rwa [show ((1 + p : Nat) : Int) = 1 + (p : Int) - ((0 : Nat) : Int) by omega] at this)
          go_wp2_with fail
          go_loopg [9] (1 + p) (fun g s9 wr => ∃ (k : Nat), s9 = .int .i64 k ∧ k ≤ 1 + p ∧ g = 1 + p - k ∧ Hid (Rkx w [w.heap.size] wr b 0 [jk j (1 + (p : Int) - (k : Int))]) ∧ Hid (Blk wr w.heap.size 46 j.cells))
          case atStart => exact ⟨0, rfl, by omega, by omega, R, BJ⟩
          case round =>
            obtain ⟨k, rfl, hk, hgk, R, BJ⟩ := hrel
            by_cases hlt : k < 1 + p
            · have hlt' : ((k : Nat) : Int) < 1 + (p : Int) := by omega
              have hwq := IntWalk.i64_in (1 + (p : Int) - (k : Int)) (by omega)
              have hq1 : 1 ≤ 1 + (p : Int) - (k : Int) := by omega
              have hkw := IntWalk.i64_in ((k : Int) + 1) (by omega)
              have hnext : 1 + (p : Int) - (k : Int) - 1 = 1 + (p : Int) - ((k + 1 : Nat) : Int) := by omega
              have HNX := Lib.hid hnext
              clear hnext
              go_wp2_with (first
                | (refine wpList_load_mid rfl 44 (.tmp 79) rfl w.heap.size 0 (by rfl) (digC j.dig) _ (HRD.out _ _ BJ.out) Try.underlying44 rfl (HDL.out _) ?_)
                | fail)
              try simp only [Act.put, List.setIfInBounds_toArray, List.set_cons_succ, List.set_cons_zero]
              try go_wp2_with fail
              have hc := rkx_Get R.out j.dig
              rw [(get_one j _).1, (get_one j _).2] at hc
              refine hc.mono ?_
              rintro e w4 ⟨rfl, hr, hs⟩
              have BJ := Lib.hid (hs.blk BJ.out (by simp))
              have R := Lib.hid hr
              clear hr hs hc
              go_upto_region 18 with (first
                | (refine wpList_store_new rfl 46 (.tmp 10) (.tmp 82) rfl _ (jk j (1 + (p : Int) - (k : Int))).cells (by rfl) (by rfl) (by rw [Jar.cells_length]; exact jar_size) (by rw [Jar.cells_length]; rfl) (Jar.one _) ?_)
                | fail)
              try simp only [Act.put, List.setIfInBounds_toArray, List.set_cons_succ, List.set_cons_zero]
              have hl := R.out.local (.cells (jk j (1 + (p : Int) - (k : Int))).cells.toArray 46)
              have hb := Blk.newA w4 (jk j (1 + (p : Int) - (k : Int))).cells.toArray 46
              rw [List.toList_toArray] at hb
              have hk' := (Keep.refl [] w4).alloc (.cells (jk j (1 + (p : Int) - (k : Int))).cells.toArray 46)
              generalize w4.alloc (.cells (jk j (1 + (p : Int) - (k : Int))).cells.toArray 46) = w5 at hl hb hk'
              have BJ := Lib.hid (hk'.blk BJ.out (by simp))
              generalize w4.heap.size = xb at hl hb
              have R := Lib.hid hl
              have BX := Lib.hid hb
              clear hl hb hk'
              go_wp2_with fail
              refine (rkx_Victim_none R.out (vic_one j _ hq1)).mono ?_
              rintro e w6 ⟨rfl, hr, hs⟩
              have BJ := Lib.hid (hs.blk BJ.out (by simp))
              have BX := Lib.hid (hs.blk BX.out (by simp))
              have R := Lib.hid hr
              clear hr hs
              go_upto_region 19 with (first
                | (refine wpList_store_new rfl 44 (.tmp 12) (.tmp 87) rfl _ (digC dig0) (by rfl) (by rfl) (HDL.out _) (by rw [digC_length]; rfl) (digC_one _) ?_)
                | fail)
              try simp only [Act.put, List.setIfInBounds_toArray, List.set_cons_succ, List.set_cons_zero]
              have hl := R.out.local (.cells (digC dig0).toArray 44)
              have hk' := (Keep.refl [] w6).alloc (.cells (digC dig0).toArray 44)
              generalize w6.alloc (.cells (digC dig0).toArray 44) = w7 at hl hk'
              have BJ := Lib.hid (hk'.blk BJ.out (by simp))
              have BX := Lib.hid (hk'.blk BX.out (by simp))
              have R := Lib.hid (hl.mono (Y := [xb, w.heap.size]) (by simp))
              clear hl hk'
              generalize hqe : 1 + (p : Int) - (k : Int) = q at *
              have HQE := Lib.hid hqe
              have hqe' : (1 + (p : Int) - (k : Int) == q) = true := by simp [hqe]
              have hR7 : Rkx w [xb, w.heap.size] w7.drew b 0 [jk j q] := R.out.keep0 ((Keep.refl [] w7).drew)
              have hT7 : Stay [xb, w.heap.size] w7 w7.drew := .of ((Keep.refl [] w7).drew)
              have HS : Hid (∀ w', Stay [xb, w.heap.size] w7 w' → w'.rangeAt w.heap.size 0 (digC j.dig) ∧ w'.cell? ⟨w.heap.size, 33, none⟩ = some (.int .i64 j.size) ∧ w'.cell? ⟨xb, 34, none⟩ = some (.int .i64 q)) := fun w' hs =>
                ⟨HRD.out _ _ (hs.blk BJ.out (by simp)), H33.out _ _ (hs.blk BJ.out (by simp)), (hs.blk BX.out (by simp)).get (by simp [Jar.cells, jk, digC_length, List.getElem?_append])⟩
              have s7 := HS.out _ hT7
              have HD := Lib.hid (fun (w' : World) (h : Rkx w [xb, w.heap.size] w' b 0 [jk j q]) => show Calls Try.prog 20 #[.pointer (some ⟨b, 0, none⟩), .agg (digC j.dig).toArray] w' fun e w'' => e = .returned (.int .i64 8) ∧ Rkx w [xb, w.heap.size] w'' b 0 [jk j q] ∧ Stay [xb, w.heap.size] w' w'' by
                have := rkx_Drop h j.dig
                rwa [(drop_one j q hq1).1, (drop_one j q hq1).2] at this)
              have HPN := Lib.hid (fun (w' : World) (h : Rkx w [xb, w.heap.size] w' b 0 [jk j q]) => show Calls Try.prog 45 #[.pointer (some ⟨b, 0, none⟩)] w' fun e w'' => e = .returned (.int .i64 j.size) ∧ Rkx w [xb, w.heap.size] w'' b 0 [jk j q] ∧ Stay [xb, w.heap.size] w' w'' by
                have := rkx_Pinned h
                rwa [used_one j q hq1] at this)
              have HUN := Lib.hid (fun (w' : World) (h : Rkx w [xb, w.heap.size] w' b 0 [jk j q]) => show Calls Try.prog 39 #[.pointer (some ⟨b, 0, none⟩), .agg (digC j.dig).toArray] w' fun e w'' => e = .returned (.int .i64 0) ∧ Rkx w [xb, w.heap.size] w'' b 0 [jk j (q - 1)] ∧ Stay [xb, w.heap.size] w' w'' by
                have := rkx_Unpin h j.dig
                rwa [(unpin_one j q hq1).1, (unpin_one j q hq1).2] at this)
              have hud := Try.underlying44
              have hdl := HDL.out j.dig
              generalize hdc : digC j.dig = dc at s7 HS HD HUN hdl
              refine wp_region_noPanic ?_
              refine wp_region_held_drew (S := fun w' => w'.rangeAt w.heap.size 0 dc ∧ w'.cell? ⟨w.heap.size, 33, none⟩ = some (.int .i64 j.size) ∧ w'.cell? ⟨xb, 34, none⟩ = some (.int .i64 q)) (by kernel_rfl) s7 (fun hHeld => ?_)
              refine wpAnyH_take (i := 0) (oi := ⟨some 89, .move (.tmp 11), _, _, _, none⟩) (v := ?_) rfl (by kernel_rfl) (by kernel_rfl) (by kernel_rfl) (fun _ _ _ h => h) (Or.inl ⟨by rfl, ?_⟩) (by assumption) ?_
              rotate_left
              · (intro w' hSw; obtain ⟨_, hSa, hSb⟩ := hSw; go_simp) <;> (with_reducible rfl)
              try simp only [Act.put, List.setIfInBounds_toArray, List.set_cons_zero, List.set_cons_succ]
              refine wpAnyH_take (i := 1) (oi := ⟨some 90, .unOp _ _ (.tmp 89), _, _, _, none⟩) (v := ?_) rfl (by kernel_rfl) (by kernel_rfl) (by kernel_rfl) (fun _ _ _ h => h) (Or.inl ⟨by rfl, ?_⟩) (by assumption) ?_
              rotate_left
              · (intro w' hSw; obtain ⟨_, hSa, hSb⟩ := hSw; go_simp) <;> (with_reducible rfl)
              try simp only [Act.put, List.setIfInBounds_toArray, List.set_cons_zero, List.set_cons_succ]
              refine wpAnyH_take (i := 2) (oi := ⟨some 91, .move (.tmp 90), _, _, _, none⟩) (v := ?_) rfl (by kernel_rfl) (by kernel_rfl) (by kernel_rfl) (fun _ _ _ h => h) (Or.inl ⟨by rfl, ?_⟩) (by assumption) ?_
              rotate_left
              · (intro w' hSw; obtain ⟨_, hSa, hSb⟩ := hSw; go_simp) <;> (with_reducible rfl)
              try simp only [Act.put, List.setIfInBounds_toArray, List.set_cons_zero, List.set_cons_succ]
              refine wpAnyH_take (i := 3) (oi := ⟨some 92, .fieldAddr _ (.tmp 10) 3, _, _, _, some (2, false)⟩) (v := ?_) rfl (by kernel_rfl) (by kernel_rfl) (by kernel_rfl) (fun _ _ _ h => h) (Or.inl ⟨by rfl, ?_⟩) (by assumption) ?_
              rotate_left
              · (intro w' hSw; obtain ⟨_, hSa, hSb⟩ := hSw; go_simp) <;> (with_reducible rfl)
              try simp only [Act.put, List.setIfInBounds_toArray, List.set_cons_zero, List.set_cons_succ]
              refine wpAnyH_take (i := 4) (oi := ⟨some 93, .load _ (.tmp 92), _, _, _, some (2, false)⟩) (v := ?_) rfl (by kernel_rfl) (by kernel_rfl) (by kernel_rfl) (fun _ _ _ h => h) (Or.inl ⟨by rfl, ?_⟩) (by assumption) ?_
              rotate_left
              · (intro w' hSw; obtain ⟨_, hSa, hSb⟩ := hSw; go_simp) <;> (with_reducible rfl)
              try simp only [Act.put, List.setIfInBounds_toArray, List.set_cons_zero, List.set_cons_succ]
              refine wpAnyH_take (i := 5) (oi := ⟨some 94, .move (.tmp 7), _, _, _, some (2, false)⟩) (v := ?_) rfl (by kernel_rfl) (by kernel_rfl) (by kernel_rfl) (fun _ _ _ h => h) (Or.inl ⟨by rfl, ?_⟩) (by assumption) ?_
              rotate_left
              · (intro w' hSw; obtain ⟨_, hSa, hSb⟩ := hSw; go_simp) <;> (with_reducible rfl)
              try simp only [Act.put, List.setIfInBounds_toArray, List.set_cons_zero, List.set_cons_succ]
              refine wpAnyH_take (i := 6) (oi := ⟨some 95, .move (.tmp 9), _, _, _, some (2, false)⟩) (v := ?_) rfl (by kernel_rfl) (by kernel_rfl) (by kernel_rfl) (fun _ _ _ h => h) (Or.inl ⟨by rfl, ?_⟩) (by assumption) ?_
              rotate_left
              · (intro w' hSw; obtain ⟨_, hSa, hSb⟩ := hSw; go_simp) <;> (with_reducible rfl)
              try simp only [Act.put, List.setIfInBounds_toArray, List.set_cons_zero, List.set_cons_succ]
              refine wpAnyH_take (i := 7) (oi := ⟨some 96, .binOp _ _ _ _ _, _, _, _, some (2, false)⟩) (v := ?_) rfl (by kernel_rfl) (by kernel_rfl) (by kernel_rfl) (fun _ _ _ h => h) (Or.inl ⟨by rfl, ?_⟩) (by assumption) ?_
              rotate_left
              · (intro w' hSw; obtain ⟨_, hSa, hSb⟩ := hSw; go_simp) <;> (with_reducible rfl)
              try simp only [Act.put, List.setIfInBounds_toArray, List.set_cons_zero, List.set_cons_succ]
              refine wpAnyH_take (i := 8) (oi := ⟨some 97, .binOp _ _ _ _ _, _, _, _, some (2, false)⟩) (v := ?_) rfl (by kernel_rfl) (by kernel_rfl) (by kernel_rfl) (fun _ _ _ h => h) (Or.inl ⟨by rfl, ?_⟩) (by assumption) ?_
              rotate_left
              · (intro w' hSw; obtain ⟨_, hSa, hSb⟩ := hSw; go_simp) <;> (with_reducible rfl)
              try simp only [Act.put, List.setIfInBounds_toArray, List.set_cons_zero, List.set_cons_succ]
              refine wpAnyH_take (i := 9) (oi := ⟨some 98, .pick _ _ _, _, _, _, none⟩) (v := ?_) rfl (by kernel_rfl) (by kernel_rfl) (by kernel_rfl) (fun _ _ _ h => h) (Or.inl ⟨by rfl, ?_⟩) (by assumption) ?_
              rotate_left
              · (intro w' hSw; obtain ⟨_, hSa, hSb⟩ := hSw; go_simp) <;> (with_reducible rfl)
              try simp only [Act.put, List.setIfInBounds_toArray, List.set_cons_zero, List.set_cons_succ]
              refine wpAnyH_take (i := 10) (oi := ⟨some 99, .move (.tmp 98), _, _, _, none⟩) (v := ?_) rfl (by kernel_rfl) (by kernel_rfl) (by kernel_rfl) (fun _ _ _ h => h) (Or.inl ⟨by rfl, ?_⟩) (by assumption) ?_
              rotate_left
              · (intro w' hSw; obtain ⟨_, hSa, hSb⟩ := hSw; go_simp) <;> (with_reducible rfl)
              try simp only [Act.put, List.setIfInBounds_toArray, List.set_cons_zero, List.set_cons_succ]
              refine wpAnyH_take (i := 11) (oi := ⟨some 100, .move (.tmp 13), _, _, _, some (10, false)⟩) (v := ?_) rfl (by kernel_rfl) (by kernel_rfl) (by kernel_rfl) (fun _ _ _ h => h) (Or.inl ⟨by rfl, ?_⟩) (by assumption) ?_
              rotate_left
              · (intro w' hSw; obtain ⟨_, hSa, hSb⟩ := hSw; go_simp) <;> (with_reducible rfl)
              try simp only [Act.put, List.setIfInBounds_toArray, List.set_cons_zero, List.set_cons_succ]
              refine wpAnyH_take (i := 12) (oi := ⟨some 101, .pick _ _ _, _, _, _, none⟩) (v := ?_) rfl (by kernel_rfl) (by kernel_rfl) (by kernel_rfl) (fun _ _ _ h => h) (Or.inl ⟨by rfl, ?_⟩) (by assumption) ?_
              rotate_left
              · (intro w' hSw; obtain ⟨_, hSa, hSb⟩ := hSw; go_simp) <;> (with_reducible rfl)
              try simp only [Act.put, List.setIfInBounds_toArray, List.set_cons_zero, List.set_cons_succ]
              refine wpAnyH_take (i := 13) (oi := ⟨some 102, .move (.tmp 101), _, _, _, none⟩) (v := ?_) rfl (by kernel_rfl) (by kernel_rfl) (by kernel_rfl) (fun _ _ _ h => h) (Or.inl ⟨by rfl, ?_⟩) (by assumption) ?_
              rotate_left
              · (intro w' hSw; obtain ⟨_, hSa, hSb⟩ := hSw; go_simp) <;> (with_reducible rfl)
              try simp only [Act.put, List.setIfInBounds_toArray, List.set_cons_zero, List.set_cons_succ]
              refine wpAnyH_take (i := 14) (oi := ⟨some 103, .move (.tmp 5), _, _, _, some (13, false)⟩) (v := ?_) rfl (by kernel_rfl) (by kernel_rfl) (by kernel_rfl) (fun _ _ _ h => h) (Or.inl ⟨by rfl, ?_⟩) (by assumption) ?_
              rotate_left
              · (intro w' hSw; obtain ⟨_, hSa, hSb⟩ := hSw; go_simp) <;> (with_reducible rfl)
              try simp only [Act.put, List.setIfInBounds_toArray, List.set_cons_zero, List.set_cons_succ]
              refine wpAnyH_take (i := 15) (oi := ⟨some 104, .fieldAddr _ (.tmp 2) 0, _, _, _, some (13, false)⟩) (v := ?_) rfl (by kernel_rfl) (by kernel_rfl) (by kernel_rfl) (fun _ _ _ h => h) (Or.inl ⟨by rfl, ?_⟩) (by assumption) ?_
              rotate_left
              · (intro w' hSw; obtain ⟨_, hSa, hSb⟩ := hSw; go_simp) <;> (with_reducible rfl)
              try simp only [Act.put, List.setIfInBounds_toArray, List.set_cons_zero, List.set_cons_succ]
              refine wpAnyH_take (i := 16) (oi := ⟨some 105, .load _ (.tmp 104), _, _, _, some (13, false)⟩) (v := _) rfl (by kernel_rfl) (by kernel_rfl) (by kernel_rfl) (fun _ _ _ h => h) (yieldsIf_load_mid (by rfl) 44 (.tmp 104) rfl w.heap.size 0 rfl dc _ (fun _ h => h.1) Try.underlying44 rfl hdl) (by assumption) ?_
              try simp only [Act.put, List.setIfInBounds_toArray, List.set_cons_zero, List.set_cons_succ]
              refine wpAnyH_ready (rs := [17]) (by kernel_rfl) (by simp) ?_
              refine AllReadyH.cons rfl (fun K hK => ?_) ?_
              rotate_left
              · exact AllReadyH.nil
              go_simp
              refine (HD.out _ (by assumption)).mono ?_
              rintro e wD ⟨rfl, hrD, hsD⟩
              have tD := Stay.trans hT7 hsD
              have sD := HS.out _ tD
              try go_wp2_with fail
              refine hK.out _ _ sD (fun hHeld => ?_)
              clear hK K
              try simp only [Act.put, List.setIfInBounds_toArray, List.set_cons_zero, List.set_cons_succ]
              refine wpAnyH_take (i := 18) (oi := ⟨some 107, .binOp _ _ _ _ _, _, _, _, some (13, false)⟩) (v := ?_) rfl (by kernel_rfl) (by kernel_rfl) (by kernel_rfl) (fun _ _ _ h => h) (Or.inl ⟨by rfl, ?_⟩) (by assumption) ?_
              rotate_left
              · (intro w' hSw; obtain ⟨_, hSa, hSb⟩ := hSw; go_simp) <;> (with_reducible rfl)
              try simp only [Act.put, List.setIfInBounds_toArray, List.set_cons_zero, List.set_cons_succ]
              refine wpAnyH_take (i := 19) (oi := ⟨some 108, .pick _ _ _, _, _, _, none⟩) (v := ?_) rfl (by kernel_rfl) (by kernel_rfl) (by kernel_rfl) (fun _ _ _ h => h) (Or.inl ⟨by rfl, ?_⟩) (by assumption) ?_
              rotate_left
              · (intro w' hSw; obtain ⟨_, hSa, hSb⟩ := hSw; go_simp) <;> (with_reducible rfl)
              try simp only [Act.put, List.setIfInBounds_toArray, List.set_cons_zero, List.set_cons_succ]
              refine wpAnyH_take (i := 20) (oi := ⟨some 109, .move (.tmp 108), _, _, _, none⟩) (v := ?_) rfl (by kernel_rfl) (by kernel_rfl) (by kernel_rfl) (fun _ _ _ h => h) (Or.inl ⟨by rfl, ?_⟩) (by assumption) ?_
              rotate_left
              · (intro w' hSw; obtain ⟨_, hSa, hSb⟩ := hSw; go_simp) <;> (with_reducible rfl)
              try simp only [Act.put, List.setIfInBounds_toArray, List.set_cons_zero, List.set_cons_succ]
              refine wpAnyH_take (i := 21) (oi := ⟨some 110, .move (.tmp 5), _, _, _, some (20, false)⟩) (v := ?_) rfl (by kernel_rfl) (by kernel_rfl) (by kernel_rfl) (fun _ _ _ h => h) (Or.inl ⟨by rfl, ?_⟩) (by assumption) ?_
              rotate_left
              · (intro w' hSw; obtain ⟨_, hSa, hSb⟩ := hSw; go_simp) <;> (with_reducible rfl)
              try simp only [Act.put, List.setIfInBounds_toArray, List.set_cons_zero, List.set_cons_succ]
              refine wpAnyH_take (i := 23) (oi := ⟨some 112, .fieldAddr _ (.tmp 2) 2, _, _, _, some (20, false)⟩) (v := ?_) rfl (by kernel_rfl) (by kernel_rfl) (by kernel_rfl) (fun _ _ _ h => h) (Or.inl ⟨by rfl, ?_⟩) (by assumption) ?_
              rotate_left
              · (intro w' hSw; obtain ⟨_, hSa, hSb⟩ := hSw; go_simp) <;> (with_reducible rfl)
              try simp only [Act.put, List.setIfInBounds_toArray, List.set_cons_zero, List.set_cons_succ]
              refine wpAnyH_take (i := 24) (oi := ⟨some 113, .load _ (.tmp 112), _, _, _, some (20, false)⟩) (v := ?_) rfl (by kernel_rfl) (by kernel_rfl) (by kernel_rfl) (fun _ _ _ h => h) (Or.inl ⟨by rfl, ?_⟩) (by assumption) ?_
              rotate_left
              · (intro w' hSw; obtain ⟨_, hSa, hSb⟩ := hSw; go_simp) <;> (with_reducible rfl)
              try simp only [Act.put, List.setIfInBounds_toArray, List.set_cons_zero, List.set_cons_succ]
              refine wpAnyH_ready (rs := [22]) (by kernel_rfl) (by simp) ?_
              refine AllReadyH.cons rfl (fun K hK => ?_) ?_
              rotate_left
              · exact AllReadyH.nil
              go_simp
              refine (HPN.out _ (by assumption)).mono ?_
              rintro e wP ⟨rfl, hrP, hsP⟩
              have tP := Stay.trans tD hsP
              have sP := HS.out _ tP
              try go_wp2_with fail
              refine hK.out _ _ sP (fun hHeld => ?_)
              clear hK K
              try simp only [Act.put, List.setIfInBounds_toArray, List.set_cons_zero, List.set_cons_succ]
              refine wpAnyH_take (i := 25) (oi := ⟨some 114, .binOp _ _ _ _ _, _, _, _, some (20, false)⟩) (v := ?_) rfl (by kernel_rfl) (by kernel_rfl) (by kernel_rfl) (fun _ _ _ h => h) (Or.inl ⟨by rfl, ?_⟩) (by assumption) ?_
              rotate_left
              · (intro w' hSw; obtain ⟨_, hSa, hSb⟩ := hSw; go_simp) <;> (with_reducible rfl)
              try simp only [Act.put, List.setIfInBounds_toArray, List.set_cons_zero, List.set_cons_succ]
              refine wpAnyH_take (i := 26) (oi := ⟨some 115, .pick _ _ _, _, _, _, none⟩) (v := ?_) rfl (by kernel_rfl) (by kernel_rfl) (by kernel_rfl) (fun _ _ _ h => h) (Or.inl ⟨by rfl, ?_⟩) (by assumption) ?_
              rotate_left
              · (intro w' hSw; obtain ⟨_, hSa, hSb⟩ := hSw; go_simp) <;> (with_reducible rfl)
              try simp only [Act.put, List.setIfInBounds_toArray, List.set_cons_zero, List.set_cons_succ]
              refine wpAnyH_take (i := 27) (oi := ⟨some 116, .move (.tmp 115), _, _, _, none⟩) (v := ?_) rfl (by kernel_rfl) (by kernel_rfl) (by kernel_rfl) (fun _ _ _ h => h) (Or.inl ⟨by rfl, ?_⟩) (by assumption) ?_
              rotate_left
              · (intro w' hSw; obtain ⟨_, hSa, hSb⟩ := hSw; go_simp) <;> (with_reducible rfl)
              try simp only [Act.put, List.setIfInBounds_toArray, List.set_cons_zero, List.set_cons_succ]
              refine wpAnyH_take (i := 28) (oi := ⟨some 117, .move (.tmp 5), _, _, _, some (27, false)⟩) (v := ?_) rfl (by kernel_rfl) (by kernel_rfl) (by kernel_rfl) (fun _ _ _ h => h) (Or.inl ⟨by rfl, ?_⟩) (by assumption) ?_
              rotate_left
              · (intro w' hSw; obtain ⟨_, hSa, hSb⟩ := hSw; go_simp) <;> (with_reducible rfl)
              try simp only [Act.put, List.setIfInBounds_toArray, List.set_cons_zero, List.set_cons_succ]
              refine wpAnyH_take (i := 29) (oi := ⟨some 118, .fieldAddr _ (.tmp 2) 0, _, _, _, some (27, false)⟩) (v := ?_) rfl (by kernel_rfl) (by kernel_rfl) (by kernel_rfl) (fun _ _ _ h => h) (Or.inl ⟨by rfl, ?_⟩) (by assumption) ?_
              rotate_left
              · (intro w' hSw; obtain ⟨_, hSa, hSb⟩ := hSw; go_simp) <;> (with_reducible rfl)
              try simp only [Act.put, List.setIfInBounds_toArray, List.set_cons_zero, List.set_cons_succ]
              refine wpAnyH_take (i := 30) (oi := ⟨some 119, .load _ (.tmp 118), _, _, _, some (27, false)⟩) (v := _) rfl (by kernel_rfl) (by kernel_rfl) (by kernel_rfl) (fun _ _ _ h => h) (yieldsIf_load_mid (by rfl) 44 (.tmp 118) rfl w.heap.size 0 rfl dc _ (fun _ h => h.1) Try.underlying44 rfl hdl) (by assumption) ?_
              try simp only [Act.put, List.setIfInBounds_toArray, List.set_cons_zero, List.set_cons_succ]
              refine wpAnyH_ready (rs := [31]) (by kernel_rfl) (by simp) ?_
              refine AllReadyH.cons rfl (fun K hK => ?_) ?_
              rotate_left
              · exact AllReadyH.nil
              go_simp
              refine (HUN.out _ (by assumption)).mono ?_
              rintro e wU ⟨rfl, hrU, hsU⟩
              have tU := Stay.trans tP hsU
              have sU := HS.out _ tU
              try go_wp2_with fail
              refine hK.out _ _ sU (fun hHeld => ?_)
              clear hK K
              try simp only [Act.put, List.setIfInBounds_toArray, List.set_cons_zero, List.set_cons_succ]
              refine wpAnyH_take (i := 32) (oi := ⟨some 121, .binOp _ _ _ _ _, _, _, _, some (27, false)⟩) (v := ?_) rfl (by kernel_rfl) (by kernel_rfl) (by kernel_rfl) (fun _ _ _ h => h) (Or.inl ⟨by rfl, ?_⟩) (by assumption) ?_
              rotate_left
              · (intro w' hSw; obtain ⟨_, hSa, hSb⟩ := hSw; go_simp) <;> (with_reducible rfl)
              try simp only [Act.put, List.setIfInBounds_toArray, List.set_cons_zero, List.set_cons_succ]
              refine wpAnyH_take (i := 33) (oi := ⟨some 122, .pick _ _ _, _, _, _, none⟩) (v := ?_) rfl (by kernel_rfl) (by kernel_rfl) (by kernel_rfl) (fun _ _ _ h => h) (Or.inl ⟨by rfl, ?_⟩) (by assumption) ?_
              rotate_left
              · (intro w' hSw; obtain ⟨_, hSa, hSb⟩ := hSw; go_simp) <;> (with_reducible rfl)
              try simp only [Act.put, List.setIfInBounds_toArray, List.set_cons_zero, List.set_cons_succ]
              refine wpAnyH_done (by kernel_rfl) ?_ _
              refine NoPanic.normal ?_
              go_wp2_with fail
              go_roundg (1 + p - (k + 1))
              case measure => omega
              case rel =>
                refine ⟨k + 1, by go_num, by omega, rfl, ?_, Lib.hid (tU.blk BJ.out (by simp))⟩
                rw [← HNX.out]
                exact Lib.hid (hrU.mono (by simp))
            · have hke : k = 1 + p := by omega
              subst hke
              have hlt' : ¬ (((1 + p : Nat) : Nat) : Int) < 1 + (p : Int) := by omega
              have R : Hid (Rkx w [w.heap.size] wr b 0 [jk j 0]) := Lib.hid (by have := R.out; rwa [show 1 + (p : Int) - ((1 + p : Nat) : Int) = 0 by omega] at this)
              have HDR := Lib.hid (drop_zero j)
              have HNA := Lib.hid (none_all j.dig)
              go_wp2_with (first
                | (refine wpList_load_midG (by rfl) 44 (.tmp 125) rfl w.heap.size 0 (by rfl) (digC j.dig) _ (HRD.out _ _ BJ.out) Try.underlying44 rfl (HDL.out _) ?_)
                | fail)
              try simp only [Act.put, List.setIfInBounds_toArray, List.set_cons_succ, List.set_cons_zero]
              try go_wp2_with fail
              refine (rack_Get_nil j.dig _).mono ?_
              rintro e v1 ⟨rfl, hk⟩
              have BJ := Lib.hid (hk.blk BJ.out (by simp))
              have R := Lib.hid (R.out.keep0 hk)
              clear hk
              go_upto_region 23 with (first
                | (refine wpList_store_new rfl 46 (.tmp 15) (.tmp 128) rfl _ jar0.cells (by rfl) (by rfl) (by rw [Jar.cells_length]; exact jar_size) (by rw [Jar.cells_length]; rfl) (Jar.one _) ?_)
                | fail)
              try simp only [Act.put, List.setIfInBounds_toArray, List.set_cons_succ, List.set_cons_zero]
              have hk' := (Keep.refl [] v1).alloc (.cells jar0.cells.toArray 46)
              generalize v1.alloc (.cells jar0.cells.toArray 46) = v2 at hk'
              have BJ := Lib.hid (hk'.blk BJ.out (by simp))
              have R := Lib.hid (R.out.keep0 hk')
              clear hk'
              go_wp2_with fail
              refine (rack_Victim_nil _).mono ?_
              rintro e v3 ⟨rfl, hk⟩
              have BJ := Lib.hid (hk.blk BJ.out (by simp))
              have R := Lib.hid (R.out.keep0 hk)
              clear hk
              go_upto_region 24 with (first
                | (refine wpList_store_new rfl 44 (.tmp 17) (.tmp 133) rfl _ (digC dig0) (by rfl) (by rfl) (HDL.out _) (by rw [digC_length]; rfl) (digC_one _) ?_)
                | fail)
              try simp only [Act.put, List.setIfInBounds_toArray, List.set_cons_succ, List.set_cons_zero]
              have hk' := (Keep.refl [] v3).alloc (.cells (digC dig0).toArray 44)
              generalize v3.alloc (.cells (digC dig0).toArray 44) = v4 at hk'
              have BJ := Lib.hid (hk'.blk BJ.out (by simp))
              have R := Lib.hid (R.out.keep0 hk')
              clear hk'
              go_wp2_with (first
                | (refine wpList_load_midG (by rfl) 44 (.tmp 136) rfl w.heap.size 0 (by rfl) (digC j.dig) _ (HRD.out _ _ BJ.out) Try.underlying44 rfl (HDL.out _) ?_)
                | (refine wpList_load_midG (by rfl) 44 (.tmp 142) rfl w.heap.size 0 (by rfl) (digC j.dig) _ (HRD.out _ _ BJ.out) Try.underlying44 rfl (HDL.out _) ?_)
                | (refine wpList_load_midG (by rfl) 44 (.tmp 149) rfl w.heap.size 0 (by rfl) (digC j.dig) _ (HRD.out _ _ BJ.out) Try.underlying44 rfl (HDL.out _) ?_)
                | (refine wpList_load_midG (by rfl) 44 (.tmp 162) rfl w.heap.size 0 (by rfl) (digC j.dig) _ (HRD.out _ _ BJ.out) Try.underlying44 rfl (HDL.out _) ?_)
                | (refine wpList_load_midG (by rfl) 46 (.tmp 2) rfl w.heap.size 0 (by rfl) j.cells _ (BJ.out.rangeAt) Try.underlying46 rfl HJ.out ?_)
                | fail)
              try simp only [Act.put, List.setIfInBounds_toArray, List.set_cons_succ, List.set_cons_zero]
              try go_wp2_with fail
              have hc := rkx_Unpin R.out j.dig
              rw [HDR.out.2.2.1, HDR.out.2.2.2] at hc
              refine hc.mono ?_
              rintro e v5 ⟨rfl, hr, hs⟩
              have BJ := Lib.hid (hs.blk BJ.out (by simp))
              have R := Lib.hid hr
              clear hr hs hc
              go_wp2_with (first
                | (refine wpList_load_midG (by rfl) 44 (.tmp 136) rfl w.heap.size 0 (by rfl) (digC j.dig) _ (HRD.out _ _ BJ.out) Try.underlying44 rfl (HDL.out _) ?_)
                | (refine wpList_load_midG (by rfl) 44 (.tmp 142) rfl w.heap.size 0 (by rfl) (digC j.dig) _ (HRD.out _ _ BJ.out) Try.underlying44 rfl (HDL.out _) ?_)
                | (refine wpList_load_midG (by rfl) 44 (.tmp 149) rfl w.heap.size 0 (by rfl) (digC j.dig) _ (HRD.out _ _ BJ.out) Try.underlying44 rfl (HDL.out _) ?_)
                | (refine wpList_load_midG (by rfl) 44 (.tmp 162) rfl w.heap.size 0 (by rfl) (digC j.dig) _ (HRD.out _ _ BJ.out) Try.underlying44 rfl (HDL.out _) ?_)
                | (refine wpList_load_midG (by rfl) 46 (.tmp 2) rfl w.heap.size 0 (by rfl) j.cells _ (BJ.out.rangeAt) Try.underlying46 rfl HJ.out ?_)
                | fail)
              try simp only [Act.put, List.setIfInBounds_toArray, List.set_cons_succ, List.set_cons_zero]
              try go_wp2_with fail
              have hc := rkx_Drop R.out j.dig
              rw [HDR.out.1, HDR.out.2.1] at hc
              refine hc.mono ?_
              rintro e v6 ⟨rfl, hr, hs⟩
              have BJ := Lib.hid (hs.blk BJ.out (by simp))
              have R := Lib.hid hr
              clear hr hs hc
              go_wp2_with (first
                | (refine wpList_load_midG (by rfl) 44 (.tmp 136) rfl w.heap.size 0 (by rfl) (digC j.dig) _ (HRD.out _ _ BJ.out) Try.underlying44 rfl (HDL.out _) ?_)
                | (refine wpList_load_midG (by rfl) 44 (.tmp 142) rfl w.heap.size 0 (by rfl) (digC j.dig) _ (HRD.out _ _ BJ.out) Try.underlying44 rfl (HDL.out _) ?_)
                | (refine wpList_load_midG (by rfl) 44 (.tmp 149) rfl w.heap.size 0 (by rfl) (digC j.dig) _ (HRD.out _ _ BJ.out) Try.underlying44 rfl (HDL.out _) ?_)
                | (refine wpList_load_midG (by rfl) 44 (.tmp 162) rfl w.heap.size 0 (by rfl) (digC j.dig) _ (HRD.out _ _ BJ.out) Try.underlying44 rfl (HDL.out _) ?_)
                | (refine wpList_load_midG (by rfl) 46 (.tmp 2) rfl w.heap.size 0 (by rfl) j.cells _ (BJ.out.rangeAt) Try.underlying46 rfl HJ.out ?_)
                | fail)
              try simp only [Act.put, List.setIfInBounds_toArray, List.set_cons_succ, List.set_cons_zero]
              try go_wp2_with fail
              have hc := rkx_Unpin R.out j.dig
              rw [HNA.out.2.2.1, HNA.out.2.2.2] at hc
              refine hc.mono ?_
              rintro e v7 ⟨rfl, hr, hs⟩
              have BJ := Lib.hid (hs.blk BJ.out (by simp))
              have R := Lib.hid hr
              clear hr hs hc
              go_wp2_with (first
                | (refine wpList_load_midG (by rfl) 44 (.tmp 136) rfl w.heap.size 0 (by rfl) (digC j.dig) _ (HRD.out _ _ BJ.out) Try.underlying44 rfl (HDL.out _) ?_)
                | (refine wpList_load_midG (by rfl) 44 (.tmp 142) rfl w.heap.size 0 (by rfl) (digC j.dig) _ (HRD.out _ _ BJ.out) Try.underlying44 rfl (HDL.out _) ?_)
                | (refine wpList_load_midG (by rfl) 44 (.tmp 149) rfl w.heap.size 0 (by rfl) (digC j.dig) _ (HRD.out _ _ BJ.out) Try.underlying44 rfl (HDL.out _) ?_)
                | (refine wpList_load_midG (by rfl) 44 (.tmp 162) rfl w.heap.size 0 (by rfl) (digC j.dig) _ (HRD.out _ _ BJ.out) Try.underlying44 rfl (HDL.out _) ?_)
                | (refine wpList_load_midG (by rfl) 46 (.tmp 2) rfl w.heap.size 0 (by rfl) j.cells _ (BJ.out.rangeAt) Try.underlying46 rfl HJ.out ?_)
                | fail)
              try simp only [Act.put, List.setIfInBounds_toArray, List.set_cons_succ, List.set_cons_zero]
              try go_wp2_with fail
              refine (rack_Put_nil _ _).mono ?_
              rintro e v8 ⟨rfl, hk⟩
              have BJ := Lib.hid (hk.blk BJ.out (by simp))
              have R := Lib.hid (R.out.keep0 hk)
              clear hk
              go_wp2_with (first
                | (refine wpList_load_midG (by rfl) 44 (.tmp 136) rfl w.heap.size 0 (by rfl) (digC j.dig) _ (HRD.out _ _ BJ.out) Try.underlying44 rfl (HDL.out _) ?_)
                | (refine wpList_load_midG (by rfl) 44 (.tmp 142) rfl w.heap.size 0 (by rfl) (digC j.dig) _ (HRD.out _ _ BJ.out) Try.underlying44 rfl (HDL.out _) ?_)
                | (refine wpList_load_midG (by rfl) 44 (.tmp 149) rfl w.heap.size 0 (by rfl) (digC j.dig) _ (HRD.out _ _ BJ.out) Try.underlying44 rfl (HDL.out _) ?_)
                | (refine wpList_load_midG (by rfl) 44 (.tmp 162) rfl w.heap.size 0 (by rfl) (digC j.dig) _ (HRD.out _ _ BJ.out) Try.underlying44 rfl (HDL.out _) ?_)
                | (refine wpList_load_midG (by rfl) 46 (.tmp 2) rfl w.heap.size 0 (by rfl) j.cells _ (BJ.out.rangeAt) Try.underlying46 rfl HJ.out ?_)
                | fail)
              try simp only [Act.put, List.setIfInBounds_toArray, List.set_cons_succ, List.set_cons_zero]
              try go_wp2_with fail
              refine (rack_Pin_nil j.dig _).mono ?_
              rintro e v9 ⟨rfl, hk⟩
              have BJ := Lib.hid (hk.blk BJ.out (by simp))
              have R := Lib.hid (R.out.keep0 hk)
              clear hk
              go_wp2_with (first
                | (refine wpList_load_midG (by rfl) 44 (.tmp 136) rfl w.heap.size 0 (by rfl) (digC j.dig) _ (HRD.out _ _ BJ.out) Try.underlying44 rfl (HDL.out _) ?_)
                | (refine wpList_load_midG (by rfl) 44 (.tmp 142) rfl w.heap.size 0 (by rfl) (digC j.dig) _ (HRD.out _ _ BJ.out) Try.underlying44 rfl (HDL.out _) ?_)
                | (refine wpList_load_midG (by rfl) 44 (.tmp 149) rfl w.heap.size 0 (by rfl) (digC j.dig) _ (HRD.out _ _ BJ.out) Try.underlying44 rfl (HDL.out _) ?_)
                | (refine wpList_load_midG (by rfl) 44 (.tmp 162) rfl w.heap.size 0 (by rfl) (digC j.dig) _ (HRD.out _ _ BJ.out) Try.underlying44 rfl (HDL.out _) ?_)
                | (refine wpList_load_midG (by rfl) 46 (.tmp 2) rfl w.heap.size 0 (by rfl) j.cells _ (BJ.out.rangeAt) Try.underlying46 rfl HJ.out ?_)
                | fail)
              try simp only [Act.put, List.setIfInBounds_toArray, List.set_cons_succ, List.set_cons_zero]
              try go_wp2_with fail
              refine ((rack_nils _).1).mono ?_
              rintro e v10 ⟨rfl, hk⟩
              have BJ := Lib.hid (hk.blk BJ.out (by simp))
              have R := Lib.hid (R.out.keep0 hk)
              clear hk
              go_wp2_with fail
              refine ((rack_nils _).2.1).mono ?_
              rintro e v11 ⟨rfl, hk⟩
              have BJ := Lib.hid (hk.blk BJ.out (by simp))
              have R := Lib.hid (R.out.keep0 hk)
              clear hk
              go_wp2_with fail
              refine ((rack_nils _).2.2.1).mono ?_
              rintro e v12 ⟨rfl, hk⟩
              have BJ := Lib.hid (hk.blk BJ.out (by simp))
              have R := Lib.hid (R.out.keep0 hk)
              clear hk
              go_wp2_with fail
              refine ((rack_nils _).2.2.2).mono ?_
              rintro e v13 ⟨rfl, hk⟩
              have BJ := Lib.hid (hk.blk BJ.out (by simp))
              have R := Lib.hid (R.out.keep0 hk)
              clear hk
              go_wp2_with fail
              go_ret
              exact ⟨rfl, R.out.below⟩
  · have h5' : decide (500 < ((j.typ.length : Nat) : Int)) = true := by simp; omega
    clear h5
    go_wp2_with fail
    go_ret
    exact ⟨rfl, R.out.below⟩
end Go.Proofs.Ytbfnpoknamajnaa
