/- The statement RackFits: its function answers true for every input. No conditions. -/
import Derived.Test.YtbfnpoknamajnaaRkFits
namespace Go.Proofs.Ytbfnpoknamajnaa
open Go.RowKit Go.Maps

theorem vic_some {n : Int} {L : List Jar} {j : Jar} (hd : (L.map (·.dig)).Nodup) (h : vicL n L = some j) : findL L j.dig = some j ∧ j.pins = 0 := by
  unfold vicL at h
  split at h
  · cases h
  · rename_i hcc
    clear hcc
    have hm0 := List.mem_of_find?_eq_some h
    have hz := List.find?_some h
    refine ⟨?_, by simpa [zeroPins] using hz⟩
    have hm : j ∈ L := by simpa using hm0
    clear h hz hm0
    induction L with
    | nil => simp at hm
    | cons y r ih =>
      rw [List.map_cons, List.nodup_cons] at hd
      unfold findL
      by_cases e : y.dig = j.dig
      · rw [List.find?_cons_of_pos (by simp [e])]
        rcases List.mem_cons.1 hm with rfl | hm
        · rfl
        · exact absurd (List.mem_map.2 ⟨j, hm, e.symm⟩) hd.1
      · rw [List.find?_cons_of_neg (by simp [e])]
        rcases List.mem_cons.1 hm with rfl | hm
        · exact absurd rfl e
        · exact ih hd.2 hm
theorem vic_drop {n : Int} {L : List Jar} {j : Jar} (hd : (L.map (·.dig)).Nodup) (h : vicL n L = some j) : getJ L j.dig = j ∧ hasJ L j.dig = true ∧ j.pins = 0 ∧ dropE L j.dig = 0 ∧ dropL L j.dig = restL L j.dig ∧ usedL (restL L j.dig) = usedL L ∧ (restL L j.dig).length < L.length := by
  obtain ⟨hf, hz⟩ := vic_some hd h
  have hu := sum_rest L j.dig j hd hf (fun x => if x.pins > 0 then x.size else 0)
  have hl := sum_rest L j.dig j hd hf (fun _ => 1)
  have hlen : ∀ M : List Jar, (M.map fun _ => (1 : Int)).sum = M.length := fun M => by
    induction M with
    | nil => rfl
    | cons x r ih => simp only [List.map_cons, List.sum_cons, ih, List.length_cons]; omega
  rw [hlen, hlen] at hl
  refine ⟨by unfold getJ; rw [hf]; rfl, by unfold hasJ; rw [hf]; rfl, hz, ?_, ?_, ?_, by omega⟩
  · unfold dropE; rw [hf]; simp [hz]
  · unfold dropL; rw [hf]; simp [hz]
  · unfold usedL
    rw [hu]
    simp [hz]
theorem vic_none {n : Int} {L : List Jar} (hg : ∀ j ∈ L, okJar j) (h : vicL n L = none) : (sumL L ≤ n ∧ L.length < 64) ∨ ((∀ j ∈ L, zeroPins j = false) ∧ sumL L = usedL L) := by
  unfold vicL at h
  split at h
  · rename_i hc; exact .inl hc
  · right
    have h1 : ∀ j ∈ L, zeroPins j = false := fun j hj => by
      have := List.find?_eq_none.1 h j (by simpa using hj)
      simpa using this
    refine ⟨h1, ?_⟩
    unfold sumL usedL
    congr 1
    apply List.map_congr_left
    intro j hj
    have := h1 j hj
    have hp := (hg j hj).2.2.2.1
    have : j.pins > 0 := by
      unfold zeroPins at this
      simp at this
      omega
    rw [if_pos this]
theorem any_take {L : List Jar} {k : Nat} {x : Jar} (h : L[k]? = some x) : (L.take (k + 1)).any zeroPins = ((L.take k).any zeroPins || zeroPins x) := by
  rw [List.take_add_one, h, List.any_append]
  simp

set_option maxRecDepth 100000 in
set_option maxHeartbeats 4000000 in
theorem rackFits_walk (budget : Int) (v : Value) (acts : List Act21) (w : World) (hv : Sl Act21.cells 36 w v acts) (hg : ∀ x ∈ acts, x.good) :
    Calls Try.prog 8 #[.int .i64 budget, v] w fun e w' => e = .returned (.bool true) ∧ Below w.heap.size w w' := by
  obtain ⟨va, vcap, rfl, hvl⟩ := hv.shape
  have hvl' : acts.length ≤ 9223372036854775807 := hvl
  obtain ⟨n, hn, hne⟩ := u64_mod budget 1048576 (by omega)
  have hne : (IntKind.u64.wrap budget).tmod 1048576 = (n : Int) := hne
  have hw1 := IntWalk.i64_in (n : Int) (by omega)
  have HDL := Lib.hid (fun d : Dig => (show (Try.prog.info? 44).map (·.size) = some (digC d).length by rw [digC_length]; exact dig_size))
  have HG := Lib.hid hg
  have HV := Lib.hid hv
  clear hg hv hvl
  go_enter Try.func8, Try.ntmps8
  go_wp2_with fail
  refine (rack_awake _).mono ?_
  rintro e w1 ⟨rfl, hk1⟩
  go_wp2_with fail
  refine (rkx_New w [] n w1 hk1 (by simp) (by omega) (by omega)).mono ?_
  rintro e w2 ⟨b, rfl, hr2, hk2⟩
  have R := Lib.hid hr2
  clear hk1 hk2 hr2
  go_wp2_with fail
  go_loopg [8] acts.length (fun g s8 wr => ∃ (t : Nat) (L : List Jar), s8 = .int .i64 t ∧ t ≤ acts.length ∧ t ≤ 250 ∧ g = acts.length - t ∧ Hid (Rkx w [] wr b n L))
  case atStart => exact ⟨0, [], rfl, Nat.zero_le _, by omega, by omega, R⟩
  case round =>
    obtain ⟨t, L, rfl, ht, ht2, hgk, R⟩ := hrel
    by_cases hlt : t < acts.length
    · by_cases h250 : t < 250
      · have hx : acts[t]? = some acts[t] := List.getElem?_eq_getElem hlt
        have hsl := HV.out.below Act21.cells_length R.out.below (Nat.le_refl _)
        obtain ⟨ba, off, cap', hve, _, _, hcell⟩ := hsl.cell hx
        obtain ⟨rfl, _, rfl⟩ : va = some ⟨ba, off, none⟩ ∧ True ∧ vcap = cap' := by simpa using hve
        generalize acts[t] = x at hx hcell
        have hrx : Hid (wr.rangeAt ba (off + t * 36) x.cells) := fun k u hu => by
          rw [hcell k (by have := (List.getElem?_eq_some_iff.1 hu).1; rwa [Act21.cells_length] at this)]
          exact hu
        have HXL := Lib.hid (show (Try.prog.info? 76).map (·.size) = some x.cells.length by rw [Act21.cells_length]; kernel_rfl)
        have hT0 : (0 : Int) ≤ (t : Int) := by omega
        have hT1 : (t : Int) < (acts.length : Int) := by omega
        have hkw := IntWalk.i64_in ((t : Int) + 1) (by omega)
        clear hcell hve hsl hx
        go_upto_region 11 with (first
          | (refine wpList_load_mid rfl 76 (.tmp 47) rfl ba (off + t * 36) (by rfl) x.cells _ hrx.out Try.underlying76 rfl HXL.out ?_)
          | (refine wpList_store_new rfl 76 (.tmp 9) (.tmp 48) rfl _ x.cells (by rfl) (by rfl) HXL.out (by rw [Act21.cells_length]; rfl) (Act21.one _) ?_)
          | fail)
        try simp only [Act.put, List.setIfInBounds_toArray, List.set_cons_succ, List.set_cons_zero]
        have hl := R.out.local (.cells x.cells.toArray 76)
        have hb := Blk.newA wr x.cells.toArray 76
        rw [List.toList_toArray] at hb
        generalize wr.alloc (.cells x.cells.toArray 76) = wx at hl hb
        generalize wr.heap.size = xb at hl hb
        have c33 := hb.get (k := 33) (v := .string (S x.j.typ)) (by simp [Act21.cells, Jar.cells, digC_length, List.getElem?_append])
        have htz := S_size x.j.typ
        have R := Lib.hid hl
        have BX := Lib.hid hb
        clear hl hb
        by_cases h5 : x.j.typ.length ≤ 500
        · have h5' : decide (500 < ((x.j.typ.length : Nat) : Int)) = false := by simp; omega
          clear h5
          go_wp2_with (first
            | (refine wpList_load_mid rfl 76 (.tmp 9) rfl xb 0 (by rfl) x.cells _ BX.out.rangeAt Try.underlying76 rfl HXL.out ?_)
            | fail)
          try simp only [Act.put, List.setIfInBounds_toArray, List.set_cons_succ, List.set_cons_zero]
          try go_wp2_with fail
          refine (law_play R.out x).mono ?_
          rintro e w3 ⟨m, rfl, hr, hs⟩
          have R := Lib.hid (hr.mono (Y := []) (by simp))
          clear hr hs c33 htz
          generalize playL L x = L0 at R
          go_wp2_with fail
          refine (rkx_Pinned R.out).mono ?_
          rintro e w4 ⟨rfl, hr, hs⟩
          have R := Lib.hid hr
          clear hr hs
          generalize hu0 : usedL L0 = u0
          have HU0 := Lib.hid hu0
          clear hu0
          go_wp2_with fail
          go_loopg [11] L0.length (fun g s11 wq => ∃ (M : List Jar), g = M.length ∧ Hid (Rkx w [] wq b n M) ∧ Hid (usedL M = u0))
          case atStart => exact ⟨L0, rfl, R, HU0⟩
          case round =>
            obtain ⟨M, hgM, R, HU⟩ := hrel
            cases hvc : vicL n M with
            | some j =>
              obtain ⟨p1, p2, p3, p4, p5, p6, p7⟩ := vic_drop R.out.digs hvc
              have HP := Lib.hid (And.intro p1 (And.intro p2 (And.intro p4 (And.intro p5 (And.intro p6 p7)))))
              have c34j : j.cells[34]? = some (.int .i64 0) := by rw [show (0 : Int) = j.pins from p3.symm]; simp [Jar.cells, digC_length, List.getElem?_append]
              clear p1 p2 p3 p4 p5 p6 p7
              have hc := rkx_Victim_some R.out hvc (d := j.dig) rfl
              clear hvc
              go_wp2_with fail
              refine hc.mono ?_
              rintro e w5 ⟨rfl, hr, hs⟩
              have R := Lib.hid hr
              clear hr hs hc
              go_upto_region 16 with (first
                | (refine wpList_store_new rfl 44 (.tmp 11) (.tmp 62) rfl _ (digC j.dig) (by rfl) (by rfl) (HDL.out _) (by rw [digC_length]; rfl) (digC_one _) ?_)
                | fail)
              try simp only [Act.put, List.setIfInBounds_toArray, List.set_cons_succ, List.set_cons_zero]
              have hl := R.out.local (.cells (digC j.dig).toArray 44)
              have hb := Blk.newA w5 (digC j.dig).toArray 44
              rw [List.toList_toArray] at hb
              generalize w5.alloc (.cells (digC j.dig).toArray 44) = w6 at hl hb
              generalize w5.heap.size = db at hl hb
              have R := Lib.hid hl
              have BD := Lib.hid hb
              clear hl hb
              go_wp2_with (first
                | (refine wpList_load_mid rfl 44 (.tmp 11) rfl db 0 (by rfl) (digC j.dig) _ BD.out.rangeAt Try.underlying44 rfl (HDL.out _) ?_)
                | fail)
              try simp only [Act.put, List.setIfInBounds_toArray, List.set_cons_succ, List.set_cons_zero]
              try go_wp2_with fail
              have hc := rkx_Get R.out j.dig
              rw [HP.out.1, HP.out.2.1] at hc
              refine hc.mono ?_
              rintro e w7 ⟨rfl, hr, hs⟩
              have BD := Lib.hid (hs.blk BD.out (by simp))
              have R := Lib.hid hr
              clear hr hs hc
              go_upto_region 18 with (first
                | (refine wpList_store_new rfl 46 (.tmp 13) (.tmp 70) rfl _ j.cells (by rfl) (by rfl) (by rw [Jar.cells_length]; exact jar_size) (by rw [Jar.cells_length]; rfl) (Jar.one _) ?_)
                | fail)
              try simp only [Act.put, List.setIfInBounds_toArray, List.set_cons_succ, List.set_cons_zero]
              have hk := (Keep.refl [] w7).alloc (.cells j.cells.toArray 46)
              have hb := Blk.newA w7 j.cells.toArray 46
              rw [List.toList_toArray] at hb
              generalize w7.alloc (.cells j.cells.toArray 46) = w8 at hk hb
              generalize w7.heap.size = jb at hb
              have c34 := hb.get c34j
              have BD := Lib.hid (hk.blk BD.out (by simp))
              have R := Lib.hid (R.out.keep0 hk)
              clear hk hb c34j
              go_wp2_with (first
                | (refine wpList_load_midG (by rfl) 44 (.tmp 11) rfl db 0 (by rfl) (digC j.dig) _ BD.out.rangeAt Try.underlying44 rfl (HDL.out _) ?_)
                | fail)
              try simp only [Act.put, List.setIfInBounds_toArray, List.set_cons_succ, List.set_cons_zero]
              try go_wp2_with fail
              have hc := rkx_Drop R.out j.dig
              rw [HP.out.2.2.1, HP.out.2.2.2.1] at hc
              refine hc.mono ?_
              rintro e w9 ⟨rfl, hr, hs⟩
              have R := Lib.hid (hr.mono (Y := []) (by simp))
              clear hr hs hc
              go_wp2_with fail
              go_roundg (restL M j.dig).length
              case measure => have := HP.out.2.2.2.2.2; omega
              case rel => exact ⟨restL M j.dig, rfl, R, Lib.hid (HP.out.2.2.2.2.1.trans HU.out)⟩
            | none =>
              have hfin := vic_none R.out.good hvc
              have hc := rkx_Victim_none R.out hvc
              clear hvc
              go_wp2_with fail
              refine hc.mono ?_
              rintro e w5 ⟨rfl, hr, hs⟩
              have R := Lib.hid hr
              clear hr hs hc
              go_upto_region 16 with (first
                | (refine wpList_store_new rfl 44 (.tmp 11) (.tmp 62) rfl _ (digC dig0) (by rfl) (by rfl) (HDL.out _) (by rw [digC_length]; rfl) (digC_one _) ?_)
                | fail)
              try simp only [Act.put, List.setIfInBounds_toArray, List.set_cons_succ, List.set_cons_zero]
              have hk := (Keep.refl [] w5).alloc (.cells (digC dig0).toArray 44)
              generalize w5.alloc (.cells (digC dig0).toArray 44) = w6 at hk
              have R := Lib.hid (R.out.keep0 hk)
              clear hk
              have hmost := R.out.most
              have hub := used_bound R.out.good hmost
              have hsb := size_bound R.out.good hmost
              have hT := Lib.hid (fun w' (h : Rkx w [] w' b n M) => rkx_Total h)
              have hU := Lib.hid (fun w' (h : Rkx w [] w' b n M) => rkx_Pinned h)
              have hN := Lib.hid (fun w' (h : Rkx w [] w' b n M) => rkx_Len h)
              have hLi := Lib.hid (fun w' (h : Rkx w [] w' b n M) => rkx_List h)
              rw [HU.out] at hfin hub hU
              obtain ⟨T, hTe⟩ : ∃ T, T = sumL M := ⟨_, rfl⟩
              rw [← hTe] at hfin hsb hT
              obtain ⟨ln, hln⟩ : ∃ ln, ln = M.length := ⟨_, rfl⟩
              rw [← hln] at hN
              have hfin' : (T ≤ (n : Int) ∧ ln < 64) ∨ ((∀ j ∈ M, zeroPins j = false) ∧ T = u0) := by rw [hln]; exact hfin
              have hsum : T ≤ (n : Int) + u0 := by rcases hfin' with h | h <;> omega
              have hwn := IntWalk.i64_in ((n : Int) + u0) (by omega)
              have hgt : decide (T > (n : Int) + u0) = false := by simp; omega
              have HFI := Lib.hid hfin'
              have HLN := Lib.hid (And.intro hln hmost)
              clear hfin hfin' hTe hln hmost
              by_cases hTn : T ≤ (n : Int)
              · have hTn' : decide (T > (n : Int)) = false := by simp; omega
                have hany : M.any zeroPins = true → ln < 64 := fun ha => by
                  rcases HFI.out with h | h
                  · exact h.2
                  · obtain ⟨j, hj, hz⟩ := List.any_eq_true.1 ha
                    rw [h.1 j hj] at hz
                    cases hz
                have HANY := Lib.hid hany
                have HTN := Lib.hid hTn
                clear hany hTn
                go_wp2_with fail
                refine (hU.out _ R.out).mono ?_
                rintro e w7 ⟨rfl, hr, hs⟩
                have R := Lib.hid hr
                clear hr hs
                go_wp2_with fail
                refine (hT.out _ R.out).mono ?_
                rintro e w8 ⟨rfl, hr, hs⟩
                have R := Lib.hid hr
                clear hr hs
                go_wp2_with fail
                refine (hT.out _ R.out).mono ?_
                rintro e w9 ⟨rfl, hr, hs⟩
                have R := Lib.hid hr
                clear hr hs
                go_wp2_with fail
                refine (hLi.out _ R.out).mono ?_
                rintro e w10 ⟨vl, rfl, ho, hr, hs⟩
                have R := Lib.hid hr
                clear hr hs
                have hslM := ho.sl Jar.cells_length
                obtain ⟨la, lc, rfl, _⟩ := ho.shape
                have HLM := Lib.hid hslM
                have hMl : M.length ≤ 64 := HLN.out.2
                clear ho hslM
                go_wp2_with fail
                go_loopg [16, 17] M.length (fun g s16 s17 wq => ∃ (k : Nat), s17 = .int .i64 k ∧ s16 = .bool ((M.take k).any zeroPins) ∧ k ≤ M.length ∧ g = M.length - k ∧ wq = w10)
                case atStart => exact ⟨0, rfl, rfl, by omega, by omega, rfl⟩
                case round =>
                  obtain ⟨k, rfl, rfl, hk, hgk2, rfl⟩ := hrel
                  by_cases hkl : k < M.length
                  · obtain ⟨xj, hxj⟩ : ∃ x, M[k]? = some x := ⟨_, List.getElem?_eq_getElem hkl⟩
                    obtain ⟨lb, lo, lc', hle, _, _, hlx⟩ := HLM.out.cell hxj
                    have hla : la = some ⟨lb, lo, none⟩ ∧ lc = lc' := by simpa using hle
                    obtain ⟨rfl, rfl⟩ := hla
                    have c34 := hlx 34 (by omega)
                    rw [show xj.cells[34]? = some (.int .i64 xj.pins) by simp [Jar.cells, digC_length, List.getElem?_append]] at c34
                    have hat := any_take hxj
                    have hzp : (xj.pins == 0) = zeroPins xj := by unfold zeroPins; rfl
                    have hk0 : (0 : Int) ≤ (k : Int) := by omega
                    have hk1 : (k : Int) < (M.length : Int) := by omega
                    have hkw := IntWalk.i64_in ((k : Int) + 1) (by omega)
                    have HAT := Lib.hid hat
                    have HZP := Lib.hid hzp
                    clear hlx hle hxj hat hzp
                    cases hfr : (M.take k).any zeroPins with
                    | true =>
                      have HFR := Lib.hid hfr
                      clear hfr
                      go_wp2_with fail
                      go_roundg (M.length - (k + 1))
                      case measure => omega
                      case rel => exact ⟨k + 1, by go_num, by rw [HAT.out, HFR.out]; rfl, by omega, rfl, rfl⟩
                    | false =>
                      have HFR := Lib.hid hfr
                      clear hfr
                      generalize xj.pins = pz at c34 HZP
                      go_wp2_with fail
                      go_roundg (M.length - (k + 1))
                      case measure => omega
                      case rel => exact ⟨k + 1, by go_num, by rw [HAT.out, HFR.out, ← HZP.out]; rfl, by omega, rfl, rfl⟩
                  · have hke : k = M.length := by omega
                    subst hke
                    have hkl' : ¬ ((M.length : Nat) : Int) < (M.length : Int) := by omega
                    rw [List.take_length]
                    cases hfr : M.any zeroPins with
                    | false =>
                      go_wp2_with fail
                      go_roundg (acts.length - (t + 1))
                      case measure => omega
                      case rel => exact ⟨t + 1, M, by go_num, by omega, by omega, rfl, R⟩
                    | true =>
                      have h64 := HANY.out hfr
                      have h64' : decide ((ln : Int) ≥ 64) = false := by simp; omega
                      clear h64
                      go_wp2_with fail
                      refine (hT.out _ R.out).mono ?_
                      rintro e w11 ⟨rfl, hr, hs⟩
                      have R := Lib.hid hr
                      clear hr hs
                      go_wp2_with fail
                      refine (hN.out _ R.out).mono ?_
                      rintro e w12 ⟨rfl, hr, hs⟩
                      have R := Lib.hid hr
                      clear hr hs
                      go_wp2_with fail
                      go_roundg (acts.length - (t + 1))
                      case measure => omega
                      case rel => exact ⟨t + 1, M, by go_num, by omega, by omega, rfl, R⟩
              · have hTn' : decide (T > (n : Int)) = true := by simp; omega
                have hTu : T = u0 ∧ ∀ j ∈ M, zeroPins j = false := by
                  rcases HFI.out with h | h
                  · exact absurd h.1 hTn
                  · exact ⟨h.2, h.1⟩
                have hTu' : (T != u0) = false := by simp [hTu.1]
                have hany : M.any zeroPins = false := by
                  rw [List.any_eq_false]
                  intro j hj
                  simp [hTu.2 j hj]
                have HANY := Lib.hid hany
                clear hany hTn hTu
                go_wp2_with fail
                refine (hU.out _ R.out).mono ?_
                rintro e w7 ⟨rfl, hr, hs⟩
                have R := Lib.hid hr
                clear hr hs
                go_wp2_with fail
                refine (hT.out _ R.out).mono ?_
                rintro e w8 ⟨rfl, hr, hs⟩
                have R := Lib.hid hr
                clear hr hs
                go_wp2_with fail
                refine (hT.out _ R.out).mono ?_
                rintro e w8 ⟨rfl, hr, hs⟩
                have R := Lib.hid hr
                clear hr hs
                go_wp2_with fail
                refine (hT.out _ R.out).mono ?_
                rintro e w9 ⟨rfl, hr, hs⟩
                have R := Lib.hid hr
                clear hr hs
                go_wp2_with fail
                refine (hLi.out _ R.out).mono ?_
                rintro e w10 ⟨vl, rfl, ho, hr, hs⟩
                have R := Lib.hid hr
                clear hr hs
                have hslM := ho.sl Jar.cells_length
                obtain ⟨la, lc, rfl, _⟩ := ho.shape
                have HLM := Lib.hid hslM
                have hMl : M.length ≤ 64 := HLN.out.2
                clear ho hslM
                go_wp2_with fail
                go_loopg [16, 17] M.length (fun g s16 s17 wq => ∃ (k : Nat), s17 = .int .i64 k ∧ s16 = .bool ((M.take k).any zeroPins) ∧ k ≤ M.length ∧ g = M.length - k ∧ wq = w10)
                case atStart => exact ⟨0, rfl, rfl, by omega, by omega, rfl⟩
                case round =>
                  obtain ⟨k, rfl, rfl, hk, hgk2, rfl⟩ := hrel
                  by_cases hkl : k < M.length
                  · obtain ⟨xj, hxj⟩ : ∃ x, M[k]? = some x := ⟨_, List.getElem?_eq_getElem hkl⟩
                    obtain ⟨lb, lo, lc', hle, _, _, hlx⟩ := HLM.out.cell hxj
                    have hla : la = some ⟨lb, lo, none⟩ ∧ lc = lc' := by simpa using hle
                    obtain ⟨rfl, rfl⟩ := hla
                    have c34 := hlx 34 (by omega)
                    rw [show xj.cells[34]? = some (.int .i64 xj.pins) by simp [Jar.cells, digC_length, List.getElem?_append]] at c34
                    have hat := any_take hxj
                    have hzp : (xj.pins == 0) = zeroPins xj := by unfold zeroPins; rfl
                    have hk0 : (0 : Int) ≤ (k : Int) := by omega
                    have hk1 : (k : Int) < (M.length : Int) := by omega
                    have hkw := IntWalk.i64_in ((k : Int) + 1) (by omega)
                    have HAT := Lib.hid hat
                    have HZP := Lib.hid hzp
                    clear hlx hle hxj hat hzp
                    cases hfr : (M.take k).any zeroPins with
                    | true =>
                      have HFR := Lib.hid hfr
                      clear hfr
                      go_wp2_with fail
                      go_roundg (M.length - (k + 1))
                      case measure => omega
                      case rel => exact ⟨k + 1, by go_num, by rw [HAT.out, HFR.out]; rfl, by omega, rfl, rfl⟩
                    | false =>
                      have HFR := Lib.hid hfr
                      clear hfr
                      generalize xj.pins = pz at c34 HZP
                      go_wp2_with fail
                      go_roundg (M.length - (k + 1))
                      case measure => omega
                      case rel => exact ⟨k + 1, by go_num, by rw [HAT.out, HFR.out, ← HZP.out]; rfl, by omega, rfl, rfl⟩
                  · have hke : k = M.length := by omega
                    subst hke
                    have hkl' : ¬ ((M.length : Nat) : Int) < (M.length : Int) := by omega
                    rw [List.take_length]
                    cases hfr : M.any zeroPins with
                    | false =>
                      go_wp2_with fail
                      go_roundg (acts.length - (t + 1))
                      case measure => omega
                      case rel => exact ⟨t + 1, M, by go_num, by omega, by omega, rfl, R⟩
                    | true => exact absurd hfr (by rw [HANY.out]; simp)
        · have h5' : decide (500 < ((x.j.typ.length : Nat) : Int)) = true := by simp; omega
          clear h5
          go_wp2_with fail
          go_ret
          exact ⟨rfl, R.out.below⟩
      · have h250' : ¬ (t : Int) < 250 := by omega
        have hlt' : (t : Int) < (acts.length : Int) := by omega
        go_wp2_with fail
        go_ret
        exact ⟨rfl, R.out.below⟩
    · have hlt' : ¬ (t : Int) < (acts.length : Int) := by omega
      go_wp2_with fail
      go_ret
      exact ⟨rfl, R.out.below⟩
end Go.Proofs.Ytbfnpoknamajnaa
