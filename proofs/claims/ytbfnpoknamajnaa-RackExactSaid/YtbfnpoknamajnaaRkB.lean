/- Layer 21: the document's rack; Good, Place. No conditions. -/
import Derived.Test.YtbfnpoknamajnaaRkX
namespace Go.Proofs.Ytbfnpoknamajnaa
open Go.RowKit Go.Maps

/-- the document's rack -/
structure Dk (w : World) (u : Nat) (v : Value) (L : List Jar) (budget : Int) : Prop where
  blk : Blk w u 74 [v, .int .i64 budget]
  own : Own Jar.cells 35 0 46 w v L
  ne : v.ownBlock ≠ some u
theorem Dk.keep {w w' : World} {u : Nat} {v : Value} {L : List Jar} {budget : Int} {T : List Nat} (h : Dk w u v L budget) (k : Keep T w w') (hu : u ∉ T) (hv : ∀ g, v.ownBlock = some g → g ∉ T) : Dk w' u v L budget :=
  ⟨k.blk h.blk hu, h.own.keep k hv, h.ne⟩
theorem Dk.keep0 {w w' : World} {u : Nat} {v : Value} {L : List Jar} {budget : Int} (h : Dk w u v L budget) (k : Keep [] w w') : Dk w' u v L budget := h.keep k (by simp) (by simp)
/-- an element -/
theorem own_at {w : World} {v : Value} {L : List Jar} {k : Nat} {x : Jar} (h : Own Jar.cells 35 0 46 w v L) (hx : L[k]? = some x) :
    ∃ g cap, v = .slice (some ⟨g, 0, none⟩) L.length cap ∧ L.length ≤ cap ∧ cap ≤ maxLen ∧ w.rangeAt g (k * 35) x.cells := by
  obtain ⟨b, off, cap, hv, h1, h2, h3⟩ := (h.sl Jar.cells_length).cell hx
  rcases h.2 with ⟨rfl, h0⟩ | ⟨g, cap', cur, hv', _⟩
  · have := (List.getElem?_eq_some_iff.1 hx).1
    omega
  · rw [hv'] at hv
    injection hv with e1 e2 e3
    injection e1 with e1
    injection e1 with e1 e4
    subst e1 e4 e3
    refine ⟨g, cap', hv', h1, h2, fun j u hu => ?_⟩
    have hj := (List.getElem?_eq_some_iff.1 hu).1
    rw [Jar.cells_length] at hj
    have := h3 j hj
    rw [Nat.zero_add, hu] at this
    exact this
def posL (L : List Jar) (d : Dig) : Int := match L.findIdx? (fun x => decide (x.dig = d)) with
  | none => -1
  | some i => (i : Nat)
theorem posL_at {L : List Jar} {d : Dig} {k : Nat} {x : Jar} (hx : L[k]? = some x) (hd : x.dig = d) (h : ∀ j, j < k → ∀ y, L[j]? = some y → y.dig ≠ d) : posL L d = (k : Nat) := by
  unfold posL
  have : L.findIdx? (fun x => decide (x.dig = d)) = some k := by
    rw [List.findIdx?_eq_some_iff_getElem]
    obtain ⟨hl, he⟩ := List.getElem?_eq_some_iff.1 hx
    refine ⟨hl, by simp [he, hd], fun j hj => ?_⟩
    have := h j hj _ (List.getElem?_eq_getElem (by omega))
    simpa using this
  rw [this]
theorem posL_no {L : List Jar} {d : Dig} (h : ∀ j, j < L.length → ∀ y, L[j]? = some y → y.dig ≠ d) : posL L d = -1 := by
  unfold posL
  have : L.findIdx? (fun x => decide (x.dig = d)) = none := by
    rw [List.findIdx?_eq_none_iff]
    intro x hx
    obtain ⟨j, hj⟩ := List.getElem?_of_mem hx
    have := h j (List.getElem?_eq_some_iff.1 hj).1 x hj
    simpa using this
  rw [this]
set_option maxRecDepth 100000 in
theorem ref_Good21 (j : Jar) (w : World) (hl : j.typ.length ≤ maxLen) : Calls Try.prog 58 #[.agg j.cells.toArray] w fun e w' => e = .returned (.bool (goodJ j)) ∧ Keep [] w w' := by
  have hb := Blk.newA w j.cells.toArray 46
  have hk := (Keep.refl [] w).alloc (.cells j.cells.toArray 46)
  have c0 := hb.get (k := 32) (v := .string (S j.typ)) (by simp [Jar.cells, digC_length, List.getElem?_append])
  have c1 := hb.get (k := 33) (v := .int .i64 j.size) (by simp [Jar.cells, digC_length, List.getElem?_append])
  have c2 := hb.get (k := 34) (v := .int .i64 j.pins) (by simp [Jar.cells, digC_length, List.getElem?_append])
  have hs := S_size j.typ
  have hl' : j.typ.length ≤ 9223372036854775807 := hl
  have hg : goodJ j = (decide (((j.typ.length : Nat) : Int) ≤ 100) && decide (0 ≤ j.size) && decide (j.size ≤ 1048576) && (j.pins == 0)) := by
    unfold goodJ
    rw [Bool.eq_iff_iff]
    simp only [Bool.and_eq_true, decide_eq_true_eq, beq_iff_eq]
    omega
  have HG := Lib.hid hg
  have HK := Lib.hid hk
  generalize j.cells = cs at hb c0 c1 c2 HK ⊢
  generalize hwA : w.alloc (.cells cs.toArray 46) = wA at hb c0 c1 c2 HK
  clear hb hk hg hl
  go_enter Try.func58, Try.ntmps58
  go_wp2_with fail
  all_goals
    go_ret
    refine ⟨?_, HK.out⟩
    rw [HG.out]
    first
      | (rename_i h1 h2 h3; simp [h1, h2, h3]; done)
      | (rename_i h1 h2 h3; simp [h1, h2, Int.not_le.2 h3]; done)
      | (rename_i h1 h2; simp [h1, Int.not_le.2 h2]; done)
      | (rename_i h1; simp [Int.not_le.2 h1]; done)
set_option maxRecDepth 100000 in
set_option maxHeartbeats 1000000 in
theorem ref_Place (u : Nat) (v : Value) (L : List Jar) (budget : Int) (d : Dig) (w : World) (h : Dk w u v L budget) :
    Calls Try.prog 42 #[.pointer (some ⟨u, 0, none⟩), .agg (digC d).toArray] w fun e w' => e = .returned (.int .i64 (posL L d)) ∧ Keep [] w w' := by
  have hb := Blk.newA w (digC d).toArray 44
  have hk := (Keep.refl [] w).alloc (.cells (digC d).toArray 44)
  generalize hwA : w.alloc (.cells (digC d).toArray 44) = wA at hb hk
  have HB := Lib.hid (fun w' (k : Keep [] wA w') => (k.blk hb (by simp)).rangeAt)
  have HD := Lib.hid (fun w' (k : Keep [] wA w') => h.keep0 (hk.trans k))
  have HK := Lib.hid hk
  have HDL := Lib.hid (digC_length d)
  obtain ⟨a, cap, rfl, hml⟩ := h.own.shape
  have hml' : L.length ≤ 9223372036854775807 := hml
  have HE := Lib.hid (fun (x : Dig) => eqDig x d)
  generalize digC d = dc at HB HDL HE hwA ⊢
  clear hb hk h hml
  have c0 := (HD.out wA (Keep.refl _ _)).blk.get (k := 0) rfl
  go_enter Try.func42, Try.ntmps42
  go_wp2_with fail
  clear c0 hwA
  go_loopg [5] L.length (fun g s5 wr => ∃ k : Nat, s5 = .int .i64 k ∧ g = L.length - k ∧ k ≤ L.length ∧ Hid (Keep [] wA wr) ∧ Hid (∀ j, j < k → ∀ y, L[j]? = some y → y.dig ≠ d))
  case atStart => exact ⟨0, rfl, by omega, by omega, Lib.hid (Keep.refl _ _), Lib.hid (fun j hj => absurd hj (by omega))⟩
  case round =>
    obtain ⟨k, rfl, hgk, hk, HKr, HN⟩ := hrel
    have c0 := (HD.out wr HKr.out).blk.get (k := 0) rfl
    by_cases hkl : k < L.length
    · obtain ⟨x, hx⟩ : ∃ x, L[k]? = some x := ⟨_, List.getElem?_eq_getElem hkl⟩
      obtain ⟨g', cap', hv, hle, hcm, hr⟩ := own_at (HD.out wr HKr.out).own hx
      cases hv
      have hkL : (k : Int) < (L.length : Int) := by omega
      have HRX : Hid (∀ w', (∃ y, w' = wr.drewN y) → w'.rangeAt g' (k * 35) (digC x.dig)) := fun w' hw' => by
        obtain ⟨y, rfl⟩ := hw'
        intro j v hv
        refine hr j v ?_
        unfold Jar.cells
        rw [List.getElem?_append_left (List.getElem?_eq_some_iff.1 hv).1]
        exact hv
      have HRB : Hid (∀ w', (∃ y, w' = wr.drewN y) → w'.rangeAt w.heap.size 0 dc) := fun w' hw' => by
        obtain ⟨y, rfl⟩ := hw'
        exact HB.out _ (HKr.out.drewN y)
      have HDX := Lib.hid (digC_length x.dig)
      have hq := HE.out x.dig
      generalize digC x.dig = dx at HRX HDX hq
      clear hr hle hcm
      by_cases he : x.dig = d
      · rw [decide_eq_true he] at hq
        have HX := Lib.hid (posL_at hx he HN.out)
        clear he hx
        go_wp2_with fail
        refine wp_region_quiet_lit (by kernel_rfl) (by kernel_rfl) ?_
        repeat (go_big_quiet_step (fail))
        refine wpQuiet_load rfl 44 (.tmp 21) rfl g' (k * 35) (by simp [Act.eval, Addr.add]) dx _ HRX.out Try.underlying44 rfl (by rw [HDX.out]; kernel_rfl) ?_
        simp only [Act.put, List.setIfInBounds_toArray, List.set_cons_succ, List.set_cons_zero]
        refine wpQuiet_load rfl 44 (.tmp 3) rfl w.heap.size 0 (by rfl) dc _ HRB.out Try.underlying44 rfl (by rw [HDL.out]; kernel_rfl) ?_
        simp only [Act.put, List.setIfInBounds_toArray, List.set_cons_succ, List.set_cons_zero]
        repeat (go_big_quiet_step (fail))
        refine wpQuiet_nil ?_
        intro _ hw'
        obtain ⟨nq, hw''⟩ := hw'
        subst hw''
        go_wp2_with fail
        go_ret
        exact ⟨ret_int HX.out.symm, HK.out.trans (HKr.out.drewN nq)⟩
      · rw [decide_eq_false he] at hq
        have HN' := Lib.hid (show ∀ j, j < k + 1 → ∀ y, L[j]? = some y → y.dig ≠ d by
          intro j hj y hy
          rcases Nat.lt_succ_iff_lt_or_eq.1 hj with h | rfl
          · exact HN.out j h y hy
          · rw [hx] at hy; cases hy; exact he)
        clear he hx
        go_wp2_with fail
        refine wp_region_quiet_lit (by kernel_rfl) (by kernel_rfl) ?_
        repeat (go_big_quiet_step (fail))
        refine wpQuiet_load rfl 44 (.tmp 21) rfl g' (k * 35) (by simp [Act.eval, Addr.add]) dx _ HRX.out Try.underlying44 rfl (by rw [HDX.out]; kernel_rfl) ?_
        simp only [Act.put, List.setIfInBounds_toArray, List.set_cons_succ, List.set_cons_zero]
        refine wpQuiet_load rfl 44 (.tmp 3) rfl w.heap.size 0 (by rfl) dc _ HRB.out Try.underlying44 rfl (by rw [HDL.out]; kernel_rfl) ?_
        simp only [Act.put, List.setIfInBounds_toArray, List.set_cons_succ, List.set_cons_zero]
        repeat (go_big_quiet_step (fail))
        refine wpQuiet_nil ?_
        intro _ hw'
        obtain ⟨nq, hw''⟩ := hw'
        subst hw''
        go_wp2_with fail
        go_roundg (L.length - (k + 1))
        case measure => omega
        case rel => exact ⟨k + 1, rfl, rfl, by omega, Lib.hid (HKr.out.drewN nq), HN'⟩
    · have HX := Lib.hid (posL_no (fun j hj => HN.out j (by omega)))
      have hkl2 : ¬ (k : Int) < (L.length : Int) := by omega
      clear hkl
      go_wp2_with fail
      go_ret
      exact ⟨ret_int HX.out.symm, HK.out.trans HKr.out⟩
end Go.Proofs.Ytbfnpoknamajnaa
