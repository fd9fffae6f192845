/- Layer 21: the document's Pin. No conditions. -/
import Derived.Test.YtbfnpoknamajnaaRkH
namespace Go.Proofs.Ytbfnpoknamajnaa
open Go.RowKit Go.Maps

theorem pin_done {w w4 : World} {u k g3 cap3 : Nat} {v : Value} {L : List Jar} {x : Jar} {budget n : Int} (hk : Keep [u] w w4) (hb : Blk w4 u 74 [.slice (some ⟨g3, 0, none⟩) L.length cap3, .int .i64 budget])
    (ho : Own Jar.cells 35 0 46 w4 (.slice (some ⟨g3, 0, none⟩) L.length cap3) L) (hg : w.heap.size ≤ g3) (hu : u < w.heap.size) (hx : L[k]? = some x) :
    Done w (w4.setCell ⟨g3, k * 35 + 34, none⟩ (.int .i64 n)).drew u v (L.set k { x with pins := n }) budget := by
  have hks : Keep [g3] w4 (w4.setCell ⟨g3, k * 35 + 34, none⟩ (.int .i64 n)).drew := ((Keep.refl _ _).setCell _ _ (by simp)).drew
  have hl := rows_set' Jar.cells_length L k 34 x { x with pins := n } (.int .i64 n) hx (by omega) (by simp [Jar.cells, digC_length, List.set_append])
  have h1 := (World.ownsRow.stored ho (k * 35 + 34) (.int .i64 n)).1
  rw [hl] at h1
  refine ⟨.slice (some ⟨g3, 0, none⟩) L.length cap3, ⟨hks.blk hb (by simp; omega), ?_, by simp [Value.ownBlock]; omega⟩, ?_, fun g hg' => .inr (by simp [Value.ownBlock] at hg'; omega)⟩
  · unfold Own
    rw [List.length_set]
    exact h1.drew
  · exact (hk.setCell ⟨g3, k * 35 + 34, none⟩ (.int .i64 n) (fun h => absurd h (by show ¬ g3 < _; omega))).drew
set_option maxRecDepth 100000 in
set_option maxHeartbeats 2000000 in
theorem ref_Pin21 (u : Nat) (v : Value) (L : List Jar) (budget : Int) (d : Dig) (q : Int) (hq : q = 1 ∨ q = -1) (w : World) (h : Dk w u v L budget) (hL : L.length ≤ 64) (k : Nat) (x : Jar) (hk : posL L d = (k : Nat)) (hx : L[k]? = some x) (hxp : 0 ≤ x.pins ∧ x.pins ≤ 1073741824) :
    Calls Try.prog 38 #[.pointer (some ⟨u, 0, none⟩), .agg (digC d).toArray, .int .i64 q] w fun e w' => e = .returned (.int .i64 (if q < 0 ∧ x.pins = 0 then 8 else 0)) ∧ Done w w' u v (if q < 0 ∧ x.pins = 0 then L else L.set k { x with pins := x.pins + q }) budget := by
  have hkl : k < L.length := (List.getElem?_eq_some_iff.1 hx).1
  have hb := Blk.newA w (digC d).toArray 44
  have hkA := (Keep.refl [] w).alloc (.cells (digC d).toArray 44)
  generalize hwA : w.alloc (.cells (digC d).toArray 44) = wA at hb hkA
  obtain ⟨g', cap, hv, hle, hcm, _⟩ := own_at h.own hx
  subst hv
  have HDB := Lib.hid (hb.rangeAt)
  have HP1 := Lib.hid (ref_Place u _ L budget d wA (h.keep0 hkA))
  rw [hk] at HP1
  have HD0 := Lib.hid (fun w' (k : Keep [] w w') => h.keep0 k)
  have H := Lib.hid h
  have HK := Lib.hid hkA
  have HDL := Lib.hid (digC_length d)
  have HX := Lib.hid hx
  have HU := Lib.hid h.blk.lt
  have HWR := Lib.hid (IntWalk.i64_in (x.pins + q) (by omega))
  have HR := Lib.hid (fun w' (hk : Keep [] w w') => by
    obtain ⟨g2, cap2, hv2, _, _, hr⟩ := own_at (h.keep0 hk).own hx
    cases hv2
    exact hr 34 (.int .i64 x.pins) (by simp [Jar.cells, digC_length, List.getElem?_append]))
  have h0 : ¬ (k : Int) < 0 := by omega
  have h1 : (k : Int) < (L.length : Int) := by omega
  obtain ⟨is, Hs⟩ := jarinfo'
  generalize digC d = dc at *
  clear hb hkA h hx hk hle hcm
  by_cases hp : q < 0 ∧ x.pins = 0
  · have hq' : decide (q < 0) = true := decide_eq_true hp.1
    have hz : (x.pins == 0) = true := by simp [hp.2]
    rw [if_pos hp, if_pos hp]
    clear hp
    generalize x.pins = xp at *
    go_enter Try.func38, Try.ntmps38
    go_wp2_with (first
      | (refine wpList_load_mid rfl 44 (.tmp 4) rfl w.heap.size 0 (by rfl) dc _ HDB.out Try.underlying44 rfl (by rw [HDL.out]; exact dig_size) ?_)
      | fail)
    refine HP1.out.mono ?_
    rintro e w2 ⟨rfl, k2⟩
    have K2 := Lib.hid (HK.out.trans k2)
    have c0 := (HD0.out w2 K2.out).blk.get (k := 0) rfl
    have c34 := HR.out w2 K2.out
    clear k2
    go_wp2_with fail
    go_ret
    exact ⟨rfl, Done.same H.out K2.out⟩
  · rw [if_neg hp, if_neg hp]
    obtain ⟨M, hM⟩ : ∃ M, M = L.set k { x with pins := x.pins + q } := ⟨_, rfl⟩
    rw [← hM]
    have HM := Lib.hid hM
    clear hM
    by_cases hq0 : q < 0
    · have hq' : decide (q < 0) = true := decide_eq_true hq0
      have hz : (x.pins == 0) = false := by simp; intro e; exact hp ⟨hq0, e⟩
      clear hp hq0
      go_enter Try.func38, Try.ntmps38
      go_wp2_with (first
        | (refine wpList_load_mid rfl 44 (.tmp 4) rfl w.heap.size 0 (by rfl) dc _ HDB.out Try.underlying44 rfl (by rw [HDL.out]; exact dig_size) ?_)
        | fail)
      refine HP1.out.mono ?_
      rintro e w2 ⟨rfl, k2⟩
      have K2 := Lib.hid (HK.out.trans k2)
      have c0 := (HD0.out w2 K2.out).blk.get (k := 0) rfl
      have c34 := HR.out w2 K2.out
      clear k2

      have hkA2 := (Keep.refl [] w2).alloc (.cells #[] 46)
      have hA := (HD0.out w2 K2.out).keep0 hkA2
      have cA := hA.blk.get (k := 0) rfl
      have hN := Own.none (base := 0) Jar.cells 35 46 w2 (Nat.zero_le _)
      have hsrc := own_src hA.own
      have HB2 := Lib.hid hA.blk
      have HSZ := Lib.hid (show (w2.alloc (.cells #[] 46)).heap.size = w2.heap.size + 1 by simp)
      have HN2 := Lib.hid K2.out.size
      have HKB := Lib.hid (K2.out.trans hkA2)
      generalize hwB : w2.alloc (.cells #[] 46) = wB at *
      have HN := Lib.hid hN
      have HS := Lib.hid hsrc
      clear hkA2 hA hN hsrc
      go_wp2_with (first
        | (at_builtin; (refine wpList_appendM (o := _) rfl (.tmp 27) (.tmp 31) 72 rfl (v := .slice (some ⟨w2.heap.size, 0, none⟩) 0 0) (vx := .slice (some ⟨g', 0, none⟩) L.length cap) is _ 64 Try.underlying72 Hs (by rfl) (by decide) Jar.cells_length Jar.one wB ?_ HN.out ?_ HS.out (by simp [maxLen]; omega) (by simp; omega) ?_)
           rfl
           rfl
           intro v3 w3 hown3 hg3 hat3
           have hb3 : Blk w3 u 74 _ := (hg3.block u (by have := HSZ.out; have := HU.out; have := HN2.out; omega) (fun e => by have := HU.out; have := HN2.out; simp [Value.ownBlock] at e; omega)).trans HB2.out
           have d0 := hb3.get (k := 0) rfl
           have df := hb3.frozen
           obtain ⟨g3, cap3, hv3, hle3, hcm3, hr3⟩ := own_at hown3 (show ([] ++ L)[k]? = some x from HX.out)
           subst hv3
           have HO3 := Lib.hid hown3
           have HB3 := Lib.hid hb3
           have HG3 : Hid (w.heap.size ≤ g3) := by
             have := HN2.out
             have := HSZ.out
             rcases hat3 with e | e <;> simp [Value.ownBlock] at e <;> show _ ≤ _ <;> omega
           have HK3 : Hid (Keep [] w w3) := HKB.out.grown hg3 (fun q hq hlt => by have := HN2.out; simp [Value.ownBlock] at hq; omega)
           clear hown3 hb3 hg3 hat3 hle3 hcm3 hr3)
        | fail)
      have hk4 : Keep [u] w3 (w3.setCell ⟨u, 0, none⟩ (.slice (some ⟨g3, 0, none⟩) L.length cap3)) := (Keep.refl _ _).setCell _ _ (by simp)
      have hb4 := HB3.out.set 0 (.slice (some ⟨g3, 0, none⟩) L.length cap3)
      have hgu : g3 ≠ u := by have := HG3.out; have := HU.out; omega
      have ho4 := HO3.out.keep hk4 (fun q hq => by simp [Value.ownBlock] at hq; subst hq; simpa using hgu)
      have HK4 := Lib.hid ((HK3.out.mono (by simp) : Keep [u] w w3).trans hk4)
      generalize hw4 : w3.setCell ⟨u, 0, none⟩ (.slice (some ⟨g3, 0, none⟩) L.length cap3) = w4 at *
      try simp only [List.nil_append, List.length_append, List.length_nil, Nat.zero_add] at hw4
      try rw [hw4]
      have e0 := hb4.get (k := 0) rfl
      have e34 : w4.cell? ⟨g3, k * 35 + 34, none⟩ = some (.int .i64 x.pins) := by
        obtain ⟨g5, cap5, hv5, _, _, hr5⟩ := own_at ho4 (show ([] ++ L)[k]? = some x from HX.out)
        cases hv5
        exact hr5 34 (.int .i64 x.pins) (by simp [Jar.cells, digC_length, List.getElem?_append])
      have f34 := World.ownsRow.frozenAt ho4 (k * 35 + 34)
      have HB4 := Lib.hid hb4
      have HO4 := Lib.hid ho4
      have hw5 := HWR.out
      have hkc : (k : Int) ≤ (L.length : Int) := by omega
      have hk00 : (0 : Int) ≤ (k : Int) := by omega
      clear hw4 hb4 ho4 hk4 d0 df
      go_wp2_with fail
      go_region
      go_wp2_with fail
      go_ret
      exact ⟨rfl, by rw [HM.out]; exact pin_done HK4.out HB4.out HO4.out HG3.out HU.out HX.out⟩
    · have hq' : decide (q < 0) = false := decide_eq_false hq0
      clear hp hq0
      go_enter Try.func38, Try.ntmps38
      go_wp2_with (first
        | (refine wpList_load_mid rfl 44 (.tmp 4) rfl w.heap.size 0 (by rfl) dc _ HDB.out Try.underlying44 rfl (by rw [HDL.out]; exact dig_size) ?_)
        | fail)
      refine HP1.out.mono ?_
      rintro e w2 ⟨rfl, k2⟩
      have K2 := Lib.hid (HK.out.trans k2)
      have c0 := (HD0.out w2 K2.out).blk.get (k := 0) rfl
      clear k2

      have hkA2 := (Keep.refl [] w2).alloc (.cells #[] 46)
      have hA := (HD0.out w2 K2.out).keep0 hkA2
      have cA := hA.blk.get (k := 0) rfl
      have hN := Own.none (base := 0) Jar.cells 35 46 w2 (Nat.zero_le _)
      have hsrc := own_src hA.own
      have HB2 := Lib.hid hA.blk
      have HSZ := Lib.hid (show (w2.alloc (.cells #[] 46)).heap.size = w2.heap.size + 1 by simp)
      have HN2 := Lib.hid K2.out.size
      have HKB := Lib.hid (K2.out.trans hkA2)
      generalize hwB : w2.alloc (.cells #[] 46) = wB at *
      have HN := Lib.hid hN
      have HS := Lib.hid hsrc
      clear hkA2 hA hN hsrc
      go_wp2_with (first
        | (at_builtin; (refine wpList_appendM (o := _) rfl (.tmp 27) (.tmp 31) 72 rfl (v := .slice (some ⟨w2.heap.size, 0, none⟩) 0 0) (vx := .slice (some ⟨g', 0, none⟩) L.length cap) is _ 64 Try.underlying72 Hs (by rfl) (by decide) Jar.cells_length Jar.one wB ?_ HN.out ?_ HS.out (by simp [maxLen]; omega) (by simp; omega) ?_)
           rfl
           rfl
           intro v3 w3 hown3 hg3 hat3
           have hb3 : Blk w3 u 74 _ := (hg3.block u (by have := HSZ.out; have := HU.out; have := HN2.out; omega) (fun e => by have := HU.out; have := HN2.out; simp [Value.ownBlock] at e; omega)).trans HB2.out
           have d0 := hb3.get (k := 0) rfl
           have df := hb3.frozen
           obtain ⟨g3, cap3, hv3, hle3, hcm3, hr3⟩ := own_at hown3 (show ([] ++ L)[k]? = some x from HX.out)
           subst hv3
           have HO3 := Lib.hid hown3
           have HB3 := Lib.hid hb3
           have HG3 : Hid (w.heap.size ≤ g3) := by
             have := HN2.out
             have := HSZ.out
             rcases hat3 with e | e <;> simp [Value.ownBlock] at e <;> show _ ≤ _ <;> omega
           have HK3 : Hid (Keep [] w w3) := HKB.out.grown hg3 (fun q hq hlt => by have := HN2.out; simp [Value.ownBlock] at hq; omega)
           clear hown3 hb3 hg3 hat3 hle3 hcm3 hr3)
        | fail)
      have hk4 : Keep [u] w3 (w3.setCell ⟨u, 0, none⟩ (.slice (some ⟨g3, 0, none⟩) L.length cap3)) := (Keep.refl _ _).setCell _ _ (by simp)
      have hb4 := HB3.out.set 0 (.slice (some ⟨g3, 0, none⟩) L.length cap3)
      have hgu : g3 ≠ u := by have := HG3.out; have := HU.out; omega
      have ho4 := HO3.out.keep hk4 (fun q hq => by simp [Value.ownBlock] at hq; subst hq; simpa using hgu)
      have HK4 := Lib.hid ((HK3.out.mono (by simp) : Keep [u] w w3).trans hk4)
      generalize hw4 : w3.setCell ⟨u, 0, none⟩ (.slice (some ⟨g3, 0, none⟩) L.length cap3) = w4 at *
      try simp only [List.nil_append, List.length_append, List.length_nil, Nat.zero_add] at hw4
      try rw [hw4]
      have e0 := hb4.get (k := 0) rfl
      have e34 : w4.cell? ⟨g3, k * 35 + 34, none⟩ = some (.int .i64 x.pins) := by
        obtain ⟨g5, cap5, hv5, _, _, hr5⟩ := own_at ho4 (show ([] ++ L)[k]? = some x from HX.out)
        cases hv5
        exact hr5 34 (.int .i64 x.pins) (by simp [Jar.cells, digC_length, List.getElem?_append])
      have f34 := World.ownsRow.frozenAt ho4 (k * 35 + 34)
      have HB4 := Lib.hid hb4
      have HO4 := Lib.hid ho4
      have hw5 := HWR.out
      have hkc : (k : Int) ≤ (L.length : Int) := by omega
      have hk00 : (0 : Int) ≤ (k : Int) := by omega
      clear hw4 hb4 ho4 hk4 d0 df
      go_wp2_with fail
      go_region
      go_wp2_with fail
      go_ret
      exact ⟨rfl, by rw [HM.out]; exact pin_done HK4.out HB4.out HO4.out HG3.out HU.out HX.out⟩
end Go.Proofs.Ytbfnpoknamajnaa
