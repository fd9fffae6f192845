/- Layer 21: Get, Victim. No conditions. -/
import Derived.Test.YtbfnpoknamajnaaRkJ
namespace Go.Proofs.Ytbfnpoknamajnaa
open Go.RowKit Go.Maps

def jar0 : Jar := ⟨⟨List.replicate 32 0, by simp⟩, [], 0, 0⟩
def dig0 : Dig := ⟨List.replicate 32 0, by simp⟩
theorem jar0_cells : jar0.cells.toArray = #[.int .u8 0, .int .u8 0, .int .u8 0, .int .u8 0, .int .u8 0, .int .u8 0, .int .u8 0, .int .u8 0, .int .u8 0, .int .u8 0, .int .u8 0, .int .u8 0, .int .u8 0, .int .u8 0, .int .u8 0, .int .u8 0, .int .u8 0, .int .u8 0, .int .u8 0, .int .u8 0, .int .u8 0, .int .u8 0, .int .u8 0, .int .u8 0, .int .u8 0, .int .u8 0, .int .u8 0, .int .u8 0, .int .u8 0, .int .u8 0, .int .u8 0, .int .u8 0, .string ⟨#[]⟩, .int .i64 0, .int .i64 0] := by kernel_rfl
theorem dig0_cells : (digC dig0).toArray = #[.int .u8 0, .int .u8 0, .int .u8 0, .int .u8 0, .int .u8 0, .int .u8 0, .int .u8 0, .int .u8 0, .int .u8 0, .int .u8 0, .int .u8 0, .int .u8 0, .int .u8 0, .int .u8 0, .int .u8 0, .int .u8 0, .int .u8 0, .int .u8 0, .int .u8 0, .int .u8 0, .int .u8 0, .int .u8 0, .int .u8 0, .int .u8 0, .int .u8 0, .int .u8 0, .int .u8 0, .int .u8 0, .int .u8 0, .int .u8 0, .int .u8 0, .int .u8 0] := by kernel_rfl
theorem Blk.there {w : World} {b : Nat} {T : TypeId} {xs : List Value} (h : Blk w b T xs) (o n : Nat) (hl : o + n ≤ xs.length) : w.there b o n := fun j hj =>
  ⟨by rw [h.cell, List.getElem?_eq_getElem (by omega)]; rfl, h.frozen _⟩
theorem Blk.rangeAt {w : World} {b : Nat} {T : TypeId} {xs : List Value} (h : Blk w b T xs) : w.rangeAt b 0 xs := fun j v hv => by rw [Nat.zero_add]; exact h.get hv
theorem Keep.setCells {S : List Nat} {a : World} (b : Nat) (hb : b < a.heap.size → b ∈ S) : ∀ (vs : List Value) (o : Nat) (w : World), Keep S a w → Keep S a (w.setCells b o vs)
  | [], _, _, h => h
  | v :: r, o, w, h => by
    rw [World.setCells]
    exact Keep.setCells b hb r (o + 1) _ (h.setCell _ _ hb)
def getJ (L : List Jar) (d : Dig) : Jar := (findL L d).getD jar0
def hasJ (L : List Jar) (d : Dig) : Bool := (findL L d).isSome

set_option maxRecDepth 100000 in
set_option maxHeartbeats 1000000 in
theorem rack_Get {S : List Nat} (b : Nat) (budget : Int) (L : List Jar) (d : Dig) (w : World) (h : Rk S w b budget L) :
    Calls Try.prog 41 #[.pointer (some ⟨b, 0, none⟩), .agg (digC d).toArray] w fun e w' => e = .returned (.tuple #[.agg (getJ L d).cells.toArray, .bool (hasJ L d)]) ∧ Keep [] w w' := by
  obtain ⟨P, fv, bm, total, pinned, M, I, F, h1, hL, m1, m2, m3⟩ := h
  have hkA := ((Keep.refl [] w).alloc (.cells (digC d).toArray 44)).alloc (.cells jar0.cells.toArray 46)
  have hbA := (Blk.newA w (digC d).toArray 44).alloc (.cells jar0.cells.toArray 46)
  have hbR := Blk.newA (w.alloc (.cells (digC d).toArray 44)) jar0.cells.toArray 46
  have hsz : (w.alloc (.cells (digC d).toArray 44)).heap.size = w.heap.size + 1 := by simp
  rw [hsz] at hbR
  have hF := h1.find hkA d
  have hA := h1.keep0 hkA
  rw [jar0_cells] at hkA hbA hbR hF hA
  have hrg := hbA.rangeAt
  have hdl : (Try.prog.info? 44).map (·.size) = some (digC d).length := by rw [digC_length]; exact dig_size
  generalize hwA : (w.alloc (.cells (digC d).toArray 44)).alloc (.cells #[.int .u8 0, .int .u8 0, .int .u8 0, .int .u8 0, .int .u8 0, .int .u8 0, .int .u8 0, .int .u8 0, .int .u8 0, .int .u8 0, .int .u8 0, .int .u8 0, .int .u8 0, .int .u8 0, .int .u8 0, .int .u8 0, .int .u8 0, .int .u8 0, .int .u8 0, .int .u8 0, .int .u8 0, .int .u8 0, .int .u8 0, .int .u8 0, .int .u8 0, .int .u8 0, .int .u8 0, .int .u8 0, .int .u8 0, .int .u8 0, .int .u8 0, .int .u8 0, .string ⟨#[]⟩, .int .i64 0, .int .i64 0] 46) = wA at hkA hrg hF hA hbR
  generalize digC d = dc at hrg hwA hdl hF
  have HRG := Lib.hid hrg
  have HDL := Lib.hid hdl
  rw [← jar0_cells] at hbR
  have HBR := Lib.hid hbR
  have HKA := Lib.hid hkA
  have HS := Lib.hid (And.intro (show (Try.prog.info? 46).map (·.size) = some jar0.cells.toArray.size by rw [List.size_toArray, Jar.cells_length]; exact jar_size) (all_oneCell_toArray jar0.one))
  by_cases h0 : M d = 0
  · have hf := h1.ring.find_no h0
    rw [← hL] at hf
    have e1 : getJ L d = jar0 := by unfold getJ; rw [hf]; rfl
    have e2 : hasJ L d = false := by unfold hasJ; rw [hf]; rfl
    rw [e1, e2]
    rw [h0, if_pos rfl] at hF
    have HF := Lib.hid hF
    clear h1 hL hrg hdl h0 hf e1 e2 hbA hA hF m1 m2 m3 hkA hbR
    go_enter Try.func41, Try.ntmps41
    go_wp2_with (first
      | (refine wpList_load_mid rfl 44 (.tmp 3) rfl w.heap.size 0 (by rfl) dc _ HRG.out Try.underlying44 rfl HDL.out ?_)
      | fail)
    try simp only [Act.put, List.setIfInBounds_toArray, List.set_cons_succ, List.set_cons_zero]
    try go_wp2_with fail
    refine HF.out.mono ?_
    rintro e w1 ⟨rfl, hk1⟩
    have hb1 := Lib.hid (hk1.blk HBR.out (by simp))
    go_wp2_with (first
      | (refine wpList_store_mid rfl 46 (.tmp 4) (.tmp 16) rfl (w.heap.size + 1) 0 jar0.cells.toArray (by rfl) (by first | rfl | kernel_rfl) (hb1.out.there 0 _ (by simp)) HS.out.1 HS.out.2 ?_)
      | fail)
    have hr := World.rangeAt_setCells_same w1 (w.heap.size + 1) 0 jar0.cells (hb1.out.there 0 _ (by simp [Jar.cells_length]))
    have hload := run_loadVar_mid (P := Try.prog) (w1.setCells (w.heap.size + 1) 0 jar0.cells) (w.heap.size + 1) 0 46 jar0.cells _ hr Try.underlying46 rfl (by rw [Jar.cells_length]; exact jar_size)
    refine bodyPost_ret (v := .tuple #[.agg jar0.cells.toArray, .bool false]) (by simp [results, Try.results41, asAddr, Result.andThen, hload]) rfl ⟨rfl, ?_⟩
    exact Keep.setCells _ (by omega) _ _ _ (HKA.out.trans hk1)
  · have hf := h1.ring.find_yes h0
    have hb65 := h1.ring.at0 h0
    obtain ⟨p, hp⟩ : ∃ p, P[M d]? = some p := ⟨_, List.getElem?_eq_getElem (by have := h1.ring.len; omega)⟩
    have hpj : jarF P (M d) = p.jar := by unfold jarF; rw [getD_get hp]
    rw [hpj] at hf
    have e1 : getJ L d = p.jar := by unfold getJ; rw [hL, hf]; rfl
    have e2 : hasJ L d = true := by unfold hasJ; rw [hL, hf]; rfl
    rw [e1, e2]
    rw [if_neg h0] at hF
    generalize M d = i at hF hb65 hp hpj
    have HF := Lib.hid hF
    have HR := Lib.hid hA
    have HP := Lib.hid hp
    have hi0 : (0 : Int) ≤ (i : Int) := by omega
    have hi1 : (i : Int) < 65 := by omega
    have HL := Lib.hid (show (Try.prog.info? 46).map (·.size) = some p.jar.cells.length by rw [Jar.cells_length]; exact jar_size)
    have HL2 := Lib.hid (show (Try.prog.info? 46).map (·.size) = some p.jar.cells.toArray.size by rw [List.size_toArray, Jar.cells_length]; exact jar_size)
    have H1 := Lib.hid (all_oneCell_toArray p.jar.one)
    clear h1 hL hrg hdl h0 hf e1 e2 hbA hA hF m1 m2 m3 hkA hbR hb65 hp hpj
    go_enter Try.func41, Try.ntmps41
    go_wp2_with (first
      | (refine wpList_load_mid rfl 44 (.tmp 3) rfl w.heap.size 0 (by rfl) dc _ HRG.out Try.underlying44 rfl HDL.out ?_)
      | fail)
    try simp only [Act.put, List.setIfInBounds_toArray, List.set_cons_succ, List.set_cons_zero]
    try go_wp2_with fail
    refine HF.out.mono ?_
    rintro e w1 ⟨rfl, hk1⟩
    have hb1 := Lib.hid (hk1.blk HBR.out (by simp))
    have hR1 := (HR.out.keep0 hk1).blk.range HP.out
    have hR2 : Hid (w1.rangeAt b (i * 37) p.jar.cells) := fun j v hv => by
      refine hR1 j v ?_
      unfold Place.cells
      rw [List.getElem?_append_left (List.getElem?_eq_some_iff.1 hv).1]
      exact hv
    clear hR1
    go_wp2_with (first
      | (refine wpList_load_mid rfl 46 (.tmp 22) rfl b (i * 37) (by rfl) p.jar.cells _ hR2.out Try.underlying46 rfl HL.out ?_)
      | (refine wpList_store_mid rfl 46 (.tmp 4) (.tmp 23) rfl (w.heap.size + 1) 0 p.jar.cells.toArray (by rfl) (by rfl) (hb1.out.there 0 _ (by simp [Jar.cells_length])) HL2.out H1.out ?_)
      | fail)
    try simp only [Act.put, List.setIfInBounds_toArray, List.set_cons_succ, List.set_cons_zero]
    try go_wp2_with fail
    have hwt : w1.there (w.heap.size + 1) 0 p.jar.cells.length := hb1.out.there 0 _ (by simp [Jar.cells_length])
    have hr := World.rangeAt_setCells_same w1 (w.heap.size + 1) 0 p.jar.cells hwt
    have hload := run_loadVar_mid (P := Try.prog) (w1.setCells (w.heap.size + 1) 0 p.jar.cells) (w.heap.size + 1) 0 46 p.jar.cells _ hr Try.underlying46 rfl (by rw [Jar.cells_length]; exact jar_size)
    refine bodyPost_ret (v := .tuple #[.agg p.jar.cells.toArray, .bool true]) (by simp [results, Try.results41, asAddr, Result.andThen, hload]) rfl ⟨rfl, ?_⟩
    exact Keep.setCells _ (by omega) _ _ _ (HKA.out.trans hk1)
end Go.Proofs.Ytbfnpoknamajnaa
