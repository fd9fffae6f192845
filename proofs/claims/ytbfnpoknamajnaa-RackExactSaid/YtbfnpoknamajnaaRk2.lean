/- Layer 21: unlink. No conditions. -/
import Derived.Test.YtbfnpoknamajnaaRk1
namespace Go.Proofs.Ytbfnpoknamajnaa
open Go.RowKit Go.Maps

/-- a place less in the ring -/
def unlinkP (P : List Place) (i : Nat) : List Place :=
  let x := P.getD i default
  let P1 := P.set x.prev { P.getD x.prev default with next := x.next }
  P1.set x.next { P1.getD x.next default with prev := x.prev }
theorem unlinkP_length (P : List Place) (i : Nat) : (unlinkP P i).length = P.length := by simp [unlinkP]
theorem place_size : (Try.prog.info? 97).map (·.size) = some 37 := by kernel_rfl
theorem jar_size : (Try.prog.info? 46).map (·.size) = some 35 := by kernel_rfl
theorem dig_size : (Try.prog.info? 44).map (·.size) = some 32 := by kernel_rfl
theorem RkBlk.range {w : World} {b : Nat} {P : List Place} {fv : Value} {bm : Nat} {budget total pinned : Int} (h : RkBlk w b P fv bm budget total pinned) {k : Nat} {p : Place} (hk : P[k]? = some p) : w.rangeAt b (k * 37) p.cells := fun j v hv => by
  have hj : j < 37 := by have := (List.getElem?_eq_some_iff.1 hv).1; rwa [Place.cells_length] at this
  rw [h.cell hk j hj]; exact hv

set_option maxRecDepth 100000 in
set_option maxHeartbeats 1000000 in
theorem rack_unlink (b : Nat) (P : List Place) (fv : Value) (bm : Nat) (budget total pinned : Int) (i : Nat) (w : World) (h : RkBlk w b P fv bm budget total pinned) (hi : i < 65) (hn : (P.getD i default).next < 65) (hp : (P.getD i default).prev < 65) :
    Calls Try.prog 54 #[.pointer (some ⟨b, 0, none⟩), .int .i64 (i : Nat)] w fun e w' => e = .returned (.tuple #[]) ∧ RkBlk w' b (unlinkP P i) fv bm budget total pinned ∧ Keep [b] w w' := by
  have h65 := h.1
  obtain ⟨pi, hpi⟩ : ∃ p, P[i]? = some p := ⟨_, List.getElem?_eq_getElem (by omega)⟩
  rw [getD_get hpi] at hn hp
  have hr := h.range hpi
  have hi0 : (0 : Int) ≤ (i : Int) := by omega
  have hi1 : (i : Int) < 65 := by omega
  have hpl := Place.cells_length pi
  have hsz : (Try.prog.info? 97).map (·.size) = some pi.cells.length := by rw [hpl]; exact place_size
  have HR := Lib.hid hr
  have HSZ := Lib.hid hsz
  clear hr hsz hpl
  have H1 := Lib.hid pi.one
  have HL := Lib.hid (Place.cells_length pi)
  go_enter Try.func54, Try.ntmps54
  go_wp2_with (first
    | (refine wpList_load_mid rfl 97 (.tmp 9) rfl b (i * 37) (by rfl) pi.cells _ HR.out Try.underlying97 rfl HSZ.out ?_)
    | (refine wpList_store_new rfl 97 (.tmp 4) (.tmp 10) rfl _ pi.cells (by rfl) (by rfl) HSZ.out (by rw [HL.out]; rfl) H1.out ?_)
    | fail)
  simp only [Act.put, List.setIfInBounds_toArray, List.set_cons_succ, List.set_cons_zero]
  have hA : RkBlk (w.alloc (.cells pi.cells.toArray 97)) b P fv bm budget total pinned := ⟨h.1, h.2.alloc _⟩
  have hN := Blk.newA w pi.cells.toArray 97
  have hkA := (Keep.refl [b] w).alloc (.cells pi.cells.toArray 97)
  have hne : w.heap.size ≠ b := by have := h.2.lt; omega
  generalize w.alloc (.cells pi.cells.toArray 97) = wA at hA hN hkA
  have n5 := hN.get (k := 35) (by rw [List.toList_toArray]; exact Place.at35 pi)
  have n6 := hN.get (k := 36) (by rw [List.toList_toArray]; exact Place.at36 pi)
  generalize hnx : pi.next = nx at hn n5
  generalize hpv : pi.prev = pv at hp n6
  obtain ⟨pp, hpp⟩ : ∃ p, P[pv]? = some p := ⟨_, List.getElem?_eq_getElem (by omega)⟩
  obtain ⟨P1, hP1⟩ : ∃ P1, P1 = P.set pv { pp with next := nx } := ⟨_, rfl⟩
  obtain ⟨pn, hpn⟩ : ∃ p, P1[nx]? = some p := ⟨_, List.getElem?_eq_getElem (by rw [hP1]; simp; omega)⟩
  obtain ⟨pn0, hpn0⟩ : ∃ p, P[nx]? = some p := ⟨_, List.getElem?_eq_getElem (by omega)⟩
  have c5 := hA.cell hpp 35 (by omega)
  have c6 := hA.cell hpn0 36 (by omega)
  rw [Place.at35] at c5
  rw [Place.at36] at c6
  have hfr := hA.2.frozen
  have hfin : unlinkP P i = P1.set nx { pn with prev := pv } := by
    unfold unlinkP
    simp only [getD_get hpi, hnx, hpv, getD_get hpp, ← hP1, getD_get hpn]
  have h1 := hA.setP (q := { pp with next := nx }) hpp 35 (by omega) (.int .i64 nx) (Place.set35 pp nx)
  rw [← hP1] at h1
  have h2 := h1.setP (q := { pn with prev := pv }) hpn 36 (by omega) (.int .i64 pv) (Place.set36 pn pv)
  rw [← hfin] at h2
  have HF := Lib.hid (And.intro h2 hkA)
  have hn0 : (0 : Int) ≤ (nx : Int) := by omega
  have hn1 : (nx : Int) < 65 := by omega
  have hp0 : (0 : Int) ≤ (pv : Int) := by omega
  have hp1 : (pv : Int) < 65 := by omega
  clear h hA hN hkA hnx hpv hpp hP1 hpn hpn0 hfin h1 h2 hpi
  go_region
  go_end0
  refine ⟨rfl, HF.out.1, ((HF.out.2.setCell _ _ (by simp)).setCell _ _ (by simp)).drew⟩
end Go.Proofs.Ytbfnpoknamajnaa
