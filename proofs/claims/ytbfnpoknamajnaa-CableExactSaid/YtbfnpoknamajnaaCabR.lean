/- The document's pool of cables: its memory, and one contract for each of its functions. No conditions. -/
import Derived.Test.YtbfnpoknamajnaaCab2
namespace Go.Proofs.Ytbfnpoknamajnaa
open Go.RowKit

structure Rcab where
  owner : Int
  out : ByteArray
  inn : ByteArray
  cut : Bool
  life : Int

def Rcab.cells (c : Rcab) : List Value := [.int .i64 c.owner, .string c.out, .string c.inn, .bool c.cut, .int .i64 c.life]
theorem Rcab.cells_length (c : Rcab) : c.cells.length = 5 := rfl
def Rcab.zero : Rcab := ⟨0, .empty, .empty, false, 0⟩
def Rcab.anew (c : Rcab) : Rcab := ⟨c.owner, .empty, .empty, false, wrap64 (c.life + 1)⟩
def Rcab.ready (c : Rcab) : Rcab := if c.inn.toList = [] ∧ c.cut = false then c else c.anew
def Rcab.freed (c : Rcab) (again : Bool) : Rcab := if again then { c with owner := 0 } else ({ c with owner := 0 } : Rcab).anew

structure Rcabs (w : World) (b bl : Nat) (L : List Rcab) : Prop where
  head : Blk w b 63 [.slice (some ⟨bl, 0, none⟩) L.length L.length]
  body : Blk w bl 60 (rows Rcab.cells L)
  ne : b ≠ bl
  le : L.length ≤ 8

theorem Rcabs.cell {w : World} {b bl : Nat} {L : List Rcab} (h : Rcabs w b bl L) {i : Nat} {c : Rcab} (hi : L[i]? = some c) (k : Nat) (hk : k < 5) : w.cell? ⟨bl, i * 5 + k, none⟩ = c.cells[k]? := by
  rw [h.body.cell, rows_get' Rcab.cells_length L i k c hi hk]
theorem Rcabs.set {w : World} {b bl : Nat} {L : List Rcab} (h : Rcabs w b bl L) {i : Nat} {c c' : Rcab} (hi : L[i]? = some c) (k : Nat) (hk : k < 5) (v : Value) (e : c'.cells = c.cells.set k v) : Rcabs (w.setCell ⟨bl, i * 5 + k, none⟩ v) b bl (L.set i c') := by
  refine ⟨?_, ?_, h.ne, by simpa using h.le⟩
  · have := h.head.setOther (a := ⟨bl, i * 5 + k, none⟩) h.ne v
    simpa using this
  · have := h.body.set (i * 5 + k) v
    rwa [rows_set' Rcab.cells_length L i k c c' v hi hk e] at this
theorem Rcabs.keep {w w' : World} {b bl : Nat} {L : List Rcab} {S : List Nat} (h : Rcabs w b bl L) (k : Keep S w w') (h1 : b ∉ S) (h2 : bl ∉ S) : Rcabs w' b bl L :=
  ⟨k.blk h.head h1, k.blk h.body h2, h.ne, h.le⟩
theorem Rcabs.renewed {w : World} {b bl : Nat} {L : List Rcab} (h : Rcabs w b bl L) {i : Nat} {c : Rcab} (hi : L[i]? = some c) :
    Rcabs (((((w.setCell ⟨bl, i * 5, none⟩ (.int .i64 c.owner)).setCell ⟨bl, i * 5 + 1, none⟩ (.string ⟨#[]⟩)).setCell ⟨bl, i * 5 + 2, none⟩ (.string ⟨#[]⟩)).setCell ⟨bl, i * 5 + 3, none⟩ (.bool false)).setCell ⟨bl, i * 5 + 4, none⟩ (.int .i64 (wrap64 (c.life + 1)))) b bl (L.set i c.anew) := by
  have hlt := lt_of_get hi
  have h1 := h.set hi 0 (by omega) (c' := c) (.int .i64 c.owner) rfl
  have h2 := h1.set (i := i) (c := c) (by simp [hlt]) 1 (by omega) (c' := { c with out := ⟨#[]⟩ }) (.string ⟨#[]⟩) rfl
  have h3 := h2.set (i := i) (c := { c with out := ⟨#[]⟩ }) (by simp [hlt]) 2 (by omega) (c' := { c with out := ⟨#[]⟩, inn := ⟨#[]⟩ }) (.string ⟨#[]⟩) rfl
  have h4 := h3.set (i := i) (c := { c with out := ⟨#[]⟩, inn := ⟨#[]⟩ }) (by simp [hlt]) 3 (by omega) (c' := { c with out := ⟨#[]⟩, inn := ⟨#[]⟩, cut := false }) (.bool false) rfl
  have h5 := h4.set (i := i) (c := { c with out := ⟨#[]⟩, inn := ⟨#[]⟩, cut := false }) (by simp [hlt]) 4 (by omega) (c' := c.anew) (.int .i64 (wrap64 (c.life + 1))) rfl
  simpa using h5

theorem rcableInfo : (Try.prog.info? 60).map (fun i => (i.zero, i.size, i.bytes)) = some (some (.agg Rcab.zero.cells.toArray), 5, 56) := by kernel_rfl

set_option maxHeartbeats 400000 in
theorem rcable_New (n : Int) (w : World) (h1 : 1 ≤ n) (h8 : n ≤ 8) :
    Calls Try.prog 23 #[.int .i64 n] w fun e w' => ∃ b bl, e = .returned (.pointer (some ⟨b, 0, none⟩)) ∧ Rcabs w' b bl (List.replicate n.toNat Rcab.zero) ∧ w.heap.size ≤ b ∧ w.heap.size ≤ bl ∧ Keep [] w w' := by
  obtain ⟨m, rfl⟩ := Int.eq_ofNat_of_zero_le (show 0 ≤ n by omega)
  obtain ⟨i0, hi, hz0, hz1, hz2⟩ := info_parts rcableInfo
  have hmk := run_make (P := Try.prog) w 61 60 i0 _ Try.underlying61 hi hz0 .i64 .i64 m m (by omega) (by omega) (by rw [hz2]; omega) (by omega)
  rw [hz1] at hmk
  have hrows := made_rows Rcab.cells_length (by omega) Rcab.zero m
  have e : madeCells (Value.agg Rcab.zero.cells.toArray).cells (m * 5) = (rows Rcab.cells (List.replicate m Rcab.zero)).toArray := by
    rw [← hrows]; rfl
  simp only [Int.toNat_natCast] at hmk ⊢
  rw [e] at hmk
  generalize hR : rows Rcab.cells (List.replicate m Rcab.zero) = R at hmk
  have HR := Lib.hid hR
  clear hR e hrows hi hz0 hz1 hz2
  have h1' := Lib.hid h1
  have h8' := Lib.hid h8
  clear h1 h8
  go_enter Try.func23, Try.ntmps23
  go_wp2_with fail
  go_ret
  have h8 := h8'.out
  have hnew := Blk.newA w R.toArray 60
  refine ⟨w.heap.size + 1, w.heap.size, rfl, ⟨?_, ?_, by omega, by simp; omega⟩, by omega, by omega, ?_⟩
  · have := Blk.new (w.alloc (.cells R.toArray 60)) [.slice (some ⟨w.heap.size, 0, none⟩) m m] 63
    simpa using this
  · rw [HR.out]
    exact hnew.alloc _
  · exact ((Keep.refl _ _).alloc _).alloc _

set_option maxHeartbeats 400000 in
theorem rcable_has (b bl : Nat) (L : List Rcab) (i : Int) (w : World) (hc : Rcabs w b bl L) (v : Bool) (hv : v = decide (0 ≤ i ∧ i < L.length)) :
    Calls Try.prog 56 #[.pointer (some ⟨b, 0, none⟩), .int .i64 i] w fun e w' => e = .returned (.bool v) ∧ w = w' := by
  have hl := hc.le
  have hh := hc.head.get (k := 0) rfl
  have hv' := Lib.hid hv
  clear hv
  by_cases h : 0 ≤ i
  · by_cases h2 : i < L.length
    · go_enter Try.func56, Try.ntmps56
      go_wp2
      go_ret
      refine ⟨?_, rfl⟩
      rw [hv'.out]; simp [h, h2]
    · go_enter Try.func56, Try.ntmps56
      go_wp2
      go_ret
      refine ⟨?_, rfl⟩
      rw [hv'.out]; simp; omega
  · go_enter Try.func56, Try.ntmps56
    go_wp2
    go_ret
    refine ⟨?_, rfl⟩
    rw [hv'.out]; simp; omega

set_option maxHeartbeats 1000000 in
theorem rcable_anew (b bl : Nat) (L : List Rcab) (i : Nat) (c : Rcab) (w : World) (hc : Rcabs w b bl L) (hi : L[i]? = some c) :
    Calls Try.prog 55 #[.pointer (some ⟨b, 0, none⟩), .int .i64 i] w fun e w' => e = .returned (.tuple #[]) ∧ Rcabs w' b bl (L.set i c.anew) ∧ Keep [bl] w w' := by
  have hl := hc.le
  have hlt := lt_of_get hi
  have hh := hc.head.get (k := 0) rfl
  have hne := hc.ne
  have c0 := hc.cell hi 0 (by omega)
  have c1 := hc.cell hi 1 (by omega)
  have c2 := hc.cell hi 2 (by omega)
  have c3 := hc.cell hi 3 (by omega)
  have c4 := hc.cell hi 4 (by omega)
  simp only [Rcab.cells, List.getElem?_cons_zero, List.getElem?_cons_succ, Nat.add_zero] at c0 c1 c2 c3 c4
  have f := hc.body.frozen
  have hf := hc.renewed hi
  have hi' := Lib.hid hi
  clear hi
  go_enter Try.func55, Try.ntmps55
  go_wp2
  go_region
  all_goals go_end0
  refine ⟨rfl, ?_, ?_⟩
  · exact hf.keep ((Keep.refl [] _).drew) (by simp) (by simp)
  · repeat (first | (with_reducible apply Keep.drew) | (with_reducible refine Keep.setCell ?_ _ _ (by simp)))
    exact Keep.refl _ _
end Go.Proofs.Ytbfnpoknamajnaa
