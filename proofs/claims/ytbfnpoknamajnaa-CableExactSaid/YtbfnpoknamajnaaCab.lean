/- The pool of cables: what its memory is, and one contract for each of its functions. No conditions. -/
import Derived.Test.YtbfnpoknamajnaaHeap
import Derived.Deep.QuietTactic
import Derived.BigQuiet
namespace Go.Proofs.Ytbfnpoknamajnaa
open Go.RowKit

theorem lt_of_get {α : Type} {L : List α} {i : Nat} {x : α} (h : L[i]? = some x) : i < L.length := by
  rcases Nat.lt_or_ge i L.length with h' | h'
  · exact h'
  · rw [List.getElem?_eq_none h'] at h; cases h

structure Cab where
  busy : Bool
  owner : Int
  out : ByteArray
  inn : ByteArray
  cut : Bool
  life : Int

def Cab.cells (c : Cab) : List Value := [.bool c.busy, .int .i64 c.owner, .string c.out, .string c.inn, .bool c.cut, .int .i64 c.life]
theorem Cab.cells_length (c : Cab) : c.cells.length = 6 := rfl
def Cab.zero : Cab := ⟨false, 0, .empty, .empty, false, 0⟩
def Cab.renew (c : Cab) : Cab := ⟨c.busy, c.owner, .empty, .empty, false, wrap64 (c.life + 1)⟩

def Cab.ready (c : Cab) : Cab := if c.inn.toList = [] ∧ c.cut = false then c else c.renew

/-- At b lies a pool, its cables at bl. -/
structure Cabs (w : World) (b bl : Nat) (L : List Cab) : Prop where
  head : Blk w b 90 [.slice (some ⟨bl, 0, none⟩) L.length L.length]
  body : Blk w bl 93 (rows Cab.cells L)
  ne : b ≠ bl
  le : L.length ≤ 8

theorem Cabs.cell {w : World} {b bl : Nat} {L : List Cab} (h : Cabs w b bl L) {i : Nat} {c : Cab} (hi : L[i]? = some c) (k : Nat) (hk : k < 6) : w.cell? ⟨bl, i * 6 + k, none⟩ = c.cells[k]? := by
  rw [h.body.cell, rows_get' Cab.cells_length L i k c hi hk]
theorem Cabs.set {w : World} {b bl : Nat} {L : List Cab} (h : Cabs w b bl L) {i : Nat} {c c' : Cab} (hi : L[i]? = some c) (k : Nat) (hk : k < 6) (v : Value) (e : c'.cells = c.cells.set k v) : Cabs (w.setCell ⟨bl, i * 6 + k, none⟩ v) b bl (L.set i c') := by
  refine ⟨?_, ?_, h.ne, by simpa using h.le⟩
  · have := h.head.setOther (a := ⟨bl, i * 6 + k, none⟩) h.ne v
    simpa using this
  · have := h.body.set (i * 6 + k) v
    rwa [rows_set' Cab.cells_length L i k c c' v hi hk e] at this
theorem Cabs.keep {w w' : World} {b bl : Nat} {L : List Cab} {S : List Nat} (h : Cabs w b bl L) (k : Keep S w w') (h1 : b ∉ S) (h2 : bl ∉ S) : Cabs w' b bl L :=
  ⟨k.blk h.head h1, k.blk h.body h2, h.ne, h.le⟩

theorem Cabs.renewed {w : World} {b bl : Nat} {L : List Cab} (h : Cabs w b bl L) {i : Nat} {c : Cab} (hi : L[i]? = some c) :
    Cabs ((((((w.setCell ⟨bl, i * 6, none⟩ (.bool c.busy)).setCell ⟨bl, i * 6 + 1, none⟩ (.int .i64 c.owner)).setCell ⟨bl, i * 6 + 2, none⟩ (.string ⟨#[]⟩)).setCell ⟨bl, i * 6 + 3, none⟩ (.string ⟨#[]⟩)).setCell ⟨bl, i * 6 + 4, none⟩ (.bool false)).setCell ⟨bl, i * 6 + 5, none⟩ (.int .i64 (wrap64 (c.life + 1)))) b bl (L.set i c.renew) := by
  have hlt := lt_of_get hi
  have h0 := h.set hi 0 (by omega) (c' := c) (.bool c.busy) rfl
  have h1 := h0.set (i := i) (c := c) (by simp [hlt]) 1 (by omega) (c' := c) (.int .i64 c.owner) rfl
  have h2 := h1.set (i := i) (c := c) (by simp [hlt]) 2 (by omega) (c' := { c with out := ⟨#[]⟩ }) (.string ⟨#[]⟩) rfl
  have h3 := h2.set (i := i) (c := { c with out := ⟨#[]⟩ }) (by simp [hlt]) 3 (by omega) (c' := { c with out := ⟨#[]⟩, inn := ⟨#[]⟩ }) (.string ⟨#[]⟩) rfl
  have h4 := h3.set (i := i) (c := { c with out := ⟨#[]⟩, inn := ⟨#[]⟩ }) (by simp [hlt]) 4 (by omega) (c' := { c with out := ⟨#[]⟩, inn := ⟨#[]⟩, cut := false }) (.bool false) rfl
  have h5 := h4.set (i := i) (c := { c with out := ⟨#[]⟩, inn := ⟨#[]⟩, cut := false }) (by simp [hlt]) 5 (by omega) (c' := c.renew) (.int .i64 (wrap64 (c.life + 1))) rfl
  simpa using h5
theorem Cabs.taken {w : World} {b bl : Nat} {L : List Cab} (h : Cabs w b bl L) {i : Nat} {c : Cab} (hi : L[i]? = some c) (o : Int) :
    Cabs ((w.setCell ⟨bl, i * 6, none⟩ (.bool true)).setCell ⟨bl, i * 6 + 1, none⟩ (.int .i64 o)) b bl (L.set i { c with busy := true, owner := o }) := by
  have hlt := lt_of_get hi
  have h0 := h.set hi 0 (by omega) (c' := { c with busy := true }) (.bool true) rfl
  have h1 := h0.set (i := i) (c := { c with busy := true }) (by simp [hlt]) 1 (by omega) (c' := { c with busy := true, owner := o }) (.int .i64 o) rfl
  simpa using h1
theorem Cabs.alloc {w : World} {b bl : Nat} {L : List Cab} (h : Cabs w b bl L) (o : Obj) : Cabs (w.alloc o) b bl L := ⟨h.head.alloc o, h.body.alloc o, h.ne, h.le⟩
theorem Cabs.setOther {w : World} {b bl : Nat} {L : List Cab} (h : Cabs w b bl L) {a : Addr} (h1 : b ≠ a.block) (h2 : bl ≠ a.block) (v : Value) : Cabs (w.setCell a v) b bl L := ⟨h.head.setOther h1 v, h.body.setOther h2 v, h.ne, h.le⟩
theorem Cabs.drew {w : World} {b bl : Nat} {L : List Cab} (h : Cabs w b bl L) : Cabs w.drew b bl L := ⟨h.head, h.body, h.ne, h.le⟩

theorem cableInfo : (Try.prog.info? 93).map (fun i => (i.zero, i.size, i.bytes)) = some (some (.agg Cab.zero.cells.toArray), 6, 64) := by kernel_rfl

set_option maxHeartbeats 400000 in
theorem cable_New_bad (n : Int) (w : World) (h : n < 1 ∨ 8 < n) :
    Calls Try.prog 11 #[.int .i64 n] w fun e w' => e = .returned (.tuple #[.pointer none, .int .i64 1]) ∧ w = w' := by
  rcases h with h | h
  · go_enter Try.func11, Try.ntmps11
    go_wp2
    go_ret2
    exact ⟨rfl, rfl⟩
  · have h' : ¬ n < 1 := by omega
    go_enter Try.func11, Try.ntmps11
    go_wp2
    go_ret2
    exact ⟨rfl, rfl⟩

set_option maxHeartbeats 400000 in
theorem cable_New (n : Int) (w : World) (h1 : 1 ≤ n) (h8 : n ≤ 8) :
    Calls Try.prog 11 #[.int .i64 n] w fun e w' => ∃ b bl, e = .returned (.tuple #[.pointer (some ⟨b, 0, none⟩), .int .i64 0]) ∧ Cabs w' b bl (List.replicate n.toNat Cab.zero) ∧ w.heap.size ≤ b ∧ w.heap.size ≤ bl ∧ Keep [] w w' := by
  obtain ⟨m, rfl⟩ := Int.eq_ofNat_of_zero_le (show 0 ≤ n by omega)
  obtain ⟨i0, hi, hz0, hz1, hz2⟩ := info_parts cableInfo
  have hmk := run_make (P := Try.prog) w 88 93 i0 _ Try.underlying88 hi hz0 .i64 .i64 m m (by omega) (by omega) (by rw [hz2]; omega) (by omega)
  rw [hz1] at hmk
  have hrows := made_rows Cab.cells_length (by omega) Cab.zero m
  have e : madeCells (Value.agg Cab.zero.cells.toArray).cells (m * 6) = (rows Cab.cells (List.replicate m Cab.zero)).toArray := by
    rw [← hrows]; rfl
  simp only [Int.toNat_natCast] at hmk ⊢
  rw [e] at hmk
  generalize hR : rows Cab.cells (List.replicate m Cab.zero) = R at hmk
  have HR := Lib.hid hR
  clear hR e hrows hi hz0 hz1 hz2
  have H1 : decide ((m : Int) < 1) = false := by simp; omega
  have H2 : decide (8 < (m : Int)) = false := by simp; omega
  have h1' := Lib.hid h1
  have h8' := Lib.hid h8
  clear h1 h8
  go_enter Try.func11, Try.ntmps11
  go_wp2_with fail
  go_ret2
  have h8 := h8'.out
  have hnew := Blk.newA w R.toArray 93
  simp only [List.toList_toArray] at hnew
  refine ⟨w.heap.size + 1, w.heap.size, rfl, ⟨?_, ?_, by omega, by simp; omega⟩, by omega, by omega, ?_⟩
  · have := Blk.new (w.alloc (.cells R.toArray 93)) [.slice (some ⟨w.heap.size, 0, none⟩) m m] 90
    simpa using this
  · rw [HR.out]
    exact hnew.alloc _
  · exact ((Keep.refl _ _).alloc _).alloc _

set_option maxHeartbeats 400000 in
theorem cable_find_no (b bl : Nat) (L : List Cab) (i : Int) (w : World) (hc : Cabs w b bl L) (hi : i < 0 ∨ L.length ≤ i) :
    Calls Try.prog 50 #[.pointer (some ⟨b, 0, none⟩), .int .i64 i] w fun e w' => e = .returned (.pointer none) ∧ w = w' := by
  have hl := hc.le
  have hh := hc.head.get (k := 0) rfl
  rcases hi with h | h
  · go_enter Try.func50, Try.ntmps50
    go_wp2
    go_ret
    exact ⟨rfl, rfl⟩
  · have h' : ¬ i < 0 := by omega
    go_enter Try.func50, Try.ntmps50
    go_wp2
    go_ret
    exact ⟨rfl, rfl⟩

set_option maxHeartbeats 400000 in
theorem cable_find_yes (b bl : Nat) (L : List Cab) (i : Int) (w : World) (hc : Cabs w b bl L) (h0 : 0 ≤ i) (hi : i < L.length) :
    Calls Try.prog 50 #[.pointer (some ⟨b, 0, none⟩), .int .i64 i] w fun e w' => e = .returned (.pointer (some ⟨bl, i.toNat * 6, none⟩)) ∧ w = w' := by
  have hl := hc.le
  have hh := hc.head.get (k := 0) rfl
  go_enter Try.func50, Try.ntmps50
  go_wp2
  go_ret
  exact ⟨rfl, rfl⟩

set_option maxHeartbeats 400000 in
theorem cable_find_nil (i : Int) (w : World) :
    Calls Try.prog 50 #[.pointer none, .int .i64 i] w fun e w' => e = .returned (.pointer none) ∧ w = w' := by
  go_enter Try.func50, Try.ntmps50
  go_wp2
  go_ret
  exact ⟨rfl, rfl⟩

set_option maxHeartbeats 400000 in
theorem cable_renew (b bl : Nat) (L : List Cab) (i : Nat) (c : Cab) (w : World) (hc : Cabs w b bl L) (hi : L[i]? = some c) :
    Calls Try.prog 49 #[.pointer (some ⟨bl, i * 6, none⟩)] w fun e w' => e = .returned (.tuple #[]) ∧ Cabs w' b bl (L.set i c.renew) ∧ Keep [bl] w w' := by
  have c0 := hc.cell hi 0 (by omega)
  have c1 := hc.cell hi 1 (by omega)
  have c2 := hc.cell hi 2 (by omega)
  have c3 := hc.cell hi 3 (by omega)
  have c4 := hc.cell hi 4 (by omega)
  have c5 := hc.cell hi 5 (by omega)
  simp only [Cab.cells, List.getElem?_cons_zero, List.getElem?_cons_succ, Nat.add_zero] at c0 c1 c2 c3 c4 c5
  have f := hc.body.frozen
  go_enter Try.func49, Try.ntmps49
  go_wp2
  go_region
  all_goals go_end0
  refine ⟨rfl, ?_, ?_⟩
  · exact (hc.renewed hi).drew
  · repeat (first | (with_reducible apply Keep.drew) | (with_reducible refine Keep.setCell ?_ _ _ (by simp)))
    exact Keep.refl _ _

set_option maxHeartbeats 400000 in
theorem cable_Take_arg (b : Option Addr) (o : Int) (w : World) (h : o < 0) (hb : b ≠ none) :
    Calls Try.prog 12 #[.pointer b, .int .i64 o] w fun e w' => e = .returned (.tuple #[.int .i64 0, .int .i64 1]) ∧ Keep [] w w' := by
  cases b with
  | none => exact absurd rfl hb
  | some b =>
    go_enter Try.func12, Try.ntmps12
    go_wp2
    go_ret2
    exact ⟨rfl, Keep.refl _ _⟩

set_option maxHeartbeats 400000 in
theorem cable_Take_nil (o : Int) (w : World) :
    Calls Try.prog 12 #[.pointer none, .int .i64 o] w fun e w' => e = .returned (.tuple #[.int .i64 0, .int .i64 2]) ∧ Keep [] w w' := by
  go_enter Try.func12, Try.ntmps12
  go_wp2
  go_ret2
  exact ⟨rfl, Keep.refl _ _⟩

set_option maxHeartbeats 400000 in
theorem cable_Take_full (b bl : Nat) (L : List Cab) (o : Int) (w : World) (hc : Cabs w b bl L) (h : 0 ≤ o) (hall : ∀ c ∈ L, c.busy = true) :
    Calls Try.prog 12 #[.pointer (some ⟨b, 0, none⟩), .int .i64 o] w fun e w' => e = .returned (.tuple #[.int .i64 0, .int .i64 6]) ∧ Keep [] w w' := by
  have hl := hc.le
  have hh := hc.head.get (k := 0) rfl
  have ho : ¬ o < 0 := by omega
  have Hall := Lib.hid hall
  clear hall
  go_enter Try.func12, Try.ntmps12
  go_wp2_with fail
  go_loopw [19] (fun i wr => ∃ k : Nat, k ≤ L.length ∧ i = .int .i64 k ∧ Keep [] w wr) (fun i _ => L.length - (intOf i).toNat)
  case atStart => exact ⟨0, Nat.zero_le _, rfl, Keep.refl _ _⟩
  case round =>
    obtain ⟨k, hk, rfl, hkp⟩ := hrel
    have hc' := hc.keep hkp (by simp) (by simp)
    have hh' := hc'.head.get (k := 0) rfl
    by_cases hlt : k < L.length
    · have hi : L[k]? = some L[k] := List.getElem?_eq_getElem hlt
      have c0 := hc'.cell hi 0 (by omega)
      have hb := Hall.out L[k] (List.getElem_mem hlt)
      simp only [Cab.cells, hb, List.getElem?_cons_zero, Nat.add_zero] at c0
      clear hb hi hh
      go_wp2_with fail
      go_roundw
      case rel => exact ⟨k + 1, by omega, by go_num, hkp⟩
      case measure => simp [intOf]; omega
    · go_wp2_with fail
      go_ret2
      exact ⟨rfl, hkp⟩

set_option maxHeartbeats 400000 in
theorem cable_Take (b bl : Nat) (L : List Cab) (o : Int) (w : World) (hc : Cabs w b bl L) (h : 0 ≤ o) (i : Nat) (c : Cab) (hi : L[i]? = some c) (hb : c.busy = false) (hall : ∀ j (x : Cab), j < i → L[j]? = some x → x.busy = true) :
    Calls Try.prog 12 #[.pointer (some ⟨b, 0, none⟩), .int .i64 o] w fun e w' => e = .returned (.tuple #[.int .i64 i, .int .i64 0]) ∧ Cabs w' b bl (L.set i { c.ready with busy := true, owner := o }) ∧ Keep [bl] w w' := by
  have hl := hc.le
  have hh := hc.head.get (k := 0) rfl
  have ho : ¬ o < 0 := by omega
  have hil : i < L.length := by
    rcases Nat.lt_or_ge i L.length with h' | h'
    · exact h'
    · rw [List.getElem?_eq_none h'] at hi; cases hi
  go_enter Try.func12, Try.ntmps12
  go_wp2_with fail
  go_loopw [19] (fun n wr => ∃ k : Nat, k ≤ i ∧ n = .int .i64 k ∧ Keep [] w wr) (fun n _ => L.length - (intOf n).toNat)
  case atStart => exact ⟨0, Nat.zero_le _, rfl, Keep.refl _ _⟩
  case round =>
    obtain ⟨k, hk, rfl, hkp⟩ := hrel
    have hc' := hc.keep hkp (by simp) (by simp)
    have hh' := hc'.head.get (k := 0) rfl
    clear hh
    by_cases hlt : k < i
    · have hx : L[k]? = some L[k] := List.getElem?_eq_getElem (by omega)
      have c0 := hc'.cell hx 0 (by omega)
      have hbk := hall k L[k] hlt hx
      simp only [Cab.cells, hbk, List.getElem?_cons_zero, Nat.add_zero] at c0
      clear hbk hx
      go_wp2_with fail
      go_roundw
      case rel => exact ⟨k + 1, by omega, by go_num, hkp⟩
      case measure => simp [intOf]; omega
    · obtain rfl : k = i := by omega
      have hfrz := hc'.body.frozen
      have hcell := fun j hj => hc'.cell hi j hj
      have c0 := hcell 0 (by omega)
      have c1 := hcell 1 (by omega)
      have c3 := hcell 3 (by omega)
      have c4 := hcell 4 (by omega)
      clear hcell
      simp only [Cab.cells, hb, List.getElem?_cons_zero, List.getElem?_cons_succ, Nat.add_zero] at c0 c1 c3 c4
      by_cases hin : c.inn.toList = []
      · cases hcut : c.cut with
        | false =>
          rw [hcut] at c4
          clear hlt
          go_wp2_with fail
          go_ret2
          refine ⟨rfl, ?_, ?_⟩
          · have e : c.ready = c := by simp [Cab.ready, hin, hcut]
            rw [e]
            exact hc'.taken hi o
          · repeat (first | (with_reducible apply Keep.drew) | (with_reducible refine Keep.setCell ?_ _ _ (by simp)))
            exact hkp.mono (by simp)
        | true =>
          rw [hcut] at c4
          have hci := Lib.hid hcut
          clear hlt hcut
          have hr : (L.set k c.renew)[k]? = some c.renew := by simp [hil]
          go_wp2_with (go_at_call 49; go_must (refine (cable_renew b bl L k c _ hc' hi).mono ?_; rintro e w1 ⟨rfl, hc1, hk1⟩; have f1 := hc1.body.frozen; have d0 := hc1.cell hr 0 (by omega); have d1 := hc1.cell hr 1 (by omega); simp only [Cab.cells, List.getElem?_cons_zero, List.getElem?_cons_succ, Nat.add_zero] at d0 d1))
          go_ret2
          refine ⟨rfl, ?_, ?_⟩
          · have e : c.ready = c.renew := by simp [Cab.ready, hci.out]
            rw [e]
            have := hc1.taken hr o
            simpa using this
          · repeat (first | (with_reducible apply Keep.drew) | (with_reducible refine Keep.setCell ?_ _ _ (by simp)))
            exact (hkp.mono (by simp)).trans' hk1 (by simp)
      · have hin2 : c.inn.toList.isEmpty = false := by simpa using hin
        have hr : (L.set k c.renew)[k]? = some c.renew := by simp [hil]
        have hii := Lib.hid hin
        clear hlt hin
        go_wp2_with (go_at_call 49; go_must (refine (cable_renew b bl L k c _ hc' hi).mono ?_; rintro e w1 ⟨rfl, hc1, hk1⟩; have f1 := hc1.body.frozen; have d0 := hc1.cell hr 0 (by omega); have d1 := hc1.cell hr 1 (by omega); simp only [Cab.cells, List.getElem?_cons_zero, List.getElem?_cons_succ, Nat.add_zero] at d0 d1))
        go_ret2
        refine ⟨rfl, ?_, ?_⟩
        · have e : c.ready = c.renew := by simp [Cab.ready, hii.out]
          rw [e]
          have := hc1.taken hr o
          simpa using this
        · repeat (first | (with_reducible apply Keep.drew) | (with_reducible refine Keep.setCell ?_ _ _ (by simp)))
          exact (hkp.mono (by simp)).trans' hk1 (by simp)
end Go.Proofs.Ytbfnpoknamajnaa
