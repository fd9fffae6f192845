/- The pool of cables: contracts of its other functions. No conditions. -/
import Derived.Test.YtbfnpoknamajnaaCab
namespace Go.Proofs.Ytbfnpoknamajnaa
open Go.RowKit

theorem isEmpty_of {s : ByteArray} (h : s.toList = []) : s.toList.isEmpty = true := by simp [h]

set_option maxHeartbeats 400000 in
theorem cable_Owner_yes (b bl : Nat) (L : List Cab) (i : Int) (w : World) (hc : Cabs w b bl L) (h0 : 0 ≤ i) (hi : i < L.length) (c : Cab) (hg : L[i.toNat]? = some c) :
    Calls Try.prog 13 #[.pointer (some ⟨b, 0, none⟩), .int .i64 i] w fun e w' => e = .returned (.tuple #[.int .i64 c.owner, .bool c.busy]) ∧ Keep [] w w' := by
  have c0 := hc.cell hg 0 (by omega)
  have c1 := hc.cell hg 1 (by omega)
  simp only [Cab.cells, List.getElem?_cons_zero, List.getElem?_cons_succ, Nat.add_zero] at c0 c1
  have f := hc.body.frozen
  have hg' := Lib.hid hg
  clear hg
  go_enter Try.func13, Try.ntmps13
  go_wp2_with (go_at_call 50; go_must (refine (cable_find_yes b bl L i _ hc h0 hi).mono ?_; rintro e w1 ⟨rfl, rfl⟩))
  go_quiet (fail)
  go_wp2_with fail
  go_ret2
  exact ⟨rfl, (Keep.refl _ _).drewN _⟩

set_option maxHeartbeats 400000 in
theorem cable_Owner_no (b bl : Nat) (L : List Cab) (i : Int) (w : World) (hc : Cabs w b bl L) (hi : i < 0 ∨ L.length ≤ i) :
    Calls Try.prog 13 #[.pointer (some ⟨b, 0, none⟩), .int .i64 i] w fun e w' => e = .returned (.tuple #[.int .i64 0, .bool false]) ∧ Keep [] w w' := by
  go_enter Try.func13, Try.ntmps13
  go_wp2_with (go_at_call 50; go_must (refine (cable_find_no b bl L i _ hc hi).mono ?_; rintro e w1 ⟨rfl, rfl⟩))
  go_ret2
  exact ⟨rfl, Keep.refl _ _⟩

theorem Cabs.freed {w : World} {b bl : Nat} {L : List Cab} (h : Cabs w b bl L) {i : Nat} {c : Cab} (hi : L[i]? = some c) :
    Cabs ((w.setCell ⟨bl, i * 6, none⟩ (.bool false)).setCell ⟨bl, i * 6 + 1, none⟩ (.int .i64 0)) b bl (L.set i { c with busy := false, owner := 0 }) := by
  have hlt := lt_of_get hi
  have h0 := h.set hi 0 (by omega) (c' := { c with busy := false }) (.bool false) rfl
  have h1 := h0.set (i := i) (c := { c with busy := false }) (by simp [hlt]) 1 (by omega) (c' := { c with busy := false, owner := 0 }) (.int .i64 0) rfl
  simpa using h1

def Cab.freed (c : Cab) (again : Bool) : Cab := if again then { c with busy := false, owner := 0 } else ({ c with busy := false, owner := 0 } : Cab).renew

set_option maxHeartbeats 400000 in
theorem cable_Free_busy (b bl : Nat) (L : List Cab) (i : Int) (again : Bool) (w : World) (hc : Cabs w b bl L) (h0 : 0 ≤ i) (hi : i < L.length) (c : Cab) (hg : L[i.toNat]? = some c) (hb : c.busy = true) :
    Calls Try.prog 14 #[.pointer (some ⟨b, 0, none⟩), .int .i64 i, .bool again] w fun e w' => e = .returned (.tuple #[]) ∧ Cabs w' b bl (L.set i.toNat (c.freed again)) ∧ Keep [bl] w w' := by
  have c0 := hc.cell hg 0 (by omega)
  have c1 := hc.cell hg 1 (by omega)
  simp only [Cab.cells, hb, List.getElem?_cons_zero, List.getElem?_cons_succ, Nat.add_zero] at c0 c1
  have f := hc.body.frozen
  have hlt := lt_of_get hg
  have hf := hc.freed hg
  have hr : (L.set i.toNat { c with busy := false, owner := 0 })[i.toNat]? = some { c with busy := false, owner := 0 } := by simp [hlt]
  have hg' := Lib.hid hg
  clear hg hb
  cases again with
  | true =>
    go_enter Try.func14, Try.ntmps14
    go_wp2_with (go_at_call 50; go_must (refine (cable_find_yes b bl L i _ hc h0 hi).mono ?_; rintro e w1 ⟨rfl, rfl⟩))
    go_end0
    exact ⟨rfl, hf, ((Keep.refl _ _).setCell _ _ (by simp)).setCell _ _ (by simp)⟩
  | false =>
    go_enter Try.func14, Try.ntmps14
    go_wp2_with (first | (go_at_call 50; go_must (refine (cable_find_yes b bl L i _ hc h0 hi).mono ?_; rintro e w1 ⟨rfl, rfl⟩)) | (go_at_call 49; go_must (refine (cable_renew b bl _ i.toNat _ _ hf hr).mono ?_; rintro e w1 ⟨rfl, hc1, hk1⟩)))
    go_end0
    refine ⟨rfl, by simpa [Cab.freed] using hc1, ?_⟩
    exact Keep.trans (((Keep.refl _ _).setCell _ _ (by simp)).setCell _ _ (by simp)) hk1

set_option maxHeartbeats 400000 in
theorem cable_Free_idle (b bl : Nat) (L : List Cab) (i : Int) (again : Bool) (w : World) (hc : Cabs w b bl L) (h0 : 0 ≤ i) (hi : i < L.length) (c : Cab) (hg : L[i.toNat]? = some c) (hb : c.busy = false) :
    Calls Try.prog 14 #[.pointer (some ⟨b, 0, none⟩), .int .i64 i, .bool again] w fun e w' => e = .returned (.tuple #[]) ∧ Keep [] w w' := by
  have c0 := hc.cell hg 0 (by omega)
  simp only [Cab.cells, hb, List.getElem?_cons_zero, List.getElem?_cons_succ, Nat.add_zero] at c0
  have hg' := Lib.hid hg
  clear hg hb
  go_enter Try.func14, Try.ntmps14
  go_wp2_with (go_at_call 50; go_must (refine (cable_find_yes b bl L i _ hc h0 hi).mono ?_; rintro e w1 ⟨rfl, rfl⟩))
  refine bodyPost_ret (results_none rfl _ _ _) rfl ?_
  exact ⟨rfl, Keep.refl _ _⟩

set_option maxHeartbeats 400000 in
theorem cable_Free_no (b bl : Nat) (L : List Cab) (i : Int) (again : Bool) (w : World) (hc : Cabs w b bl L) (hi : i < 0 ∨ L.length ≤ i) :
    Calls Try.prog 14 #[.pointer (some ⟨b, 0, none⟩), .int .i64 i, .bool again] w fun e w' => e = .returned (.tuple #[]) ∧ Keep [] w w' := by
  go_enter Try.func14, Try.ntmps14
  go_wp2_with (go_at_call 50; go_must (refine (cable_find_no b bl L i _ hc hi).mono ?_; rintro e w1 ⟨rfl, rfl⟩))
  refine bodyPost_ret (results_none rfl _ _ _) rfl ?_
  exact ⟨rfl, Keep.refl _ _⟩

set_option maxHeartbeats 400000 in
theorem cable_known_yes (b bl : Nat) (L : List Cab) (i : Int) (w : World) (hc : Cabs w b bl L) (h0 : 0 ≤ i) (hi : i < L.length) :
    Calls Try.prog 57 #[.pointer (some ⟨b, 0, none⟩), .int .i64 i] w fun e w' => e = .returned (.tuple #[.pointer (some ⟨bl, i.toNat * 6, none⟩), .int .i64 0]) ∧ w = w' := by
  go_enter Try.func57, Try.ntmps57
  go_wp2_with (go_at_call 50; go_must (refine (cable_find_yes b bl L i _ hc h0 hi).mono ?_; rintro e w1 ⟨rfl, rfl⟩))
  go_ret2
  exact ⟨rfl, rfl⟩

set_option maxHeartbeats 400000 in
theorem cable_known_no (b bl : Nat) (L : List Cab) (i : Int) (w : World) (hc : Cabs w b bl L) (hi : i < 0 ∨ L.length ≤ i) :
    Calls Try.prog 57 #[.pointer (some ⟨b, 0, none⟩), .int .i64 i] w fun e w' => e = .returned (.tuple #[.pointer none, .int .i64 1]) ∧ w = w' := by
  go_enter Try.func57, Try.ntmps57
  go_wp2_with (go_at_call 50; go_must (refine (cable_find_no b bl L i _ hc hi).mono ?_; rintro e w1 ⟨rfl, rfl⟩))
  go_ret2
  exact ⟨rfl, rfl⟩

set_option maxHeartbeats 400000 in
theorem cable_known_nil (i : Int) (w : World) :
    Calls Try.prog 57 #[.pointer none, .int .i64 i] w fun e w' => e = .returned (.tuple #[.pointer none, .int .i64 2]) ∧ w = w' := by
  go_enter Try.func57, Try.ntmps57
  go_wp2
  go_ret2
  exact ⟨rfl, rfl⟩

set_option maxHeartbeats 400000 in
theorem cable_Send_busy (b bl : Nat) (L : List Cab) (i : Int) (s : ByteArray) (w : World) (hc : Cabs w b bl L) (h0 : 0 ≤ i) (hi : i < L.length) (c : Cab) (hg : L[i.toNat]? = some c) (hb : c.busy = true) (hs : c.out.size + s.size ≤ 9223372036854775807) :
    Calls Try.prog 26 #[.pointer (some ⟨b, 0, none⟩), .int .i64 i, .string s] w fun e w' => e = .returned (.int .i64 0) ∧ Cabs w' b bl (L.set i.toNat { c with out := c.out ++ s }) ∧ Keep [bl] w w' := by
  have c0 := hc.cell hg 0 (by omega)
  have c2 := hc.cell hg 2 (by omega)
  simp only [Cab.cells, hb, List.getElem?_cons_zero, List.getElem?_cons_succ, Nat.add_zero] at c0 c2
  have f := hc.body.frozen
  have hf := hc.set hg 2 (by omega) (c' := { c with out := c.out ++ s }) (.string (c.out ++ s)) rfl
  have hg' := Lib.hid hg
  clear hg hb
  go_enter Try.func26, Try.ntmps26
  go_wp2_with (go_at_call 57; go_must (refine (cable_known_yes b bl L i _ hc h0 hi).mono ?_; rintro e w1 ⟨rfl, rfl⟩))
  go_ret
  exact ⟨rfl, hf, (Keep.refl _ _).setCell _ _ (by simp)⟩

set_option maxHeartbeats 400000 in
theorem cable_Send_idle (b bl : Nat) (L : List Cab) (i : Int) (s : ByteArray) (w : World) (hc : Cabs w b bl L) (h0 : 0 ≤ i) (hi : i < L.length) (c : Cab) (hg : L[i.toNat]? = some c) (hb : c.busy = false) :
    Calls Try.prog 26 #[.pointer (some ⟨b, 0, none⟩), .int .i64 i, .string s] w fun e w' => e = .returned (.int .i64 8) ∧ Keep [] w w' := by
  have c0 := hc.cell hg 0 (by omega)
  simp only [Cab.cells, hb, List.getElem?_cons_zero, List.getElem?_cons_succ, Nat.add_zero] at c0
  have hg' := Lib.hid hg
  clear hg hb
  go_enter Try.func26, Try.ntmps26
  go_wp2_with (go_at_call 57; go_must (refine (cable_known_yes b bl L i _ hc h0 hi).mono ?_; rintro e w1 ⟨rfl, rfl⟩))
  go_ret
  exact ⟨rfl, Keep.refl _ _⟩

set_option maxHeartbeats 400000 in
theorem cable_Send_no (b bl : Nat) (L : List Cab) (i : Int) (s : ByteArray) (w : World) (hc : Cabs w b bl L) (hi : i < 0 ∨ L.length ≤ i) :
    Calls Try.prog 26 #[.pointer (some ⟨b, 0, none⟩), .int .i64 i, .string s] w fun e w' => e = .returned (.int .i64 1) ∧ Keep [] w w' := by
  go_enter Try.func26, Try.ntmps26
  go_wp2_with (go_at_call 57; go_must (refine (cable_known_no b bl L i _ hc hi).mono ?_; rintro e w1 ⟨rfl, rfl⟩))
  go_ret
  exact ⟨rfl, Keep.refl _ _⟩

set_option maxHeartbeats 400000 in
theorem cable_Send_nil (i : Int) (s : ByteArray) (w : World) :
    Calls Try.prog 26 #[.pointer none, .int .i64 i, .string s] w fun e w' => e = .returned (.int .i64 2) ∧ Keep [] w w' := by
  go_enter Try.func26, Try.ntmps26
  go_wp2_with (go_at_call 57; go_must (refine (cable_known_nil i _).mono ?_; rintro e w1 ⟨rfl, rfl⟩))
  go_ret
  exact ⟨rfl, Keep.refl _ _⟩

set_option maxHeartbeats 400000 in
theorem cable_Drain_yes (b bl : Nat) (L : List Cab) (i : Int) (w : World) (hc : Cabs w b bl L) (h0 : 0 ≤ i) (hi : i < L.length) (c : Cab) (hg : L[i.toNat]? = some c) :
    Calls Try.prog 28 #[.pointer (some ⟨b, 0, none⟩), .int .i64 i] w fun e w' => e = .returned (.string c.out) ∧ Cabs w' b bl (L.set i.toNat { c with out := .empty }) ∧ Keep [bl] w w' := by
  have c2 := hc.cell hg 2 (by omega)
  simp only [Cab.cells, List.getElem?_cons_zero, List.getElem?_cons_succ, Nat.add_zero] at c2
  have f := hc.body.frozen
  have hf := hc.set hg 2 (by omega) (c' := { c with out := .empty }) (.string .empty) rfl
  have hg' := Lib.hid hg
  clear hg
  go_enter Try.func28, Try.ntmps28
  go_wp2_with (go_at_call 50; go_must (refine (cable_find_yes b bl L i _ hc h0 hi).mono ?_; rintro e w1 ⟨rfl, rfl⟩))
  go_ret
  exact ⟨rfl, hf, (Keep.refl _ _).setCell _ _ (by simp)⟩

set_option maxHeartbeats 400000 in
theorem cable_Drain_no (b bl : Nat) (L : List Cab) (i : Int) (w : World) (hc : Cabs w b bl L) (hi : i < 0 ∨ L.length ≤ i) :
    Calls Try.prog 28 #[.pointer (some ⟨b, 0, none⟩), .int .i64 i] w fun e w' => e = .returned (.string .empty) ∧ Keep [] w w' := by
  go_enter Try.func28, Try.ntmps28
  go_wp2_with (go_at_call 50; go_must (refine (cable_find_no b bl L i _ hc hi).mono ?_; rintro e w1 ⟨rfl, rfl⟩))
  go_ret
  exact ⟨rfl, Keep.refl _ _⟩

set_option maxHeartbeats 400000 in
theorem cable_Drain_nil (i : Int) (w : World) :
    Calls Try.prog 28 #[.pointer none, .int .i64 i] w fun e w' => e = .returned (.string .empty) ∧ Keep [] w w' := by
  go_enter Try.func28, Try.ntmps28
  go_wp2_with (go_at_call 50; go_must (refine (cable_find_nil i _).mono ?_; rintro e w1 ⟨rfl, rfl⟩))
  go_ret
  exact ⟨rfl, Keep.refl _ _⟩

set_option maxHeartbeats 400000 in
theorem cable_Len (b bl : Nat) (L : List Cab) (w : World) (hc : Cabs w b bl L) :
    Calls Try.prog 34 #[.pointer (some ⟨b, 0, none⟩)] w fun e w' => e = .returned (.int .i64 L.length) ∧ Keep [] w w' := by
  have hh := hc.head.get (k := 0) rfl
  go_enter Try.func34, Try.ntmps34
  go_wp2
  go_ret
  exact ⟨rfl, Keep.refl _ _⟩

set_option maxHeartbeats 400000 in
theorem cable_Len_nil (w : World) :
    Calls Try.prog 34 #[.pointer none] w fun e w' => e = .returned (.int .i64 0) ∧ Keep [] w w' := by
  go_enter Try.func34, Try.ntmps34
  go_wp2
  go_ret
  exact ⟨rfl, Keep.refl _ _⟩

set_option maxHeartbeats 400000 in
theorem cable_Life_yes (b bl : Nat) (L : List Cab) (i : Int) (w : World) (hc : Cabs w b bl L) (h0 : 0 ≤ i) (hi : i < L.length) (c : Cab) (hg : L[i.toNat]? = some c) :
    Calls Try.prog 33 #[.pointer (some ⟨b, 0, none⟩), .int .i64 i] w fun e w' => e = .returned (.int .i64 c.life) ∧ w' = w := by
  have c2 := hc.cell hg 5 (by omega)
  simp only [Cab.cells, List.getElem?_cons_zero, List.getElem?_cons_succ, Nat.add_zero] at c2
  have hg' := Lib.hid hg
  clear hg
  go_enter Try.func33, Try.ntmps33
  go_wp2_with (go_at_call 50; go_must (refine (cable_find_yes b bl L i _ hc h0 hi).mono ?_; rintro e w1 ⟨rfl, rfl⟩))
  go_ret
  exact ⟨rfl, rfl⟩

set_option maxHeartbeats 400000 in
theorem cable_Life_nil (i : Int) (w : World) :
    Calls Try.prog 33 #[.pointer none, .int .i64 i] w fun e w' => e = .returned (.int .i64 0) ∧ Keep [] w w' := by
  go_enter Try.func33, Try.ntmps33
  go_wp2_with (go_at_call 50; go_must (refine (cable_find_nil i _).mono ?_; rintro e w1 ⟨rfl, rfl⟩))
  go_ret
  exact ⟨rfl, Keep.refl _ _⟩

set_option maxHeartbeats 400000 in
theorem cable_Free_nil (i : Int) (again : Bool) (w : World) :
    Calls Try.prog 14 #[.pointer none, .int .i64 i, .bool again] w fun e w' => e = .returned (.tuple #[]) ∧ Keep [] w w' := by
  go_enter Try.func14, Try.ntmps14
  go_wp2_with (go_at_call 50; go_must (refine (cable_find_nil i _).mono ?_; rintro e w1 ⟨rfl, rfl⟩))
  refine bodyPost_ret (results_none rfl _ _ _) rfl ?_
  exact ⟨rfl, Keep.refl _ _⟩

set_option maxHeartbeats 400000 in
theorem cable_Come_cut (b bl : Nat) (L : List Cab) (i : Int) (s : ByteArray) (w : World) (hc : Cabs w b bl L) (h0 : 0 ≤ i) (hi : i < L.length) (c : Cab) (hg : L[i.toNat]? = some c) (hb : c.cut = true) :
    Calls Try.prog 29 #[.pointer (some ⟨b, 0, none⟩), .int .i64 i, .string s] w fun e w' => e = .returned (.int .i64 0) ∧ Keep [] w w' := by
  have c0 := hc.cell hg 4 (by omega)
  simp only [Cab.cells, hb, List.getElem?_cons_zero, List.getElem?_cons_succ, Nat.add_zero] at c0
  have hg' := Lib.hid hg
  clear hg hb
  go_enter Try.func29, Try.ntmps29
  go_wp2_with (go_at_call 57; go_must (refine (cable_known_yes b bl L i _ hc h0 hi).mono ?_; rintro e w1 ⟨rfl, rfl⟩))
  go_ret
  exact ⟨rfl, Keep.refl _ _⟩

set_option maxHeartbeats 400000 in
theorem cable_Come_more (b bl : Nat) (L : List Cab) (i : Int) (s : ByteArray) (w : World) (hc : Cabs w b bl L) (h0 : 0 ≤ i) (hi : i < L.length) (c : Cab) (hg : L[i.toNat]? = some c) (hb : c.cut = false)
    (hs : c.inn.size + s.size ≤ 16384) :
    Calls Try.prog 29 #[.pointer (some ⟨b, 0, none⟩), .int .i64 i, .string s] w fun e w' => e = .returned (.int .i64 0) ∧ Cabs w' b bl (L.set i.toNat { c with inn := c.inn ++ s }) ∧ Keep [bl] w w' := by
  have c0 := hc.cell hg 4 (by omega)
  have c3 := hc.cell hg 3 (by omega)
  simp only [Cab.cells, hb, List.getElem?_cons_zero, List.getElem?_cons_succ, Nat.add_zero] at c0 c3
  have f := hc.body.frozen
  have hf := hc.set hg 3 (by omega) (c' := { c with inn := c.inn ++ s }) (.string (c.inn ++ s)) rfl
  have hg' := Lib.hid hg
  clear hg hb
  go_enter Try.func29, Try.ntmps29
  go_wp2_with (go_at_call 57; go_must (refine (cable_known_yes b bl L i _ hc h0 hi).mono ?_; rintro e w1 ⟨rfl, rfl⟩))
  go_ret
  exact ⟨rfl, hf, (Keep.refl _ _).setCell _ _ (by simp)⟩

set_option maxHeartbeats 400000 in
theorem cable_Come_full (b bl : Nat) (L : List Cab) (i : Int) (s : ByteArray) (w : World) (hc : Cabs w b bl L) (h0 : 0 ≤ i) (hi : i < L.length) (c : Cab) (hg : L[i.toNat]? = some c) (hb : c.cut = false)
    (hcn : c.inn.size ≤ 16384) (hs : 16384 < c.inn.size + s.size) (hm : s.size ≤ 9223372036854775807) :
    Calls Try.prog 29 #[.pointer (some ⟨b, 0, none⟩), .int .i64 i, .string s] w fun e w' => e = .returned (.int .i64 6) ∧ Keep [] w w' := by
  have c0 := hc.cell hg 4 (by omega)
  have c3 := hc.cell hg 3 (by omega)
  simp only [Cab.cells, hb, List.getElem?_cons_zero, List.getElem?_cons_succ, Nat.add_zero] at c0 c3
  have f := hc.body.frozen
  have hg' := Lib.hid hg
  clear hg hb
  go_enter Try.func29, Try.ntmps29
  go_wp2_with (go_at_call 57; go_must (refine (cable_known_yes b bl L i _ hc h0 hi).mono ?_; rintro e w1 ⟨rfl, rfl⟩))
  go_ret
  exact ⟨rfl, Keep.refl _ _⟩

set_option maxHeartbeats 400000 in
theorem cable_Come_no (b bl : Nat) (L : List Cab) (i : Int) (s : ByteArray) (w : World) (hc : Cabs w b bl L) (hi : i < 0 ∨ L.length ≤ i) :
    Calls Try.prog 29 #[.pointer (some ⟨b, 0, none⟩), .int .i64 i, .string s] w fun e w' => e = .returned (.int .i64 1) ∧ Keep [] w w' := by
  go_enter Try.func29, Try.ntmps29
  go_wp2_with (go_at_call 57; go_must (refine (cable_known_no b bl L i _ hc hi).mono ?_; rintro e w1 ⟨rfl, rfl⟩))
  go_ret
  exact ⟨rfl, Keep.refl _ _⟩

set_option maxHeartbeats 400000 in
theorem cable_Come_nil (i : Int) (s : ByteArray) (w : World) :
    Calls Try.prog 29 #[.pointer none, .int .i64 i, .string s] w fun e w' => e = .returned (.int .i64 2) ∧ Keep [] w w' := by
  go_enter Try.func29, Try.ntmps29
  go_wp2_with (go_at_call 57; go_must (refine (cable_known_nil i _).mono ?_; rintro e w1 ⟨rfl, rfl⟩))
  go_ret
  exact ⟨rfl, Keep.refl _ _⟩

set_option maxHeartbeats 400000 in
theorem cable_Cut_yes (b bl : Nat) (L : List Cab) (i : Int) (w : World) (hc : Cabs w b bl L) (h0 : 0 ≤ i) (hi : i < L.length) (c : Cab) (hg : L[i.toNat]? = some c) :
    Calls Try.prog 31 #[.pointer (some ⟨b, 0, none⟩), .int .i64 i] w fun e w' => e = .returned (.tuple #[]) ∧ Cabs w' b bl (L.set i.toNat { c with cut := true }) ∧ Keep [bl] w w' := by
  have c4 := hc.cell hg 4 (by omega)
  simp only [Cab.cells, List.getElem?_cons_zero, List.getElem?_cons_succ, Nat.add_zero] at c4
  have f := hc.body.frozen
  have hf := hc.set hg 4 (by omega) (c' := { c with cut := true }) (.bool true) rfl
  have hg' := Lib.hid hg
  clear hg
  go_enter Try.func31, Try.ntmps31
  go_wp2_with (go_at_call 50; go_must (refine (cable_find_yes b bl L i _ hc h0 hi).mono ?_; rintro e w1 ⟨rfl, rfl⟩))
  go_end0
  exact ⟨rfl, hf, (Keep.refl _ _).setCell _ _ (by simp)⟩

set_option maxHeartbeats 400000 in
theorem cable_Cut_no (b bl : Nat) (L : List Cab) (i : Int) (w : World) (hc : Cabs w b bl L) (hi : i < 0 ∨ L.length ≤ i) :
    Calls Try.prog 31 #[.pointer (some ⟨b, 0, none⟩), .int .i64 i] w fun e w' => e = .returned (.tuple #[]) ∧ Keep [] w w' := by
  go_enter Try.func31, Try.ntmps31
  go_wp2_with (go_at_call 50; go_must (refine (cable_find_no b bl L i _ hc hi).mono ?_; rintro e w1 ⟨rfl, rfl⟩))
  go_end0
  exact ⟨rfl, Keep.refl _ _⟩

set_option maxHeartbeats 400000 in
theorem cable_Cut_nil (i : Int) (w : World) :
    Calls Try.prog 31 #[.pointer none, .int .i64 i] w fun e w' => e = .returned (.tuple #[]) ∧ Keep [] w w' := by
  go_enter Try.func31, Try.ntmps31
  go_wp2_with (go_at_call 50; go_must (refine (cable_find_nil i _).mono ?_; rintro e w1 ⟨rfl, rfl⟩))
  go_end0
  exact ⟨rfl, Keep.refl _ _⟩

set_option maxHeartbeats 400000 in
theorem cable_Read_yes (b bl : Nat) (L : List Cab) (i : Int) (w : World) (hc : Cabs w b bl L) (h0 : 0 ≤ i) (hi : i < L.length) (c : Cab) (hg : L[i.toNat]? = some c) :
    Calls Try.prog 32 #[.pointer (some ⟨b, 0, none⟩), .int .i64 i] w fun e w' => e = .returned (.tuple #[.string c.inn, .bool c.cut]) ∧ Cabs w' b bl (L.set i.toNat { c with inn := .empty }) ∧ Keep [bl] w w' := by
  have c3 := hc.cell hg 3 (by omega)
  have c4 := hc.cell hg 4 (by omega)
  simp only [Cab.cells, List.getElem?_cons_zero, List.getElem?_cons_succ, Nat.add_zero] at c3 c4
  have f := hc.body.frozen
  have hf := hc.set hg 3 (by omega) (c' := { c with inn := .empty }) (.string .empty) rfl
  have hg' := Lib.hid hg
  clear hg
  go_enter Try.func32, Try.ntmps32
  go_wp2_with (go_at_call 50; go_must (refine (cable_find_yes b bl L i _ hc h0 hi).mono ?_; rintro e w1 ⟨rfl, rfl⟩))
  go_quiet (fail)
  go_wp2_with fail
  go_ret2
  refine ⟨rfl, ?_, ?_⟩
  · exact (hf.keep ((Keep.refl [] _).drewN _) (by simp) (by simp))
  · exact (((Keep.refl _ _).setCell _ _ (by simp)).drewN _)

set_option maxHeartbeats 400000 in
theorem cable_Read_no (b bl : Nat) (L : List Cab) (i : Int) (w : World) (hc : Cabs w b bl L) (hi : i < 0 ∨ L.length ≤ i) :
    Calls Try.prog 32 #[.pointer (some ⟨b, 0, none⟩), .int .i64 i] w fun e w' => e = .returned (.tuple #[.string .empty, .bool false]) ∧ Keep [] w w' := by
  go_enter Try.func32, Try.ntmps32
  go_wp2_with (go_at_call 50; go_must (refine (cable_find_no b bl L i _ hc hi).mono ?_; rintro e w1 ⟨rfl, rfl⟩))
  go_ret2
  exact ⟨rfl, Keep.refl _ _⟩

set_option maxHeartbeats 400000 in
theorem cable_Read_nil (i : Int) (w : World) :
    Calls Try.prog 32 #[.pointer none, .int .i64 i] w fun e w' => e = .returned (.tuple #[.string .empty, .bool false]) ∧ Keep [] w w' := by
  go_enter Try.func32, Try.ntmps32
  go_wp2_with (go_at_call 50; go_must (refine (cable_find_nil i _).mono ?_; rintro e w1 ⟨rfl, rfl⟩))
  go_ret2
  exact ⟨rfl, Keep.refl _ _⟩
end Go.Proofs.Ytbfnpoknamajnaa
