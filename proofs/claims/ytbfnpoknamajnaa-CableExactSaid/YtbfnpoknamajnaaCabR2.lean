/- The document's pool of cables: contracts of Take, Free, Send, Come. No conditions. -/
import Derived.Test.YtbfnpoknamajnaaCabR
namespace Go.Proofs.Ytbfnpoknamajnaa
open Go.RowKit

set_option maxHeartbeats 400000 in
theorem rcable_Take_arg (b : Addr) (o : Int) (w : World) (h : o < 0) :
    Calls Try.prog 24 #[.pointer (some b), .int .i64 o] w fun e w' => e = .returned (.tuple #[.int .i64 0, .int .i64 1]) ∧ Keep [] w w' := by
  go_enter Try.func24, Try.ntmps24
  go_wp2_with fail
  go_ret2
  exact ⟨rfl, Keep.refl _ _⟩

theorem Rcabs.taken {w : World} {b bl : Nat} {L : List Rcab} (h : Rcabs w b bl L) {i : Nat} {c : Rcab} (hi : L[i]? = some c) (o : Int) :
    Rcabs (w.setCell ⟨bl, i * 5, none⟩ (.int .i64 o)) b bl (L.set i { c with owner := o }) :=
  h.set hi 0 (by omega) (c' := { c with owner := o }) (.int .i64 o) rfl

set_option maxHeartbeats 400000 in
theorem rcable_Take_full (b bl : Nat) (L : List Rcab) (o : Int) (w : World) (hc : Rcabs w b bl L) (h : 0 ≤ o) (hall : ∀ c ∈ L, (c.owner == 0) = false) :
    Calls Try.prog 24 #[.pointer (some ⟨b, 0, none⟩), .int .i64 o] w fun e w' => e = .returned (.tuple #[.int .i64 0, .int .i64 6]) ∧ Keep [] w w' := by
  have hl := hc.le
  have hh := hc.head.get (k := 0) rfl
  have ho : ¬ o < 0 := by omega
  have Hall := Lib.hid hall
  clear hall
  go_enter Try.func24, Try.ntmps24
  go_wp2_with fail
  go_loopw [6] (fun i wr => ∃ k : Nat, k ≤ L.length ∧ i = .int .i64 k ∧ Keep [] w wr) (fun i _ => L.length - (intOf i).toNat)
  case atStart => exact ⟨0, Nat.zero_le _, rfl, Keep.refl _ _⟩
  case round =>
    obtain ⟨k, hk, rfl, hkp⟩ := hrel
    have hc' := hc.keep hkp (by simp) (by simp)
    have hh' := hc'.head.get (k := 0) rfl
    clear hh
    by_cases hlt : k < L.length
    · have hi : L[k]? = some L[k] := List.getElem?_eq_getElem hlt
      have c0 := hc'.cell hi 0 (by omega)
      have hb := Hall.out L[k] (List.getElem_mem hlt)
      simp only [Rcab.cells, List.getElem?_cons_zero, Nat.add_zero] at c0
      generalize L[k] = c at c0 hb
      clear hi
      go_wp2_with fail
      go_roundw
      case rel => exact ⟨k + 1, by omega, by go_num, hkp⟩
      case measure => simp [intOf]; omega
    · go_wp2_with fail
      go_ret2
      exact ⟨rfl, hkp⟩

set_option maxHeartbeats 600000 in
theorem rcable_Take (b bl : Nat) (L : List Rcab) (o : Int) (w : World) (hc : Rcabs w b bl L) (h : 0 ≤ o) (ho2 : o < 4611686018427387904) (i : Nat) (c : Rcab) (hi : L[i]? = some c) (hb : (c.owner == 0) = true) (hall : ∀ j (x : Rcab), j < i → L[j]? = some x → (x.owner == 0) = false) :
    Calls Try.prog 24 #[.pointer (some ⟨b, 0, none⟩), .int .i64 o] w fun e w' => e = .returned (.tuple #[.int .i64 i, .int .i64 0]) ∧ Rcabs w' b bl (L.set i { c.ready with owner := o + 1 }) ∧ Keep [bl] w w' := by
  have hl := hc.le
  have hh := hc.head.get (k := 0) rfl
  have ho : ¬ o < 0 := by omega
  have hil := lt_of_get hi
  have Hall := Lib.hid hall
  have he : o % 4611686018427387904 = o := by omega
  have hne := hc.ne
  clear hall
  go_enter Try.func24, Try.ntmps24
  go_wp2_with fail
  go_loopw [6] (fun n wr => ∃ k : Nat, k ≤ i ∧ n = .int .i64 k ∧ Keep [] w wr) (fun n _ => L.length - (intOf n).toNat)
  case atStart => exact ⟨0, Nat.zero_le _, rfl, Keep.refl _ _⟩
  case round =>
    obtain ⟨k, hk, rfl, hkp⟩ := hrel
    have hc' := hc.keep hkp (by simp) (by simp)
    have hh' := hc'.head.get (k := 0) rfl
    clear hh
    by_cases hlt : k < i
    · have hx : L[k]? = some L[k] := List.getElem?_eq_getElem (by omega)
      have c0 := hc'.cell hx 0 (by omega)
      have hbk := Hall.out k L[k] hlt hx
      simp only [Rcab.cells, List.getElem?_cons_zero, Nat.add_zero] at c0
      generalize L[k] = c at c0 hbk
      clear hx
      go_wp2_with fail
      go_roundw
      case rel => exact ⟨k + 1, by omega, by go_num, hkp⟩
      case measure => simp [intOf]; omega
    · obtain rfl : k = i := by omega
      have hfrz := hc'.body.frozen
      have hcell := fun j hj => hc'.cell hi j hj
      have c0 := hcell 0 (by omega)
      have c2 := hcell 2 (by omega)
      have c3 := hcell 3 (by omega)
      clear hcell
      simp only [Rcab.cells, List.getElem?_cons_zero, List.getElem?_cons_succ, Nat.add_zero] at c0 c2 c3
      have hr : (L.set k c.anew)[k]? = some c.anew := by simp [hil]
      by_cases hin : c.inn.toList = []
      · cases hcut : c.cut with
        | false =>
          rw [hcut] at c3
          have e : c.ready = c := by simp [Rcab.ready, hin, hcut]
          have hf := hc'.taken hi (o + 1)
          have hci := Lib.hid hcut
          have he' := Lib.hid e
          clear hlt hcut e hr
          go_wp2_with fail
          go_ret2
          refine ⟨rfl, ?_, (hkp.mono (by simp)).setCell _ _ (by simp)⟩
          rw [he'.out]
          exact hf
        | true =>
          rw [hcut] at c3
          have e : c.ready = c.anew := by simp [Rcab.ready, hcut]
          have hci := Lib.hid hcut
          have he' := Lib.hid e
          clear hlt hcut e
          go_wp2_with (go_at_call 55; go_must (refine (rcable_anew b bl L k c _ hc' hi).mono ?_; rintro e w1 ⟨rfl, hc1, hk1⟩; have f1 := hc1.body.frozen; have d0 := hc1.cell hr 0 (by omega); have d9 := hc1.head.get (k := 0) rfl; simp only [Rcab.cells, List.getElem?_cons_zero, List.getElem?_cons_succ, Nat.add_zero, List.length_set] at d0 d9))
          go_ret2
          refine ⟨rfl, ?_, ?_⟩
          · have := hc1.taken hr (o + 1)
            rw [he'.out]
            simpa using this
          · exact ((hkp.mono (by simp)).trans' hk1 (by simp)).setCell _ _ (by simp)
      · have hin2 : c.inn.toList.isEmpty = false := by simpa using hin
        have e : c.ready = c.anew := by simp [Rcab.ready, hin]
        have hii := Lib.hid hin
        have he' := Lib.hid e
        clear hlt hin e
        go_wp2_with (go_at_call 55; go_must (refine (rcable_anew b bl L k c _ hc' hi).mono ?_; rintro e w1 ⟨rfl, hc1, hk1⟩; have f1 := hc1.body.frozen; have d0 := hc1.cell hr 0 (by omega); have d9 := hc1.head.get (k := 0) rfl; simp only [Rcab.cells, List.getElem?_cons_zero, List.getElem?_cons_succ, Nat.add_zero, List.length_set] at d0 d9))
        go_ret2
        refine ⟨rfl, ?_, ?_⟩
        · have := hc1.taken hr (o + 1)
          rw [he'.out]
          simpa using this
        · exact ((hkp.mono (by simp)).trans' hk1 (by simp)).setCell _ _ (by simp)

set_option maxHeartbeats 400000 in
theorem rcable_Free_busy (b bl : Nat) (L : List Rcab) (i : Int) (again : Bool) (w : World) (hc : Rcabs w b bl L) (h0 : 0 ≤ i) (hi : i < L.length) (c : Rcab) (hg : L[i.toNat]? = some c) (hb : (c.owner == 0) = false) :
    Calls Try.prog 25 #[.pointer (some ⟨b, 0, none⟩), .int .i64 i, .bool again] w fun e w' => e = .returned (.tuple #[]) ∧ Rcabs w' b bl (L.set i.toNat (c.freed again)) ∧ Keep [bl] w w' := by
  obtain ⟨n, rfl⟩ := Int.eq_ofNat_of_zero_le h0
  simp only [Int.toNat_natCast] at hg ⊢
  have hl := hc.le
  have hh := hc.head.get (k := 0) rfl
  have c0 := hc.cell hg 0 (by omega)
  simp only [Rcab.cells, List.getElem?_cons_zero, List.getElem?_cons_succ, Nat.add_zero] at c0
  have f := hc.body.frozen
  have hne := hc.ne
  have hlt := lt_of_get hg
  have hf := hc.taken hg 0
  have hr : (L.set n { c with owner := 0 })[n]? = some { c with owner := 0 } := by simp [hlt]
  have hv : true = decide (0 ≤ (n : Int) ∧ (n : Int) < L.length) := by simp [hlt]
  have hv' := Lib.hid hv
  have hg' := Lib.hid hg
  clear hg hv
  cases again with
  | true =>
    go_enter Try.func25, Try.ntmps25
    go_wp2_with (go_at_call 56; go_must (refine (rcable_has b bl L n _ hc true hv'.out).mono ?_; rintro e w1 ⟨rfl, rfl⟩))
    go_end0
    exact ⟨rfl, hf, (Keep.refl _ _).setCell _ _ (by simp)⟩
  | false =>
    go_enter Try.func25, Try.ntmps25
    go_wp2_with (first | (go_at_call 56; go_must (refine (rcable_has b bl L n _ hc true hv'.out).mono ?_; rintro e w1 ⟨rfl, rfl⟩)) | (go_at_call 55; go_must (refine (rcable_anew b bl _ n _ _ hf hr).mono ?_; rintro e w1 ⟨rfl, hc1, hk1⟩)))
    go_end0
    refine ⟨rfl, by simpa [Rcab.freed] using hc1, ?_⟩
    exact Keep.trans ((Keep.refl _ _).setCell _ _ (by simp)) hk1

set_option maxHeartbeats 400000 in
theorem rcable_Free_idle (b bl : Nat) (L : List Rcab) (i : Int) (again : Bool) (w : World) (hc : Rcabs w b bl L) (h0 : 0 ≤ i) (hi : i < L.length) (c : Rcab) (hg : L[i.toNat]? = some c) (hb : (c.owner == 0) = true) :
    Calls Try.prog 25 #[.pointer (some ⟨b, 0, none⟩), .int .i64 i, .bool again] w fun e w' => e = .returned (.tuple #[]) ∧ Keep [] w w' := by
  obtain ⟨n, rfl⟩ := Int.eq_ofNat_of_zero_le h0
  simp only [Int.toNat_natCast] at hg ⊢
  have hl := hc.le
  have hh := hc.head.get (k := 0) rfl
  have c0 := hc.cell hg 0 (by omega)
  simp only [Rcab.cells, List.getElem?_cons_zero, List.getElem?_cons_succ, Nat.add_zero] at c0
  have hv : true = decide (0 ≤ (n : Int) ∧ (n : Int) < L.length) := by simp; omega
  have hv' := Lib.hid hv
  have hg' := Lib.hid hg
  clear hg hv
  go_enter Try.func25, Try.ntmps25
  go_wp2_with (go_at_call 56; go_must (refine (rcable_has b bl L n _ hc true hv'.out).mono ?_; rintro e w1 ⟨rfl, rfl⟩))
  refine bodyPost_ret (results_none rfl _ _ _) rfl ?_
  exact ⟨rfl, Keep.refl _ _⟩

set_option maxHeartbeats 400000 in
theorem rcable_Free_no (b bl : Nat) (L : List Rcab) (i : Int) (again : Bool) (w : World) (hc : Rcabs w b bl L) (hi : i < 0 ∨ L.length ≤ i) :
    Calls Try.prog 25 #[.pointer (some ⟨b, 0, none⟩), .int .i64 i, .bool again] w fun e w' => e = .returned (.tuple #[]) ∧ Keep [] w w' := by
  have hv : false = decide (0 ≤ i ∧ i < L.length) := by simp; omega
  have hv' := Lib.hid hv
  clear hv
  go_enter Try.func25, Try.ntmps25
  go_wp2_with (go_at_call 56; go_must (refine (rcable_has b bl L i _ hc false hv'.out).mono ?_; rintro e w1 ⟨rfl, rfl⟩))
  refine bodyPost_ret (results_none rfl _ _ _) rfl ?_
  exact ⟨rfl, Keep.refl _ _⟩

set_option maxHeartbeats 400000 in
theorem rcable_Send_busy (b bl : Nat) (L : List Rcab) (i : Int) (s : ByteArray) (w : World) (hc : Rcabs w b bl L) (h0 : 0 ≤ i) (hi : i < L.length) (c : Rcab) (hg : L[i.toNat]? = some c) (hb : (c.owner == 0) = false) (hs : c.out.size + s.size ≤ 9223372036854775807) :
    Calls Try.prog 27 #[.pointer (some ⟨b, 0, none⟩), .int .i64 i, .string s] w fun e w' => e = .returned (.int .i64 0) ∧ Rcabs w' b bl (L.set i.toNat { c with out := c.out ++ s }) ∧ Keep [bl] w w' := by
  obtain ⟨n, rfl⟩ := Int.eq_ofNat_of_zero_le h0
  simp only [Int.toNat_natCast] at hg ⊢
  have hl := hc.le
  have hh := hc.head.get (k := 0) rfl
  have c0 := hc.cell hg 0 (by omega)
  have c1 := hc.cell hg 1 (by omega)
  simp only [Rcab.cells, List.getElem?_cons_zero, List.getElem?_cons_succ, Nat.add_zero] at c0 c1
  have f := hc.body.frozen
  have hf := hc.set hg 1 (by omega) (c' := { c with out := c.out ++ s }) (.string (c.out ++ s)) rfl
  have hne := hc.ne
  have hlt := lt_of_get hg
  have hv : true = decide (0 ≤ (n : Int) ∧ (n : Int) < L.length) := by simp [hlt]
  have hv' := Lib.hid hv
  have hg' := Lib.hid hg
  clear hg hv
  go_enter Try.func27, Try.ntmps27
  go_wp2_with (go_at_call 56; go_must (refine (rcable_has b bl L n _ hc true hv'.out).mono ?_; rintro e w1 ⟨rfl, rfl⟩))
  go_region
  go_wp2_with fail
  go_ret
  refine ⟨rfl, ?_, ?_⟩
  · exact hf.keep ((Keep.refl [] _).drew) (by simp) (by simp)
  · exact ((Keep.refl _ _).setCell _ _ (by simp)).drew

set_option maxHeartbeats 400000 in
theorem rcable_Send_idle (b bl : Nat) (L : List Rcab) (i : Int) (s : ByteArray) (w : World) (hc : Rcabs w b bl L) (h0 : 0 ≤ i) (hi : i < L.length) (c : Rcab) (hg : L[i.toNat]? = some c) (hb : (c.owner == 0) = true) :
    Calls Try.prog 27 #[.pointer (some ⟨b, 0, none⟩), .int .i64 i, .string s] w fun e w' => e = .returned (.int .i64 8) ∧ Keep [] w w' := by
  obtain ⟨n, rfl⟩ := Int.eq_ofNat_of_zero_le h0
  simp only [Int.toNat_natCast] at hg ⊢
  have hl := hc.le
  have hh := hc.head.get (k := 0) rfl
  have c0 := hc.cell hg 0 (by omega)
  simp only [Rcab.cells, List.getElem?_cons_zero, List.getElem?_cons_succ, Nat.add_zero] at c0
  have hlt := lt_of_get hg
  have hv : true = decide (0 ≤ (n : Int) ∧ (n : Int) < L.length) := by simp [hlt]
  have hv' := Lib.hid hv
  have hg' := Lib.hid hg
  clear hg hv
  go_enter Try.func27, Try.ntmps27
  go_wp2_with (go_at_call 56; go_must (refine (rcable_has b bl L n _ hc true hv'.out).mono ?_; rintro e w1 ⟨rfl, rfl⟩))
  go_ret
  exact ⟨rfl, Keep.refl _ _⟩

set_option maxHeartbeats 400000 in
theorem rcable_Send_no (b bl : Nat) (L : List Rcab) (i : Int) (s : ByteArray) (w : World) (hc : Rcabs w b bl L) (hi : i < 0 ∨ L.length ≤ i) :
    Calls Try.prog 27 #[.pointer (some ⟨b, 0, none⟩), .int .i64 i, .string s] w fun e w' => e = .returned (.int .i64 1) ∧ Keep [] w w' := by
  have hv : false = decide (0 ≤ i ∧ i < L.length) := by simp; omega
  have hv' := Lib.hid hv
  clear hv
  go_enter Try.func27, Try.ntmps27
  go_wp2_with (go_at_call 56; go_must (refine (rcable_has b bl L i _ hc false hv'.out).mono ?_; rintro e w1 ⟨rfl, rfl⟩))
  go_ret
  exact ⟨rfl, Keep.refl _ _⟩

set_option maxHeartbeats 400000 in
theorem rcable_Come_more (b bl : Nat) (L : List Rcab) (i : Int) (s : ByteArray) (w : World) (hc : Rcabs w b bl L) (h0 : 0 ≤ i) (hi : i < L.length) (c : Rcab) (hg : L[i.toNat]? = some c) (hb : c.cut = false) (hs : c.inn.size + s.size ≤ 16384) :
    Calls Try.prog 30 #[.pointer (some ⟨b, 0, none⟩), .int .i64 i, .string s] w fun e w' => e = .returned (.int .i64 0) ∧ Rcabs w' b bl (L.set i.toNat { c with inn := c.inn ++ s }) ∧ Keep [bl] w w' := by
  obtain ⟨n, rfl⟩ := Int.eq_ofNat_of_zero_le h0
  simp only [Int.toNat_natCast] at hg ⊢
  have hl := hc.le
  have hh := hc.head.get (k := 0) rfl
  have c2 := hc.cell hg 2 (by omega)
  have c3 := hc.cell hg 3 (by omega)
  simp only [Rcab.cells, hb, List.getElem?_cons_zero, List.getElem?_cons_succ, Nat.add_zero] at c2 c3
  have f := hc.body.frozen
  have hf := hc.set hg 2 (by omega) (c' := { c with inn := c.inn ++ s }) (.string (c.inn ++ s)) rfl
  have hne := hc.ne
  have hlt := lt_of_get hg
  have hv : true = decide (0 ≤ (n : Int) ∧ (n : Int) < L.length) := by simp [hlt]
  have hv' := Lib.hid hv
  have hg' := Lib.hid hg
  clear hg hv hb
  go_enter Try.func30, Try.ntmps30
  go_wp2_with (go_at_call 56; go_must (refine (rcable_has b bl L n _ hc true hv'.out).mono ?_; rintro e w1 ⟨rfl, rfl⟩))
  go_region
  go_wp2_with fail
  go_ret
  refine ⟨rfl, ?_, ?_⟩
  · exact hf.keep ((Keep.refl [] _).drew) (by simp) (by simp)
  · exact ((Keep.refl _ _).setCell _ _ (by simp)).drew

set_option maxHeartbeats 400000 in
theorem rcable_Come_cut (b bl : Nat) (L : List Rcab) (i : Int) (s : ByteArray) (w : World) (hc : Rcabs w b bl L) (h0 : 0 ≤ i) (hi : i < L.length) (c : Rcab) (hg : L[i.toNat]? = some c) (hb : c.cut = true) :
    Calls Try.prog 30 #[.pointer (some ⟨b, 0, none⟩), .int .i64 i, .string s] w fun e w' => e = .returned (.int .i64 0) ∧ Keep [] w w' := by
  obtain ⟨n, rfl⟩ := Int.eq_ofNat_of_zero_le h0
  simp only [Int.toNat_natCast] at hg ⊢
  have hl := hc.le
  have hh := hc.head.get (k := 0) rfl
  have c3 := hc.cell hg 3 (by omega)
  simp only [Rcab.cells, hb, List.getElem?_cons_zero, List.getElem?_cons_succ, Nat.add_zero] at c3
  have hlt := lt_of_get hg
  have hv : true = decide (0 ≤ (n : Int) ∧ (n : Int) < L.length) := by simp [hlt]
  have hv' := Lib.hid hv
  have hg' := Lib.hid hg
  clear hg hv hb
  go_enter Try.func30, Try.ntmps30
  go_wp2_with (go_at_call 56; go_must (refine (rcable_has b bl L n _ hc true hv'.out).mono ?_; rintro e w1 ⟨rfl, rfl⟩))
  go_ret
  exact ⟨rfl, Keep.refl _ _⟩

set_option maxHeartbeats 400000 in
theorem rcable_Come_full (b bl : Nat) (L : List Rcab) (i : Int) (s : ByteArray) (w : World) (hc : Rcabs w b bl L) (h0 : 0 ≤ i) (hi : i < L.length) (c : Rcab) (hg : L[i.toNat]? = some c) (hb : c.cut = false) (hcn : c.inn.size ≤ 16384) (hs : 16384 < c.inn.size + s.size) (hm : s.size ≤ 9223372036854775807) :
    Calls Try.prog 30 #[.pointer (some ⟨b, 0, none⟩), .int .i64 i, .string s] w fun e w' => e = .returned (.int .i64 6) ∧ Keep [] w w' := by
  obtain ⟨n, rfl⟩ := Int.eq_ofNat_of_zero_le h0
  simp only [Int.toNat_natCast] at hg ⊢
  have hl := hc.le
  have hh := hc.head.get (k := 0) rfl
  have c2 := hc.cell hg 2 (by omega)
  have c3 := hc.cell hg 3 (by omega)
  simp only [Rcab.cells, hb, List.getElem?_cons_zero, List.getElem?_cons_succ, Nat.add_zero] at c2 c3
  have hlt := lt_of_get hg
  have hv : true = decide (0 ≤ (n : Int) ∧ (n : Int) < L.length) := by simp [hlt]
  have hv' := Lib.hid hv
  have hg' := Lib.hid hg
  clear hg hv hb
  go_enter Try.func30, Try.ntmps30
  go_wp2_with (go_at_call 56; go_must (refine (rcable_has b bl L n _ hc true hv'.out).mono ?_; rintro e w1 ⟨rfl, rfl⟩))
  go_ret
  exact ⟨rfl, Keep.refl _ _⟩

set_option maxHeartbeats 400000 in
theorem rcable_Come_no (b bl : Nat) (L : List Rcab) (i : Int) (s : ByteArray) (w : World) (hc : Rcabs w b bl L) (hi : i < 0 ∨ L.length ≤ i) :
    Calls Try.prog 30 #[.pointer (some ⟨b, 0, none⟩), .int .i64 i, .string s] w fun e w' => e = .returned (.int .i64 1) ∧ Keep [] w w' := by
  have hv : false = decide (0 ≤ i ∧ i < L.length) := by simp; omega
  have hv' := Lib.hid hv
  clear hv
  go_enter Try.func30, Try.ntmps30
  go_wp2_with (go_at_call 56; go_must (refine (rcable_has b bl L i _ hc false hv'.out).mono ?_; rintro e w1 ⟨rfl, rfl⟩))
  go_ret
  exact ⟨rfl, Keep.refl _ _⟩
end Go.Proofs.Ytbfnpoknamajnaa
