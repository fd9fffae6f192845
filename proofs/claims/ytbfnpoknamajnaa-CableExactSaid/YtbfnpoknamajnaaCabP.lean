/- The statement CableParts: its function answers true for every input. No conditions. -/
import Derived.Test.YtbfnpoknamajnaaCabA
import Derived.Deep.Cut
import Derived.Deep.CutRange
import Derived.Deep.DeepCutAuto
namespace Go.Proofs.Ytbfnpoknamajnaa
open Go.RowKit

theorem bytes_nil {s : ByteArray} (h : s.toList = []) : s = .empty := by
  have : s.data.toList = [] := by rw [← ByteArray.toList_eq]; exact h
  apply ByteArray.ext
  apply Array.toList_inj.1
  simpa using this

theorem empty_append (s : ByteArray) : ByteArray.empty ++ s = s := by
  apply ByteArray.ext
  simp [ByteArray.data_append]

theorem Cab.ready_inn (c : Cab) : c.ready.inn = .empty := by
  unfold Cab.ready
  split
  · rename_i h
    exact bytes_nil h.1
  · rfl
theorem Cab.ready_cut (c : Cab) : c.ready.cut = false := by
  unfold Cab.ready
  split
  · rename_i h
    exact h.2
  · rfl

/-- what comes -/
def Cab.come (c : Cab) (s : ByteArray) : Cab := if c.cut then c else { c with inn := c.inn ++ s }

theorem Cab.come_size (c : Cab) (s : ByteArray) : (c.come s).inn.size ≤ c.inn.size + s.size := by
  unfold Cab.come
  split
  · omega
  · simp
theorem Cab.come_busy (c : Cab) (s : ByteArray) : (c.come s).busy = c.busy := by
  unfold Cab.come
  split <;> rfl
theorem Cab.freed_size (c : Cab) (again : Bool) : (c.freed again).inn.size ≤ c.inn.size := by
  cases again
  · simp [Cab.freed, Cab.renew]
  · simp [Cab.freed]
theorem Cab.freed_busy (c : Cab) (again : Bool) : (c.freed again).busy = false := by
  cases again <;> rfl

theorem cable_Come_any (b bl : Nat) (L : List Cab) (i : Int) (s : ByteArray) (w : World) (hc : Cabs w b bl L) (h0 : 0 ≤ i) (hi : i < L.length) (c : Cab) (hg : L[i.toNat]? = some c) (hs : c.inn.size + s.size ≤ 16384) :
    Calls Try.prog 29 #[.pointer (some ⟨b, 0, none⟩), .int .i64 i, .string s] w fun e w' => e = .returned (.int .i64 0) ∧ Cabs w' b bl (L.set i.toNat (c.come s)) ∧ Keep [bl] w w' := by
  cases hb : c.cut with
  | true =>
    refine (cable_Come_cut b bl L i s w hc h0 hi c hg hb).mono ?_
    rintro e w' ⟨he, hk⟩
    refine ⟨he, ?_, hk.mono (by simp)⟩
    rw [Cab.come, if_pos hb, list_set_self _ _ _ hg]
    exact hc.keep hk (by simp) (by simp)
  | false =>
    refine (cable_Come_more b bl L i s w hc h0 hi c hg hb hs).mono ?_
    rintro e w' ⟨he, hc', hk⟩
    refine ⟨he, ?_, hk⟩
    rw [Cab.come, if_neg (by simp [hb])]
    exact hc'

set_option maxRecDepth 100000 in
set_option maxHeartbeats 400000 in
theorem cableParts_big (a b left : ByteArray) (again cut : Bool) (w : World) (h : 1024 < a.size ∨ 1024 < b.size ∨ 1024 < left.size) :
    Calls Try.prog 6 #[.string a, .string b, .string left, .bool again, .bool cut] w fun e w' => e = .returned (.bool true) ∧ Keep [] w w' := by
  by_cases ha : 1024 < a.size
  · go_enter Try.func6, Try.ntmps6
    go_wp2_with (go_at_call 10; go_must (refine (cable_awake _).mono ?_; rintro e w1 ⟨rfl, hk⟩))
    go_ret
    exact ⟨rfl, hk⟩
  · by_cases hb : 1024 < b.size
    · go_enter Try.func6, Try.ntmps6
      go_wp2_with (go_at_call 10; go_must (refine (cable_awake _).mono ?_; rintro e w1 ⟨rfl, hk⟩))
      go_ret
      exact ⟨rfl, hk⟩
    · have hl : 1024 < left.size := by omega
      go_enter Try.func6, Try.ntmps6
      go_wp2_with (go_at_call 10; go_must (refine (cable_awake _).mono ?_; rintro e w1 ⟨rfl, hk⟩))
      go_ret
      exact ⟨rfl, hk⟩

set_option maxRecDepth 100000 in
set_option maxHeartbeats 1000000 in
theorem cableParts_walk (a s left : ByteArray) (again cut : Bool) (w : World) (ha : a.size ≤ 1024) (hs : s.size ≤ 1024) (hl : left.size ≤ 1024) :
    Calls Try.prog 6 #[.string a, .string s, .string left, .bool again, .bool cut] w fun e w' => e = .returned (.bool true) ∧ Keep [] w w' := by
  go_enter Try.func6, Try.ntmps6
  go_wp2_with fail
  refine (cable_awake _).mono ?_
  rintro e w0 ⟨rfl, hk0⟩
  go_wp2_with fail
  refine (cable_New 1 _ (by omega) (by omega)).mono ?_
  rintro e w1 ⟨b, bl, rfl, hc1, hb, hbl, hk1⟩
  replace hc1 : Cabs w1 b bl [Cab.zero] := hc1
  go_wp2_with fail
  refine (cable_Take b bl _ 1 _ hc1 (by omega) 0 Cab.zero rfl rfl (by intro j x h; omega)).mono ?_
  rintro e w2 ⟨rfl, hc2, hk2⟩
  rw [Cab.zero_ready] at hc2
  replace hc2 : Cabs w2 b bl [Cab.own 1] := hc2
  go_wp2_with fail
  refine (cable_Send_busy b bl _ 0 _ _ hc2 (by omega) (by simp) (Cab.own 1) rfl rfl (by simp [Cab.own, Cab.zero]; omega)).mono ?_
  rintro e w3 ⟨rfl, hc3, hk3⟩
  replace hc3 : Cabs w3 b bl [{ Cab.own 1 with out := (Cab.own 1).out ++ a }] := hc3
  generalize hx3 : ({ Cab.own 1 with out := (Cab.own 1).out ++ a } : Cab) = x3 at hc3
  have g3 : x3.inn = .empty ∧ x3.busy = true ∧ x3.cut = false := by subst hx3; exact ⟨rfl, rfl, rfl⟩
  have G3 := Lib.hid g3
  clear hx3 g3
  go_wp2_with fail
  refine (cable_Come_any b bl _ 0 _ _ hc3 (by omega) (by simp) x3 rfl (by rw [G3.out.1]; simp; omega)).mono ?_
  rintro e w4 ⟨rfl, hc4, hk4⟩
  replace hc4 : Cabs w4 b bl [x3.come left] := hc4
  generalize hx4 : x3.come left = x4 at hc4
  have g4 : x4.inn.size ≤ 1024 ∧ x4.busy = true := by subst hx4; rw [Cab.come, if_neg (by rw [G3.out.2.2]; simp)]; exact ⟨by rw [G3.out.1]; simp; omega, G3.out.2.1⟩
  have G4 := Lib.hid g4
  clear hx4 g4
  have hk0s := Lib.hid hk0.size
  have kk : Keep [b, bl] w w4 := (((((hk0.trans hk1).mono (by simp)).trans' hk2 (by simp)).trans' hk3 (by simp)).trans' hk4 (by simp))
  clear hk0 hk1 hk2 hk3 hk4 hc1 hc2 hc3 G3
  go_upto_if 57 with fail
  go_cut [57] (fun s wx => s = .bool cut ∧ ∃ x, Cabs wx b bl [x] ∧ x.inn.size ≤ 1024 ∧ x.busy = true ∧ Keep [b, bl] w wx)
  case first =>
    cases cut with
    | false =>
      go_wp2_with fail
      go_meet
      exact ⟨rfl, x4, hc4, G4.out.1, G4.out.2, kk⟩
    | true =>
      go_wp2_with (go_at_call 31; go_must (refine (cable_Cut_yes b bl _ 0 _ hc4 (by omega) (by simp) x4 rfl).mono ?_; rintro e w5 ⟨rfl, hc5, hk5⟩))
      go_meet
      exact ⟨rfl, _, hc5, G4.out.1, G4.out.2, kk.trans' hk5 (by simp)⟩
  case rest =>
    obtain ⟨rfl, x5, hc5, hx5, hb5, kk5⟩ := hcut
    clear kk hc4 G4
    go_wp2_with fail
    refine (cable_Free_busy b bl _ 0 again _ hc5 (by omega) (by simp) x5 rfl hb5).mono ?_
    rintro e w6 ⟨rfl, hc6, hk6⟩
    replace hc6 : Cabs w6 b bl [x5.freed again] := hc6
    have s6 := Lib.hid (x5.freed_size again)
    have b6 := Lib.hid (x5.freed_busy again)
    generalize x5.freed again = x6 at hc6 s6 b6
    go_wp2_with fail
    refine (cable_Come_any b bl _ 0 _ _ hc6 (by omega) (by simp) x6 rfl (by have := s6.out; omega)).mono ?_
    rintro e w7 ⟨rfl, hc7, hk7⟩
    replace hc7 : Cabs w7 b bl [x6.come a] := hc7
    have b7 := Lib.hid ((x6.come_busy a).trans b6.out)
    generalize x6.come a = x7 at hc7 b7
    go_wp2_with fail
    refine (cable_Take b bl _ 2 _ hc7 (by omega) 0 x7 rfl b7.out (by intro j x h; omega)).mono ?_
    rintro e w8 ⟨rfl, hc8, hk8⟩
    replace hc8 : Cabs w8 b bl [{ x7.ready with busy := true, owner := 2 }] := hc8
    have i8 := x7.ready_inn
    have c8 := x7.ready_cut
    generalize hx8 : ({ x7.ready with busy := true, owner := 2 } : Cab) = x8 at hc8
    have i8' : x8.inn = .empty := by subst hx8; exact i8
    have c8' : x8.cut = false := by subst hx8; exact c8
    have I8 := Lib.hid i8'
    have C8 := Lib.hid c8'
    clear i8 c8 i8' c8' hx8
    go_wp2_with fail
    refine (cable_Come_more b bl _ 0 _ _ hc8 (by omega) (by simp) x8 rfl C8.out (by rw [I8.out]; simp; omega)).mono ?_
    rintro e w9 ⟨rfl, hc9, hk9⟩
    replace hc9 : Cabs w9 b bl [{ x8 with inn := x8.inn ++ s }] := hc9
    rw [I8.out, empty_append] at hc9
    go_wp2_with fail
    refine (cable_Read_yes b bl _ 0 _ hc9 (by omega) (by simp) _ rfl).mono ?_
    rintro e wa ⟨rfl, hca, hka⟩
    replace hca : Cabs wa b bl [{ x8 with inn := .empty }] := hca
    simp only [C8.out]
    go_wp2_with fail
    refine (cable_Read_yes b bl _ 0 _ hca (by omega) (by simp) _ rfl).mono ?_
    rintro e wb ⟨rfl, hcb, hkb⟩
    have kb : Keep [b, bl] w wb := (((((((kk5.trans' hk6 (by simp)).trans' hk7 (by simp)).trans' hk8 (by simp)).trans' hk9 (by simp)).trans' hka (by simp)).trans' hkb (by simp)))
    clear kk5 hk6 hk7 hk8 hk9 hka hkb hc5 hc6 hc7 hc8 hc9 hca hcb
    go_wp2_with fail
    refine (cable_Take_nil 1 _).mono ?_
    rintro e wc ⟨rfl, hkc⟩
    go_wp2_with fail
    refine (cable_Read_nil 0 _).mono ?_
    rintro e wd ⟨rfl, hkd⟩
    go_wp2_with fail
    refine (cable_Free_nil 0 true _).mono ?_
    rintro e we ⟨rfl, hke⟩
    go_wp2_with fail
    refine (cable_Cut_nil 0 _).mono ?_
    rintro e wf ⟨rfl, hkf⟩
    go_wp2_with fail
    refine (cable_Send_nil 0 _ _).mono ?_
    rintro e wg ⟨rfl, hkg⟩
    go_wp2_with fail
    refine (cable_Come_nil 0 _ _).mono ?_
    rintro e wh ⟨rfl, hkh⟩
    go_wp2_with fail
    refine (cable_Drain_nil 0 _).mono ?_
    rintro e wi ⟨rfl, hki⟩
    go_wp2_with fail
    refine (cable_Len_nil _).mono ?_
    rintro e wj ⟨rfl, hkj⟩
    go_wp2_with fail
    refine (cable_Life_nil 0 _).mono ?_
    rintro e wk ⟨rfl, hkk⟩
    go_wp2_with fail
    go_ret
    refine ⟨rfl, ?_⟩
    refine (kb.trans' (((((((((hkc.trans hkd).trans hke).trans hkf).trans hkg).trans hkh).trans hki).trans hkj).trans hkk)) (by simp)).mono ?_
    intro k hk hlt
    have := hk0s.out
    simp at hk
    rcases hk with rfl | rfl <;> omega

theorem cableParts_all (a s left : ByteArray) (again cut : Bool) (w : World) (_ha : a.size ≤ maxLen) (_hs : s.size ≤ maxLen) (_hl : left.size ≤ maxLen) :
    Calls Try.prog 6 #[.string a, .string s, .string left, .bool again, .bool cut] w fun e w' => e = .returned (.bool true) ∧ Below w.heap.size w w' := by
  by_cases h : a.size ≤ 1024 ∧ s.size ≤ 1024 ∧ left.size ≤ 1024
  · exact (cableParts_walk a s left again cut w h.1 h.2.1 h.2.2).mono fun e w' ⟨he, hk⟩ => ⟨he, hk.below (by simp)⟩
  · exact (cableParts_big a s left again cut w (by omega)).mono fun e w' ⟨he, hk⟩ => ⟨he, hk.below (by simp)⟩
end Go.Proofs.Ytbfnpoknamajnaa
