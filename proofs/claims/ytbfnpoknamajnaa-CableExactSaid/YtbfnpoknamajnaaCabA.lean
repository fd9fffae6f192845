/- The first look at a pool of cables, as the statements take it: it answers true. No conditions. -/
import Derived.Test.YtbfnpoknamajnaaCabR2
namespace Go.Proofs.Ytbfnpoknamajnaa
open Go.RowKit

theorem Cab.zero_ready : Cab.zero.ready = Cab.zero := by simp [Cab.ready, Cab.zero]
def Cab.own (o : Int) : Cab := { Cab.zero with busy := true, owner := o }

set_option maxHeartbeats 1000000 in
theorem cable_awake (w : World) : Calls Try.prog 10 #[] w fun e w' => e = .returned (.bool true) ∧ Keep [] w w' := by
  go_enter Try.func10, Try.ntmps10
  go_wp2_with fail
  refine (cable_New 2 _ (by omega) (by omega)).mono ?_
  rintro e w1 ⟨b, bl, rfl, hc1, hb, hbl, hk1⟩
  replace hc1 : Cabs w1 b bl [Cab.zero, Cab.zero] := hc1
  go_wp2_with fail
  refine (cable_Take b bl _ 5 _ hc1 (by omega) 0 Cab.zero rfl rfl (by intro j x h; omega)).mono ?_
  rintro e w2 ⟨rfl, hc2, hk2⟩
  rw [Cab.zero_ready] at hc2
  replace hc2 : Cabs w2 b bl [Cab.own 5, Cab.zero] := hc2
  go_wp2_with fail
  refine (cable_Take b bl _ 6 _ hc2 (by omega) 1 Cab.zero rfl rfl (by intro j x h hx; obtain rfl : j = 0 := by omega
                                                                      simp at hx; subst hx; rfl)).mono ?_
  rintro e w3 ⟨rfl, hc3, hk3⟩
  rw [Cab.zero_ready] at hc3
  replace hc3 : Cabs w3 b bl [Cab.own 5, Cab.own 6] := hc3
  go_wp2_with fail
  refine (cable_Take_full b bl _ 7 _ hc3 (by omega) (by simp [Cab.own])).mono ?_
  rintro e w4 ⟨rfl, hk4⟩
  have hc4 := hc3.keep hk4 (by simp) (by simp)
  go_wp2_with fail
  refine (cable_Free_busy b bl _ 0 true _ hc4 (by omega) (by simp) (Cab.own 5) rfl rfl).mono ?_
  rintro e w5 ⟨rfl, hc5, hk5⟩
  replace hc5 : Cabs w5 b bl [Cab.zero, Cab.own 6] := hc5
  go_wp2_with fail
  refine (cable_Take b bl _ 7 _ hc5 (by omega) 0 Cab.zero rfl rfl (by intro j x h; omega)).mono ?_
  rintro e w6 ⟨rfl, hc6, hk6⟩
  rw [Cab.zero_ready] at hc6
  replace hc6 : Cabs w6 b bl [Cab.own 7, Cab.own 6] := hc6
  go_wp2_with fail
  refine (cable_Owner_yes b bl _ 0 _ hc6 (by omega) (by simp) (Cab.own 7) rfl).mono ?_
  rintro e w7 ⟨rfl, hk7⟩
  have hc7 := hc6.keep hk7 (by simp) (by simp)
  go_wp2_with fail
  refine (cable_New_bad 9 _ (by omega)).mono ?_
  rintro e w8 ⟨rfl, rfl⟩
  go_wp2_with fail
  refine (cable_Send_busy b bl _ 1 _ _ hc7 (by omega) (by simp) (Cab.own 6) rfl rfl (by decide)).mono ?_
  rintro e w9 ⟨rfl, hc9, hk9⟩
  replace hc9 : Cabs w9 b bl [Cab.own 7, { Cab.own 6 with out := (Cab.own 6).out ++ ⟨#[120]⟩ }] := hc9
  go_wp2_with fail
  refine (cable_Drain_yes b bl _ 1 _ hc9 (by omega) (by simp) _ rfl).mono ?_
  rintro e wa ⟨rfl, hca, hka⟩
  replace hca : Cabs wa b bl [Cab.own 7, Cab.own 6] := hca
  have ex : ((Cab.own 6).out ++ (⟨#[120]⟩ : ByteArray)) = ⟨#[120]⟩ := by decide
  go_wp2_with fail
  refine (cable_Len b bl _ _ hca).mono ?_
  rintro e wb ⟨rfl, hkb⟩
  go_wp2_with fail
  go_ret
  refine ⟨rfl, ?_⟩
  have k1 : Keep [b, bl] w w1 := hk1.mono (by simp)
  refine (k1.trans' (((((((((hk2.trans hk3).trans (hk4.mono (by simp))).trans hk5).trans hk6).trans (hk7.mono (by simp))).trans hk9).trans hka).trans (hkb.mono (by simp)))) (by simp)).mono ?_
  intro k hk hlt
  simp at hk
  rcases hk with rfl | rfl <;> omega
end Go.Proofs.Ytbfnpoknamajnaa
