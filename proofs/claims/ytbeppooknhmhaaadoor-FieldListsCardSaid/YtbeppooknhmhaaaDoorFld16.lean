/- Layer 10: the first look that the statements take: it answers true. No conditions. -/
import Derived.Test.YtbeppooknhmhaaaDoorFld15
namespace Go.Proofs.YtbeppooknhmhaaaDoor
open Go.RowKit Go.Shelf

theorem aw_p1 : parseV [72, 111, 115, 116, 58, 32, 97, 32, 98, 32] = ⟨[72, 111, 115, 116], [97, 32, 98]⟩ := by decide +kernel
theorem aw_e1 : parseE [72, 111, 115, 116, 58, 32, 97, 32, 98, 32] = 0 := by decide +kernel
theorem aw_p2 : parseV [72, 111, 115, 116, 32, 58, 32, 97] = ⟨[], []⟩ := by decide +kernel
theorem aw_e2 : parseE [72, 111, 115, 116, 32, 58, 32, 97] = 3 := by decide +kernel
theorem aw_els : elsM [⟨[88], [97, 44, 32, 34, 98, 44, 99, 34, 32, 44, 44, 100]⟩] [120] = [[97], [34, 98, 44, 99, 34], [100]] := by decide +kernel
theorem aw_s1 : splitM [71, 69, 84, 32, 47, 32, 72, 84, 84, 80, 47, 49, 46, 49, 13, 10, 65, 58, 32, 49, 13, 10, 13, 10, 114, 101, 115, 116] = ⟨[71, 69, 84, 32, 47, 32, 72, 84, 84, 80, 47, 49, 46, 49], [⟨[65], [49]⟩], 24, 0⟩ := by kernel_rfl
theorem aw_s2 : splitM [71, 69, 84, 32, 47, 13, 10, 65, 58, 32, 49, 13, 10, 13] = ⟨[], [], 0, 17⟩ := by kernel_rfl

/-- a slice over a block that is known -/
theorem Blk.sl {α : Type} {enc : α → List Value} {n : Nat} (hn : ∀ x, (enc x).length = n) {w : World} {b : Nat} {T : TypeId} {L : List α} (h : Blk w b T (rows enc L)) {l cap : Nat} (hl : l = L.length) (hc : l ≤ cap) (hm : cap ≤ maxLen) : Sl enc n w (.slice (some ⟨b, 0, none⟩) l cap) L := by
  subst hl
  exact .inr ⟨b, 0, cap, rfl, hc, hm, fun i x hx k hk => by rw [Nat.zero_add, h.cell, rows_get' hn L i k x hx hk]⟩
theorem parse_is {l n v : List UInt8} {k : Int} {w w1 : World} (hm : ML w) (hk : Keep [] w w1) (hl : l.length < 4294967281) (hv : parseV l = ⟨n, v⟩) (he : parseE l = k) :
    Calls Tryd.prog 14 #[.string (S l)] w1 fun e w' => e = .returned (.tuple #[.agg #[.string (S n), .string (S v)], .int .i64 k]) ∧ Keep [] w1 w' := by
  have h := field_Parse l w1 (hm.keep hk (by simp)) hl
  rw [hv, he] at h
  exact h
theorem split_is {l : List UInt8} {r : Rd} {w w1 : World} (hm : ML w) (hk : Keep [] w w1) (hl : l.length ≤ 1048576) (hv : splitM l = r) :
    Calls Tryd.prog 11 #[.string (S l)] w1 (SplitOut w1 r) := by
  have h := field_Split l w1 (hm.keep hk (by simp)) hl
  rw [hv] at h
  exact h

set_option maxRecDepth 100000 in
set_option maxHeartbeats 1000000 in
theorem field_awake (w : World) (hm : ML w) :
    Calls Tryd.prog 10 #[] w fun e w' => e = .returned (.bool true) ∧ Keep [] w w' := by
  have HP1 := Lib.hid (fun w1 (h : Keep [] w w1) => parse_is hm h (by decide) aw_p1 aw_e1)
  have HP2 := Lib.hid (fun w1 (h : Keep [] w w1) => parse_is hm h (by decide) aw_p2 aw_e2)
  have HS1 := Lib.hid (fun w1 (h : Keep [] w w1) => split_is hm h (by decide) aw_s1)
  have HS2 := Lib.hid (fun w1 (h : Keep [] w w1) => split_is hm h (by decide) aw_s2)
  go_enter Tryd.func10, Tryd.ntmps10
  go_wp2_with fail
  refine (HP1.out _ (Keep.refl _ _)).mono ?_
  rintro e w1 ⟨rfl, hk1⟩
  have K1 := Lib.hid (hk1.alloc (.cells #[.string (S [72, 111, 115, 116]), .string (S [97, 32, 98])] 34))
  have hlt1 := hk1.size
  clear hk1
  go_wp2_with fail
  refine (HP2.out _ K1.out).mono ?_
  rintro e w2 ⟨rfl, hk2⟩
  have hb1 := (Blk.newA w1 #[.string (S [72, 111, 115, 116]), .string (S [97, 32, 98])] 34)
  have K2 := Lib.hid ((K1.out.trans hk2).alloc (.cells #[.string (S []), .string (S [])] 34))
  have hb2 := Lib.hid ((hk2.blk hb1 (by simp)).alloc (.cells #[.string (S []), .string (S [])] 34))
  clear hk2 hb1
  generalize hw3 : w2.alloc (.cells #[.string (S []), .string (S [])] 34) = w3 at K2 hb2
  have hsz3 : w3.heap.size = w2.heap.size + 1 := by rw [← hw3]; simp
  have HZ := Lib.hid hsz3
  go_wp2_with fail
  have hbl := Blk.newA w3 #[.string (S [88]), .string (S [97, 44, 32, 34, 98, 44, 99, 34, 32, 44, 44, 100])] 34
  rw [hsz3] at hbl
  have hsl : Sl Fld.cells 2 _ (.slice (some ⟨w2.heap.size + 1, 0, none⟩) 1 1) [⟨[88], [97, 44, 32, 34, 98, 44, 99, 34, 32, 44, 44, 100]⟩] := Blk.sl Fld.cells_length (L := [⟨[88], [97, 44, 32, 34, 98, 44, 99, 34, 32, 44, 44, 100]⟩]) hbl rfl (by omega) (by decide)
  have K3 := Lib.hid (K2.out.alloc (.cells #[.string (S [88]), .string (S [97, 44, 32, 34, 98, 44, 99, 34, 32, 44, 44, 100])] 34))
  have hb3 := Lib.hid (hb2.out.alloc (.cells #[.string (S [88]), .string (S [97, 44, 32, 34, 98, 44, 99, 34, 32, 44, 44, 100])] 34))
  refine (field_Elements _ _ [120] _ hsl (by simp) (by simp) (by simp)).mono ?_
  rw [aw_els]
  rintro e w4 ⟨v, rfl, ho, hk4⟩
  have K4 := Lib.hid (K3.out.trans hk4)
  have hb4 := Lib.hid (hk4.blk hb3.out (by simp))
  have HO := Lib.hid ho
  clear hbl hsl ho hk4 hw3 hsz3
  go_wp2_with fail
  refine (HS1.out _ K4.out).mono ?_
  rintro e w5 ⟨v5, rfl, ho5, hk5⟩
  have K5 := Lib.hid (K4.out.trans hk5)
  have hb5 := Lib.hid (hk5.blk hb4.out (by simp))
  have HO5 := Lib.hid ho5
  have HO' := Lib.hid (HO.out.keep0 hk5)
  clear ho5 hk5
  go_wp2_with fail
  refine (HS2.out _ K5.out).mono ?_
  rintro e w6 ⟨v6, rfl, ho6, hk6⟩
  have K6 := Lib.hid (K5.out.trans hk6)
  have hb6 := hk6.blk hb5.out (by simp)
  have ho5 := HO5.out.keep0 hk6
  have hoE := HO'.out.keep0 hk6
  obtain ⟨a5, c5, rfl, _⟩ := ho5.shape
  obtain ⟨aE, cE, rfl, _⟩ := hoE.shape
  have d0 := hb6.get (k := 0) rfl
  have d1 := hb6.get (k := 1) rfl
  have HB6 := Lib.hid hb6
  have HOE := Lib.hid hoE
  clear hk6 hb6 ho5 hoE ho6
  have t0 := S_toList [72, 111, 115, 116]
  have t1 := S_toList [97, 32, 98]
  have t2 := S_toList [71, 69, 84, 32, 47, 32, 72, 84, 84, 80, 47, 49, 46, 49]
  go_wp2_with fail
  have hbl := Blk.newA w6 #[.string (S [97]), .string (S [34, 98, 44, 99, 34]), .string (S [100])] 9
  have hsl : Sl strC 1 _ (.slice (some ⟨w6.heap.size, 0, none⟩) 3 3) [[97], [34, 98, 44, 99, 34], [100]] := Blk.sl strC_length (L := [[97], [34, 98, 44, 99, 34], [100]]) hbl rfl (by omega) (by decide)
  have K7 := Lib.hid (K6.out.alloc (.cells #[.string (S [97]), .string (S [34, 98, 44, 99, 34]), .string (S [100])] 9))
  refine (ref_Texts _ _ _ _ _ ((HOE.out.alloc _).sl strC_length) hsl).mono ?_
  rintro e w7 ⟨rfl, hk7⟩
  have K8 := Lib.hid (K7.out.trans hk7)
  clear hbl hsl hk7
  go_wp2_with fail
  go_ret
  exact ⟨rfl, K8.out⟩
end Go.Proofs.YtbeppooknhmhaaaDoor
