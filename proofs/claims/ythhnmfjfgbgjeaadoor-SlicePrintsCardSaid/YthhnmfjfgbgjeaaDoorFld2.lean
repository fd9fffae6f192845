/- Layer 10: Parse, Print, Good, low. No conditions but on lengths. -/
import Derived.Test.YthhnmfjfgbgjeaaDoorFld1
import Derived.Deep.RegionHeld3
import Derived.Deep.Cut
import Derived.Deep.DeepCutAuto
import Derived.Deep.LoopGhost
namespace Go.Proofs.YthhnmfjfgbgjeaaDoor
open Go.RowKit Go.Shelf

/-- the library's own variable holds a number -/
def ML (w : World) : Prop := ∃ m, w.cell? ⟨0, 0, none⟩ = some (.int .i64 m)
theorem ML.keep {w w' : World} {S : List Nat} (h : ML w) (k : Keep S w w') (hn : 0 ∉ S) : ML w' := by
  obtain ⟨m, hm⟩ := h
  have := World.block_lt_of_cell? w _ hm
  exact ⟨m, (k.cell (p := ⟨0, 0, none⟩) this hn).trans hm⟩
theorem cut_len (l sep : List UInt8) : (Lib.cut l sep).1.length ≤ l.length ∧ (Lib.cut l sep).2.1.length ≤ l.length := by
  unfold Lib.cut
  split
  · simp; omega
  · simp

theorem strings_Cut (l : List UInt8) (sep : ByteArray) (w : World) (hm : ML w) (hl : l.length < 4294967281) :
    Calls Tryd.prog 36 #[.string (S l), .string sep] w fun e w' => e = .returned (.tuple #[.string (S (Lib.cut l sep.data.toList).1), .string (S (Lib.cut l sep.data.toList).2.1), .bool (Lib.cut l sep.data.toList).2.2]) ∧ Keep [] w w' := by
  obtain ⟨m, hm⟩ := hm
  have h := Tryd.strings_Cut (S l) sep m w hl hm
  rw [S_list] at h
  exact h.mono fun e w' ⟨he, n, hn⟩ => ⟨he, by rw [hn]; exact (Keep.refl _ _).drewN n⟩

set_option maxRecDepth 100000 in
set_option maxHeartbeats 400000 in
theorem field_Parse (l : List UInt8) (w : World) (hm : ML w) (hl : l.length < 4294967281) :
    Calls Tryd.prog 76 #[.string (S l)] w fun e w' => e = .returned (.tuple #[.agg (parseV l).cells.toArray, .int .i64 (parseE l)]) ∧ Keep [] w w' := by
  have hC := fun w1 (k : Keep [] w w1) => strings_Cut l ⟨#[58]⟩ w1 (hm.keep k (by simp)) hl
  have hlen := cut_len l [58]
  have hP : parseF l = if (Lib.cut l [58]).2.2 && isTok (Lib.cut l [58]).1 && isTxt (Lib.cut l [58]).2.1 then some ⟨(Lib.cut l [58]).1, trimW (Lib.cut l [58]).2.1⟩ else none := rfl
  change ∀ w1, Keep [] w w1 → Calls Tryd.prog 36 #[.string (S l), .string ⟨#[58]⟩] w1 fun e w' => e = .returned (.tuple #[.string (S (Lib.cut l [58]).1), .string (S (Lib.cut l [58]).2.1), .bool (Lib.cut l [58]).2.2]) ∧ Keep [] w1 w' at hC
  generalize Lib.cut l [58] = c at hC hlen hP
  obtain ⟨name, value, ok⟩ := c
  dsimp only at hC hlen hP
  have HC := Lib.hid hC
  have hbA := Blk.newA w #[.string ⟨#[]⟩, .string ⟨#[]⟩] 32
  have hkA := (Keep.refl [] w).alloc (.cells #[.string ⟨#[]⟩, .string ⟨#[]⟩] 32)
  clear hC
  cases ok with
  | false =>
    simp only [Bool.false_and, Bool.false_eq_true, if_false] at hP
    have HP := Lib.hid hP
    clear hP
    go_enter Tryd.func76, Tryd.ntmps76
    go_wp2_with fail
    refine (HC.out _ hkA).mono ?_
    rintro e w1 ⟨rfl, hk1⟩
    have hb1 := hk1.blk hbA (by simp)
    have d0 := hb1.get (k := 0) rfl
    have d1 := hb1.get (k := 1) rfl
    have f1 := hb1.frozen
    have hs1 := hb1.lt
    go_wp2_with fail
    have hb2 := (hb1.set 0 (.string ⟨#[]⟩)).set 1 (.string ⟨#[]⟩)
    have d2 := hb2.get (k := 0) rfl
    have d3 := hb2.get (k := 1) rfl
    refine bodyPost_ret (v := .tuple #[.agg #[.string (S []), .string (S [])], .int .i64 3]) ?_ rfl ⟨?_, ?_⟩
    · simp [results, Tryd.results76, go_sem, S, d2, d3]
    · unfold parseV parseE; rw [HP.out]; rfl
    · exact ((hkA.trans hk1).setCell _ _ (by simp)).setCell _ _ (by simp)
  | true =>
    have hn : name.length ≤ maxLen := by show _ ≤ 9223372036854775807; omega
    have hv : value.length ≤ maxLen := by show _ ≤ 9223372036854775807; omega
    have hT := fun w1 => field_IsToken name w1 hn
    have hX := fun w1 => field_isText value w1 hv
    have hR := fun w1 => field_trim value w1 hv
    cases htk : isTok name with
    | false =>
      simp only [htk, Bool.and_false, Bool.false_and, Bool.false_eq_true, if_false] at hP
      rw [htk] at hT
      have HP := Lib.hid hP
      have HT := Lib.hid hT
      clear hP hT hX hR htk hlen hn hv
      go_enter Tryd.func76, Tryd.ntmps76
      go_wp2_with fail
      refine (HC.out _ hkA).mono ?_
      rintro e w1 ⟨rfl, hk1⟩
      go_wp2_with fail
      refine (HT.out _).mono ?_
      rintro e w2 ⟨rfl, hk2⟩
      have hb1 := hk2.blk (hk1.blk hbA (by simp)) (by simp)
      have d0 := hb1.get (k := 0) rfl
      have d1 := hb1.get (k := 1) rfl
      have f1 := hb1.frozen
      have hs1 := hb1.lt
      go_wp2_with fail
      have hb2 := (hb1.set 0 (.string ⟨#[]⟩)).set 1 (.string ⟨#[]⟩)
      have d2 := hb2.get (k := 0) rfl
      have d3 := hb2.get (k := 1) rfl
      refine bodyPost_ret (v := .tuple #[.agg #[.string (S []), .string (S [])], .int .i64 3]) ?_ rfl ⟨?_, ?_⟩
      · simp [results, Tryd.results76, go_sem, S, d2, d3]
      · unfold parseV parseE; rw [HP.out]; rfl
      · exact (((hkA.trans hk1).trans hk2).setCell _ _ (by simp)).setCell _ _ (by simp)
    | true =>
      cases htx : isTxt value with
      | false =>
        simp only [htk, htx, Bool.and_false, Bool.false_eq_true, if_false] at hP
        rw [htk] at hT
        rw [htx] at hX
        have HP := Lib.hid hP
        have HT := Lib.hid hT
        have HX := Lib.hid hX
        clear hP hT hX hR htk hlen hn hv htx
        go_enter Tryd.func76, Tryd.ntmps76
        go_wp2_with fail
        refine (HC.out _ hkA).mono ?_
        rintro e w1 ⟨rfl, hk1⟩
        go_wp2_with fail
        refine (HT.out _).mono ?_
        rintro e w2 ⟨rfl, hk2⟩
        go_wp2_with fail
        refine (HX.out _).mono ?_
        rintro e w3 ⟨rfl, hk3⟩
        have hb1 := hk3.blk (hk2.blk (hk1.blk hbA (by simp)) (by simp)) (by simp)
        have d0 := hb1.get (k := 0) rfl
        have d1 := hb1.get (k := 1) rfl
        have f1 := hb1.frozen
        have hs1 := hb1.lt
        go_wp2_with fail
        have hb2 := (hb1.set 0 (.string ⟨#[]⟩)).set 1 (.string ⟨#[]⟩)
        have d2 := hb2.get (k := 0) rfl
        have d3 := hb2.get (k := 1) rfl
        refine bodyPost_ret (v := .tuple #[.agg #[.string (S []), .string (S [])], .int .i64 3]) ?_ rfl ⟨?_, ?_⟩
        · simp [results, Tryd.results76, go_sem, S, d2, d3]
        · unfold parseV parseE; rw [HP.out]; rfl
        · exact ((((hkA.trans hk1).trans hk2).trans hk3).setCell _ _ (by simp)).setCell _ _ (by simp)
      | true =>
        simp only [htk, htx, Bool.and_true, if_true] at hP
        rw [htk] at hT
        rw [htx] at hX
        have HP := Lib.hid hP
        have HT := Lib.hid hT
        have HX := Lib.hid hX
        have HR := Lib.hid hR
        clear hP hT hX hR htk hlen hn hv htx
        go_enter Tryd.func76, Tryd.ntmps76
        go_wp2_with fail
        refine (HC.out _ hkA).mono ?_
        rintro e w1 ⟨rfl, hk1⟩
        go_wp2_with fail
        refine (HT.out _).mono ?_
        rintro e w2 ⟨rfl, hk2⟩
        go_wp2_with fail
        refine (HX.out _).mono ?_
        rintro e w3 ⟨rfl, hk3⟩
        go_wp2_with fail
        refine (HR.out _).mono ?_
        rintro e w4 ⟨rfl, hk4⟩
        have hb1 := hk4.blk (hk3.blk (hk2.blk (hk1.blk hbA (by simp)) (by simp)) (by simp)) (by simp)
        have d0 := hb1.get (k := 0) rfl
        have d1 := hb1.get (k := 1) rfl
        have f1 := hb1.frozen
        have hs1 := hb1.lt
        go_wp2_with fail
        have hb2 := (hb1.set 0 (.string (S name))).set 1 (.string (S (trimW value)))
        have d2 := hb2.get (k := 0) rfl
        have d3 := hb2.get (k := 1) rfl
        refine bodyPost_ret (v := .tuple #[.agg #[.string (S name), .string (S (trimW value))], .int .i64 0]) ?_ rfl ⟨?_, ?_⟩
        · simp [results, Tryd.results76, go_sem, d2, d3]
        · unfold parseV parseE; rw [HP.out]; rfl
        · exact (((((hkA.trans hk1).trans hk2).trans hk3).trans hk4).setCell _ _ (by simp)).setCell _ _ (by simp)

set_option maxRecDepth 100000 in
set_option maxHeartbeats 400000 in
theorem field_Print (f : Fld) (w : World) (hl : f.name.length + f.value.length ≤ 1073741824) :
    Calls Tryd.prog 49 #[.agg f.cells.toArray] w fun e w' => e = .returned (.string (S (printF f))) ∧ Keep [] w w' := by
  have h1 := S_size f.name
  have h2 := S_size f.value
  have hkA := (Keep.refl [] w).alloc (.cells #[.string (S f.name), .string (S f.value)] 32)
  have hsum : S f.name ++ ⟨#[58, 32]⟩ ++ S f.value = S (printF f) := by
    show S f.name ++ S [58, 32] ++ S f.value = _
    rw [S_append, S_append]; rfl
  have HS := Lib.hid hsum
  clear hsum
  show Calls _ _ #[.agg #[.string (S f.name), .string (S f.value)]] _ _
  go_enter Tryd.func49, Tryd.ntmps49
  go_wp2_with fail
  go_ret
  exact ⟨ret_str HS.out, hkA⟩

set_option maxRecDepth 100000 in
set_option maxHeartbeats 400000 in
theorem field_Good (f : Fld) (w : World) (hn : f.name.length ≤ maxLen) (hv : f.value.length ≤ maxLen) :
    Calls Tryd.prog 48 #[.agg f.cells.toArray] w fun e w' => e = .returned (.bool (goodF f)) ∧ Keep [] w w' := by
  have hT := fun w1 => field_IsToken f.name w1 hn
  have hX := fun w1 => field_isText f.value w1 hv
  have hR := fun w1 => field_trim f.value w1 hv
  have hbA : Blk (w.alloc (.cells #[.string (S f.name), .string (S f.value)] 32)) w.heap.size 32 [.string (S f.name), .string (S f.value)] := Blk.newA w _ _
  have hkA := (Keep.refl [] w).alloc (.cells #[.string (S f.name), .string (S f.value)] 32)
  have hG : goodF f = (isTok f.name && isTxt f.value && (trimW f.value == f.value)) := rfl
  show Calls _ _ #[.agg #[.string (S f.name), .string (S f.value)]] _ _
  have hA0 : ∀ x, (ext (w.alloc (.cells #[.string (S f.name), .string (S f.value)] 32)) x).cell? ⟨w.heap.size, 0, none⟩ = some (.string (S f.name)) := fun x => ((ext_keep _ x).blk hbA (by simp)).get rfl
  have hA1 : ∀ x, (ext (w.alloc (.cells #[.string (S f.name), .string (S f.value)] 32)) x).cell? ⟨w.heap.size, 1, none⟩ = some (.string (S f.value)) := fun x => ((ext_keep _ x).blk hbA (by simp)).get rfl
  cases htk : isTok f.name with
  | false =>
    rw [htk] at hT hG
    have HT := Lib.hid hT
    have HG := Lib.hid hG
    clear hT hX hR hG htk hn hv
    go_enter Tryd.func48, Tryd.ntmps48
    go_wp2_with fail
    refine wp_region_ext_lit (by kernel_rfl) (by kernel_rfl) ?_
    repeat (go_big_quiet_step ((go_at_call 41; exact Calls.quiet_ext (HT.out _))))
    refine wpQuiet_nil ?_
    intro _ hw'
    obtain ⟨nq, hw''⟩ := hw'
    subst hw''
    go_wp2_with fail
    go_ret
    exact ⟨ret_bool (by rw [HG.out]; rfl), hkA.trans (ext_keep _ nq)⟩
  | true =>
    cases htx : isTxt f.value with
    | false =>
      rw [htk, htx] at hG
      rw [htk] at hT
      rw [htx] at hX
      have HT := Lib.hid hT
      have HX := Lib.hid hX
      have HG := Lib.hid hG
      clear hT hX hR hG htk hn hv htx
      go_enter Tryd.func48, Tryd.ntmps48
      go_wp2_with fail
      refine wp_region_ext_lit (by kernel_rfl) (by kernel_rfl) ?_
      repeat (go_big_quiet_step ((first | (go_at_call 41; exact Calls.quiet_ext (HT.out _)) | (go_at_call 68; exact Calls.quiet_ext (HX.out _)))))
      refine wpQuiet_nil ?_
      intro _ hw'
      obtain ⟨nq, hw''⟩ := hw'
      subst hw''
      go_wp2_with fail
      go_ret
      exact ⟨ret_bool (by rw [HG.out]; rfl), hkA.trans (ext_keep _ nq)⟩
    | true =>
      rw [htk, htx] at hG
      rw [htk] at hT
      rw [htx] at hX
      have HT := Lib.hid hT
      have HX := Lib.hid hX
      have HR := Lib.hid hR
      have HG := Lib.hid hG
      have h1 := S_toList (trimW f.value)
      have h2 := S_toList f.value
      clear hT hX hR hG htk hn hv htx
      go_enter Tryd.func48, Tryd.ntmps48
      go_wp2_with fail
      refine wp_region_ext_lit (by kernel_rfl) (by kernel_rfl) ?_
      repeat (go_big_quiet_step ((first | (go_at_call 41; exact Calls.quiet_ext (HT.out _)) | (go_at_call 68; exact Calls.quiet_ext (HX.out _)) | (go_at_call 69; exact Calls.quiet_ext (HR.out _)))))
      refine wpQuiet_nil ?_
      intro _ hw'
      obtain ⟨nq, hw''⟩ := hw'
      subst hw''
      go_wp2_with fail
      go_ret
      exact ⟨ret_bool (by rw [HG.out]; rfl), hkA.trans (ext_keep _ nq)⟩
end Go.Proofs.YthhnmfjfgbgjeaaDoor
