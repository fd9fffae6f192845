/- Parts of the proof of ErrandTries, in order. No conditions but those that each theorem states. -/
import Derived.Test.YtlhnjkekjbbhcaaGreatDoorYErrandTries0
import Derived.Shelf.Strings.SlTrimAscii
import Derived.Deep.RegionHeld3
import Derived.Deep.Cut
import Derived.Deep.DeepCutAuto
import Derived.Deep.LoopGhost
import Derived.ProofKit
import Derived.OpenShut
import Derived.ShutString
import Derived.ChangeOld
import Derived.Deep.Slices
import Derived.Deep.Strs
import Derived.Test.YtlhnjkekjbbhcaaGreatDoorYErrandTries1
set_option linter.unusedSimpArgs false
set_option linter.unusedVariables false
namespace Go.Proofs.YtlhnjkekjbbhcaaGreatDoor
open Go.RowKit Go.Shelf
theorem conv_run (w : World) (s : ByteArray) : (convert 9 143 (.string s)).run Tryz.prog w = .ok (.slice (some ⟨w.heap.size, 0, none⟩) s.size (grownCap w s.size 0 5)) (Lib.bytesWorld w 5 s) :=
  Lib.run_convert_string_bytes w 9 143 5 s Tryz.underlying9 Tryz.underlying143 Tryz.underlying5
set_option maxRecDepth 100000 in
set_option maxHeartbeats 400000 in
theorem field_isTchar (b : UInt8) (w : World) :
    Calls Tryz.prog 174 #[.int .u8 b.toNat] w fun e w' => e = .returned (.bool (tchar b)) ∧ w = w' := by
  have hb := u8_nat b; have hix := Tryz.strings_IndexByte (S marks) b.toNat; have ec : ((b.toNat : Int)).toNat.toUInt8 = b := by simp
  rw [ec, S_list] at hix; go_enter Tryz.func174, Tryz.ntmps174; go_wp2_with fail
  all_goals first
    | (refine (hix _).mono ?_
       rintro e w1 ⟨rfl, rfl⟩; go_wp2_with fail; go_ret; refine ⟨?_, rfl⟩; congr 2; simp only [tchar]; simp; omega)
    | (go_ret
       refine ⟨?_, rfl⟩; congr 2; simp only [tchar]; simp; omega)
set_option maxRecDepth 100000 in
set_option maxHeartbeats 400000 in
theorem field_IsToken (l : List UInt8) (w : World) (hs : l.length ≤ maxLen) :
    Calls Tryz.prog 131 #[.string (S l)] w fun e w' => e = .returned (.bool (isTok l)) ∧ Keep [] w w' := by
  have hs' : l.length ≤ 9223372036854775807 := hs; have hcv := conv_run w (S l); have hcell : Hid (∀ (k : Nat) (c : UInt8), l[k]? = some c → _) := fun k c h => conv_at w 5 h
  have hkp := conv_keep w 5 (S l); generalize Lib.bytesWorld w 5 (S l) = wb at hcv hcell hkp; have hsz := S_size l; have hte := S_toList l; clear hs; go_enter Tryz.func131, Tryz.ntmps131; go_wp2_with fail
  go_loop [8] (fun i => ∃ k : Nat, i = .int .i64 k ∧ k ≤ l.length ∧ Hid ((l.take k).all tchar = true)) (fun i => l.length - (intOf i).toNat)
  case atStart => exact ⟨0, rfl, Nat.zero_le _, by simp [Hid]⟩
  case round =>
    obtain ⟨k, rfl, hk, hall⟩ := hrel; by_cases hlt : k < l.length
    · obtain ⟨c, hg⟩ : ∃ c, l[k]? = some c := ⟨_, List.getElem?_eq_getElem hlt⟩
      have hc := hcell.out k c hg; have hT := field_isTchar c; have HG := Lib.hid hg; clear hg
      cases ht : tchar c with
      | true =>
        rw [ht] at hT; have HT := Lib.hid ht; clear ht; go_wp2_with (go_at_call 174; refine (hT _).mono ?_; rintro e w1 ⟨rfl, rfl⟩)
        go_round
        case rel => exact ⟨k + 1, by go_num, by omega, by rw [Hid, take_snoc HG.out, List.all_append, hall.out]; simp [HT.out]⟩
        case measure => simp [intOf]; omega
      | false =>
        rw [ht] at hT; have HT := Lib.hid ht; clear ht; go_wp2_with (go_at_call 174; refine (hT _).mono ?_; rintro e w1 ⟨rfl, rfl⟩); go_ret
        have : isTok l = false := by
          unfold isTok; rw [show l.all tchar = false from by rw [List.all_eq_false]; exact ⟨c, List.mem_of_getElem? HG.out, by simp [HT.out]⟩]; rfl
        exact ⟨ret_bool this.symm, hkp⟩
    · have e : l.take k = l := List.take_of_length_le (by omega); rw [e] at hall; clear e; go_wp2_with fail; go_ret; refine ⟨ret_bool ?_, hkp⟩; unfold isTok; rw [hall.out]; simp
set_option maxRecDepth 100000 in
set_option maxHeartbeats 400000 in
theorem field_isText (l : List UInt8) (w : World) (hs : l.length ≤ maxLen) :
    Calls Tryz.prog 177 #[.string (S l)] w fun e w' => e = .returned (.bool (isTxt l)) ∧ Keep [] w w' := by
  have hs' : l.length ≤ 9223372036854775807 := hs; have hcv := conv_run w (S l); have hcell : Hid (∀ (k : Nat) (c : UInt8), l[k]? = some c → _) := fun k c h => conv_at w 5 h
  have hkp := conv_keep w 5 (S l); generalize Lib.bytesWorld w 5 (S l) = wb at hcv hcell hkp; have hsz := S_size l; clear hs; go_enter Tryz.func177, Tryz.ntmps177; go_wp2_with fail
  go_loop [8] (fun i => ∃ k : Nat, i = .int .i64 k ∧ k ≤ l.length ∧ Hid ((l.take k).all textB = true)) (fun i => l.length - (intOf i).toNat)
  case atStart => exact ⟨0, rfl, Nat.zero_le _, by simp [Hid]⟩
  case round =>
    obtain ⟨k, rfl, hk, hall⟩ := hrel; by_cases hlt : k < l.length
    · obtain ⟨c, hg⟩ : ∃ c, l[k]? = some c := ⟨_, List.getElem?_eq_getElem hlt⟩
      have hc := hcell.out k c hg; have hc8 := u8_nat c; have HG := Lib.hid hg; clear hg; by_cases ht : textB c = true
      · have h1 : c.toNat ≠ 127 ∧ (32 ≤ c.toNat ∨ c.toNat = 9) := by simp [textB] at ht; omega
        have HT := Lib.hid ht; obtain ⟨h2, h3⟩ := h1; have h4 : (((c.toNat : Nat) : Int) == 127) = false := by simp; omega
        clear ht; by_cases h5 : c.toNat < 32
        · have h6 : (((c.toNat : Nat) : Int) != 9) = false := by simp; omega
          clear h2 h3; go_wp2_with fail
          go_round
          case rel => exact ⟨k + 1, by go_num, by omega, by rw [Hid, take_snoc HG.out, List.all_append, hall.out]; simp [HT.out]⟩
          case measure => simp [intOf]; omega
        · clear h2 h3; go_wp2_with fail
          go_round
          case rel => exact ⟨k + 1, by go_num, by omega, by rw [Hid, take_snoc HG.out, List.all_append, hall.out]; simp [HT.out]⟩
          case measure => simp [intOf]; omega
      · have HT := Lib.hid ht
        have this : isTxt l = false := by
          unfold isTxt; rw [List.all_eq_false]; exact ⟨c, List.mem_of_getElem? HG.out, ht⟩
        have H := Lib.hid this; by_cases h5 : c.toNat = 127
        · have h4 : (((c.toNat : Nat) : Int) == 127) = true := by simp; omega
          have h7 : ¬ c.toNat < 32 := by omega
          clear this ht h5; go_wp2_with fail; go_ret; exact ⟨ret_bool H.out.symm, hkp⟩
        · have h1 : c.toNat < 32 ∧ c.toNat ≠ 9 := by simp [textB] at ht; omega
          have h6 : (((c.toNat : Nat) : Int) != 9) = true := by simp; omega
          obtain ⟨h1, h2⟩ := h1; clear this ht h5 h2; go_wp2_with fail; go_ret; exact ⟨ret_bool H.out.symm, hkp⟩
    · have e : l.take k = l := List.take_of_length_le (by omega); rw [e] at hall; clear e; go_wp2_with fail; go_ret; exact ⟨ret_bool hall.out.symm, hkp⟩
set_option maxRecDepth 100000 in
set_option maxHeartbeats 400000 in
theorem field_trim (l : List UInt8) (w : World) (hs : l.length ≤ maxLen) :
    Calls Tryz.prog 178 #[.string (S l)] w fun e w' => e = .returned (.string (S (trimW l))) ∧ Keep [] w w' := by
  have hT := Any.strings_Trim_laid Tryz.lays160 (by kernel_rfl) (S l) ⟨#[32, 9]⟩ w hs (by decide) (ascii_of_all (by decide)); rw [S_list] at hT; go_enter Tryz.func178, Tryz.ntmps178; go_wp2_with (go_at_call 186; refine hT.mono ?_; rintro e w1 ⟨rfl, hb⟩); go_ret; exact ⟨rfl, Keep.of_below hb _⟩
def ML (w : World) : Prop := ∃ m, w.cell? ⟨1, 0, none⟩ = some (.int .i64 m)
theorem ML.keep {w w' : World} {S : List Nat} (h : ML w) (k : Keep S w w') (hn : 1 ∉ S) : ML w' := by
  obtain ⟨m, hm⟩ := h; have := World.block_lt_of_cell? w _ hm; exact ⟨m, (k.cell (p := ⟨1, 0, none⟩) this hn).trans hm⟩
theorem cut_len (l sep : List UInt8) : (Lib.cut l sep).1.length ≤ l.length ∧ (Lib.cut l sep).2.1.length ≤ l.length := by
  unfold Lib.cut
  split
  · simp; omega
  · simp
theorem strings_Cut (l : List UInt8) (sep : ByteArray) (w : World) (hm : ML w) (hl : l.length < 4294967281) :
    Calls Tryz.prog 130 #[.string (S l), .string sep] w fun e w' => e = .returned (.tuple #[.string (S (Lib.cut l sep.data.toList).1), .string (S (Lib.cut l sep.data.toList).2.1), .bool (Lib.cut l sep.data.toList).2.2]) ∧ Keep [] w w' := by
  obtain ⟨m, hm⟩ := hm; have h := Tryz.strings_Cut (S l) sep m w hl hm; rw [S_list] at h; exact h.mono fun e w' ⟨he, n, hn⟩ => ⟨he, by rw [hn]; exact (Keep.refl _ _).drewN n⟩
set_option maxRecDepth 100000 in
set_option maxHeartbeats 400000 in
theorem field_Parse (l : List UInt8) (w : World) (hm : ML w) (hl : l.length < 4294967281) :
    Calls Tryz.prog 223 #[.string (S l)] w fun e w' => e = .returned (.tuple #[.agg (parseV l).cells.toArray, .int .i64 (parseE l)]) ∧ Keep [] w w' := by
  have hC := fun w1 (k : Keep [] w w1) => strings_Cut l ⟨#[58]⟩ w1 (hm.keep k (by simp)) hl
  have hlen := cut_len l [58]; have hP : parseF l = if (Lib.cut l [58]).2.2 && isTok (Lib.cut l [58]).1 && isTxt (Lib.cut l [58]).2.1 then some ⟨(Lib.cut l [58]).1, trimW (Lib.cut l [58]).2.1⟩ else none := rfl
  change ∀ w1, Keep [] w w1 → Calls Tryz.prog 130 #[.string (S l), .string ⟨#[58]⟩] w1 fun e w' => e = .returned (.tuple #[.string (S (Lib.cut l [58]).1), .string (S (Lib.cut l [58]).2.1), .bool (Lib.cut l [58]).2.2]) ∧ Keep [] w1 w' at hC
  generalize Lib.cut l [58] = c at hC hlen hP; obtain ⟨name, value, ok⟩ := c; dsimp only at hC hlen hP; have HC := Lib.hid hC; have hbA := Blk.newA w #[.string ⟨#[]⟩, .string ⟨#[]⟩] 89; have hkA := (Keep.refl [] w).alloc (.cells #[.string ⟨#[]⟩, .string ⟨#[]⟩] 89); clear hC
  cases ok with
  | false =>
    simp only [Bool.false_and, Bool.false_eq_true, if_false] at hP; have HP := Lib.hid hP; clear hP; go_enter Tryz.func223, Tryz.ntmps223; go_wp2_with fail; refine (HC.out _ hkA).mono ?_; rintro e w1 ⟨rfl, hk1⟩; have hb1 := hk1.blk hbA (by simp); have d0 := hb1.get (k := 0) rfl; have d1 := hb1.get (k := 1) rfl; have f1 := hb1.frozen; have hs1 := hb1.lt; go_wp2_with fail; have hb2 := (hb1.set 0 (.string ⟨#[]⟩)).set 1 (.string ⟨#[]⟩); have d2 := hb2.get (k := 0) rfl; have d3 := hb2.get (k := 1) rfl; refine bodyPost_ret (v := .tuple #[.agg #[.string (S []), .string (S [])], .int .i64 3]) ?_ rfl ⟨?_, ?_⟩
    · simp [results, Tryz.results223, go_sem, S, d2, d3]
    · unfold parseV parseE; rw [HP.out]; rfl
    · exact ((hkA.trans hk1).setCell _ _ (by simp)).setCell _ _ (by simp)
  | true =>
    have hn : name.length ≤ maxLen := by show _ ≤ 9223372036854775807; omega
    have hv : value.length ≤ maxLen := by show _ ≤ 9223372036854775807; omega
    have hT := fun w1 => field_IsToken name w1 hn
    have hX := fun w1 => field_isText value w1 hv
    have hR := fun w1 => field_trim value w1 hv
    cases htk : isTok name with
    | false =>
      simp only [htk, Bool.and_false, Bool.false_and, Bool.false_eq_true, if_false] at hP; rw [htk] at hT; have HP := Lib.hid hP; have HT := Lib.hid hT; clear hP hT hX hR htk hlen hn hv; go_enter Tryz.func223, Tryz.ntmps223; go_wp2_with fail; refine (HC.out _ hkA).mono ?_; rintro e w1 ⟨rfl, hk1⟩; go_wp2_with fail; refine (HT.out _).mono ?_; rintro e w2 ⟨rfl, hk2⟩; have hb1 := hk2.blk (hk1.blk hbA (by simp)) (by simp); have d0 := hb1.get (k := 0) rfl; have d1 := hb1.get (k := 1) rfl; have f1 := hb1.frozen; have hs1 := hb1.lt; go_wp2_with fail; have hb2 := (hb1.set 0 (.string ⟨#[]⟩)).set 1 (.string ⟨#[]⟩); have d2 := hb2.get (k := 0) rfl; have d3 := hb2.get (k := 1) rfl; refine bodyPost_ret (v := .tuple #[.agg #[.string (S []), .string (S [])], .int .i64 3]) ?_ rfl ⟨?_, ?_⟩
      · simp [results, Tryz.results223, go_sem, S, d2, d3]
      · unfold parseV parseE; rw [HP.out]; rfl
      · exact (((hkA.trans hk1).trans hk2).setCell _ _ (by simp)).setCell _ _ (by simp)
    | true =>
      cases htx : isTxt value with
      | false =>
        simp only [htk, htx, Bool.and_false, Bool.false_eq_true, if_false] at hP; rw [htk] at hT; rw [htx] at hX; have HP := Lib.hid hP; have HT := Lib.hid hT; have HX := Lib.hid hX; clear hP hT hX hR htk hlen hn hv htx; go_enter Tryz.func223, Tryz.ntmps223; go_wp2_with fail; refine (HC.out _ hkA).mono ?_; rintro e w1 ⟨rfl, hk1⟩; go_wp2_with fail; refine (HT.out _).mono ?_; rintro e w2 ⟨rfl, hk2⟩; go_wp2_with fail; refine (HX.out _).mono ?_; rintro e w3 ⟨rfl, hk3⟩; have hb1 := hk3.blk (hk2.blk (hk1.blk hbA (by simp)) (by simp)) (by simp); have d0 := hb1.get (k := 0) rfl; have d1 := hb1.get (k := 1) rfl; have f1 := hb1.frozen; have hs1 := hb1.lt; go_wp2_with fail; have hb2 := (hb1.set 0 (.string ⟨#[]⟩)).set 1 (.string ⟨#[]⟩); have d2 := hb2.get (k := 0) rfl; have d3 := hb2.get (k := 1) rfl; refine bodyPost_ret (v := .tuple #[.agg #[.string (S []), .string (S [])], .int .i64 3]) ?_ rfl ⟨?_, ?_⟩
        · simp [results, Tryz.results223, go_sem, S, d2, d3]
        · unfold parseV parseE; rw [HP.out]; rfl
        · exact ((((hkA.trans hk1).trans hk2).trans hk3).setCell _ _ (by simp)).setCell _ _ (by simp)
      | true =>
        simp only [htk, htx, Bool.and_true, if_true] at hP; rw [htk] at hT; rw [htx] at hX; have HP := Lib.hid hP; have HT := Lib.hid hT; have HX := Lib.hid hX; have HR := Lib.hid hR; clear hP hT hX hR htk hlen hn hv htx; go_enter Tryz.func223, Tryz.ntmps223; go_wp2_with fail; refine (HC.out _ hkA).mono ?_; rintro e w1 ⟨rfl, hk1⟩; go_wp2_with fail; refine (HT.out _).mono ?_; rintro e w2 ⟨rfl, hk2⟩; go_wp2_with fail; refine (HX.out _).mono ?_; rintro e w3 ⟨rfl, hk3⟩; go_wp2_with fail; refine (HR.out _).mono ?_; rintro e w4 ⟨rfl, hk4⟩; have hb1 := hk4.blk (hk3.blk (hk2.blk (hk1.blk hbA (by simp)) (by simp)) (by simp)) (by simp); have d0 := hb1.get (k := 0) rfl; have d1 := hb1.get (k := 1) rfl; have f1 := hb1.frozen; have hs1 := hb1.lt; go_wp2_with fail; have hb2 := (hb1.set 0 (.string (S name))).set 1 (.string (S (trimW value))); have d2 := hb2.get (k := 0) rfl; have d3 := hb2.get (k := 1) rfl; refine bodyPost_ret (v := .tuple #[.agg #[.string (S name), .string (S (trimW value))], .int .i64 0]) ?_ rfl ⟨?_, ?_⟩
        · simp [results, Tryz.results223, go_sem, d2, d3]
        · unfold parseV parseE; rw [HP.out]; rfl
        · exact (((((hkA.trans hk1).trans hk2).trans hk3).trans hk4).setCell _ _ (by simp)).setCell _ _ (by simp)
set_option maxRecDepth 100000 in
set_option maxHeartbeats 400000 in
theorem field_Print (f : Fld) (w : World) (hl : f.name.length + f.value.length ≤ 1073741824) :
    Calls Tryz.prog 136 #[.agg f.cells.toArray] w fun e w' => e = .returned (.string (S (printF f))) ∧ Keep [] w w' := by
  have h1 := S_size f.name; have h2 := S_size f.value; have hkA := (Keep.refl [] w).alloc (.cells #[.string (S f.name), .string (S f.value)] 89)
  have hsum : S f.name ++ ⟨#[58, 32]⟩ ++ S f.value = S (printF f) := by
    show S f.name ++ S [58, 32] ++ S f.value = _; rw [S_append, S_append]; rfl
  have HS := Lib.hid hsum; clear hsum; show Calls _ _ #[.agg #[.string (S f.name), .string (S f.value)]] _ _; go_enter Tryz.func136, Tryz.ntmps136; go_wp2_with fail; go_ret; exact ⟨ret_str HS.out, hkA⟩
set_option maxRecDepth 100000 in
set_option maxHeartbeats 400000 in
theorem field_Good (f : Fld) (w : World) (hn : f.name.length ≤ maxLen) (hv : f.value.length ≤ maxLen) :
    Calls Tryz.prog 135 #[.agg f.cells.toArray] w fun e w' => e = .returned (.bool (goodF f)) ∧ Keep [] w w' := by
  have hT := fun w1 => field_IsToken f.name w1 hn
  have hX := fun w1 => field_isText f.value w1 hv
  have hR := fun w1 => field_trim f.value w1 hv
  have hbA : Blk (w.alloc (.cells #[.string (S f.name), .string (S f.value)] 89)) w.heap.size 89 [.string (S f.name), .string (S f.value)] := Blk.newA w _ _; have hkA := (Keep.refl [] w).alloc (.cells #[.string (S f.name), .string (S f.value)] 89); have hG : goodF f = (isTok f.name && isTxt f.value && (trimW f.value == f.value)) := rfl; show Calls _ _ #[.agg #[.string (S f.name), .string (S f.value)]] _ _; have hA0 : ∀ x, (ext (w.alloc (.cells #[.string (S f.name), .string (S f.value)] 89)) x).cell? ⟨w.heap.size, 0, none⟩ = some (.string (S f.name)) := fun x => ((ext_keep _ x).blk hbA (by simp)).get rfl
  have hA1 : ∀ x, (ext (w.alloc (.cells #[.string (S f.name), .string (S f.value)] 89)) x).cell? ⟨w.heap.size, 1, none⟩ = some (.string (S f.value)) := fun x => ((ext_keep _ x).blk hbA (by simp)).get rfl
  cases htk : isTok f.name with
  | false =>
    rw [htk] at hT hG; have HT := Lib.hid hT; have HG := Lib.hid hG; clear hT hX hR hG htk hn hv; go_enter Tryz.func135, Tryz.ntmps135; go_wp2_with fail; refine wp_region_ext_lit (by kernel_rfl) (by kernel_rfl) ?_
    repeat (go_big_quiet_step ((go_at_call 131; exact Calls.quiet_ext (HT.out _))))
    refine wpQuiet_nil ?_; intro _ hw'; obtain ⟨nq, hw''⟩ := hw'; subst hw''; go_wp2_with fail; go_ret; exact ⟨ret_bool (by rw [HG.out]; rfl), hkA.trans (ext_keep _ nq)⟩
  | true =>
    cases htx : isTxt f.value with
    | false =>
      rw [htk, htx] at hG; rw [htk] at hT; rw [htx] at hX; have HT := Lib.hid hT; have HX := Lib.hid hX; have HG := Lib.hid hG; clear hT hX hR hG htk hn hv htx; go_enter Tryz.func135, Tryz.ntmps135; go_wp2_with fail; refine wp_region_ext_lit (by kernel_rfl) (by kernel_rfl) ?_
      repeat (go_big_quiet_step ((first | (go_at_call 131; exact Calls.quiet_ext (HT.out _)) | (go_at_call 177; exact Calls.quiet_ext (HX.out _)))))
      refine wpQuiet_nil ?_; intro _ hw'; obtain ⟨nq, hw''⟩ := hw'; subst hw''; go_wp2_with fail; go_ret; exact ⟨ret_bool (by rw [HG.out]; rfl), hkA.trans (ext_keep _ nq)⟩
    | true =>
      rw [htk, htx] at hG; rw [htk] at hT; rw [htx] at hX; have HT := Lib.hid hT; have HX := Lib.hid hX; have HR := Lib.hid hR; have HG := Lib.hid hG; have h1 := S_toList (trimW f.value); have h2 := S_toList f.value; clear hT hX hR hG htk hn hv htx; go_enter Tryz.func135, Tryz.ntmps135; go_wp2_with fail; refine wp_region_ext_lit (by kernel_rfl) (by kernel_rfl) ?_
      repeat (go_big_quiet_step ((first | (go_at_call 131; exact Calls.quiet_ext (HT.out _)) | (go_at_call 177; exact Calls.quiet_ext (HX.out _)) | (go_at_call 178; exact Calls.quiet_ext (HR.out _)))))
      refine wpQuiet_nil ?_; intro _ hw'; obtain ⟨nq, hw''⟩ := hw'; subst hw''; go_wp2_with fail; go_ret; exact ⟨ret_bool (by rw [HG.out]; rfl), hkA.trans (ext_keep _ nq)⟩
def lowTo (l : List UInt8) (k : Nat) : List UInt8 := (l.take k).map lowB ++ l.drop k
theorem lowTo_length (l : List UInt8) (k : Nat) : (lowTo l k).length = l.length := by simp [lowTo]; omega
theorem lowTo_at {l : List UInt8} {k : Nat} {c : UInt8} (h : l[k]? = some c) : (lowTo l k)[k]? = some c := by
  have hlt := List.getElem?_eq_some_iff.1 h; obtain ⟨hlt, _⟩ := hlt; unfold lowTo; rw [List.getElem?_append_right (by simp; omega)]; simp; rw [show k + (k - min k l.length) = k by omega]; exact h
theorem lowTo_succ {l : List UInt8} {k : Nat} {c : UInt8} (h : l[k]? = some c) : lowTo l (k + 1) = (lowTo l k).set k (lowB c) := by
  have hlt := List.getElem?_eq_some_iff.1 h; obtain ⟨hlt, hc⟩ := hlt; unfold lowTo; rw [take_snoc h, List.set_append_right _ _ (by simp; omega)]; simp; rw [show k - min k l.length = 0 by omega, List.drop_eq_getElem_cons hlt, hc]; simp
theorem lowTo_end (l : List UInt8) : lowTo l l.length = lowW l := by simp [lowTo, lowW]
def Bytes (w : World) (b : Nat) (l : List UInt8) : Prop := (∀ (j : Nat) (c : UInt8), l[j]? = some c → w.cell? ⟨b, j, none⟩ = some (.int .u8 (c.toNat : Nat))) ∧ ∀ j, j < l.length → w.frozen? ⟨b, j, none⟩ = false
theorem Bytes.conv (w : World) (e : TypeId) (l : List UInt8) : Bytes (Lib.bytesWorld w e (S l)) w.heap.size l :=
  ⟨fun _ _ h => conv_at w e h, fun _ h => conv_free w e (S l) (by rw [S_size]; exact h)⟩
theorem Bytes.set {w : World} {b : Nat} {l : List UInt8} (h : Bytes w b l) (k : Nat) (hk : k < l.length) (c : UInt8) (v : Int) (hv : v = (c.toNat : Nat)) : Bytes (w.setCell ⟨b, k, none⟩ (.int .u8 v)) b (l.set k c) := by
  subst hv; refine ⟨fun j d hd => ?_, fun j hj => ?_⟩
  · by_cases e : k = j
    · subst e; simp [hk] at hd; subst hd; obtain ⟨x, hx⟩ : ∃ x, l[k]? = some x := ⟨_, List.getElem?_eq_getElem hk⟩
      exact World.cell?_setCell_same w _ _ (h.1 k x hx)
    · rw [World.cell?_setCell_other w _ _ _ (by intro h'; exact e (congrArg Addr.off h'))]; rw [List.getElem?_set_ne e] at hd; exact h.1 j d hd
  · rw [World.frozen?_setCell]; exact h.2 j (by simpa using hj)
theorem Bytes.back {P : Program} {w : World} {b : Nat} {l : List UInt8} (h : Bytes w b l) (src dst e : TypeId) (n cap : Nat) (hn : n = l.length) (hs : P.underlying src = some (.slice e)) (he : P.underlying e = some (.int .u8)) (hd : P.underlying dst = some .string) :
    (convert src dst (.slice (some ⟨b, 0, none⟩) n cap)).run P w = .ok (.string (S l)) w := by
  subst hn; refine run_convert_bytes_back w src dst e ⟨b, 0, none⟩ cap l hs he hd (fun j hj => ?_); have := h.1 j l[j] (List.getElem?_eq_getElem hj); have ha : (⟨b, 0, none⟩ : Addr).add j = ⟨b, j, none⟩ := by unfold Addr.add; split <;> simp_all
  rw [ha]; exact this
set_option maxRecDepth 100000 in
set_option maxHeartbeats 400000 in
theorem field_low (l : List UInt8) (w : World) (hs : l.length ≤ maxLen) :
    Calls Tryz.prog 77 #[.string (S l)] w fun e w' => e = .returned (.string (S (lowW l))) ∧ Keep [] w w' := by
  have hs' : l.length ≤ 9223372036854775807 := hs; have hcv := conv_run w (S l); have hby := Bytes.conv w 5 l; have hkp := conv_keep w 5 (S l); have hsz := S_size l; generalize Lib.bytesWorld w 5 (S l) = wb at hcv hby hkp; generalize hX : w.heap.size = X at hcv hby; have HX := Lib.hid hX; clear hs hX; go_enter Tryz.func77, Tryz.ntmps77; go_wp2_with fail
  go_loopg [10] l.length (fun g i wr => ∃ k : Nat, i = .int .i64 k ∧ k ≤ l.length ∧ g = l.length - k ∧ Bytes wr X (lowTo l k) ∧ Keep [] w wr)
  case atStart => exact ⟨0, rfl, Nat.zero_le _, by omega, by simpa [lowTo] using hby, hkp⟩
  case round =>
    obtain ⟨k, rfl, hk, hgk, hbr, hkr⟩ := hrel; by_cases hlt : k < l.length
    · obtain ⟨c, hg⟩ : ∃ c, l[k]? = some c := ⟨_, List.getElem?_eq_getElem hlt⟩
      have hc := hbr.1 k c (lowTo_at hg); have hf := hbr.2 k (by rw [lowTo_length]; exact hlt); have hc8 := u8_nat c; have HG := Lib.hid hg; have HB := Lib.hid hbr; clear hg hbr hby hkp; by_cases ht : 65 ≤ c.toNat ∧ c.toNat ≤ 90
      · obtain ⟨h1, h2⟩ := ht
        have hl : (lowB c).toNat = c.toNat + 32 := by
          unfold lowB; rw [if_pos ⟨h1, h2⟩, UInt8.toNat_add]; have : (32 : UInt8).toNat = 32 := rfl; omega
        have HL := Lib.hid hl; clear hl; go_wp2_with fail
        go_roundg (l.length - (k + 1))
        case measure => omega
        case rel =>
          refine ⟨k + 1, by go_num, by omega, rfl, ?_, hkr.setCell _ _ (by have := HX.out; simp; omega)⟩; rw [lowTo_succ HG.out]; exact HB.out.set k (by rw [lowTo_length]; exact hlt) _ _ (by rw [HL.out]; omega)
      · have hl : lowB c = c := by unfold lowB; rw [if_neg ht]
        have HL := Lib.hid hl; have HT := Lib.hid ht
        have hend : Bytes wr X (lowTo l (k + 1)) := by
          rw [lowTo_succ HG.out, hl, list_set_self _ _ _ (lowTo_at HG.out)]; exact HB.out
        clear hl; by_cases h1 : 65 ≤ c.toNat
        · have h2 : 90 < c.toNat := by omega
          clear ht; go_wp2_with fail
          go_roundg (l.length - (k + 1))
          case measure => omega
          case rel => exact ⟨k + 1, by go_num, by omega, rfl, hend, hkr⟩
        · clear ht; go_wp2_with fail
          go_roundg (l.length - (k + 1))
          case measure => omega
          case rel => exact ⟨k + 1, by go_num, by omega, rfl, hend, hkr⟩
    · have hke : k = l.length := by omega
      rw [hke, lowTo_end] at hbr; have hback := hbr.back (P := Tryz.prog) 143 9 5 l.length (grownCap w l.length 0 5) (by simp [lowW]) Tryz.underlying143 Tryz.underlying5 Tryz.underlying9; have HKE := Lib.hid hke; clear hke hbr hby; go_wp2_with fail; go_ret; exact ⟨rfl, hkr⟩
end Go.Proofs.YtlhnjkekjbbhcaaGreatDoor
namespace Go.Proofs.YtlhnjkekjbbhcaaGreatDoor
open Go.RowKit Go.ChangeShapes Go.WideShapes
def Sl {α : Type} (enc : α → List Value) (n : Nat) (w : World) (v : Value) (L : List α) : Prop :=
  (∃ a cap, v = .slice a 0 cap ∧ cap ≤ maxLen ∧ L = []) ∨
  ∃ b off cap, v = .slice (some ⟨b, off, none⟩) L.length cap ∧ L.length ≤ cap ∧ cap ≤ maxLen ∧
    ∀ i x, L[i]? = some x → ∀ k, k < n → w.cell? ⟨b, off + i * n + k, none⟩ = (enc x)[k]?
theorem Sl.keep {α : Type} {enc : α → List Value} {n : Nat} (hn : ∀ x, (enc x).length = n) (_ : 0 < n) {W w w' : World} {v : Value} {L : List α} {S : List Nat}
    (h : Sl enc n w v L) (hW : Sl enc n W v L) (k : Keep S w w') (hS : ∀ b ∈ S, W.heap.size ≤ b) (hsz : W.heap.size ≤ w.heap.size) : Sl enc n w' v L := by
  rcases h with h | ⟨b, off, cap, rfl, h1, h2, h3⟩
  · exact .inl h
  · refine .inr ⟨b, off, cap, rfl, h1, h2, fun i x hx j hj => ?_⟩; rw [← h3 i x hx j hj]; rcases hW with ⟨_, _, hv, _, rfl⟩ | ⟨b', off', cap', hv, _, _, h3'⟩
    · simp at hx
    · cases hv; have hc := h3' i x hx j hj; have : j < (enc x).length := by rw [hn]; exact hj
      rw [List.getElem?_eq_getElem this] at hc; have hlt := World.block_lt_of_cell? W _ hc; refine k.cell (by have := hlt; simp at this; simp; omega) ?_; intro hm; have := hS _ hm; simp at hlt this; omega
theorem Sl.cell {α : Type} {enc : α → List Value} {n : Nat} {w : World} {v : Value} {L : List α} (h : Sl enc n w v L) {i : Nat} {x : α} (hi : L[i]? = some x) :
    ∃ b off cap, v = .slice (some ⟨b, off, none⟩) L.length cap ∧ L.length ≤ cap ∧ cap ≤ maxLen ∧ ∀ k, k < n → w.cell? ⟨b, off + i * n + k, none⟩ = (enc x)[k]? := by
  rcases h with ⟨_, _, _, _, rfl⟩ | ⟨b, off, cap, hv, h1, h2, h3⟩
  · simp at hi
  · exact ⟨b, off, cap, hv, h1, h2, h3 i x hi⟩
theorem Sl.shape {α : Type} {enc : α → List Value} {n : Nat} {w : World} {v : Value} {L : List α} (h : Sl enc n w v L) : ∃ a cap, v = .slice a L.length cap ∧ L.length ≤ maxLen := by
  rcases h with ⟨a, cap, hv, hc, rfl⟩ | ⟨b, off, cap, hv, h1, h2, h3⟩
  · exact ⟨a, cap, hv, Nat.zero_le _⟩
  · exact ⟨_, cap, hv, by omega⟩
theorem take_drop_one {cs : List Value} {k : Nat} {v : Value} (h : (cs.drop k).take 1 = [v]) : cs[k]? = some v := by
  have : ((cs.drop k).take 1)[0]? = some v := by rw [h]; rfl
  simpa [List.getElem?_take, List.getElem?_drop] using this
theorem list_eq_of {l m : List Value} {n : Nat} (hl : l.length = n) (hm : m.length = n) (h : ∀ i, i < n → l[i]? = m[i]?) : l = m := by
  apply List.ext_getElem?; intro i; by_cases hi : i < n
  · exact h i hi
  · rw [List.getElem?_eq_none (by omega), List.getElem?_eq_none (by omega)]
section
variable {H : Type} {enc : TypeId × Value → H} {P : Program} {w : World} {base : Nat} {spare : Nat → Bool} {held : Bool}
theorem field_int {t : TypeId} {k : IntKind} {n o : Nat} {cs : List Value} {y : DataW H × List MemPlace} (ht : P.underlying t = some (.int k)) (hc : P.cellsOf t = 1) (h : DataW.trod enc P w base spare held n t ((cs.drop o).take (P.cellsOf t)) = some y) :
    ∃ v, cs[o]? = some (.int k v) ∧ (Lit.int k v).wf = true := by
  obtain ⟨v, hv, _, hw⟩ := DataW.trod_int ht h; rw [hc] at hv; exact ⟨v, take_drop_one hv, hw⟩
theorem field_bool {t : TypeId} {n o : Nat} {cs : List Value} {y : DataW H × List MemPlace} (ht : P.underlying t = some .bool) (hc : P.cellsOf t = 1) (h : DataW.trod enc P w base spare held n t ((cs.drop o).take (P.cellsOf t)) = some y) :
    ∃ v, cs[o]? = some (.bool v) := by
  obtain ⟨v, hv, _⟩ := DataW.trod_bool ht h; rw [hc] at hv; exact ⟨v, take_drop_one hv⟩
end
def in64 (n : Int) : Prop := -9223372036854775808 ≤ n ∧ n ≤ 9223372036854775807
theorem in64_of {n : Int} (h : (Lit.int .i64 n).wf = true) : in64 n := by simpa [in64, Lit.wf, IntKind.min, IntKind.max, IntKind.signed, IntKind.bits] using h
theorem u64_mod (n : Int) (m : Nat) (hm : 0 < m) : ∃ p : Nat, p < m ∧ (IntKind.u64.wrap n).tmod m = p := by
  have h0 : 0 ≤ IntKind.u64.wrap n := by simp [IntKind.wrap, IntKind.signed, IntKind.bits]; omega
  have h1 := Int.tmod_nonneg (m : Int) h0; have h2 := Int.tmod_lt_of_pos (IntKind.u64.wrap n) (show (0 : Int) < m by omega); obtain ⟨p, hp⟩ := Int.eq_ofNat_of_zero_le h1; exact ⟨p, by omega, hp⟩
end Go.Proofs.YtlhnjkekjbbhcaaGreatDoor
