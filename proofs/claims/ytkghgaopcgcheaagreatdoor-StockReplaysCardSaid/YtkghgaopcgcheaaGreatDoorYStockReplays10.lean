/- Parts of the proof of StockReplays, in order. No conditions but those that each theorem states. -/
import Derived.Test.YtkghgaopcgcheaaGreatDoorYStockReplays0
import Derived.BigRegion
import Derived.Laws.Tables
import Derived.Test.YtkghgaopcgcheaaGreatDoorYStockReplays9
set_option maxRecDepth 100000
set_option maxHeartbeats 16000000
set_option linter.unusedSimpArgs false
set_option linter.unusedVariables false
namespace Go.Proofs.YtkghgaopcgcheaaGreatDoor
open Go.RowKit
theorem ShaT.fresh {w : World} (h : ShaT w) {b : Nat} (hb : w.heap.size ≤ b) : b ≠ 0 ∧ b ≠ 1 := by
  have c0 := World.block_lt_of_cell? w _ (Lib.TabIs.cell h.1 (g := 0) (by kernel_rfl) 0 (by decide)); have c1 := World.block_lt_of_cell? w _ (Lib.TabIs.cell h.2 (g := 1) (by kernel_rfl) 0 (by decide)); simp only at c0 c1; omega
def shaDig (st : List Int) : Dig := ⟨(List.range 32).map fun i => u8of (st.getD (i / 4) 0 / 2 ^ (8 * (3 - i % 4))), by simp⟩
def shaSum (h : ShaS) : Dig := shaDig (shaFin h).st
def sumRow (st : List Int) (t : Nat) : List UInt8 := (shaDig st).1.take t ++ List.replicate (32 - t) 0
theorem sumRow_length (st : List Int) (t : Nat) (h : t ≤ 32) : (sumRow st t).length = 32 := by
  have := (shaDig st).2; simp [sumRow]; omega
theorem sumRow_set (st : List Int) (i k : Nat) (hi : i < 8) (hk : k < 4) : (sumRow st (4 * i + k)).set (4 * i + k) (u8of (st.getD i 0 / 2 ^ (8 * (3 - k)))) = sumRow st (4 * i + k + 1) := by
  have h32 := (shaDig st).2; have hl : ((shaDig st).1.take (4 * i + k)).length = 4 * i + k := by rw [List.length_take]; omega
  have e : (shaDig st).1[4 * i + k]? = some (u8of (st.getD i 0 / 2 ^ (8 * (3 - k)))) := by
    have e1 : (4 * i + k) / 4 = i := by omega
    have e2 : (4 * i + k) % 4 = k := by omega
    simp only [shaDig, List.getElem?_map, List.getElem?_range (show 4 * i + k < 32 by omega), Option.map_some, e1, e2]
  unfold sumRow; rw [List.set_append_right _ _ (by omega), hl, Nat.sub_self, show 32 - (4 * i + k) = (32 - (4 * i + k + 1)) + 1 by omega, List.replicate_succ, sqC, take_snoc e, List.append_assoc]; rfl
theorem sumRow_done (st : List Int) : bytC (sumRow st 32) = digC (shaDig st) := by
  have h32 := (shaDig st).2; unfold sumRow; rw [List.take_of_length_le (by omega), Nat.sub_self, List.replicate_zero, List.append_nil]; rfl
theorem sha_Sum (b : Nat) (h : ShaS) (w : World) (hs : ShO w b h) (hz : 0 ≤ h.size) :
    Calls Tryz.prog 179 #[.pointer (some ⟨b, 0, none⟩)] w fun e w' => e = .returned (.agg (digC (shaSum h)).toArray) ∧ Keep [] w w' := by
  have hkA := (Keep.refl [] w).alloc (.cells (bytC (List.replicate 32 0)).toArray 25); have hbA := Blk.new w (bytC (List.replicate 32 0)) 25; have hzA : (w.alloc (.cells (bytC (List.replicate 32 0)).toArray 25)).heap.size = w.heap.size + 1 := by simp
  have HS := Lib.hid hs; obtain ⟨C, hC⟩ : ∃ C, digC (shaSum h) = C := ⟨_, rfl⟩
  rw [hC]; have HC := Lib.hid hC; have hlt := hs.sh.1.lt; clear hs hC; go_enter Tryz.func179, Tryz.ntmps179; go_wp2_with fail; change Calls _ _ _ (w.alloc (.cells (bytC (List.replicate 32 0)).toArray 25)) _; generalize w.alloc (.cells (bytC (List.replicate 32 0)).toArray 25) = wA at hkA hbA hzA ⊢; have hOA := HS.out.keep hkA (by simp) (HS.out.tab.keep0 hkA); refine (sha_Copy b h wA hOA.sh).mono ?_; rintro e w1 ⟨rfl, s1, k1, z1⟩; have t1 := (HS.out.tab.keep0 hkA).keep0 k1; have hO1 : ShO w1 wA.heap.size h := ⟨s1, t1, hOA.tab.fresh (Nat.le_refl _), hOA.fill⟩
  have HF := Lib.hid (sha_finish wA.heap.size h w1 hO1 hz); have HK1 := Lib.hid (And.intro (hkA.trans k1) (k1.blk hbA (by simp))); rw [hzA] at HF; rw [hzA]; clear hkA hbA k1 s1 t1 hO1 hOA hzA z1; go_wp2_with fail; refine HF.out.mono ?_; rintro e w2 ⟨rfl, o2, k2⟩; obtain ⟨st, hst⟩ : ∃ st, (shaFin h).st = st := ⟨_, rfl⟩
  have hl8 : st.length = 8 := by rw [← hst]; exact o2.sh.2.1
  have hrg : w2.rangeAt (w.heap.size + 1) 0 (u32C st) := fun j v hv => by
    rw [Nat.zero_add]; have hj : j < 8 := by have := (List.getElem?_eq_some_iff.1 hv).1; rw [u32C_length] at this; omega
    have := o2.sh.state (i := j) (x := st[j]) (by rw [hst]; exact List.getElem?_eq_getElem _); rw [this, ← hv]; exact (u32C_get (List.getElem?_eq_getElem _)).symm
  have HK2 := Lib.hid (show Keep [] w w2 ∧ Blk w2 w.heap.size 25 (bytC (sumRow st 0)) from ⟨HK1.out.1.trans' k2 (by simp), by
    have := k2.blk HK1.out.2 (by simp); rw [show sumRow st 0 = List.replicate 32 0 by simp [sumRow]]; exact this⟩)
  have HR := Lib.hid hrg; have HC2 := Lib.hid (show digC (shaDig st) = C by rw [← HC.out, ← hst]; rfl); have HL8 := Lib.hid hl8; clear o2 k2 hrg hst hl8
  go_wp2_with (first
    | (with_reducible (show wpList _ _ _ ((⟨_, .load _ _, _, _, _, none⟩ : Oper) :: _) _ _)
       refine wpList_load_mid rfl 162 (.tmp 16) rfl (w.heap.size + 1) 0 (by rfl) (u32C st) _ HR.out Tryz.underlying162 rfl (by rw [u32C_length, HL8.out]; kernel_rfl) ?_; simp only [sq])
    | fail)
  go_loopg [18] 8 (fun g i wr => ∃ k : Nat, i = .int .i64 (k : Nat) ∧ k ≤ 8 ∧ g = 8 - k ∧ Hid (Blk wr w.heap.size 25 (bytC (sumRow st (4 * k)))) ∧ Hid (Keep [] w wr))
  case atStart => exact ⟨0, rfl, by omega, rfl, Lib.hid HK2.out.2, Lib.hid HK2.out.1⟩
  case round =>
    obtain ⟨i, rfl, hi, hg, HL, HK⟩ := hrel; by_cases hlt8 : i < 8
    · have f1 : decide ((i : Int) < 8) = true := decide_eq_true (by omega); have wi := IntWalk.i64_in ((i : Int) + 1) (by omega); have wm := IntWalk.i64_in (4 * (i : Int)) (by omega); have hix := index8 wr st i HL8.out hlt8; obtain ⟨x, hx⟩ : ∃ x, st.getD i 0 = x := ⟨_, rfl⟩
      rw [hx] at hix; have HX := Lib.hid hx; clear hx; go_wp2_with fail
      go_loopg [22] 4 (fun g v wr => ∃ k : Nat, v = .int .i64 (k : Nat) ∧ k ≤ 4 ∧ g = 4 - k ∧ Hid (Blk wr w.heap.size 25 (bytC (sumRow st (4 * i + k)))) ∧ Hid (Keep [] w wr))
      case atStart => exact ⟨0, rfl, by omega, rfl, HL, HK⟩
      case round =>
        clear HL HK f1 hix; obtain ⟨k, rfl, hk, hgk, HL, HK⟩ := hrel; by_cases hlk : k < 4
        · have f1 : decide ((k : Int) < 4) = true := decide_eq_true (by omega); have wk := IntWalk.i64_in ((k : Int) + 1) (by omega); obtain ⟨t, ht⟩ : ∃ t, 4 * i + k = t := ⟨_, rfl⟩
          have wt : IntKind.i64.wrap (4 * (i : Int) + (k : Int)) = (t : Nat) := by rw [IntWalk.i64_in _ (by omega)]; omega
          obtain ⟨s, hs⟩ : ∃ s, 3 - k = s := ⟨_, rfl⟩
          have ws : IntKind.i64.wrap (3 - (k : Int)) = (s : Nat) := by rw [IntWalk.i64_in _ (by omega)]; omega
          have wm8 := IntWalk.i64_in (8 * (s : Int)) (by omega); have p0 : (0 : Int) ≤ 8 * (s : Int) := by omega
          have p1 : (8 * (s : Int)).toNat = 8 * s := by omega
          have p2 : 8 * (s : Int) ≤ 32 := by omega
          have a0 : (0 : Int) ≤ (t : Int) := by omega
          have a1 : (t : Int) < 32 := by omega
          have hw := u8of_wrap (x / 2 ^ (8 * s)); have hln := sumRow_length st (4 * i + k) (by omega); rw [ht] at hln; obtain ⟨c, hc⟩ : ∃ c, (sumRow st t)[t]? = some c := ⟨_, List.getElem?_eq_getElem (by omega)⟩
          have hL := HL.out; rw [ht] at hL; have hcl := hL.get (bytC_get hc); have hfr := hL.frozen t; have hst := hL.set t (.int .u8 ((u8of (x / 2 ^ (8 * s))).toNat : Nat)); have hss := sumRow_set st i k hlt8 hlk; rw [HX.out, hs, ht] at hss; rw [bytC_set, hss] at hst; have HST := Lib.hid hst; have HT := Lib.hid ht; clear hst hss hL hc hln ht hs; go_wp2_with fail
          go_roundg (4 - (k + 1))
          case measure => omega
          case rel => exact ⟨k + 1, rfl, by omega, rfl, by rw [← Nat.add_assoc, HT.out]; exact HST, Lib.hid (HK.out.setCell _ _ (by simp))⟩
        · obtain rfl : k = 4 := by omega
          go_wp2_with fail
          go_roundg (8 - (i + 1))
          case measure => omega
          case rel => exact ⟨i + 1, rfl, by omega, rfl, by rw [Nat.mul_add]; exact HL, HK⟩
    · obtain rfl : i = 8 := by omega
      have hb := HL.out; rw [show 4 * 8 = 32 from rfl, sumRow_done, HC2.out] at hb; have hlen : C.length = 32 := by rw [← HC2.out, digC_length]
      have hone : ∀ v ∈ C, v.oneCell' = true := by rw [← HC2.out]; exact digC_one _
      have hi : (Tryz.prog.info? 25).map (·.size) = some C.length := by rw [hlen]; kernel_rfl
      have HR := Lib.hid hb.rng; have HT := Lib.hid (hb.thr 0 32 (by omega)); have HI := Lib.hid (And.intro hi (And.intro hlen hone)); clear hb hi hlen hone HL
      go_wp2_with (first
        | (with_reducible (show wpList _ _ _ ((⟨_, .load _ _, _, _, _, none⟩ : Oper) :: _) _ _)
           refine wpList_load_mid rfl 25 (.tmp 2) rfl w.heap.size 0 (by rfl) C _ HR.out Tryz.underlying25 rfl HI.out.1 ?_; simp only [sq])
        | (with_reducible (show wpList _ _ _ ((⟨none, .store _ _ _, _, _, _, none⟩ : Oper) :: _) _ _)
           refine wpList_store_mid rfl 25 (.tmp 2) (.tmp 38) rfl w.heap.size 0 C.toArray (by rfl) (by rfl) (by simp only [List.size_toArray, HI.out.2.1]; exact HT.out) (by simp only [List.size_toArray]; exact HI.out.1) (all_oneCell_toArray HI.out.2.2) ?_)
        | fail)
      have hload := run_loadVar_mid (P := Tryz.prog) (wr.setCells w.heap.size 0 C) w.heap.size 0 25 C _ (World.rangeAt_setCells_same wr w.heap.size 0 C (by rw [HI.out.2.1]; exact HT.out)) Tryz.underlying25 rfl HI.out.1; refine bodyPost_ret (v := .agg C.toArray) (by simp [Act.put, results, Tryz.results179, asAddr, hload]) rfl ⟨rfl, ?_⟩; exact Keep.cellsTo _ (fun hh => absurd hh (Nat.lt_irrefl _)) _ _ _ HK.out
theorem shaEat_size (h : ShaS) (l : List UInt8) : (shaEat h l).size = h.size := by
  unfold shaEat shaFill
  split <;> rfl
theorem shaPut_size : ∀ (k : Nat) (h : ShaS) (l : List UInt8), (shaPut k h l).size = h.size
  | 0, _, _ => rfl
  | k + 1, h, l => by
    rw [shaPut]
    split
    · rfl
    · rw [shaPut_size k, shaEat_size]
theorem shaWrite_size (h : ShaS) (l : List UInt8) : (shaWrite h l).size = h.size + l.length := shaPut_size _ _ _
def shaOf (ps : List (List UInt8)) : Dig := shaSum (ps.foldl shaWrite shaNew)
def sumLen (ps : List (List UInt8)) : Nat := (ps.map List.length).sum
theorem shaFold_size : ∀ (ps : List (List UInt8)) (h : ShaS), (ps.foldl shaWrite h).size = h.size + (sumLen ps : Nat)
  | [], h => by simp [sumLen]
  | l :: r, h => by
    rw [List.foldl_cons, shaFold_size r, shaWrite_size]; simp [sumLen]; omega
theorem sha_Of (v : Value) (ps : List (List UInt8)) (w : World) (hs : Sl strC 1 w v ps) (ht : ShaT w) (hl : sumLen ps ≤ 1099511627776) :
    Calls Tryz.prog 138 #[v] w fun e w' => e = .returned (.agg (digC (shaOf ps)).toArray) ∧ Keep [] w w' := by
  obtain ⟨a, cap, rfl, hml⟩ := hs.shape; have hml' : ps.length ≤ 9223372036854775807 := hml; have hkA := (Keep.refl [] w).alloc (.cells (bytC (List.replicate 32 0)).toArray 25); have hbA := Blk.new w (bytC (List.replicate 32 0)) 25; have hzA : (w.alloc (.cells (bytC (List.replicate 32 0)).toArray 25)).heap.size = w.heap.size + 1 := by simp
  have HS := Lib.hid (And.intro hs ht); obtain ⟨C, hC⟩ : ∃ C, digC (shaOf ps) = C := ⟨_, rfl⟩
  rw [hC]; have HC := Lib.hid hC; clear hs ht hC; go_enter Tryz.func138, Tryz.ntmps138; go_wp2_with fail; change Calls _ _ _ (w.alloc (.cells (bytC (List.replicate 32 0)).toArray 25)) _; generalize w.alloc (.cells (bytC (List.replicate 32 0)).toArray 25) = wA at hkA hbA hzA ⊢; have tA := HS.out.2.keep0 hkA; refine (sha_New wA tA).mono ?_; rintro e w1 ⟨rfl, s1, k1, z1⟩; have t1 := tA.keep0 k1; have hO1 : ShO w1 wA.heap.size shaNew := ⟨s1, t1, tA.fresh (Nat.le_refl _), by decide⟩
  have hb1 := k1.blk hbA (by simp); rw [hzA] at hO1; rw [hzA]; have HK1 := Lib.hid (And.intro (hkA.trans k1) (And.intro hb1 hO1)); clear hkA hbA k1 s1 t1 hO1 hzA z1 hb1 tA; go_wp2_with fail
  go_loopg [9] ps.length (fun g i wr => ∃ k : Nat, i = .int .i64 (k : Nat) ∧ k ≤ ps.length ∧ g = ps.length - k ∧ Hid (ShO wr (w.heap.size + 1) ((ps.take k).foldl shaWrite shaNew) ∧ Keep [] w wr ∧ Blk wr w.heap.size 25 (bytC (List.replicate 32 0))))
  case atStart => exact ⟨0, rfl, Nat.zero_le _, rfl, Lib.hid ⟨HK1.out.2.2, HK1.out.1, HK1.out.2.1⟩⟩
  case round =>
    obtain ⟨k, rfl, hk, hg, HW⟩ := hrel; by_cases hlt : k < ps.length
    · obtain ⟨c, hc⟩ : ∃ c, ps[k]? = some c := ⟨_, List.getElem?_eq_getElem hlt⟩
      obtain ⟨b, off, cap', hv, h1, h2, h3⟩ := HS.out.1.cell hc; cases hv
      have c1 : wr.cell? ⟨b, off + k, none⟩ = some (.string (S c)) := by
        have := h3 0 (by omega); rw [Nat.mul_one, Nat.add_zero] at this; exact HW.out.2.1.load this
      have wk := IntWalk.i64_in ((k : Int) + 1) (by omega); have f1 : decide ((k : Int) < (ps.length : Nat)) = true := decide_eq_true (by omega)
      have hsum : sumLen (ps.take k) + c.length ≤ sumLen ps := by
        have e : ps = ps.take k ++ (c :: ps.drop (k + 1)) := by
          have hcc : ps[k] = c := by have := List.getElem?_eq_getElem hlt; rw [hc] at this; simpa using this.symm
          rw [← hcc, ← List.drop_eq_getElem_cons hlt, List.take_append_drop]
        have : sumLen ps = sumLen (ps.take k) + (c.length + sumLen (ps.drop (k + 1))) := by
          conv => lhs; rw [e]
          simp [sumLen]
        omega
      have hzz := shaFold_size (ps.take k) shaNew; have hz0 : shaNew.size = 0 := rfl; rw [hz0] at hzz; have HP := Lib.hid (sha_Write (w.heap.size + 1) _ c wr HW.out.1 (by unfold maxLen; omega) (by rw [hzz]; omega) (by rw [hzz]; omega))
      have HST := Lib.hid (show (ps.take (k + 1)).foldl shaWrite shaNew = shaWrite ((ps.take k).foldl shaWrite shaNew) c by
        rw [List.take_add_one, hc, List.foldl_append]; rfl)
      clear hc h3 hsum hzz hz0; go_wp2_with fail; refine HP.out.mono ?_; rintro e w2 ⟨rfl, o2, k2⟩; have HW2 := Lib.hid (show ShO w2 (w.heap.size + 1) ((ps.take (k + 1)).foldl shaWrite shaNew) ∧ Keep [] w w2 ∧ Blk w2 w.heap.size 25 (bytC (List.replicate 32 0)) from ⟨by rw [HST.out]; exact o2, HW.out.2.1.trans' k2 (by simp), k2.blk HW.out.2.2 (by simp)⟩); clear o2 k2; go_wp2_with fail
      go_roundg (ps.length - (k + 1))
      case measure => omega
      case rel => exact ⟨k + 1, rfl, by omega, rfl, HW2⟩
    · obtain rfl : k = ps.length := by omega
      have hw := HW.out; rw [List.take_length] at hw; have HP := Lib.hid (sha_Sum (w.heap.size + 1) _ wr hw.1 (by rw [shaFold_size]; have : shaNew.size = 0 := rfl; omega)); have HB := Lib.hid (And.intro hw.2.1 hw.2.2); clear hw; go_wp2_with fail; refine HP.out.mono ?_; rintro e w2 ⟨rfl, k2⟩; have hb := k2.blk HB.out.2 (by simp); have hCC : digC (shaSum (ps.foldl shaWrite shaNew)) = C := HC.out; rw [hCC]; have hlen : C.length = 32 := by rw [← hCC, digC_length]
      have hone : ∀ v ∈ C, v.oneCell' = true := by rw [← hCC]; exact digC_one _
      have hi : (Tryz.prog.info? 25).map (·.size) = some C.length := by rw [hlen]; kernel_rfl
      have HT := Lib.hid (hb.thr 0 32 (by simp [bytC_length])); have HI := Lib.hid (And.intro hi (And.intro hlen hone)); have HK := Lib.hid (HB.out.1.trans k2); clear hb hi hlen hone k2 hCC
      go_wp2_with (first
        | (with_reducible (show wpList _ _ _ ((⟨none, .store _ _ _, _, _, _, none⟩ : Oper) :: _) _ _)
           refine wpList_store_mid rfl 25 (.tmp 2) (.tmp 18) rfl w.heap.size 0 C.toArray (by rfl) (by rfl) (by simp only [List.size_toArray, HI.out.2.1]; exact HT.out) (by simp only [List.size_toArray]; exact HI.out.1) (all_oneCell_toArray HI.out.2.2) ?_)
        | fail)
      have hload := run_loadVar_mid (P := Tryz.prog) (w2.setCells w.heap.size 0 C) w.heap.size 0 25 C _ (World.rangeAt_setCells_same w2 w.heap.size 0 C (by rw [HI.out.2.1]; exact HT.out)) Tryz.underlying25 rfl HI.out.1; refine bodyPost_ret (v := .agg C.toArray) (by simp [Act.put, results, Tryz.results138, asAddr, hload]) rfl ⟨rfl, ?_⟩; exact Keep.cellsTo _ (fun hh => absurd hh (Nat.lt_irrefl _)) _ _ _ HK.out
theorem bits_or_comm (x y : Int) : bits .or .u32 x y = bits .or .u32 y x := by
  unfold bits; simp only [BitVec.or_comm]
theorem ref02_turn (x : Int) (n : Nat) (w : World) (h0 : 0 < n) (h1 : n < 32) : Calls Tryz.prog 150 #[.int .u32 x, .int .i64 (n : Nat)] w fun e w' => e = .returned (.int .u32 (rotR x n)) ∧ ∃ q, w' = w.drewN q := by
  obtain ⟨m, hm⟩ : ∃ m : Nat, 32 - n = m := ⟨_, rfl⟩
  have e2 : IntKind.i64.wrap (32 - (n : Int)) = (m : Nat) := by rw [IntWalk.i64_in _ (by omega)]; omega
  have e3 : ((m : Nat) : Int).toNat = m := by omega
  have e4 : ((n : Nat) : Int).toNat = n := by omega
  have p0 : (0 : Int) ≤ (m : Int) := by omega
  have p1 : (m : Int) ≤ 32 := by omega
  have p2 : (n : Int) ≤ 32 := by omega
  have p3 : (0 : Int) ≤ (n : Int) := by omega
  have hr : rotR x n = bits .or .u32 (x / 2 ^ n) (w32 (x * 2 ^ m)) := by rw [rotR, hm, bits_or_comm]
  rw [hr]; clear hm hr; go_enter Tryz.func150, Tryz.ntmps150; go_wp2_with fail; go_quiet (fail); go_wp2_with fail; go_ret; exact ⟨rfl, _, rfl⟩
theorem wpList_build_is {P : Program} {ops : Array Oper} {rest : List Oper} {o : Oper} {a : Act} {w : World} {Q : Exit → Act → World → Prop} (hg : o.guard = none) (t : TypeId) (parts : Array (Nat × Operand)) (ho : o.op = .build t parts)
    (cells : List Value) (hb : P.built t (parts.map fun (i, x) => (i, a.eval x)).toList = some cells.toArray) (h : wpList P ops Q rest (a.put o.dst (.agg cells.toArray)) w) : wpList P ops Q (o :: rest) a w := by
  refine wpList_build hg t parts ho (by rw [hb]; rfl) ?_; rw [hb]; exact h
theorem wpList_store_newN {P : Program} {ops : Array Oper} {rest : List Oper} {op : Oper} {a : Act} {w : World} {Q : Exit → Act → World → Prop} (hgd : op.guard = none) (ty : TypeId) (x y : Operand) (ho : op.op = .store ty x y)
    (Z : Array Value) (cells : List Value) (n : Nat) (hn : w.heap.size = n) (hx : a.eval x = .pointer (some ⟨n, 0, none⟩)) (hy : a.eval y = .agg cells.toArray) (hi : (P.info? ty).map (·.size) = some cells.length) (hz : Z.size = cells.length)
    (h1 : ∀ v ∈ cells, v.oneCell' = true) (h : wpList P ops Q rest (a.put op.dst undef) (w.alloc (.cells cells.toArray ty))) : wpList P ops Q (op :: rest) a (w.alloc (.cells Z ty)) := by
  subst hn; exact wpList_store_new hgd ty x y ho Z cells hx hy hi hz h1 h
theorem shaAdd_comm (a b : List Int) : shaAdd a b = shaAdd b a := by
  unfold shaAdd; rw [List.zipWith_comm]; congr 1
  funext x y
  rw [Int.add_comm]
theorem alloc_size (w : World) (o : Obj) : (w.alloc o).heap.size = w.heap.size + 1 := by simp
theorem ref02_block (st : List Int) (r : List UInt8) (w : World) (h8 : st.length = 8) (h64 : r.length = 64) : Calls Tryz.prog 96 #[.agg (u32C st).toArray, .string (S r)] w fun e w' => e = .returned (.agg (u32C (shaTurn st r)).toArray) ∧ Keep [] w w' := by
  have hsz := S_size r; obtain ⟨C, hC⟩ : ∃ C, u32C (shaTurn st r) = C := ⟨_, rfl⟩
  rw [hC]; have HC := Lib.hid hC; have H8 := Lib.hid (And.intro h8 h64); obtain ⟨KC, hKC⟩ : ∃ K, u32C shaKeys = K := ⟨_, rfl⟩
  obtain ⟨ZC, hZC⟩ : ∃ K, u32C (List.replicate 64 0) = K := ⟨_, rfl⟩
  obtain ⟨SC, hSC⟩ : ∃ K, u32C st = K := ⟨_, rfl⟩
  have HKC := Lib.hid hKC; have HZC := Lib.hid hZC; have HSC := Lib.hid hSC; have HK1 := Lib.hid (show KC.length = 64 ∧ ∀ v ∈ KC, v.oneCell' = true by rw [← hKC]; exact ⟨rfl, u32C_one _⟩); have HZ1 := Lib.hid (show ZC.length = 64 ∧ ∀ v ∈ ZC, v.oneCell' = true by rw [← hZC]; exact ⟨by simp [u32C_length], u32C_one _⟩); rw [hSC]; clear hC h8 hKC hZC hSC; go_enter Tryz.func96, Tryz.ntmps96
  go_wp2_with (first | ((with_reducible refine gB 18 ?_); refine wpList_build_is rfl 220 _ rfl KC (by rw [← HKC.out]; kernel_rfl) ?_; simp only [sq]) | ((with_reducible refine gB 19 ?_); refine wpList_build_is rfl 220 _ rfl ZC (by rw [← HZC.out]; kernel_rfl) ?_; simp only [sq]) | ((with_reducible refine gS 5 18 ?_); refine wpList_store_newN rfl 220 (.tmp 5) (.tmp 18) rfl _ KC (w.heap.size + 1 + 1) (by simp) (by rfl) (by rfl) (by rw [HK1.out.1]; kernel_rfl) (by rw [HK1.out.1]; kernel_rfl) HK1.out.2 ?_) | ((with_reducible refine gS 6 19 ?_); refine wpList_store_newN rfl 220 (.tmp 6) (.tmp 19) rfl _ ZC (w.heap.size + 1 + 1 + 1) (by simp) (by rfl) (by rfl) (by rw [HZ1.out.1]; kernel_rfl) (by rw [HZ1.out.1]; kernel_rfl) HZ1.out.2 ?_) | fail); have e8 : (Obj.cells #[.int .u32 0, .int .u32 0, .int .u32 0, .int .u32 0, .int .u32 0, .int .u32 0, .int .u32 0, .int .u32 0] 162) = Obj.cells (u32C (List.replicate 8 0)).toArray 162 := rfl; rw [e8]; clear e8; obtain ⟨n, hn⟩ : ∃ n, w.heap.size = n := ⟨_, rfl⟩
  have k1 := (Keep.refl [] w).alloc (.cells SC.toArray 162); have b1 := Blk.new w SC 162; have z1 := alloc_size w (.cells SC.toArray 162); generalize w.alloc (.cells SC.toArray 162) = w1 at k1 b1 z1 ⊢; have k2 := k1.alloc (.cells (u32C (List.replicate 8 0)).toArray 162); have b12 := b1.alloc (.cells (u32C (List.replicate 8 0)).toArray 162); have b2 := Blk.new w1 (u32C (List.replicate 8 0)) 162; have z2 := alloc_size w1 (.cells (u32C (List.replicate 8 0)).toArray 162); generalize w1.alloc (.cells (u32C (List.replicate 8 0)).toArray 162) = w2 at k2 b12 b2 z2 ⊢; have k3 := k2.alloc (.cells KC.toArray 220); have b13 := b12.alloc (.cells KC.toArray 220); have b23 := b2.alloc (.cells KC.toArray 220); have b3 := Blk.new w2 KC 220; have z3 := alloc_size w2 (.cells KC.toArray 220); generalize w2.alloc (.cells KC.toArray 220) = w3 at k3 b13 b23 b3 z3 ⊢; have k4 := k3.alloc (.cells ZC.toArray 220); have b14 := b13.alloc (.cells ZC.toArray 220); have b24 := b23.alloc (.cells ZC.toArray 220); have b34 := b3.alloc (.cells ZC.toArray 220); have b4 := Blk.new w3 ZC 220; have z4 := alloc_size w3 (.cells ZC.toArray 220); generalize w3.alloc (.cells ZC.toArray 220) = wB at k4 b14 b24 b34 b4 z4 ⊢; rw [hn] at b14 z1; rw [z1] at b24 z2; rw [z2] at b34 z3; rw [z3] at b4 z4; rw [hn]; have HB := Lib.hid (And.intro k4 (And.intro b14 (And.intro b24 (And.intro b34 (And.intro b4 z4))))); have HN := Lib.hid hn; clear k1 k2 k3 k4 b1 b12 b13 b14 b2 b23 b24 b3 b34 b4 z1 z2 z3 z4 hn
  go_loopg [7] 16 (fun g i wr => ∃ k : Nat, i = .int .i64 (k : Nat) ∧ k ≤ 16 ∧ g = 16 - k ∧ Hid (Blk wr (n + 1 + 1 + 1) 220 (u32C (shaFirst r k ++ List.replicate (64 - k) 0))) ∧ Hid (Keep [n + 1 + 1 + 1] wB wr))
  case atStart => exact ⟨0, rfl, by omega, rfl, Lib.hid (by have := HB.out.2.2.2.2.1; rw [← HZC.out] at this; exact this), Lib.hid (Keep.refl _ _)⟩
  case round =>
    obtain ⟨k, rfl, hk, hg, HL, HK⟩ := hrel; by_cases hlt : k < 16
    · have f1 : decide ((k : Int) < 16) = true := decide_eq_true (by omega); have wk := IntWalk.i64_in ((k : Int) + 1) (by omega); obtain ⟨t0, h0⟩ : ∃ t, 4 * k = t := ⟨_, rfl⟩
      obtain ⟨t1, h1⟩ : ∃ t, 4 * k + 1 = t := ⟨_, rfl⟩
      obtain ⟨t2, h2⟩ : ∃ t, 4 * k + 2 = t := ⟨_, rfl⟩
      obtain ⟨t3, h3⟩ : ∃ t, 4 * k + 3 = t := ⟨_, rfl⟩
      have m0 : IntKind.i64.wrap (4 * (k : Int)) = (t0 : Nat) := by rw [IntWalk.i64_in _ (by omega)]; omega
      have m1 : IntKind.i64.wrap ((t0 : Int) + 1) = (t1 : Nat) := by rw [IntWalk.i64_in _ (by omega)]; omega
      have m2 : IntKind.i64.wrap ((t0 : Int) + 2) = (t2 : Nat) := by rw [IntWalk.i64_in _ (by omega)]; omega
      have m3 : IntKind.i64.wrap ((t0 : Int) + 3) = (t3 : Nat) := by rw [IntWalk.i64_in _ (by omega)]; omega
      obtain ⟨ca, ha⟩ : ∃ c, r[4 * k]? = some c := ⟨_, List.getElem?_eq_getElem (by omega)⟩
      obtain ⟨cb, hb⟩ : ∃ c, r[4 * k + 1]? = some c := ⟨_, List.getElem?_eq_getElem (by omega)⟩
      obtain ⟨cc, hc⟩ : ∃ c, r[4 * k + 2]? = some c := ⟨_, List.getElem?_eq_getElem (by omega)⟩
      obtain ⟨cd, hd⟩ : ∃ c, r[4 * k + 3]? = some c := ⟨_, List.getElem?_eq_getElem (by omega)⟩
      have hw := shaPart_word ha hb hc hd; have hor := word4_or ca cb cc cd; rw [h0] at ha; rw [h1] at hb; rw [h2] at hc; rw [h3] at hd; have ga := S_get ha; have gb := S_get hb; have gc := S_get hc; have gd := S_get hd; have a8 := u8_nat ca; have b8 := u8_nat cb; have c8 := u8_nat cc; have d8 := u8_nat cd; have q0 : (0 : Int) ≤ (t0 : Int) := by omega
      have q1 : (0 : Int) ≤ (t1 : Int) := by omega
      have q2 : (0 : Int) ≤ (t2 : Int) := by omega
      have q3 : (0 : Int) ≤ (t3 : Int) := by omega
      have r0 : (t0 : Int) < 64 := by omega
      have r1 : (t1 : Int) < 64 := by omega
      have r2 : (t2 : Int) < 64 := by omega
      have r3 : (t3 : Int) < 64 := by omega
      have k0 : (0 : Int) ≤ (k : Int) := by omega
      have k1 : (k : Int) < 64 := by omega
      have u0 : t0 < r.length := by omega
      have u1 : t1 < r.length := by omega
      have u2 : t2 < r.length := by omega
      have u3 : t3 < r.length := by omega
      have wa : IntKind.u32.wrap ((ca.toNat : Nat) : Int) = (ca.toNat : Nat) := by simp [IntKind.wrap, IntKind.signed, IntKind.bits]; omega
      have wb : IntKind.u32.wrap ((cb.toNat : Nat) : Int) = (cb.toNat : Nat) := by simp [IntKind.wrap, IntKind.signed, IntKind.bits]; omega
      have wc : IntKind.u32.wrap ((cc.toNat : Nat) : Int) = (cc.toNat : Nat) := by simp [IntKind.wrap, IntKind.signed, IntKind.bits]; omega
      have wd : IntKind.u32.wrap ((cd.toNat : Nat) : Int) = (cd.toNat : Nat) := by simp [IntKind.wrap, IntKind.signed, IntKind.bits]; omega
      have hrw := HL.out; rw [← shaRow_zero r k (by omega)] at hrw; have hcl := hrw.get (u32C_get (shaRow_get r k 0 (by omega))); have hfr := hrw.frozen k; have hst := hrw.set k (.int .u32 (shaPart r k 4)); rw [u32C_set, shaRow_set, shaRow_next r k (by omega), hw] at hst; have HST := Lib.hid hst; clear hst hrw ha hb hc hd hw h0 h1 h2 h3; go_wp2_with fail
      go_region
      go_wp2_with fail
      go_roundg (16 - (k + 1))
      case measure => omega
      case rel => exact ⟨k + 1, rfl, by omega, rfl, HST, Lib.hid (HK.out.setCell _ _ (by simp)).drew⟩
    · obtain rfl : k = 16 := by omega
      go_wp2_with fail
      go_loopg [8] 48 (fun g i wr => ∃ m : Nat, i = .int .i64 ((16 + m : Nat) : Nat) ∧ m ≤ 48 ∧ g = 48 - m ∧ Hid (Blk wr (n + 1 + 1 + 1) 220 (u32C (shaSpr r m ++ List.replicate (48 - m) 0))) ∧ Hid (Keep [n + 1 + 1 + 1] wB wr))
      case atStart => exact ⟨0, rfl, by omega, rfl, HL, HK⟩
      case round =>
        clear HL HK hlt hk hg; obtain ⟨m, rfl, hm, hgm, HL, HK⟩ := hrel; obtain ⟨t, ht⟩ : ∃ t, 16 + m = t := ⟨_, rfl⟩
        rw [ht]; by_cases hlj : m < 48
        · have f1 : decide ((t : Int) < 64) = true := decide_eq_true (by omega); obtain ⟨m15, e15⟩ : ∃ m, t = m + 15 := ⟨t - 15, by omega⟩
          obtain ⟨m2, e2⟩ : ∃ m, t = m + 2 := ⟨t - 2, by omega⟩
          obtain ⟨m7, e7⟩ : ∃ m, t = m + 7 := ⟨t - 7, by omega⟩
          obtain ⟨m16, e16⟩ : ∃ m, t = m + 16 := ⟨t - 16, by omega⟩
          have w15 : IntKind.i64.wrap ((t : Int) - 15) = (m15 : Nat) := by rw [IntWalk.i64_in _ (by omega)]; omega
          have w2 : IntKind.i64.wrap ((t : Int) - 2) = (m2 : Nat) := by rw [IntWalk.i64_in _ (by omega)]; omega
          have w7 : IntKind.i64.wrap ((t : Int) - 7) = (m7 : Nat) := by rw [IntWalk.i64_in _ (by omega)]; omega
          have w16 : IntKind.i64.wrap ((t : Int) - 16) = (m16 : Nat) := by rw [IntWalk.i64_in _ (by omega)]; omega
          have wk : IntKind.i64.wrap ((t : Int) + 1) = ((t + 1 : Nat) : Int) := by rw [IntWalk.i64_in _ (by omega)]; rfl
          have a0 : (0 : Int) ≤ (m15 : Int) := by omega
          have a1 : (m15 : Int) < 64 := by omega
          have a2 : (0 : Int) ≤ (m2 : Int) := by omega
          have a3 : (m2 : Int) < 64 := by omega
          have a4 : (0 : Int) ≤ (m7 : Int) := by omega
          have a5 : (m7 : Int) < 64 := by omega
          have a6 : (0 : Int) ≤ (m16 : Int) := by omega
          have a7 : (m16 : Int) < 64 := by omega
          have a8 : (0 : Int) ≤ (t : Int) := by omega
          have a9 : (t : Int) < 64 := by omega
          have hln := shaSpr_length r m
          have hget : ∀ j, j < 16 + m → wr.cell? ⟨n + 1 + 1 + 1, j, none⟩ = some (.int .u32 ((shaSpr r m).getD j 0)) := fun j hj => by
            refine HL.out.get (u32C_get ?_); rw [List.getElem?_append_left (by omega), List.getD_eq_getElem?_getD, List.getElem?_eq_getElem (by omega)]; rfl
          have c15 := hget m15 (by omega); have c2 := hget m2 (by omega); have c7 := hget m7 (by omega); have c16 := hget m16 (by omega)
          have ct : wr.cell? ⟨n + 1 + 1 + 1, t, none⟩ = some (.int .u32 0) := by
            refine HL.out.get (u32C_get ?_); rw [List.getElem?_append_right (by omega), hln, List.getElem?_replicate, if_pos (by omega)]
          have hfr := HL.out.frozen t
          have hst : Blk (wr.setCell ⟨n + 1 + 1 + 1, t, none⟩ (.int .u32 (shaMore (shaSpr r m) (16 + m)))) (n + 1 + 1 + 1) 220 (u32C (shaSpr r (m + 1) ++ List.replicate (48 - (m + 1)) 0)) := by
            have := HL.out.set t (.int .u32 (shaMore (shaSpr r m) (16 + m))); rw [u32C_set, List.set_append_right _ _ (by omega), hln, show t - (16 + m) = 0 by omega, show 48 - m = (48 - (m + 1)) + 1 by omega, List.replicate_succ, sqC] at this; rw [shaSpr, List.append_assoc]; exact this
          have hmore : shaMore (shaSpr r m) (16 + m) = w32 (w32 (w32 (sig1 ((shaSpr r m).getD m2 0) + (shaSpr r m).getD m7 0) + sig0 ((shaSpr r m).getD m15 0)) + (shaSpr r m).getD m16 0) := by
            unfold shaMore; rw [ht, show t - 2 = m2 by omega, show t - 7 = m7 by omega, show t - 15 = m15 by omega, show t - 16 = m16 by omega]
          rw [hmore] at hst; have hks := HK.out.setCell ⟨n + 1 + 1 + 1, t, none⟩ (.int .u32 (w32 (w32 (w32 (sig1 ((shaSpr r m).getD m2 0) + (shaSpr r m).getD m7 0) + sig0 ((shaSpr r m).getD m15 0)) + (shaSpr r m).getD m16 0))) (by simp); generalize (shaSpr r m).getD m15 0 = x15 at c15 hst hks; generalize (shaSpr r m).getD m2 0 = x2 at c2 hst hks; generalize (shaSpr r m).getD m7 0 = x7 at c7 hst hks; generalize (shaSpr r m).getD m16 0 = x16 at c16 hst hks; unfold sig0 sig1 at hst hks; have HST := Lib.hid (And.intro hst hks); have HT := Lib.hid ht; have HF := Lib.hid (fun (q : Nat) => (show (wr.drewN q).cell? ⟨n + 1 + 1 + 1, m7, none⟩ = some (.int .u32 x7) ∧ (wr.drewN q).cell? ⟨n + 1 + 1 + 1, m16, none⟩ = some (.int .u32 x16) ∧ (wr.drewN q).cell? ⟨n + 1 + 1 + 1, t, none⟩ = some (.int .u32 0) ∧ (wr.drewN q).frozen? ⟨n + 1 + 1 + 1, t, none⟩ = false from ⟨c7, c16, ct, hfr⟩))
          have HD := Lib.hid (And.intro (show m7 ≠ t ∧ m16 ≠ t by omega) (fun (q : Nat) => (show ((wr.drewN q).setCell ⟨n + 1 + 1 + 1, t, none⟩ (.int .u32 (w32 (w32 (w32 (xr (xr (rotR x2 17) (rotR x2 19)) (x2 / 1024) + x7) + xr (xr (rotR x15 7) (rotR x15 18)) (x15 / 8)) + x16)))).cell? ⟨n + 1 + 1 + 1, m7, none⟩ = some (.int .u32 x7) ∧ ((wr.drewN q).setCell ⟨n + 1 + 1 + 1, t, none⟩ (.int .u32 (w32 (w32 (w32 (xr (xr (rotR x2 17) (rotR x2 19)) (x2 / 1024) + x7) + xr (xr (rotR x15 7) (rotR x15 18)) (x15 / 8)) + x16)))).cell? ⟨n + 1 + 1 + 1, m16, none⟩ = some (.int .u32 x16) from by
            refine ⟨?_, ?_⟩
            · show (wr.setCell _ _).cell? _ = _; rw [World.cell?_setCell_other _ _ _ _ (by simp)]; exact c7
            · show (wr.setCell _ _).cell? _ = _; rw [World.cell?_setCell_other _ _ _ _ (by simp)]; exact c16)))
          clear hst hks hmore hget ht hln e15 e2 e7 e16; go_wp2_with fail
          have HS7 := Lib.hid (show ∀ w', (∃ q, w' = wr.drewN q ∨ w' = (wr.drewN q).setCell ⟨n + 1 + 1 + 1, t, none⟩ (.int .u32 (w32 (w32 (w32 (xr (xr (rotR x2 17) (rotR x2 19)) (x2 / 1024) + x7) + xr (xr (rotR x15 7) (rotR x15 18)) (x15 / 8)) + x16)))) → w'.cell? ⟨n + 1 + 1 + 1, m7, none⟩ = some (.int .u32 x7) ∧ w'.cell? ⟨n + 1 + 1 + 1, m16, none⟩ = some (.int .u32 x16) from fun w' hw => by
            obtain ⟨q, rfl | rfl⟩ := hw
            · exact ⟨c7, c16⟩
            · exact HD.out.2 q)
          refine wp_region_held_drew (S := fun w' => ∃ q, w' = wr.drewN q ∨ w' = (wr.drewN q).setCell ⟨n + 1 + 1 + 1, t, none⟩ (.int .u32 (w32 (w32 (w32 (xr (xr (rotR x2 17) (rotR x2 19)) (x2 / 1024) + x7) + xr (xr (rotR x15 7) (rotR x15 18)) (x15 / 8)) + x16)))) (by kernel_rfl) (⟨1, Or.inl rfl⟩) (fun hHeld => ?_); refine gW 0 ?_; (try simp only [sq]); refine gW 1 ?_; (try simp only [sq]); refine gW 3 ?_; (try simp only [sq]); refine gW 6 ?_; (try simp only [sq]); refine gW 7 ?_; (try simp only [sq]); refine gW 9 ?_; (try simp only [sq]); refine gW 10 ?_; (try simp only [sq]); refine gW 11 ?_; (try simp only [sq]); refine gV 12 (v := ?_) ?_ ?_; rotate_left
          · (intro w' hSw; obtain ⟨h7, h16⟩ := HS7.out w' hSw; go_simp) <;> (with_reducible rfl)
          (try simp only [sq]); refine gW 14 ?_; (try simp only [sq]); refine gW 16 ?_; (try simp only [sq]); refine gW 19 ?_; (try simp only [sq]); refine gW 20 ?_; (try simp only [sq]); refine gW 23 ?_; (try simp only [sq]); refine gW 24 ?_; (try simp only [sq]); refine gW 25 ?_; (try simp only [sq]); refine gV 26 (v := ?_) ?_ ?_; rotate_left
          · (intro w' hSw; obtain ⟨h7, h16⟩ := HS7.out w' hSw; go_simp) <;> (with_reducible rfl)
          (try simp only [sq]); refine gR 2 rfl (fun K hK => ?_); go_simp; refine (ref02_turn x2 17 _ (by decide) (by decide)).mono ?_; rintro e wq ⟨rfl, qq, rfl⟩
          first | rw [World.drewN_drewN] | rw [show wr.drew = wr.drewN 1 from rfl, World.drewN_drewN]
          (try go_simp); refine hK.out _ _ (⟨_, Or.inl rfl⟩) (fun hHeld => ?_); clear hK K; (try simp only [sq]); refine gR 4 rfl (fun K hK => ?_); go_simp; refine (ref02_turn x2 19 _ (by decide) (by decide)).mono ?_; rintro e wq ⟨rfl, qq, rfl⟩
          first | rw [World.drewN_drewN] | rw [show wr.drew = wr.drewN 1 from rfl, World.drewN_drewN]
          (try go_simp); refine hK.out _ _ (⟨_, Or.inl rfl⟩) (fun hHeld => ?_); clear hK K; (try simp only [sq]); refine gW 5 ?_; (try simp only [sq]); refine gW 8 ?_; (try simp only [sq]); refine gW 13 ?_; (try simp only [sq]); refine gR 15 rfl (fun K hK => ?_); go_simp; refine (ref02_turn x15 7 _ (by decide) (by decide)).mono ?_; rintro e wq ⟨rfl, qq, rfl⟩
          first | rw [World.drewN_drewN] | rw [show wr.drew = wr.drewN 1 from rfl, World.drewN_drewN]
          (try go_simp); refine hK.out _ _ (⟨_, Or.inl rfl⟩) (fun hHeld => ?_); clear hK K; (try simp only [sq]); refine gR 17 rfl (fun K hK => ?_); go_simp; refine (ref02_turn x15 18 _ (by decide) (by decide)).mono ?_; rintro e wq ⟨rfl, qq, rfl⟩
          first | rw [World.drewN_drewN] | rw [show wr.drew = wr.drewN 1 from rfl, World.drewN_drewN]
          (try go_simp); refine hK.out _ _ (⟨_, Or.inl rfl⟩) (fun hHeld => ?_); clear hK K; (try simp only [sq]); refine gW 18 ?_; (try simp only [sq]); refine gW 21 ?_; (try simp only [sq]); refine gW 22 ?_; (try simp only [sq]); refine gW 27 ?_; (try simp only [sq]); refine gW 28 ?_; (try simp only [sq]); refine gR 29 rfl (fun K hK => ?_); go_simp; go_simp; refine hK.out _ _ (⟨_, Or.inr rfl⟩) (fun hHeld => ?_); clear hK K; (try simp only [sq]); refine wpAnyH_done (by kernel_rfl) ?_ _; generalize hWW : World.setCell (wr.drewN _) ⟨n + 1 + 1 + 1, t, none⟩ _ = wz
          have HZ := Lib.hid (show Blk wz (n + 1 + 1 + 1) 220 (u32C (shaSpr r (m + 1) ++ List.replicate (48 - (m + 1)) 0)) ∧ Keep [n + 1 + 1 + 1] wB wz by
            subst hWW; exact ⟨HST.out.1, (HK.out.drewN _).setCell _ _ (by simp)⟩)
          clear hWW; go_wp2_with fail
          go_roundg (48 - (m + 1))
          case measure => omega
          case rel => exact ⟨m + 1, by rw [← HT.out]; rfl, by omega, rfl, Lib.hid HZ.out.1, Lib.hid HZ.out.2⟩
        · obtain rfl : m = 48 := by omega
          obtain ⟨W, hW⟩ : ∃ W, shaSpr r 48 = W := ⟨_, rfl⟩
          have HWB := Lib.hid (show Blk wr (n + 1 + 1 + 1) 220 (u32C W) ∧ W.length = 64 by
            have := HL.out; rw [Nat.sub_self, List.replicate_zero, List.append_nil, hW] at this; exact ⟨this, by rw [← hW, shaSpr_length]⟩)
          have HW := Lib.hid hW; obtain rfl : t = 64 := by omega
          have HSB := Lib.hid (show Blk wr n 162 SC from HK.out.blk HB.out.2.1 (by simp; omega)); have HS1 := Lib.hid (show SC.length = 8 ∧ ∀ v ∈ SC, v.oneCell' = true by rw [← HSC.out]; exact ⟨by rw [u32C_length]; exact H8.out.1, u32C_one _⟩); clear hW HL
          go_wp2_with (first
            | (with_reducible (show wpList _ _ _ ((⟨some 96, .load _ _, _, _, _, none⟩ : Oper) :: _) _ _)
               refine wpList_load_mid rfl 162 (.tmp 2) rfl n 0 (by rfl) SC _ HSB.out.rng Tryz.underlying162 rfl (by rw [HS1.out.1]; kernel_rfl) ?_; simp only [sq])
            | ((with_reducible refine gS 11 96 ?_); refine wpList_store_new rfl 162 (.tmp 11) (.tmp 96) rfl _ SC (by rfl) (by rfl) (by rw [HS1.out.1]; kernel_rfl) (by rw [HS1.out.1]; kernel_rfl) HS1.out.2 ?_)
            | fail)
          obtain ⟨nv, hnv⟩ : ∃ nv, wr.heap.size = nv := ⟨_, rfl⟩
          have hge : n + 1 + 1 + 1 + 1 ≤ nv := by
            have := HK.out.size; rw [HB.out.2.2.2.2.2] at this; omega
          have k5 := (Keep.refl [] wr).alloc (.cells SC.toArray 162); have b5 := Blk.new wr SC 162; rw [hnv] at b5 ⊢; generalize wr.alloc (.cells SC.toArray 162) = w5 at k5 b5 ⊢; obtain ⟨v0, hv0⟩ : ∃ v, v8of st = v := ⟨_, rfl⟩
          have h8l : ∀ l : List Int, l.length = 8 → l = (v8of l).list := fun l hl => by
            match l, hl with
            | [a, b, c, d, e, f, g, h], _ => rfl
          have hv0l : SC = u32C v0.list := by rw [← HSC.out, ← hv0, ← h8l st H8.out.1]
          have HV0 := Lib.hid hv0; have HW5 := Lib.hid (show Blk w5 nv 162 (u32C v0.list) ∧ Blk w5 n 162 SC ∧ Blk w5 (n + 1 + 1) 220 KC ∧ Blk w5 (n + 1 + 1 + 1) 220 (u32C W) ∧ Blk w5 (n + 1) 162 (u32C (List.replicate 8 0)) ∧ Keep [n + 1 + 1 + 1] wB w5 from ⟨hv0l ▸ b5, k5.blk HSB.out (by simp), k5.blk (HK.out.blk HB.out.2.2.2.1 (by simp)) (by simp), k5.blk HWB.out.1 (by simp), k5.blk (HK.out.blk HB.out.2.2.1 (by simp)) (by simp), HK.out.trans (k5.mono (by simp))⟩); clear k5 b5 hv0 hv0l h8l hnv
          go_loopg [12] 64 (fun g i wq => ∃ k : Nat, i = .int .i64 (k : Nat) ∧ k ≤ 64 ∧ g = 64 - k ∧ Hid (Blk wq nv 162 (u32C (rndsS W v0 k).list)) ∧ Hid (Keep [nv] w5 wq))
          case atStart => exact ⟨0, rfl, by omega, rfl, Lib.hid HW5.out.1, Lib.hid (Keep.refl _ _)⟩
          case round =>
            rename_i wr5 _ _ _ _ _ _; obtain ⟨k, rfl, hk, hg, HL, HKq⟩ := hrel; by_cases hlt : k < 64
            · have f1 : decide ((k : Int) < 64) = true := decide_eq_true (by omega); have wk := IntWalk.i64_in ((k : Int) + 1) (by omega); have a0 : (0 : Int) ≤ (k : Int) := by omega
              have a1 : (k : Int) < 64 := by omega
              have ck : wr.cell? ⟨n + 1 + 1, k, none⟩ = some (.int .u32 (shaKeys.getD k 0)) := by
                refine (HKq.out.blk HW5.out.2.2.1 (by simp; omega)).get ?_; rw [← HKC.out]; refine u32C_get ?_; rw [List.getD_eq_getElem?_getD, List.getElem?_eq_getElem (by simpa [shaKeys] using hlt)]; rfl
              have cw : wr.cell? ⟨n + 1 + 1 + 1, k, none⟩ = some (.int .u32 (W.getD k 0)) := by
                refine (HKq.out.blk HW5.out.2.2.2.1 (by simp; omega)).get (u32C_get ?_); rw [List.getD_eq_getElem?_getD, List.getElem?_eq_getElem (by have := HWB.out.2; omega)]; rfl
              have hnx : rndsS W v0 (k + 1) = rndS (rndsS W v0 k) (shaKeys.getD k 0) (W.getD k 0) := rfl; have hL := HL.out; generalize rndsS W v0 k = v at hnx hL; generalize shaKeys.getD k 0 = kk at ck hnx; generalize W.getD k 0 = ww at cw hnx; obtain ⟨xa, xb, xc, xd, xe, xf, xg, xh⟩ := v; have c0 : wr.cell? ⟨nv, 0, none⟩ = some (.int .u32 xa) := hL.get rfl; have c1 : wr.cell? ⟨nv, 1, none⟩ = some (.int .u32 xb) := hL.get rfl; have c2 : wr.cell? ⟨nv, 2, none⟩ = some (.int .u32 xc) := hL.get rfl; have c3 : wr.cell? ⟨nv, 3, none⟩ = some (.int .u32 xd) := hL.get rfl; have c4 : wr.cell? ⟨nv, 4, none⟩ = some (.int .u32 xe) := hL.get rfl; have c5 : wr.cell? ⟨nv, 5, none⟩ = some (.int .u32 xf) := hL.get rfl; have c6 : wr.cell? ⟨nv, 6, none⟩ = some (.int .u32 xg) := hL.get rfl; have c7 : wr.cell? ⟨nv, 7, none⟩ = some (.int .u32 xh) := hL.get rfl; have HLL := Lib.hid hL; have HNX := Lib.hid hnx; have hsg : IntKind.u32.signed = false := rfl; have hmx : IntKind.u32.max = 4294967295 := rfl; clear hnx hL HL; have T6 := Lib.hid (fun w => (show Calls Tryz.prog 150 #[.int .u32 xe, .int .i64 6] w fun e w' => e = .returned (.int .u32 (rotR xe 6)) ∧ ∃ q, w' = w.drewN q from ref02_turn xe 6 w (by decide) (by decide))); have T11 := Lib.hid (fun w => (show Calls Tryz.prog 150 #[.int .u32 xe, .int .i64 11] w fun e w' => e = .returned (.int .u32 (rotR xe 11)) ∧ ∃ q, w' = w.drewN q from ref02_turn xe 11 w (by decide) (by decide))); have T25 := Lib.hid (fun w => (show Calls Tryz.prog 150 #[.int .u32 xe, .int .i64 25] w fun e w' => e = .returned (.int .u32 (rotR xe 25)) ∧ ∃ q, w' = w.drewN q from ref02_turn xe 25 w (by decide) (by decide))); have T2 := Lib.hid (fun w => (show Calls Tryz.prog 150 #[.int .u32 xa, .int .i64 2] w fun e w' => e = .returned (.int .u32 (rotR xa 2)) ∧ ∃ q, w' = w.drewN q from ref02_turn xa 2 w (by decide) (by decide))); have T13 := Lib.hid (fun w => (show Calls Tryz.prog 150 #[.int .u32 xa, .int .i64 13] w fun e w' => e = .returned (.int .u32 (rotR xa 13)) ∧ ∃ q, w' = w.drewN q from ref02_turn xa 13 w (by decide) (by decide))); have T22 := Lib.hid (fun w => (show Calls Tryz.prog 150 #[.int .u32 xa, .int .i64 22] w fun e w' => e = .returned (.int .u32 (rotR xa 22)) ∧ ∃ q, w' = w.drewN q from ref02_turn xa 22 w (by decide) (by decide))); go_wp2_with fail; go_quiet ((go_at_call 150; first | with_reducible exact Calls.quiet_of (T6.out _) | with_reducible exact Calls.quiet_of (T11.out _) | with_reducible exact Calls.quiet_of (T25.out _))); go_wp2_with fail; (try simp only [Int.emod_add_emod]); generalize hT1 : (xh + bits .xor .u32 (bits .xor .u32 (rotR xe 6) (rotR xe 11)) (rotR xe 25) + bits .xor .u32 (bits .and .u32 xe xf) (bits .and .u32 (bits .xor .u32 4294967295 xe) xg) + kk + ww) % 4294967296 = t1; have HT1 := Lib.hid hT1; clear hT1 T6 T11 T25 ck cw c0 c1 c2 c3 c4 c5 c6 c7; have hLq : Blk (wr.drewN nq) nv 162 (u32C (V8.list ⟨xa, xb, xc, xd, xe, xf, xg, xh⟩)) := HLL.out; have hKq := HKq.out.drewN nq; generalize wr.drewN nq = wz at hLq hKq ⊢; have c0 : wz.cell? ⟨nv, 0, none⟩ = some (.int .u32 xa) := hLq.get rfl; have c1 : wz.cell? ⟨nv, 1, none⟩ = some (.int .u32 xb) := hLq.get rfl; have c2 : wz.cell? ⟨nv, 2, none⟩ = some (.int .u32 xc) := hLq.get rfl; have c3 : wz.cell? ⟨nv, 3, none⟩ = some (.int .u32 xd) := hLq.get rfl; have c4 : wz.cell? ⟨nv, 4, none⟩ = some (.int .u32 xe) := hLq.get rfl; have c5 : wz.cell? ⟨nv, 5, none⟩ = some (.int .u32 xf) := hLq.get rfl; have c6 : wz.cell? ⟨nv, 6, none⟩ = some (.int .u32 xg) := hLq.get rfl; have HLZ := Lib.hid (And.intro hLq hKq); clear hLq hKq HLL HKq; go_quiet ((go_at_call 150; first | with_reducible exact Calls.quiet_of (T2.out _) | with_reducible exact Calls.quiet_of (T13.out _) | with_reducible exact Calls.quiet_of (T22.out _))); generalize hT2 : (bits .xor .u32 (bits .xor .u32 (rotR xa 2) (rotR xa 13)) (rotR xa 22) + bits .xor .u32 (bits .xor .u32 (bits .and .u32 xa xb) (bits .and .u32 xa xc)) (bits .and .u32 xb xc)) % 4294967296 = t2
              have hnv : rndsS W v0 (k + 1) = ⟨(t1 + t2) % 4294967296, xa, xb, xc, (xd + t1) % 4294967296, xe, xf, xg⟩ := by
                rw [HNX.out, ← HT1.out, ← hT2]; rfl
              obtain ⟨NL, hNL⟩ : ∃ l, u32C (V8.list ⟨(t1 + t2) % 4294967296, xa, xb, xc, (xd + t1) % 4294967296, xe, xf, xg⟩) = l := ⟨_, rfl⟩
              have HNL := Lib.hid (show u32C (rndsS W v0 (k + 1)).list = NL ∧ NL.length = 8 ∧ ∀ v ∈ NL, v.oneCell' = true from ⟨by rw [hnv]; exact hNL, by rw [← hNL]; rfl, by rw [← hNL]; exact u32C_one _⟩); have HNQ := Lib.hid hNL; have HTH := Lib.hid (show World.there (wz.drewN nq) nv 0 8 from HLZ.out.1.thr 0 8 (by simp [u32C_length, V8.list])); have hb8 := fun w => (Blk.overC NL (u32C (V8.list ⟨xa, xb, xc, xd, xe, xf, xg, xh⟩)) 0 w : _ → Blk (w.setCells nv 0 NL) nv 162 _)
              have HB8 := Lib.hid (show Blk ((wz.drewN nq).setCells nv 0 NL) nv 162 (u32C (rndsS W v0 (k + 1)).list) by
                have := hb8 (wz.drewN nq) HLZ.out.1; rw [HNL.out.1]; rw [show putAt (u32C (V8.list ⟨xa, xb, xc, xd, xe, xf, xg, xh⟩)) 0 NL = NL by rw [← hNL]; rfl] at this; exact this)
              have HK8 := Lib.hid (Keep.cellsTo (S := [nv]) nv (fun _ => by simp) NL 0 (wz.drewN nq) (HLZ.out.2.drewN nq)); clear hT2 T2 T13 T22 hnv hNL hb8
              go_wp2_with (first | ((with_reducible refine gB 178 ?_); refine wpList_build_is rfl 162 _ rfl NL (by rw [← HNQ.out]; kernel_rfl) ?_; simp only [sq]) | ((with_reducible refine gS 11 178 ?_); refine wpList_store_mid rfl 162 (.tmp 11) (.tmp 178) rfl nv 0 NL.toArray (by rfl) (by rfl) (by simp only [List.size_toArray, HNL.out.2.1]; exact HTH.out) (by simp only [List.size_toArray, HNL.out.2.1]; kernel_rfl) (all_oneCell_toArray HNL.out.2.2) ?_) | fail)
              go_roundg (64 - (k + 1))
              case measure => omega
              case rel => exact ⟨k + 1, rfl, by omega, rfl, HB8, HK8⟩
            · obtain rfl : k = 64 := by omega
              obtain ⟨Vl, hVl⟩ : ∃ l, (rndsS W v0 64).list = l := ⟨_, rfl⟩
              have hV8 : Vl.length = 8 := by rw [← hVl]; rfl
              have hB := HL.out; rw [hVl] at hB
              have hend : shaTurn st r = shaAdd Vl st := by
                rw [shaAdd_comm, ← hVl, ← HW.out, ← HV0.out]; rfl
              have HE := Lib.hid (And.intro hend hV8); have HST8 := H8.out.1; have HB0 := Lib.hid (show Blk wr nv 162 (u32C (addPart Vl st 0)) from by rw [show addPart Vl st 0 = Vl by simp [addPart]]; exact hB); clear hVl hB hend HL; go_wp2_with fail
              go_loopg [17] 8 (fun g i wq => ∃ j : Nat, i = .int .i64 (j : Nat) ∧ j ≤ 8 ∧ g = 8 - j ∧ Hid (Blk wq nv 162 (u32C (addPart Vl st j))) ∧ Hid (Keep [nv] w5 wq))
              case atStart => exact ⟨0, rfl, by omega, rfl, HB0, HKq⟩
              case round =>
                obtain ⟨j, rfl, hj, hgj, HL, HKj⟩ := hrel; by_cases hlj : j < 8
                · have f1 : decide ((j : Int) < 8) = true := decide_eq_true (by omega); have a0 : (0 : Int) ≤ (j : Int) := by omega
                  have a1 : (j : Int) < 8 := by omega
                  have wk := IntWalk.i64_in ((j : Int) + 1) (by omega); have cj := HL.out.get (u32C_get (addPart_get hV8 HST8 hlj))
                  have cs : wr.cell? ⟨n, j, none⟩ = some (.int .u32 (st.getD j 0)) := by
                    refine (HKj.out.blk HW5.out.2.1 (by simp; omega)).get ?_; rw [← HSC.out]; refine u32C_get ?_; rw [List.getD_eq_getElem?_getD, List.getElem?_eq_getElem (by omega)]; rfl
                  have hfr := HL.out.frozen j; have hst := HL.out.set j (.int .u32 ((Vl.getD j 0 + st.getD j 0) % 4294967296)); rw [u32C_set, addPart_set hV8 HST8 hlj] at hst; generalize Vl.getD j 0 = x at cj hst; generalize st.getD j 0 = y at cs hst; have HST := Lib.hid hst; clear hst; go_wp2_with fail
                  go_region
                  go_wp2_with fail
                  go_roundg (8 - (j + 1))
                  case measure => omega
                  case rel => exact ⟨j + 1, rfl, by omega, rfl, Lib.hid (show Blk _ _ _ _ from HST.out), Lib.hid (HKj.out.setCell _ _ (by simp)).drew⟩
                · obtain rfl : j = 8 := by omega
                  have hb := HL.out
                  have e8 : addPart Vl st 8 = shaTurn st r := by
                    rw [HE.out.1, addPart, List.take_of_length_le (by rw [shaAdd_length hV8 HST8]; omega), List.drop_eq_nil_of_le (by omega), List.append_nil]
                  rw [e8, HC.out] at hb; have hlen : C.length = 8 := by rw [← HC.out, ← e8, u32C_length, addPart_length hV8 HST8 (by omega)]
                  have hone : ∀ v ∈ C, v.oneCell' = true := by rw [← HC.out]; exact u32C_one _
                  have hi : (Tryz.prog.info? 162).map (·.size) = some C.length := by rw [hlen]; kernel_rfl
                  have HR := Lib.hid hb.rng; have HT := Lib.hid ((HKj.out.blk HW5.out.2.2.2.2.1 (by simp; omega)).thr 0 8 (by simp [u32C_length])); have HI := Lib.hid (And.intro hi (And.intro hlen hone)); have HKE := Lib.hid (show Keep [] w wr from (HB.out.1.trans' HW5.out.2.2.2.2.2 (fun x hx hlt => by simp at hx; have := HN.out; omega)).trans' HKj.out (fun x hx hlt => by simp at hx; have := HN.out; omega)); clear hb hi hlen hone HL e8
                  go_wp2_with (first
                    | (with_reducible (show wpList _ _ _ ((⟨_, .load _ _, _, _, _, none⟩ : Oper) :: _) _ _)
                       refine wpList_load_mid rfl 162 (.tmp 11) rfl nv 0 (by rfl) C _ HR.out Tryz.underlying162 rfl HI.out.1 ?_; simp only [sq])
                    | (with_reducible (show wpList _ _ _ ((⟨none, .store _ _ _, _, _, _, none⟩ : Oper) :: _) _ _)
                       refine wpList_store_mid rfl 162 (.tmp 4) (.tmp 192) rfl (n + 1) 0 C.toArray (by rfl) (by rfl) (by simp only [List.size_toArray, HI.out.2.1]; exact HT.out) (by simp only [List.size_toArray]; exact HI.out.1) (all_oneCell_toArray HI.out.2.2) ?_)
                    | fail)
                  have hload := run_loadVar_mid (P := Tryz.prog) (wr.setCells (n + 1) 0 C) (n + 1) 0 162 C _ (World.rangeAt_setCells_same wr (n + 1) 0 C (by rw [HI.out.2.1]; exact HT.out)) Tryz.underlying162 rfl HI.out.1; refine bodyPost_ret (v := .agg C.toArray) (by simp [Act.put, results, Tryz.results96, asAddr, hload]) rfl ⟨rfl, ?_⟩; exact Keep.cellsTo _ (fun hh => by have := HN.out; omega) _ _ _ HKE.out
end Go.Proofs.YtkghgaopcgcheaaGreatDoor
