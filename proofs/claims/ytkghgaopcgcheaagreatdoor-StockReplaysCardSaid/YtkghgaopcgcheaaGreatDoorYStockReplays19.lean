/- Parts of the proof of StockReplays, in order. No conditions but those that each theorem states. -/
import Derived.Test.YtkghgaopcgcheaaGreatDoorYStockReplays0
import Derived.Deep.RegionHeld3
import Derived.Deep.Cut
import Derived.Deep.DeepCutAuto
import Derived.Deep.LoopGhost
import Derived.Great.BuildSlice
import Derived.Maps.AppendAt
import Derived.Test.YtkghgaopcgcheaaGreatDoorYStockReplays16
import Derived.Test.YtkghgaopcgcheaaGreatDoorYStockReplays18
set_option maxRecDepth 100000
set_option maxHeartbeats 16000000
set_option linter.unusedSimpArgs false
set_option linter.unusedVariables false
namespace Go.Proofs.YtkghgaopcgcheaaGreatDoor
open Go.RowKit
def errS (l : List UInt8) : Int := match l with
  | a :: b :: _ => if l.length < 6 then 17 else if a.toNat * 256 + b.toNat = 0 ∨ 1024 < a.toNat * 256 + b.toNat then 3 else if l.length < 6 + (a.toNat * 256 + b.toNat) then 17 else
      if framedM ((l.take (6 + (a.toNat * 256 + b.toNat))).drop 6) = l.take (6 + (a.toNat * 256 + b.toNat)) then 3 else 5
  | _ => 17
theorem errS_ne (l : List UInt8) : errS l ≠ 0 := by
  unfold errS
  split
  · split
    · decide
    · split
      · decide
      · split
        · decide
        · split <;> decide
  · decide
def recV (o : Option (Slp × Nat)) (e : Int) : Value := match o with
  | some (x, n) => .tuple #[.agg x.cells.toArray, .int .i64 (n : Nat), .int .i64 0]
  | none => .tuple #[.agg Slp.zero.cells.toArray, .int .i64 0, .int .i64 e]
theorem two_bytes (a b : UInt8) : bits .or .i64 ((a.toNat : Int) * 256) (b.toNat : Nat) = ((a.toNat * 256 + b.toNat : Nat) : Int) := by
  have hb : b.toNat < 2 ^ 8 := b.toNat_lt; have ha : a.toNat < 2 ^ 8 := a.toNat_lt; have e : ((a.toNat : Int) * 256) = ((2 ^ 8 * a.toNat : Nat) : Int) := by omega
  have e1 : (BitVec.ofInt 64 ((2 ^ 8 * a.toNat : Nat) : Int)).toNat = 2 ^ 8 * a.toNat := by simp [BitVec.toNat_ofInt] <;> omega
  have e2 : (BitVec.ofInt 64 ((b.toNat : Nat) : Int)).toNat = b.toNat := by simp [BitVec.toNat_ofInt] <;> omega
  rw [e]; show IntKind.i64.wrap ((BitVec.ofInt 64 _ ||| BitVec.ofInt 64 _).toNat : Nat) = _; rw [BitVec.toNat_or, e1, e2, ← Nat.two_pow_add_eq_or_of_lt hb, IntKind.wrap_i64]; omega
theorem slip_Read (l : List UInt8) (w : World) (hl : l.length ≤ 4194304) (ht : NibT w) :
    Calls Tryz.prog 137 #[.string (S l)] w fun e w' => e = .returned (recV (readS l) (errS l)) ∧ Keep [] w w' := by
  obtain ⟨R, hR⟩ : ∃ R, recV (readS l) (errS l) = R := ⟨_, rfl⟩
  rw [hR]; have HR := Lib.hid hR; have HT := Lib.hid ht; have hsz := S_size l; clear hR ht; go_enter Tryz.func137, Tryz.ntmps137
  go_upto_region 1 with fail
  rw [eqS8]; obtain ⟨ZC, hZC⟩ : ∃ z, Slp.zero.cells = z := ⟨_, rfl⟩
  have HZC := Lib.hid (show Slp.zero.cells = ZC ∧ ZC.length = 38 ∧ ∀ v ∈ ZC, v.oneCell' = true from ⟨hZC, by rw [← hZC]; exact Slp.cells_length _, by rw [← hZC]; exact Slp.one _⟩); obtain ⟨n, hn⟩ : ∃ n, w.heap.size = n := ⟨_, rfl⟩
  have k1 := (Keep.refl [] w).alloc (.cells Slp.zero.cells.toArray 27); have b1 := Blk.new w Slp.zero.cells 27; rw [hn] at b1; (try rw [hn]); generalize w.alloc (.cells Slp.zero.cells.toArray 27) = w1 at k1 b1 ⊢; have HAF := Lib.hid (show ∀ wy, Keep [] w1 wy → World.there wy n 0 38 ∧ Keep [] w wy ∧ w.heap.size ≤ n from fun wy k => ⟨(k.blk b1 (by simp)).thr 0 38 (by rw [Slp.cells_length]; omega), k1.trans k, by omega⟩); clear hZC k1 b1 hn; by_cases h6 : l.length < 6
  · have HV := Lib.hid (show R = .tuple #[.agg ZC.toArray, .int .i64 0, .int .i64 17] from by
      rw [← HR.out, ← HZC.out.1]
      have e1 : readS l = none := by
        unfold readS
        split
        · rw [if_pos (Or.inl h6)]
        · rfl
      have e2 : errS l = 17 := by
        unfold errS
        split
        · rw [if_pos h6]
        · rfl
      rw [e1, e2]; rfl)
    have f1 : decide ((l.length : Int) < 6) = true := decide_eq_true (by omega); clear HR
    go_wp2_with (first | ((with_reducible refine gB 13 ?_); refine wpList_build_is rfl 27 _ rfl ZC (by rw [← HZC.out.1]; kernel_rfl) ?_; simp only [sq]) | ((with_reducible refine gS 2 13 ?_); refine wpList_store_mid rfl 27 (.tmp 2) (.tmp 13) rfl n 0 ZC.toArray (by rfl) (by rfl) (by simp only [List.size_toArray, HZC.out.2.1]; exact (HAF.out _ (Keep.refl [] _)).1) (by simp only [List.size_toArray, HZC.out.2.1]; kernel_rfl) (all_oneCell_toArray HZC.out.2.2) ?_) | fail); have hload := run_loadVar_mid (P := Tryz.prog) (w1.setCells n 0 ZC) n 0 27 ZC _ (World.rangeAt_setCells_same w1 n 0 ZC (by rw [HZC.out.2.1]; exact (HAF.out _ (Keep.refl [] _)).1)) Tryz.underlying27 rfl (by rw [HZC.out.2.1]; kernel_rfl); refine bodyPost_ret (v := .tuple #[.agg ZC.toArray, .int .i64 0, .int .i64 17]) (by simp [Act.put, results, Tryz.results137, asAddr, Result.andThen, hload]) rfl ⟨by rw [HV.out], Keep.cellsTo _ (fun hh => by have := (HAF.out _ (Keep.refl [] _)).2.2; omega) _ _ _ (HAF.out _ (Keep.refl [] _)).2.1⟩
  have f1 : decide ((l.length : Int) < 6) = false := decide_eq_false (by omega)
  obtain ⟨a, b, r, hr⟩ : ∃ a b r, l = a :: b :: r := by
    match l, h6 with
    | [], h => simp at h
    | [_], h => simp at h
    | a :: b :: r, _ => exact ⟨a, b, r, rfl⟩
  have g0 := S_get (l := l) (k := 0) (c := a) (by rw [hr]; rfl); have g1 := S_get (l := l) (k := 1) (c := b) (by rw [hr]; rfl); obtain ⟨m, hm⟩ : ∃ m, a.toNat * 256 + b.toNat = m := ⟨_, rfl⟩
  have HM := Lib.hid (show readS l = (if l.length < 6 ∨ m = 0 ∨ 1024 < m ∨ l.length < 6 + m then none else if framedM ((l.take (6 + m)).drop 6) = l.take (6 + m) then (parseM ((l.take (6 + m)).drop 6)).map fun x => (x, 6 + m) else none) ∧
    errS l = (if l.length < 6 then 17 else if m = 0 ∨ 1024 < m then 3 else if l.length < 6 + m then 17 else if framedM ((l.take (6 + m)).drop 6) = l.take (6 + m) then 3 else 5) from by
    subst hr; subst hm; exact ⟨rfl, rfl⟩)
  have a8 := u8_nat a; have b8 := u8_nat b; have q1 := two_bytes a b; rw [hm] at q1; have q0 : IntKind.i64.wrap ((a.toNat : Int) * 256) = (a.toNat : Int) * 256 := by rw [IntKind.wrap_i64]; omega
  clear hr hm
  go_upto_region 3 with fail
  go_quiet (fail); obtain ⟨w2, hw2⟩ : ∃ z, w1.drewN nq = z := ⟨_, rfl⟩
  have K2 := Lib.hid (show Keep [] w1 w2 from by rw [← hw2]; exact (Keep.refl _ _).drewN _); rw [hw2]; clear hw2
  go_upto_region 4 with fail
  have hrd : ∀ (o : Option (Slp × Nat)) (er : Int), readS l = o → errS l = er → R = recV o er := fun o er h1 h2 => by rw [← HR.out, h1, h2]
  have HRD := Lib.hid hrd; clear hrd HR; clear q0 q1 a8 b8 g0 g1; by_cases hf : m = 0 ∨ 1024 < m
  · have HV := Lib.hid (show R = .tuple #[.agg ZC.toArray, .int .i64 0, .int .i64 3] from by
      rw [HRD.out none 3 (by rw [HM.out.1, if_pos (by omega)]) (by rw [HM.out.2, if_neg h6, if_pos hf]), ← HZC.out.1]; rfl)
    clear HRD HM; rcases hf with rfl | hf
    · have u1 : ((0 : Nat) : Int) = 0 := rfl; go_wp2_with (first | ((with_reducible refine gB 29 ?_); refine wpList_build_is rfl 27 _ rfl ZC (by rw [← HZC.out.1]; kernel_rfl) ?_; simp only [sq]) | ((with_reducible refine gS 2 29 ?_); refine wpList_store_mid rfl 27 (.tmp 2) (.tmp 29) rfl n 0 ZC.toArray (by rfl) (by rfl) (by simp only [List.size_toArray, HZC.out.2.1]; exact (HAF.out _ K2.out).1) (by simp only [List.size_toArray, HZC.out.2.1]; kernel_rfl) (all_oneCell_toArray HZC.out.2.2) ?_) | fail); have hload := run_loadVar_mid (P := Tryz.prog) (w2.setCells n 0 ZC) n 0 27 ZC _ (World.rangeAt_setCells_same w2 n 0 ZC (by rw [HZC.out.2.1]; exact (HAF.out _ K2.out).1)) Tryz.underlying27 rfl (by rw [HZC.out.2.1]; kernel_rfl); refine bodyPost_ret (v := .tuple #[.agg ZC.toArray, .int .i64 0, .int .i64 3]) (by simp [Act.put, results, Tryz.results137, asAddr, Result.andThen, hload]) rfl ⟨by rw [HV.out], Keep.cellsTo _ (fun hh => by have := (HAF.out _ K2.out).2.2; omega) _ _ _ (HAF.out _ K2.out).2.1⟩
    · have u1 : ((m : Int) == 0) = false := by simp; omega
      have u2 : decide ((m : Int) = 0) = false := decide_eq_false (by omega); have u3 : decide ((m : Int) > 1024) = true := decide_eq_true (by omega)
      go_wp2_with (first | ((with_reducible refine gB 29 ?_); refine wpList_build_is rfl 27 _ rfl ZC (by rw [← HZC.out.1]; kernel_rfl) ?_; simp only [sq]) | ((with_reducible refine gS 2 29 ?_); refine wpList_store_mid rfl 27 (.tmp 2) (.tmp 29) rfl n 0 ZC.toArray (by rfl) (by rfl) (by simp only [List.size_toArray, HZC.out.2.1]; exact (HAF.out _ K2.out).1) (by simp only [List.size_toArray, HZC.out.2.1]; kernel_rfl) (all_oneCell_toArray HZC.out.2.2) ?_) | fail); have hload := run_loadVar_mid (P := Tryz.prog) (w2.setCells n 0 ZC) n 0 27 ZC _ (World.rangeAt_setCells_same w2 n 0 ZC (by rw [HZC.out.2.1]; exact (HAF.out _ K2.out).1)) Tryz.underlying27 rfl (by rw [HZC.out.2.1]; kernel_rfl); refine bodyPost_ret (v := .tuple #[.agg ZC.toArray, .int .i64 0, .int .i64 3]) (by simp [Act.put, results, Tryz.results137, asAddr, Result.andThen, hload]) rfl ⟨by rw [HV.out], Keep.cellsTo _ (fun hh => by have := (HAF.out _ K2.out).2.2; omega) _ _ _ (HAF.out _ K2.out).2.1⟩
  · have u1 : ((m : Int) == 0) = false := by simp; omega
    have u2 : decide ((m : Int) = 0) = false := decide_eq_false (by omega); have u3 : decide ((m : Int) > 1024) = false := decide_eq_false (by omega); have u4 := IntWalk.i64_in (6 + (m : Int)) (by omega); by_cases hs : l.length < 6 + m
    · have HV := Lib.hid (show R = .tuple #[.agg ZC.toArray, .int .i64 0, .int .i64 17] from by
        rw [HRD.out none 17 (by rw [HM.out.1, if_pos (by omega)]) (by rw [HM.out.2, if_neg h6, if_neg hf, if_pos hs]), ← HZC.out.1]; rfl)
      clear HRD HM; have u5 : decide ((l.length : Int) < 6 + (m : Int)) = true := decide_eq_true (by omega)
      go_wp2_with (first | ((with_reducible refine gB 36 ?_); refine wpList_build_is rfl 27 _ rfl ZC (by rw [← HZC.out.1]; kernel_rfl) ?_; simp only [sq]) | ((with_reducible refine gS 2 36 ?_); refine wpList_store_mid rfl 27 (.tmp 2) (.tmp 36) rfl n 0 ZC.toArray (by rfl) (by rfl) (by simp only [List.size_toArray, HZC.out.2.1]; exact (HAF.out _ K2.out).1) (by simp only [List.size_toArray, HZC.out.2.1]; kernel_rfl) (all_oneCell_toArray HZC.out.2.2) ?_) | fail); have hload := run_loadVar_mid (P := Tryz.prog) (w2.setCells n 0 ZC) n 0 27 ZC _ (World.rangeAt_setCells_same w2 n 0 ZC (by rw [HZC.out.2.1]; exact (HAF.out _ K2.out).1)) Tryz.underlying27 rfl (by rw [HZC.out.2.1]; kernel_rfl); refine bodyPost_ret (v := .tuple #[.agg ZC.toArray, .int .i64 0, .int .i64 17]) (by simp [Act.put, results, Tryz.results137, asAddr, Result.andThen, hload]) rfl ⟨by rw [HV.out], Keep.cellsTo _ (fun hh => by have := (HAF.out _ K2.out).2.2; omega) _ _ _ (HAF.out _ K2.out).2.1⟩
    · have u5 : decide ((l.length : Int) < 6 + (m : Int)) = false := decide_eq_false (by omega); have e1 : (S l).extract 0 (6 + m) = S (l.take (6 + m)) := by rw [S_extract]; simp
      have hrl : (l.take (6 + m)).length = 6 + m := by rw [List.length_take]; omega
      have hbl : ((l.take (6 + m)).drop 6).length ≤ 1000000 := by rw [List.length_drop, hrl]; omega
      have e2 : (S (l.take (6 + m))).extract 6 (6 + m) = S ((l.take (6 + m)).drop 6) := by
        rw [S_extract, List.take_of_length_le (by omega)]
      have v1 : (6 : Int) + (m : Int) ≤ (l.length : Int) := by omega
      have v2 : 6 + m ≤ l.length := by omega
      have v0 : (0 : Int) ≤ 6 + (m : Int) := by omega
      have v3 : (6 + (m : Int)).toNat = 6 + m := by omega
      have HRO := Lib.hid (show (framedM ((l.take (6 + m)).drop 6) ≠ l.take (6 + m) → R = recV none 5) ∧ (framedM ((l.take (6 + m)).drop 6) = l.take (6 + m) → R = recV ((parseM ((l.take (6 + m)).drop 6)).map fun x => (x, 6 + m)) 3) from
        ⟨fun h => HRD.out _ _ (by rw [HM.out.1, if_neg (by omega), if_neg h]) (by rw [HM.out.2, if_neg h6, if_neg hf, if_neg hs, if_neg h]),
         fun h => HRD.out _ _ (by rw [HM.out.1, if_neg (by omega), if_pos h]) (by rw [HM.out.2, if_neg h6, if_neg hf, if_neg hs, if_pos h])⟩)
      clear HRD HM; generalize l.take (6 + m) = rc at e1 e2 hrl hbl HRO; generalize rc.drop 6 = bd at e2 hbl HRO; have rsz := S_size rc; rw [hrl] at rsz; have HFR := Lib.hid (slip_framed bd w2 hbl (HT.out.keep0 (HAF.out _ K2.out).2.1)); have HPA := Lib.hid (fun w => slip_parse bd w hbl); have vl : ((6 + m : Nat) : Int) = 6 + (m : Int) := by omega
      go_wp2_with fail; refine HFR.out.mono ?_; rintro e w3 ⟨rfl, k3⟩; have K3 := Lib.hid (K2.out.trans k3); clear k3 HFR HT; have t0 : ((S (framedM bd)).toList == (S rc).toList) = decide (framedM bd = rc) := str_beq; by_cases hfr : framedM bd = rc
      · rw [decide_eq_true hfr] at t0; have HO := Lib.hid (HRO.out.2 hfr); clear HRO hfr; go_wp2_with fail; have hpr : ∀ o, parseM bd = o → parseR bd = match o with | some x => .tuple #[.agg x.cells.toArray, .bool true] | none => .tuple #[.agg Slp.zero.cells.toArray, .bool false] := fun o h => by subst h; unfold parseR; cases parseM bd <;> rfl
        cases hp : parseM bd with
        | none =>
          have HV := Lib.hid (show R = .tuple #[.agg ZC.toArray, .int .i64 0, .int .i64 3] from by
            rw [HO.out, hp, ← HZC.out.1]; rfl)
          have hpr := hpr _ hp; dsimp only at hpr; rw [hpr, HZC.out.1] at HPA; clear HO hp hpr; refine (HPA.out w3).mono ?_; rintro e w4 ⟨rfl, k4⟩; have K4 := Lib.hid (K3.out.trans k4); clear k4 HPA
          go_upto_region 13 with (first | ((with_reducible refine gS 8 51 ?_); refine wpList_store_new rfl 27 (.tmp 8) (.tmp 51) rfl _ ZC (by rfl) (by rfl) (by rw [HZC.out.2.1]; kernel_rfl) (by rw [HZC.out.2.1]; kernel_rfl) HZC.out.2.2 ?_) | fail)
          have k5 := (Keep.refl [] w4).alloc (.cells ZC.toArray 27); have b5 := Blk.new w4 ZC 27; obtain ⟨bx, hbx⟩ : ∃ b, w4.heap.size = b := ⟨_, rfl⟩
          rw [hbx] at b5; (try rw [hbx]); generalize w4.alloc (.cells ZC.toArray 27) = w5 at k5 b5 ⊢; have K5 := Lib.hid (K4.out.trans k5); have B5 := Lib.hid b5; clear k5 b5 hbx
          go_wp2_with (first | ((with_reducible refine gB 55 ?_); refine wpList_build_is rfl 27 _ rfl ZC (by rw [← HZC.out.1]; kernel_rfl) ?_; simp only [sq]) | ((with_reducible refine gS 2 55 ?_); refine wpList_store_mid rfl 27 (.tmp 2) (.tmp 55) rfl n 0 ZC.toArray (by rfl) (by rfl) (by simp only [List.size_toArray, HZC.out.2.1]; exact (HAF.out _ K5.out).1) (by simp only [List.size_toArray, HZC.out.2.1]; kernel_rfl) (all_oneCell_toArray HZC.out.2.2) ?_) | fail); have hload := run_loadVar_mid (P := Tryz.prog) (w5.setCells n 0 ZC) n 0 27 ZC _ (World.rangeAt_setCells_same w5 n 0 ZC (by rw [HZC.out.2.1]; exact (HAF.out _ K5.out).1)) Tryz.underlying27 rfl (by rw [HZC.out.2.1]; kernel_rfl); refine bodyPost_ret (v := .tuple #[.agg ZC.toArray, .int .i64 0, .int .i64 3]) (by simp [Act.put, results, Tryz.results137, asAddr, Result.andThen, hload]) rfl ⟨by rw [HV.out], Keep.cellsTo _ (fun hh => by have := (HAF.out _ K5.out).2.2; omega) _ _ _ (HAF.out _ K5.out).2.1⟩
        | some x =>
          obtain ⟨XC, hXC⟩ : ∃ z, x.cells = z := ⟨_, rfl⟩
          have HXC := Lib.hid (show x.cells = XC ∧ XC.length = 38 ∧ ∀ v ∈ XC, v.oneCell' = true from ⟨hXC, by rw [← hXC]; exact Slp.cells_length _, by rw [← hXC]; exact Slp.one _⟩)
          have HV := Lib.hid (show R = .tuple #[.agg XC.toArray, .int .i64 (6 + (m : Int)), .int .i64 0] from by
            rw [HO.out, hp, ← hXC, ← vl]; rfl)
          have hpr := hpr _ hp; dsimp only at hpr; rw [hpr, hXC] at HPA; clear HO hp hpr hXC; refine (HPA.out w3).mono ?_; rintro e w4 ⟨rfl, k4⟩; have K4 := Lib.hid (K3.out.trans k4); clear k4 HPA
          go_upto_region 13 with (first | ((with_reducible refine gS 8 51 ?_); refine wpList_store_new rfl 27 (.tmp 8) (.tmp 51) rfl _ XC (by rfl) (by rfl) (by rw [HXC.out.2.1]; kernel_rfl) (by rw [HXC.out.2.1]; kernel_rfl) HXC.out.2.2 ?_) | fail)
          have k5 := (Keep.refl [] w4).alloc (.cells XC.toArray 27); have b5 := Blk.new w4 XC 27; obtain ⟨bx, hbx⟩ : ∃ b, w4.heap.size = b := ⟨_, rfl⟩
          rw [hbx] at b5; (try rw [hbx]); generalize w4.alloc (.cells XC.toArray 27) = w5 at k5 b5 ⊢; have K5 := Lib.hid (K4.out.trans k5); have B5 := Lib.hid b5; clear k5 b5 hbx
          go_wp2_with (first | ((with_reducible refine gL 56 8 ?_); refine gl bx 0 XC (B5.out.rng) (by rw [HXC.out.2.1]; kernel_rfl) ?_; try simp only [sq]) | ((with_reducible refine gS 2 56 ?_); refine wpList_store_mid rfl 27 (.tmp 2) (.tmp 56) rfl n 0 XC.toArray (by rfl) (by rfl) (by simp only [List.size_toArray, HXC.out.2.1]; exact (HAF.out _ K5.out).1) (by simp only [List.size_toArray, HXC.out.2.1]; kernel_rfl) (all_oneCell_toArray HXC.out.2.2) ?_) | fail); have hload := run_loadVar_mid (P := Tryz.prog) (w5.setCells n 0 XC) n 0 27 XC _ (World.rangeAt_setCells_same w5 n 0 XC (by rw [HXC.out.2.1]; exact (HAF.out _ K5.out).1)) Tryz.underlying27 rfl (by rw [HXC.out.2.1]; kernel_rfl); refine bodyPost_ret (v := .tuple #[.agg XC.toArray, .int .i64 (6 + (m : Int)), .int .i64 0]) (by simp [Act.put, results, Tryz.results137, asAddr, Result.andThen, hload]) rfl ⟨by rw [HV.out], Keep.cellsTo _ (fun hh => by have := (HAF.out _ K5.out).2.2; omega) _ _ _ (HAF.out _ K5.out).2.1⟩
      · rw [decide_eq_false hfr] at t0
        have HV := Lib.hid (show R = .tuple #[.agg ZC.toArray, .int .i64 0, .int .i64 5] from by
          rw [HRO.out.1 hfr, ← HZC.out.1]; rfl)
        clear HRO hfr; go_wp2_with (first | ((with_reducible refine gB 47 ?_); refine wpList_build_is rfl 27 _ rfl ZC (by rw [← HZC.out.1]; kernel_rfl) ?_; simp only [sq]) | ((with_reducible refine gS 2 47 ?_); refine wpList_store_mid rfl 27 (.tmp 2) (.tmp 47) rfl n 0 ZC.toArray (by rfl) (by rfl) (by simp only [List.size_toArray, HZC.out.2.1]; exact (HAF.out _ K3.out).1) (by simp only [List.size_toArray, HZC.out.2.1]; kernel_rfl) (all_oneCell_toArray HZC.out.2.2) ?_) | fail); have hload := run_loadVar_mid (P := Tryz.prog) (w3.setCells n 0 ZC) n 0 27 ZC _ (World.rangeAt_setCells_same w3 n 0 ZC (by rw [HZC.out.2.1]; exact (HAF.out _ K3.out).1)) Tryz.underlying27 rfl (by rw [HZC.out.2.1]; kernel_rfl); refine bodyPost_ret (v := .tuple #[.agg ZC.toArray, .int .i64 0, .int .i64 5]) (by simp [Act.put, results, Tryz.results137, asAddr, Result.andThen, hload]) rfl ⟨by rw [HV.out], Keep.cellsTo _ (fun hh => by have := (HAF.out _ K3.out).2.2; omega) _ _ _ (HAF.out _ K3.out).2.1⟩
theorem slpinfo : (Tryz.prog.info? 27).map (fun i => (i.zero, i.size, i.bytes)) = some (some (.agg Slp.zero.cells.toArray), 38, 104) := by kernel_rfl
theorem slpinfo' : ∃ i0, Hid (Tryz.prog.info? 27 = some i0 ∧ i0.zero = some (.agg Slp.zero.cells.toArray) ∧ i0.size = 38 ∧ i0.bytes = 104) := by
  obtain ⟨i0, hi, hz0, hz1, hz2⟩ := info_parts slpinfo; exact ⟨i0, hi, hz0, hz1, hz2⟩
theorem wpList_buildSlp {ops : Array Oper} {rest : List Oper} {o : Oper} {a : Act} {w : World} {Q : Exit → Act → World → Prop} (hg : o.guard = none) (t : TypeId) (x : Operand) (ho : o.op = .buildSlice t 1 #[(0, x)])
    {is : TypeInfo} (Hs : Hid (Tryz.prog.info? 27 = some is ∧ is.zero = some (.agg Slp.zero.cells.toArray) ∧ is.size = 38 ∧ is.bytes = 104)) (hu : Tryz.prog.underlying t = some (.slice 27)) (j : Slp) (hx : a.eval x = .agg j.cells.toArray)
    (h : wpList Tryz.prog ops Q rest (a.put o.dst (.slice (some ⟨w.heap.size, 0, none⟩) 1 1)) (w.alloc (.cells j.cells.toArray 27))) : wpList Tryz.prog ops Q (o :: rest) a w := by
  refine wpList_buildSlice hg t 27 1 #[(0, x)] ho j.cells.toArray is _ hu Hs.out.1 Hs.out.2.1 (by rw [Hs.out.2.2.1]; omega) (by rw [Hs.out.2.2.1]; omega) ?_ h; rw [Hs.out.2.2.1]
  have := Great.fill_whole (s := 38) (by omega) [.agg j.cells.toArray] ((Array.range (1 * 38)).map fun k => (Value.agg Slp.zero.cells.toArray).cells[k % (Value.agg Slp.zero.cells.toArray).cells.size]!) (by
    intro v hv; simp at hv; subst hv; show j.cells.toArray.size = 38; simp [Slp.cells_length]) (by simp)
  simp only [List.zipIdx_cons, List.zipIdx_nil, List.map_cons, List.map_nil, List.flatMap_cons, List.flatMap_nil, List.append_nil] at this; have e : (#[(0, x)].map fun (i, x) => (i, a.eval x)).toList = [((0 : Nat), Value.agg j.cells.toArray)] := by simp [hx]
  rw [e]; exact this
def allL (l : List UInt8) : List Slp × Nat := allS l.length l
theorem readS_drop {l : List UInt8} {sz : Nat} {x : Slp} {n : Nat} (h : readS (l.drop sz) = some (x, n)) : 6 < n ∧ sz + n ≤ l.length := by
  have := readS_pos h; rw [List.length_drop] at this; omega
theorem allS_step {k : Nat} {l : List UInt8} {x : Slp} {n : Nat} (h : readS l = some (x, n)) : allS (k + 1) l = (x :: (allS k (l.drop n)).1, n + (allS k (l.drop n)).2) := by
  rw [allS, h]
theorem allS_none {k : Nat} {l : List UInt8} (h : readS l = none) : allS k l = ([], 0) := by
  cases k with
  | zero => rfl
  | succ k => rw [allS, h]
def AtA (l : List UInt8) (sz : Nat) (M : List Slp) : Prop := sz ≤ l.length ∧ M.length ≤ sz ∧ ∃ k, l.length - sz ≤ k ∧ allL l = (M ++ (allS k (l.drop sz)).1, sz + (allS k (l.drop sz)).2)
theorem AtA.start (l : List UInt8) : AtA l 0 [] := ⟨Nat.zero_le _, Nat.zero_le _, l.length, by omega, by simp [allL]⟩
theorem AtA.done {l : List UInt8} {sz : Nat} {M : List Slp} (h : AtA l sz M) (hr : readS (l.drop sz) = none) : allL l = (M, sz) := by
  obtain ⟨_, _, k, _, e⟩ := h; rw [e, allS_none hr]; simp
theorem AtA.more {l : List UInt8} {sz : Nat} {M : List Slp} (h : AtA l sz M) {x : Slp} {n : Nat} (hr : readS (l.drop sz) = some (x, n)) : AtA l (sz + n) (M ++ [x]) := by
  obtain ⟨h1, h2, k, h3, e⟩ := h; have hd := readS_drop hr; obtain ⟨k', rfl⟩ : ∃ k', k = k' + 1 := ⟨k - 1, by omega⟩
  refine ⟨hd.2, by rw [List.length_append]; simp; omega, k', by omega, ?_⟩; rw [e, allS_step hr, List.drop_drop]; simp; omega
theorem slip_All (l : List UInt8) (w : World) (hl : l.length ≤ 4194304) (ht : NibT w) :
    Calls Tryz.prog 82 #[.string (S l)] w fun e w' => ∃ v, e = .returned (.tuple #[v, .int .i64 ((allL l).2 : Nat)]) ∧ Own Slp.cells 38 w.heap.size 27 w' v (allL l).1 ∧ Keep [] w w' := by
  have hsz := S_size l; obtain ⟨is, Hs⟩ := slpinfo'; have HR := Lib.hid (fun (sz : Nat) (w' : World) (k : Keep [] w w') => slip_Read (l.drop sz) w' (by rw [List.length_drop]; omega) (ht.keep0 k)); clear ht; go_enter Tryz.func82, Tryz.ntmps82; go_wp2_with fail
  go_loopg [2, 3] l.length (fun g s2 s3 wr => ∃ (sz : Nat) (M : List Slp), s3 = .int .i64 (sz : Nat) ∧ g = l.length - sz ∧ sz ≤ l.length ∧ Hid (AtA l sz M) ∧ Hid (Keep [] w wr) ∧ Hid (Own Slp.cells 38 w.heap.size 27 wr s2 M))
  case atStart => exact ⟨0, [], rfl, by omega, by omega, Lib.hid (AtA.start l), Lib.hid (Keep.refl _ _), Lib.hid (Own.nil _ _ _ _ _)⟩
  case round =>
    obtain ⟨sz, M, rfl, hgm, hsl, HA, HK, HO⟩ := hrel; have e1 : (S l).extract sz l.length = S (l.drop sz) := by rw [S_extract, List.take_of_length_le (Nat.le_refl _)]
    have q0 : (0 : Int) ≤ (sz : Int) := by omega
    have q1 : (sz : Int) ≤ (l.length : Int) := by omega
    have HRD := Lib.hid (HR.out sz wr HK.out)
    cases hr : readS (l.drop sz) with
    | none =>
      obtain ⟨er, her⟩ : ∃ er, errS (l.drop sz) = er := ⟨_, rfl⟩
      have hne : er ≠ 0 := by rw [← her]; exact errS_ne _
      have f1 : (er == 0) = false := by simp [hne]
      have f2 : decide (er = 0) = false := decide_eq_false hne; obtain ⟨XC, hXC⟩ : ∃ z, Slp.zero.cells = z := ⟨_, rfl⟩
      have HXC := Lib.hid (show Slp.zero.cells = XC ∧ XC.length = 38 ∧ ∀ v ∈ XC, v.oneCell' = true from ⟨hXC, by rw [← hXC]; exact Slp.cells_length _, by rw [← hXC]; exact Slp.one _⟩); have HEQ := Lib.hid (HA.out.done hr); have hrv : recV (readS (l.drop sz)) (errS (l.drop sz)) = .tuple #[.agg XC.toArray, .int .i64 0, .int .i64 er] := by rw [hr, her, ← hXC]; rfl
      rw [hrv] at HRD; clear hrv hr her hne hXC HA HR; go_wp2_with fail; refine HRD.out.mono ?_; rintro e w1 ⟨rfl, k1⟩; have K1 := Lib.hid (HK.out.trans k1); have KR := Lib.hid k1; clear k1 HRD
      go_upto_region 2 with (first | ((with_reducible refine gS 4 12 ?_); refine wpList_store_new rfl 27 (.tmp 4) (.tmp 12) rfl _ XC (by rfl) (by rfl) (by rw [HXC.out.2.1]; kernel_rfl) (by rw [HXC.out.2.1]; kernel_rfl) HXC.out.2.2 ?_) | fail)
      have k5 := (Keep.refl [] w1).alloc (.cells XC.toArray 27); have b5 := Blk.new w1 XC 27; obtain ⟨bx, hbx⟩ : ∃ b, w1.heap.size = b := ⟨_, rfl⟩
      rw [hbx] at b5; (try rw [hbx]); generalize w1.alloc (.cells XC.toArray 27) = w2 at k5 b5 ⊢; have K2 := Lib.hid (K1.out.trans k5); have B2 := Lib.hid b5; have HO2 := Lib.hid (HO.out.keep0 (KR.out.trans k5)); clear k5 b5 hbx HO KR; go_wp2_with fail; go_ret2; refine ⟨u2, ?_, ?_, K2.out⟩
      · rw [HEQ.out]; rfl
      · rw [HEQ.out]; exact HO2.out
    | some p =>
      obtain ⟨x, n⟩ := p; have hd := readS_drop hr; obtain ⟨XC, hXC⟩ : ∃ z, x.cells = z := ⟨_, rfl⟩
      have HXC := Lib.hid (show x.cells = XC ∧ XC.length = 38 ∧ ∀ v ∈ XC, v.oneCell' = true from ⟨hXC, by rw [← hXC]; exact Slp.cells_length _, by rw [← hXC]; exact Slp.one _⟩); have HEQ := Lib.hid (HA.out.more hr); have hml : M.length ≤ 4194304 := by have := HA.out.2.1; omega
      have hrv : recV (readS (l.drop sz)) (errS (l.drop sz)) = .tuple #[.agg XC.toArray, .int .i64 (n : Nat), .int .i64 0] := by rw [hr, ← hXC]; rfl
      rw [hrv] at HRD; have wk := IntWalk.i64_in ((sz : Int) + (n : Nat)) (by omega); clear hrv hr hXC HA HR; go_wp2_with fail; refine HRD.out.mono ?_; rintro e w1 ⟨rfl, k1⟩; have K1 := Lib.hid (HK.out.trans k1); have KR := Lib.hid k1; clear k1 HRD
      go_upto_region 2 with (first | ((with_reducible refine gS 4 12 ?_); refine wpList_store_new rfl 27 (.tmp 4) (.tmp 12) rfl _ XC (by rfl) (by rfl) (by rw [HXC.out.2.1]; kernel_rfl) (by rw [HXC.out.2.1]; kernel_rfl) HXC.out.2.2 ?_) | fail)
      have k5 := (Keep.refl [] w1).alloc (.cells XC.toArray 27); have b5 := Blk.new w1 XC 27; obtain ⟨bx, hbx⟩ : ∃ b, w1.heap.size = b := ⟨_, rfl⟩
      rw [hbx] at b5; (try rw [hbx]); generalize w1.alloc (.cells XC.toArray 27) = w2 at k5 b5 ⊢; have K2 := Lib.hid (K1.out.trans k5); have B2 := Lib.hid b5; have HO2 := Lib.hid (HO.out.keep0 (KR.out.trans k5)); clear k5 b5 hbx HO KR; have HX2 := Lib.hid (show x.cells.length = 38 ∧ XC.toArray = x.cells.toArray from ⟨Slp.cells_length x, by rw [HXC.out.1]⟩)
      go_wp2_with (first | ((with_reducible refine gL 20 4 ?_); refine gl bx 0 XC (B2.out.rng) (by rw [HXC.out.2.1]; kernel_rfl) ?_; try simp only [sq]) | ((with_reducible refine gD 21 ?_); refine wpList_buildSlp rfl 22 (.tmp 20) rfl Hs Tryz.underlying22 x (by rw [HXC.out.1]; rfl) ?_) | (at_builtin; go_must (refine wpList_append2 rfl _ _ 22 rfl is _ 104 Tryz.underlying22 Hs (by rfl) (by decide) Slp.cells_length Slp.one w w2 rfl K2.out (by rfl) HO2.out x _ rfl _ (by rfl) (by show M.length + 1 ≤ 9223372036854775807; omega) (by omega) ?_); intro v' w3 hown' hk' hside; clear hside HO2 K2) | fail)
      go_roundg (l.length - (sz + n))
      case measure => omega
      case rel => exact ⟨sz + n, M ++ [x], rfl, rfl, hd.2, HEQ, Lib.hid hk', Lib.hid hown'⟩
theorem own_elem {w : World} {v : Value} {L : List Tik} (h : Own Tik.cells 38 0 51 w v L) {i : Nat} {y : Tik} (hy : L[i]? = some y) : ∃ g cap, v = .slice (some ⟨g, 0, none⟩) L.length cap ∧ w.rangeAt g (i * 38) y.cells := by
  rcases own_rows Tik.cells_length h with ⟨rfl, rfl⟩ | ⟨g, cap, R, rfl, _, hg, hlc, hmc, hR⟩
  · cases hy
  · refine ⟨g, cap, rfl, fun j u hj => ?_⟩; have hj38 : j < 38 := by have := (List.getElem?_eq_some_iff.1 hj).1; rw [Tik.cells_length] at this; exact this
    obtain ⟨b, off, cap', hv, _, _, hc⟩ := (h.sl Tik.cells_length).cell hy; cases hv; rw [Nat.zero_add] at hc; exact (hc j hj38).trans hj
theorem own_set {w : World} {v : Value} {L : List Tik} (h : Own Tik.cells 38 0 51 w v L) {i : Nat} (hi : i < L.length) (x : Tik) : ∃ g cap, v = .slice (some ⟨g, 0, none⟩) L.length cap ∧ w.there g (i * 38) 38 ∧ Own Tik.cells 38 0 51 (w.setCells g (i * 38) x.cells) v (L.set i x) := by
  rcases own_rows Tik.cells_length h with ⟨rfl, rfl⟩ | ⟨g, cap, R, rfl, _, hg, hlc, hmc, hR⟩
  · simp at hi
  · have hrl : (rows Tik.cells L).length = L.length * 38 := by rw [rows_length Tik.cells_length, Nat.mul_comm]
    have hil : i * 38 + 38 ≤ L.length * 38 := by
      have : (i + 1) * 38 ≤ L.length * 38 := Nat.mul_le_mul_right 38 (by omega); omega
    refine ⟨g, cap, rfl, hg.thr _ _ (by rw [List.length_append, hrl]; omega), ?_⟩; have g2 := Blk.overC x.cells _ (i * 38) w hg; rw [putAt_eq _ _ _ (by rw [Tik.cells_length, List.length_append, hrl]; omega), Tik.cells_length] at g2; have hA : (rows Tik.cells (L.take i)).length = i * 38 := by rw [rows_length Tik.cells_length, List.length_take, Nat.min_eq_left (by omega), Nat.mul_comm]
    have hB : (rows Tik.cells (L.take (i + 1))).length = i * 38 + 38 := by rw [rows_length Tik.cells_length, List.length_take, Nat.min_eq_left (by omega)]; omega
    have e1 : (rows Tik.cells L ++ R).take (i * 38) = rows Tik.cells (L.take i) := by
      have : rows Tik.cells L ++ R = rows Tik.cells (L.take i) ++ (rows Tik.cells (L.drop i) ++ R) := by rw [← List.append_assoc, ← rows_app', List.take_append_drop]
      rw [this, List.take_left' hA]
    have e2 : (rows Tik.cells L ++ R).drop (i * 38 + 38) = rows Tik.cells (L.drop (i + 1)) ++ R := by
      have : rows Tik.cells L ++ R = rows Tik.cells (L.take (i + 1)) ++ (rows Tik.cells (L.drop (i + 1)) ++ R) := by rw [← List.append_assoc, ← rows_app', List.take_append_drop]
      rw [this, List.drop_left' hB]
    rw [e1, e2] at g2
    have e3 : rows Tik.cells (L.take i) ++ (x.cells ++ (rows Tik.cells (L.drop (i + 1)) ++ R)) = rows Tik.cells (L.set i x) ++ R := by
      rw [List.set_eq_take_append_cons_drop, if_pos hi, rows_app']; have : rows Tik.cells (x :: L.drop (i + 1)) = x.cells ++ rows Tik.cells (L.drop (i + 1)) := by simp [rows]
      rw [this]; simp only [List.append_assoc]
    rw [e3] at g2; have := own_of_rows (base := 0) (cap := cap) Tik.cells_length (Nat.zero_le g) g2 (by rw [List.length_set]; exact hlc) hmc (by rw [List.length_set]; exact hR); rw [List.length_set] at this; exact this
theorem wp_buildTik {o : Oper} {a : Act} {w : World} {K : Act → World → Prop} {Q : Exit → Act → World → Prop} (t : TypeId) (x : Operand) (ho : o.op = .buildSlice t 1 #[(0, x)])
    {is : TypeInfo} (Hs : Hid (Tryz.prog.info? 51 = some is ∧ is.zero = some (.agg Tik.zero.cells.toArray) ∧ is.size = 38 ∧ is.bytes = 104)) (hu : Tryz.prog.underlying t = some (.slice 51)) (XC : List Value) (hl : XC.length = 38) (hx : a.eval x = .agg XC.toArray)
    (h : K (a.put o.dst (.slice (some ⟨w.heap.size, 0, none⟩) 1 1)) (w.alloc (.cells XC.toArray 51))) : o.wp Tryz.prog a w K Q := by
  refine wp_buildSlice t 51 1 #[(0, x)] ho XC.toArray is _ hu Hs.out.1 Hs.out.2.1 (by rw [Hs.out.2.2.1]; omega) (by rw [Hs.out.2.2.1]; omega) ?_ h; rw [Hs.out.2.2.1]
  have := Great.fill_whole (s := 38) (by omega) [.agg XC.toArray] ((Array.range (1 * 38)).map fun k => (Value.agg Tik.zero.cells.toArray).cells[k % (Value.agg Tik.zero.cells.toArray).cells.size]!) (by
    intro v hv; simp at hv; subst hv; show XC.toArray.size = 38; simp [hl]) (by simp)
  simp only [List.zipIdx_cons, List.zipIdx_nil, List.map_cons, List.map_nil, List.flatMap_cons, List.flatMap_nil, List.append_nil] at this; have e : (#[(0, x)].map fun (i, x) => (i, a.eval x)).toList = [((0 : Nat), Value.agg XC.toArray)] := by simp [hx]
  rw [e]; exact this
theorem TbW.after {w w' : World} {t : Nat} {v v' : Value} {most : Nat} {L L' : List Tik} (h : TbW w t v most L) (ho : Own Tik.cells 38 0 51 w' v' L') (hto : OwnTo w w' v v') (ha : AscT L') (hl : L'.length ≤ most) :
    TbW (w'.setCell ⟨t, 0, none⟩ v') t v' most L' ∧ Keep (t :: v.ownBlock.toList) w (w'.setCell ⟨t, 0, none⟩ v') := by
  have hne : ∀ g, v'.ownBlock = some g → g ≠ t := fun g hg => by
    rcases hto.2 with e | ⟨q, hq, hq2⟩
    · exact h.ne g (by rw [← e]; exact hg)
    · rw [hg] at hq; injection hq with hq
      have := h.blk.lt; omega
  have k : Keep [t] w' (w'.setCell ⟨t, 0, none⟩ v') := (Keep.refl _ _).setCell _ _ (by simp); refine ⟨⟨(hto.1.blk h.blk (fun hm => h.ne t (by simpa using hm) rfl)).set 0 v', ho.keep k (fun g hg => by simpa using hne g hg), hne, ha, hl, h.m0, h.m64⟩, (hto.1.mono (fun x hx _ => List.mem_cons_of_mem _ hx)).trans (k.mono (by simp))⟩
theorem Tb.of {S : List Nat} {w w' : World} {t : Nat} {v v' : Value} {most : Nat} {L' : List Tik} (h2 : t ∈ S) (h3 : ∀ g, v.ownBlock = some g → g ∈ S) (h : TbW w' t v' most L') (k : Keep (t :: v.ownBlock.toList) w w') (hv : v'.ownBlock = v.ownBlock ∨ ∃ g, v'.ownBlock = some g ∧ w.heap.size ≤ g) : ∃ S', Tb S' w' t most L' ∧ Grow S w S' w' := by
  refine ⟨t :: v'.ownBlock.toList, ⟨v', h, List.mem_cons_self, fun g hg => List.mem_cons_of_mem _ (by simp [hg])⟩, k.mono (fun x hx _ => ?_), fun x hx => ?_⟩
  · rcases List.mem_cons.1 hx with rfl | hx
    · exact h2
    · exact h3 x (by simpa using hx)
  · rcases List.mem_cons.1 hx with rfl | hx
    · exact .inl h2
    · have hx : v'.ownBlock = some x := by simpa using hx
      rcases hv with e | ⟨g, hg, hg2⟩
      · exact .inl (h3 x (by rw [← e]; exact hx))
      · rw [hx] at hg; injection hg with hg
        exact .inr (by omega)
theorem isT_true {x : Tik} {L : List Tik} (h : isT x L = true) : ∃ y, L[posT x L]? = some y ∧ sameT y x = true := by
  unfold isT at h
  cases hy : L[posT x L]? with
  | none => rw [hy] at h; cases h
  | some y => rw [hy] at h; exact ⟨y, rfl, h⟩
theorem isT_false {x : Tik} {L : List Tik} (hA : AscT L) (h : isT x L = false) : ∀ y ∈ L, sameT y x = false := by
  refine not_same_of hA fun y hy => ?_
  unfold isT at h; rw [hy] at h; exact h
structure TbY (w : World) (t : Nat) (v : Value) (most : Nat) (L : List Tik) : Prop where
  blk : Blk w t 133 [v, .int .i64 (most : Nat)]
  own : Own Tik.cells 38 0 51 w v L
  ne : ∀ g, v.ownBlock = some g → g ≠ t
theorem TbY.keep0 {w w' : World} {t : Nat} {v : Value} {most : Nat} {L : List Tik} (h : TbY w t v most L) (k : Keep [] w w') : TbY w' t v most L := ⟨k.blk h.blk (by simp), h.own.keep0 k, h.ne⟩
theorem TbY.after {w w' : World} {t : Nat} {v v' : Value} {most : Nat} {L L' : List Tik} (h : TbY w t v most L) (ho : Own Tik.cells 38 0 51 w' v' L') (hto : OwnTo w w' v v') :
    TbY (w'.setCell ⟨t, 0, none⟩ v') t v' most L' ∧ Keep (t :: v.ownBlock.toList) w (w'.setCell ⟨t, 0, none⟩ v') := by
  have hne : ∀ g, v'.ownBlock = some g → g ≠ t := fun g hg => by
    rcases hto.2 with e | ⟨q, hq, hq2⟩
    · exact h.ne g (by rw [← e]; exact hg)
    · rw [hg] at hq; injection hq with hq
      have := h.blk.lt; omega
  have k : Keep [t] w' (w'.setCell ⟨t, 0, none⟩ v') := (Keep.refl _ _).setCell _ _ (by simp); exact ⟨⟨(hto.1.blk h.blk (fun hm => h.ne t (by simpa using hm) rfl)).set 0 v', ho.keep k (fun g hg => by simpa using hne g hg), hne⟩, (hto.1.mono (fun x hx _ => List.mem_cons_of_mem _ hx)).trans (k.mono (by simp))⟩
theorem TbW.y {w : World} {t : Nat} {v : Value} {most : Nat} {L : List Tik} (h : TbW w t v most L) : TbY w t v most L := ⟨h.blk, h.own, h.ne⟩
theorem OwnTo.keep2 {w w1 w2 : World} {t : Nat} {v v1 : Value} (k : Keep (t :: v.ownBlock.toList) w w1) (hv : v1.ownBlock = v.ownBlock ∨ ∃ g, v1.ownBlock = some g ∧ w.heap.size ≤ g) (k2 : Keep (t :: v1.ownBlock.toList) w1 w2) : Keep (t :: v.ownBlock.toList) w w2 := by
  refine k.trans' k2 (fun x hx hl => ?_); rcases List.mem_cons.1 hx with rfl | hx
  · exact List.mem_cons_self
  · have hx : v1.ownBlock = some x := by simpa using hx
    rcases hv with e | ⟨g, hg, hg2⟩
    · exact List.mem_cons_of_mem _ (by rw [← e, hx]; simp)
    · rw [hx] at hg; injection hg with hg
      omega
end Go.Proofs.YtkghgaopcgcheaaGreatDoor
namespace Go.Proofs.YtkghgaopcgcheaaGreatDoor
open Go.RowKit Go.Maps
theorem fill_one (n : Nat) (hn : 0 < n) (Z : Array Value) (C : List Value) (hl : C.length = n) (x : Operand) (a : Act) (hx : a.eval x = .agg C.toArray) (m : Nat) (hm : m = n) :
    Instr.fill (fun i => some (i * m, m)) ((Array.range (1 * m)).map (Z[· % Z.size]!)) ((#[(0, x)] : Array (Nat × Operand)).map fun (i, x) => (i, a.eval x)).toList = some C.toArray := by
  subst hm
  have := Great.fill_whole (s := m) (by omega) [.agg C.toArray] ((Array.range (1 * m)).map (Z[· % Z.size]!)) (by
    intro v hv; simp at hv; subst hv; show C.toArray.size = m; simp [hl]) (by simp)
  simp only [List.zipIdx_cons, List.zipIdx_nil, List.map_cons, List.map_nil, List.flatMap_cons, List.flatMap_nil, List.append_nil] at this; have e : (#[(0, x)].map fun (i, x) => (i, a.eval x)).toList = [((0 : Nat), Value.agg C.toArray)] := by simp [hx]
  rw [e]; exact this
theorem wp_buildOne {o : Oper} {a : Act} {w : World} {K : Act → World → Prop} {Q : Exit → Act → World → Prop} (t E : TypeId) (x : Operand) (ho : o.op = .buildSlice t 1 #[(0, x)])
    {is : TypeInfo} {Z : Array Value} {n bytes : Nat} (Hs : Hid (Tryz.prog.info? E = some is ∧ is.zero = some (.agg Z) ∧ is.size = n ∧ is.bytes = bytes)) (hn : 0 < n) (hn2 : n ≤ 1000) (hu : Tryz.prog.underlying t = some (.slice E)) (C : List Value) (hl : C.length = n) (hx : a.eval x = .agg C.toArray)
    (h : K (a.put o.dst (.slice (some ⟨w.heap.size, 0, none⟩) 1 1)) (w.alloc (.cells C.toArray E))) : o.wp Tryz.prog a w K Q := by
  refine wp_buildSlice t E 1 #[(0, x)] ho C.toArray is _ hu Hs.out.1 Hs.out.2.1 (by rw [Hs.out.2.2.1]; omega) (by rw [Hs.out.2.2.1]; omega) ?_ h; exact fill_one n hn Z C hl x a hx is.size Hs.out.2.2.1
theorem wpList_buildOne {ops : Array Oper} {rest : List Oper} {o : Oper} {a : Act} {w : World} {Q : Exit → Act → World → Prop} (hg : o.guard = none) (t E : TypeId) (x : Operand) (ho : o.op = .buildSlice t 1 #[(0, x)])
    {is : TypeInfo} {Z : Array Value} {n bytes : Nat} (Hs : Hid (Tryz.prog.info? E = some is ∧ is.zero = some (.agg Z) ∧ is.size = n ∧ is.bytes = bytes)) (hn : 0 < n) (hn2 : n ≤ 1000) (hu : Tryz.prog.underlying t = some (.slice E)) (C : List Value) (hl : C.length = n) (hx : a.eval x = .agg C.toArray)
    (h : wpList Tryz.prog ops Q rest (a.put o.dst (.slice (some ⟨w.heap.size, 0, none⟩) 1 1)) (w.alloc (.cells C.toArray E))) : wpList Tryz.prog ops Q (o :: rest) a w := by
  refine wpList_buildSlice hg t E 1 #[(0, x)] ho C.toArray is _ hu Hs.out.1 Hs.out.2.1 (by rw [Hs.out.2.2.1]; omega) (by rw [Hs.out.2.2.1]; omega) ?_ h; exact fill_one n hn Z C hl x a hx is.size Hs.out.2.2.1
theorem wp_append2 {P : Program} {o : Oper} {a : Act} {K : Act → World → Prop} {Q : Exit → Act → World → Prop} (s x : Operand) (t : TypeId)
    (ho : o.op = .call { callee := .builtin .append, args := #[s, x], argTypes := #[t, t] })
    {α : Type} {enc : α → List Value} {n base : Nat} {E : TypeId} {L : List α} {v : Value}
    (i : TypeInfo) (z : Value) (bytes : Nat) (ht : P.underlying t = some (.slice E)) (HI : Hid (P.info? E = some i ∧ i.zero = some z ∧ i.size = n ∧ i.bytes = bytes)) (hzs : z.cells.size = n) (hn0 : 0 < n)
    (hn : ∀ x, (enc x).length = n) (h1 : ∀ x, ∀ u ∈ enc x, u.oneCell' = true)
    (w : World) (hb0 : base ≤ w.heap.size) (hs : a.eval s = v) (hown : Own enc n base E w v L) (y : α) (cs : List Value) (hcs : cs = enc y) (c : Nat) (hx : a.eval x = .slice (some ⟨w.heap.size, 0, none⟩) 1 c)
    (h63 : L.length + 1 ≤ maxLen) (hbytes : (L.length + 1) * bytes ≤ 140737488355328)
    (h : ∀ v' w', Own enc n base E w' v' (L ++ [y]) → w.grownBy w' v.ownBlock → (v'.ownBlock = v.ownBlock ∨ v'.ownBlock = some (w.heap.size + 1)) → K (a.put o.dst v') w') : o.wp P a (w.alloc (.cells cs.toArray E)) K Q := by
  subst hcs; have hA := Blk.new w (enc y) E; have e0 : ∀ j, (⟨w.heap.size, 0, none⟩ : Addr).add j = ⟨w.heap.size, j, none⟩ := fun j => by unfold Addr.add; split <;> simp_all
  obtain ⟨v', w', hr, h2, h3, h4, h5⟩ := run_append_own_at (P := P) (w.alloc (.cells (enc y).toArray E)) base t o.type E i z n bytes ht HI.out.1 HI.out.2.1 HI.out.2.2.1 HI.out.2.2.2 hzs hn0 v L.length (rows enc L) (hown.alloc _) ⟨w.heap.size, 0, none⟩ 1 c (enc y) (by rw [hn]; omega) (fun j u hj => by rw [e0, hA.cell j]; exact hj) (h1 y) h63 hbytes (by simp; omega); unfold Oper.wp execOp; simp only [ho, resolve, invoke, builtin, Sem.run_bind, Sem.run_pure, Result.andThen_ok, List.map_toArray, List.map_cons, List.map_nil, hs, hx, hr]; refine h v' w' ?_ ?_ (h5.imp id (fun h => by simpa using h))
  · have : rows enc (L ++ [y]) = rows enc L ++ enc y := by simp [rows]
    unfold Own; rw [this, List.length_append]; exact h2
  · have h0 := World.grownBy_alloc w (.cells (enc y).toArray E) v.ownBlock; exact ⟨h3.os.trans h0.os, h3.tape.trans h0.tape, h3.output.trans h0.output, Nat.le_trans h0.size h3.size, fun k hk hne => (h3.block k (Nat.lt_of_lt_of_le hk h0.size) hne).trans (h0.block k hk hne)⟩
theorem wpList_append3 {P : Program} {ops : Array Oper} {rest : List Oper} {o : Oper} {a : Act} {Q : Exit → Act → World → Prop} (hgd : o.guard = none) (s x : Operand) (t : TypeId)
    (ho : o.op = .call { callee := .builtin .append, args := #[s, x], argTypes := #[t, t] })
    {α : Type} {enc : α → List Value} {n base : Nat} {E : TypeId} {L : List α} {v : Value}
    (i : TypeInfo) (z : Value) (bytes : Nat) (ht : P.underlying t = some (.slice E)) (HI : Hid (P.info? E = some i ∧ i.zero = some z ∧ i.size = n ∧ i.bytes = bytes)) (hzs : z.cells.size = n) (hn0 : 0 < n)
    (hn : ∀ x, (enc x).length = n) (h1 : ∀ x, ∀ u ∈ enc x, u.oneCell' = true)
    (w : World) (hb0 : base ≤ w.heap.size) (hs : a.eval s = v) (hown : Own enc n base E w v L) (y : α) (cs : List Value) (hcs : cs = enc y) (c : Nat) (hx : a.eval x = .slice (some ⟨w.heap.size, 0, none⟩) 1 c)
    (h63 : L.length + 1 ≤ maxLen) (hbytes : (L.length + 1) * bytes ≤ 140737488355328)
    (h : ∀ v' w', Own enc n base E w' v' (L ++ [y]) → w.grownBy w' v.ownBlock → (v'.ownBlock = v.ownBlock ∨ v'.ownBlock = some (w.heap.size + 1)) → wpList P ops Q rest (a.put o.dst v') w') : wpList P ops Q (o :: rest) a (w.alloc (.cells cs.toArray E)) :=
  wpList_plain hgd fun _ hK => wp_append2 s x t ho i z bytes ht HI hzs hn0 hn h1 w hb0 hs hown y cs hcs c hx h63 hbytes (fun v' w' h2 h3 h5 => hK _ _ (h v' w' h2 h3 h5))
theorem Keep.grown' {S : List Nat} {w w' : World} {row : Option Nat} (g : w.grownBy w' row) (h : ∀ k, row = some k → k < w.heap.size → k ∈ S) : Keep S w w' :=
  ⟨g.os, g.tape, g.output, g.size, fun k hk hn => g.block k hk (fun e => hn (h k e.symm hk))⟩
end Go.Proofs.YtkghgaopcgcheaaGreatDoor
