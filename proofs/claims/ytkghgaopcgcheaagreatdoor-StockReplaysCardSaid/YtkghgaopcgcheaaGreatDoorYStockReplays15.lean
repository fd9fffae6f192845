/- Parts of the proof of StockReplays, in order. No conditions but those that each theorem states. -/
import Derived.Test.YtkghgaopcgcheaaGreatDoorYStockReplays0
import Derived.Lib.SliceRun
import Derived.RangeFuncNested
import Derived.RangeFuncCalls
import Derived.RangeFuncLeaves
import Derived.Lib.SlTrimSet
import Derived.Test.YtkghgaopcgcheaaGreatDoorYStockReplays14
set_option maxRecDepth 100000
set_option maxHeartbeats 16000000
set_option linter.unusedSimpArgs false
set_option linter.unusedVariables false
namespace Go.Proofs.YtkghgaopcgcheaaGreatDoor
open Go.RowKit
theorem tik_Insert (w : World) (v : Value) (L : List Tik) (i : Nat) (x : Tik) (nb : Nat) (hb : Blk w nb 51 x.cells) (h : Own Tik.cells 38 0 51 w v L) (hne : ∀ g, v.ownBlock = some g → g ≠ nb) (hi : i ≤ L.length) (hl : L.length ≤ 1000) :
    Calls Tryz.prog 172 #[v, .int .i64 (i : Nat), .slice (some ⟨nb, 0, none⟩) 1 1] w fun e w' =>
      ∃ v', e = .returned v' ∧ Own Tik.cells 38 0 51 w' v' (L.take i ++ x :: L.drop i) ∧ OwnTo w w' v v' := by
  by_cases hin : i = L.length
  · subst hin; rw [List.take_length, List.drop_length]; exact tik_Insert_end w v L x nb hb h hl
  · rcases own_rows Tik.cells_length h with ⟨rfl, rfl⟩ | ⟨g, cap, R, rfl, _, hg, hlc, hmc, hR⟩
    · exact absurd (by simpa using hi) hin
    · have hA : (L.take i).length = i := by rw [List.length_take]; omega
      have hB : (L.drop i).length = L.length - i := List.length_drop; have hAB : (L.take i).length + (L.drop i).length = L.length := by omega
      have hgr : Blk w g 51 (rows Tik.cells (L.take i ++ L.drop i) ++ R) := by rw [List.take_append_drop]; exact hg
      have hgn : nb ≠ g := fun e => hne g rfl e.symm
      by_cases hroom : L.length + 1 ≤ cap
      · have := tik_Insert_room w g cap (L.take i) (L.drop i) R x nb hb hgr hgn (by omega) (by omega) hmc (by rw [hAB]; exact hR); rw [hAB, hA] at this; refine this.mono ?_; rintro e w' ⟨rfl, h1, h2⟩; exact ⟨_, rfl, h1, h2, .inl rfl⟩
      · have := tik_Insert_grow w g cap (L.take i) (L.drop i) R x nb hb hgr (by omega) (by omega) (by omega) (by omega); rw [hAB, hA] at this; refine this.mono ?_; rintro e w' ⟨v', rfl, h1, h2, h3⟩; exact ⟨_, rfl, h1, h2.mono (by simp), .inr h3⟩
theorem tik_Delete_at (w : World) (g cap : Nat) (A B : List Tik) (y : Tik) (R : List Value) (hg : Blk w g 51 (rows Tik.cells (A ++ y :: B) ++ R)) (hlc : A.length + B.length + 1 ≤ cap) (hmc : cap ≤ maxLen) (hR : R.length = (cap - (A.length + B.length + 1)) * 38) :
    Calls Tryz.prog 174 #[.slice (some ⟨g, 0, none⟩) (A.length + B.length + 1) cap, .int .i64 (A.length : Nat), .int .i64 ((A.length : Int) + 1)] w fun e w' =>
      e = .returned (.slice (some ⟨g, 0, none⟩) (A.length + B.length) cap) ∧ Own Tik.cells 38 0 51 w' (.slice (some ⟨g, 0, none⟩) (A.length + B.length) cap) (A ++ B) ∧ Keep [g] w w' := by
  obtain ⟨is, z, Hs, hz, hz1⟩ := tikinfoz; have hmc' : cap ≤ 9223372036854775807 := hmc; obtain ⟨i, hi⟩ : ∃ i, A.length = i := ⟨_, rfl⟩
  obtain ⟨k, hk⟩ : ∃ k, B.length = k := ⟨_, rfl⟩
  obtain ⟨n, hn⟩ : ∃ n, i + k = n := ⟨_, rfl⟩
  rw [hi, hk] at hlc hR ⊢; rw [hn] at hlc hR ⊢; have hA : (rows Tik.cells A).length = i * 38 := by rw [rows_length Tik.cells_length, hi, Nat.mul_comm]
  have hBl : (rows Tik.cells B).length = k * 38 := by rw [rows_length Tik.cells_length, hk, Nat.mul_comm]
  obtain ⟨C, hC⟩ : ∃ C, rows Tik.cells (A ++ y :: B) ++ R = C := ⟨_, rfl⟩
  have hCe : C = rows Tik.cells A ++ (y.cells ++ (rows Tik.cells B ++ R)) := by
    rw [← hC, rows_app']; have : rows Tik.cells (y :: B) = y.cells ++ rows Tik.cells B := by simp [rows]
    rw [this]; simp only [List.append_assoc]
  rw [hC] at hg
  have hCl : C.length = n * 38 + 38 + (cap - (n + 1)) * 38 := by
    rw [hCe, List.length_append, List.length_append, List.length_append, hA, hBl, hR, Tik.cells_length]; omega
  have e1 : (rows Tik.cells A ++ y.cells).length = (i + 1) * 38 := by rw [List.length_append, hA, Tik.cells_length]; omega
  have g1 : Blk w.drew g 51 C := hg
  have hld : (loadCellsFrom ⟨g, (i + 1) * 38, none⟩ 0 (k * 38) #[]).run Tryz.prog w.drew = .ok (rows Tik.cells B).toArray w.drew := by
    have := run_loadCells_list (P := Tryz.prog) w.drew ⟨g, (i + 1) * 38, none⟩ (rows Tik.cells B) (fun j u hj => by
      rw [Addr.add_lit, g1.cell, hCe, ← List.append_assoc, List.getElem?_append_right (by omega), e1, Nat.add_sub_cancel_left, List.getElem?_append_left (List.getElem?_eq_some_iff.1 hj).1]; exact hj)
    rw [hBl] at this; exact this
  have hst : (storeCells ⟨g, i * 38, none⟩ (rows Tik.cells B)).run Tryz.prog w.drew = .ok () (w.drew.setCells g (i * 38) (rows Tik.cells B)) :=
    run_storeCells_cells (P := Tryz.prog) g (i * 38) (rows Tik.cells B) 0 w.drew (fun j hj => by rw [Nat.add_zero, g1.cell, List.getElem?_eq_getElem (by rw [hCl]; omega)]; rfl) (fun j _ => g1.frozen _) (rows_one Tik.one B)
  have g2 := Blk.overC (rows Tik.cells B) C (i * 38) w.drew g1; have hta : C.take (i * 38) = rows Tik.cells A := by rw [hCe, List.take_left' hA]
  rw [putAt_eq C _ _ (by rw [hCl, hBl]; omega), hta] at g2; have K2 : Keep [g] w (w.drew.setCells g (i * 38) (rows Tik.cells B)) := Keep.cellsTo (S := [g]) g (fun _ => by simp) _ _ _ ((Keep.refl _ _).drew); obtain ⟨D, hD⟩ : ∃ D, C.drop (i * 38 + (rows Tik.cells B).length) = D := ⟨_, rfl⟩
  have hDl : D.length = 38 + (cap - (n + 1)) * 38 := by rw [← hD, List.length_drop, hCl, hBl]; omega
  rw [hD, ← List.append_assoc, ← rows_app'] at g2; have hAB : (rows Tik.cells (A ++ B)).length = n * 38 := by rw [rows_length Tik.cells_length, List.length_append, hi, hk, hn, Nat.mul_comm]
  obtain ⟨W2, hW2⟩ : ∃ z, w.drew.setCells g (i * 38) (rows Tik.cells B) = z := ⟨_, rfl⟩
  rw [hW2] at hst g2 K2; have HW2 := Lib.hid hW2; clear hW2
  obtain ⟨Z, hZl, hcl⟩ := run_clear_rows (P := Tryz.prog) W2 28 51 0 z 38 g (n * 38) 1 (cap - n) (by omega) Tryz.underlying28 (fun w => by simp [zeroValue, typeInfo, Hs.out.1, Hs.out.2.1]) hz hz1
    (fun j hj => by rw [g2.cell, List.getElem?_eq_getElem (by rw [List.length_append, hAB, hDl]; omega)]; rfl) (fun j _ => g2.frozen _)
  have HF := Lib.hid (show Own Tik.cells 38 0 51 (W2.setCells g (n * 38) Z) (.slice (some ⟨g, 0, none⟩) n cap) (A ++ B) ∧ Keep [g] w (W2.setCells g (n * 38) Z) from by
    refine ⟨?_, Keep.cellsTo (S := [g]) g (fun _ => by simp) _ _ _ K2⟩; have g3 := Blk.overC Z _ (n * 38) _ g2; rw [putAt_eq _ _ _ (by rw [List.length_append, hAB, hDl, hZl]; omega), List.take_left' hAB] at g3; have hln : (A ++ B).length = n := by rw [List.length_append, hi, hk, hn]
    have := own_of_rows (base := 0) (cap := cap) Tik.cells_length (Nat.zero_le g) g3 (by rw [hln]; omega) hmc (by
      rw [List.length_append, List.length_drop, List.length_append, hAB, hDl, hZl, hln]
      have : (cap - n) * 38 = (cap - (n + 1)) * 38 + 38 := by
        have : cap - n = (cap - (n + 1)) + 1 := by omega
        rw [this, Nat.add_mul]
      omega)
    rw [hln] at this; exact this)
  have f1 : decide ((i : Int) = (i : Int) + 1) = false := decide_eq_false (by omega); have f1b : ((i : Int) == (i : Int) + 1) = false := by simp; omega
  have v3 : ((i : Int) + 1).toNat = i + 1 := by omega
  have v4 : (0 : Int) ≤ (i : Int) + 1 := by omega
  have v5 : (i : Int) + 1 ≤ (n : Int) + 1 := by omega
  have v8 : i + 1 ≤ n + 1 := by omega
  have v9 : (i : Int) ≤ (n : Int) + 1 := by omega
  have v10 : i ≤ n + 1 := by omega
  have v11 : i ≤ cap := by omega
  have v12 : ¬ (cap = n) := by omega
  have v13 : n - i = k := by omega
  have HZ := Lib.hid (show n = i + k from hn.symm); have HK := Lib.hid hk; clear hg g1 g2 K2 hC hCe hCl e1 hta hD hDl hAB hA hBl hR hi hk hn hz hz1 Hs; go_enter Tryz.func174, Tryz.ntmps174; go_wp2_with fail; by_cases hci : cap = i + 1
  · obtain rfl : k = 0 := by have := HZ.out; omega
    obtain rfl : B = [] := List.eq_nil_of_length_eq_zero HK.out; have hw : w.drew = W2 := HW2.out; subst hw; have v14 : i + 0 ≤ cap := by omega
    have hni : n = i := HZ.out; clear hld hst HW2; subst hni; subst hci; clear HZ HK; rw [Nat.add_sub_cancel_left] at hcl
    go_region
    go_wp2_with fail; go_ret; exact ⟨rfl, HF.out⟩
  · have v14 : i + k ≤ cap := by have := HZ.out; omega
    have v15 : i + k = n := HZ.out.symm
    go_region
    go_wp2_with fail; go_ret; exact ⟨rfl, HF.out⟩
theorem tik_Delete (w : World) (v : Value) (L : List Tik) (i : Nat) (h : Own Tik.cells 38 0 51 w v L) (hi : i < L.length) :
    Calls Tryz.prog 174 #[v, .int .i64 (i : Nat), .int .i64 ((i : Int) + 1)] w fun e w' =>
      ∃ v', e = .returned v' ∧ Own Tik.cells 38 0 51 w' v' (L.eraseIdx i) ∧ OwnTo w w' v v' := by
  rcases own_rows Tik.cells_length h with ⟨rfl, rfl⟩ | ⟨g, cap, R, rfl, _, hg, hlc, hmc, hR⟩
  · simp at hi
  · obtain ⟨y, hy⟩ : ∃ y, L[i]? = some y := ⟨_, List.getElem?_eq_getElem hi⟩
    have hA : (L.take i).length = i := by rw [List.length_take]; omega
    have hB : (L.drop (i + 1)).length = L.length - (i + 1) := List.length_drop
    have hL : L.take i ++ y :: L.drop (i + 1) = L := by
      have : L.drop i = y :: L.drop (i + 1) := by
        rw [List.drop_eq_getElem_cons hi]; congr 1; have := List.getElem?_eq_getElem hi; rw [hy] at this; exact (Option.some.inj this).symm
      rw [← this, List.take_append_drop]
    have hAB : (L.take i).length + (L.drop (i + 1)).length + 1 = L.length := by omega
    have hgr : Blk w g 51 (rows Tik.cells (L.take i ++ y :: L.drop (i + 1)) ++ R) := by rw [hL]; exact hg
    have := tik_Delete_at w g cap (L.take i) (L.drop (i + 1)) y R hgr (by omega) hmc (by rw [hAB]; exact hR); rw [hAB, hA] at this; refine this.mono ?_; rintro e w' ⟨rfl, h1, h2⟩; exact ⟨_, rfl, by rw [List.eraseIdx_eq_take_drop_succ]; exact h1, h2, .inl rfl⟩
theorem tik_Clone (w : World) (v : Value) (L : List Tik) (h : Own Tik.cells 38 0 51 w v L) (hl : L.length ≤ 1000) :
    Calls Tryz.prog 75 #[v] w fun e w' => ∃ v', e = .returned v' ∧ Own Tik.cells 38 w.heap.size 51 w' v' L ∧ Keep [] w w' := by
  obtain ⟨is, Hs⟩ := tikinfo'; rcases own_rows Tik.cells_length h with ⟨rfl, rfl⟩ | ⟨g, cap, R, rfl, _, hg, hlc, hmc, hR⟩
  · clear h; have hq := fun w => Lib.run_eql_slice_nil (P := Tryz.prog) w 28 51 none 0 0 0 0 Tryz.underlying28
    go_enter Tryz.func75, Tryz.ntmps75; go_wp2_with fail; go_ret; exact ⟨_, rfl, Own.nil _ _ _ _ _, Keep.refl _ _⟩
  · have ka : Keep [] w (w.alloc (.cells #[] 51)) := (Keep.refl _ _).alloc _; have hO := Lib.hid (Own.none Tik.cells 38 51 w (Nat.le_refl _)); have hga := ka.blk hg (by simp)
    have HN := Lib.hid (show ∀ j u, (rows Tik.cells L)[j]? = some u → (w.alloc (.cells #[] 51)).cell? ((⟨g, 0, Option.none⟩ : Addr).add j) = some u from fun j u hj => by
      rw [Addr.add_lit, Nat.zero_add]; refine hga.get ?_; rw [List.getElem?_append_left (List.getElem?_eq_some_iff.1 hj).1]; exact hj)
    have hz : w.heap.size ≤ (w.alloc (.cells #[] 51)).heap.size := by simp
    have hq := fun w => Lib.run_eql_slice_nil (P := Tryz.prog) w 28 51 (some ⟨g, 0, none⟩) L.length cap 0 0 Tryz.underlying28
    clear h hg hga hR; go_enter Tryz.func75, Tryz.ntmps75
    go_wp2_with (first
      | (at_builtin; go_must (refine wpList_append_own_at _ rfl _ _ 28 rfl w.heap.size 51 is _ 38 104 Tryz.underlying28 Hs.out.1 Hs.out.2.1 Hs.out.2.2.1 Hs.out.2.2.2 (by rfl) (by decide) _ _ _ rfl hO.out ⟨g, 0, Option.none⟩ L.length cap (rows Tik.cells L) rfl (by rw [rows_length Tik.cells_length, Nat.mul_comm]) HN.out (rows_one Tik.one L) (by simp; unfold maxLen; omega) (by simp; omega) hz ?_)
         intro v' w' hown hg2 hnil hat)
      | fail)
    go_ret; refine ⟨v', rfl, ?_, ?_⟩
    · unfold Own; have e : ([] : List Tik).length + L.length = L.length := by simp
      rw [e] at hown; exact hown
    · exact ka.grown hg2 (fun k hk1 hk2 => by
        have : k = w.heap.size := by injection hk1 with h; exact h.symm
        omega)
def OldAt (x : Tik) (M : List Tik) (i : Nat) (o : Option (Nat × Tik)) : Prop := oldG x 0 none M = oldG x i o (M.drop i) ∧ ∀ k z, o = some (k, z) → M[k]? = some z
def oldV (o : Option (Nat × Tik)) : Value := match o with
  | none => .int .i64 (-1)
  | some (k, _) => .int .i64 (k : Nat)
theorem OldAt.step {x y : Tik} {M : List Tik} {i : Nat} {o : Option (Nat × Tik)} (h : OldAt x M i o) (hy : M[i]? = some y) : OldAt x M (i + 1) (stepO x i o y) := by
  obtain ⟨h1, h2⟩ := h; have hlt := (List.getElem?_eq_some_iff.1 hy).1
  have hd : M.drop i = y :: M.drop (i + 1) := by
    rw [List.drop_eq_getElem_cons hlt]; congr 1; rw [List.getElem?_eq_getElem hlt] at hy; exact Option.some.inj hy
  refine ⟨by rw [h1, hd]; rfl, fun k z he => ?_⟩; unfold stepO at he
  split at he
  · exact h2 k z he
  · cases o with
    | none =>
      simp at he; obtain ⟨rfl, rfl⟩ := he; exact hy
    | some p =>
      simp only at he
      split at he
      · simp at he; obtain ⟨rfl, rfl⟩ := he; exact hy
      · exact h2 k z he
theorem ticket_oldest (t : Nat) (v : Value) (most : Int) (M : List Tik) (x : Tik) (XC : List Value) (hx : x.cells = XC) (w : World) (hb : Blk w t 133 [v, .int .i64 most]) (ho : Own Tik.cells 38 0 51 w v M) (hl : M.length ≤ 1000) :
    Calls Tryz.prog 173 #[.pointer (some ⟨t, 0, none⟩), .agg XC.toArray] w fun e w' => e = .returned (oldV (oldG x 0 none M)) ∧ Keep [] w w' := by
  obtain ⟨a, cap, rfl, hml⟩ := ho.shape; have hml' : M.length ≤ 9223372036854775807 := hml; obtain ⟨R, hR⟩ : ∃ R, oldV (oldG x 0 none M) = R := ⟨_, rfl⟩
  rw [hR]; have HR := Lib.hid hR; clear hR; obtain ⟨nx, hn⟩ : ∃ n, w.heap.size = n := ⟨_, rfl⟩
  have k1 := (Keep.refl [] w).alloc (.cells XC.toArray 51); have b1 := Blk.new w XC 51; rw [hn] at b1; have HCM := Lib.hid (fun (y : Tik) (YC : List Value) (hy : y.cells = YC) (w : World) => ticket_byTag y x YC XC hy hx w); have HXL := Lib.hid (show XC.length = 38 by rw [← hx]; exact Tik.cells_length x); have HB := Lib.hid (k1.blk hb (by simp)); have HO := Lib.hid (ho.keep0 k1); go_enter Tryz.func173, Tryz.ntmps173
  go_upto_region 1 with fail
  (try simp only [hn]); generalize w.alloc (.cells XC.toArray 51) = w1 at k1 b1 HB HO ⊢; have K1 := Lib.hid k1; have B1 := Lib.hid b1; have c0 : w1.cell? ⟨t, 0, none⟩ = some (.slice a M.length cap) := HB.out.get rfl; clear hx hb ho k1 b1 hn; go_wp2_with fail
  go_loopg [5, 13] M.length (fun g s5 s13 wr => ∃ (i : Nat) (o : Option (Nat × Tik)), s5 = oldV o ∧ s13 = .int .i64 (i : Nat) ∧ i ≤ M.length ∧ g = M.length - i ∧ Hid (OldAt x M i o) ∧ Hid (Keep [] w1 wr) ∧ Hid True)
  case atStart => exact ⟨0, none, rfl, rfl, Nat.zero_le _, rfl, Lib.hid ⟨rfl, fun _ _ h => by cases h⟩, Lib.hid (Keep.refl _ _), Lib.hid trivial⟩
  case round =>
    obtain ⟨i, o, rfl, rfl, hi, hgm, HNX0, HK, HOT⟩ := hrel; clear c0; by_cases hlt : i < M.length
    · have f1 : decide ((i : Int) < (M.length : Nat)) = true := decide_eq_true (by omega); have f1n : decide (i < M.length) = true := decide_eq_true hlt; have wk := IntWalk.i64_in ((i : Int) + 1) (by omega); obtain ⟨y, hy⟩ : ∃ y, M[i]? = some y := ⟨_, List.getElem?_eq_getElem hlt⟩
      have HS := Lib.hid (HO.out.sl Tik.cells_length); obtain ⟨b, off, cap', hv, h1, h2, h3⟩ := HS.out.cell hy; cases hv; obtain ⟨YC, hYC⟩ : ∃ z, y.cells = z := ⟨_, rfl⟩
      have HYL := Lib.hid (show YC.length = 38 ∧ ∀ v ∈ YC, v.oneCell' = true by rw [← hYC]; exact ⟨Tik.cells_length y, Tik.one y⟩)
      have HR0 := Lib.hid (show wr.rangeAt b (off + i * 38) YC from fun q u hq => by
        have hq38 : q < 38 := by have := (List.getElem?_eq_some_iff.1 hq).1; have := HYL.out.1; omega
        refine HK.out.load ?_; rw [h3 q hq38, hYC]; exact hq)
      have k2 := (Keep.refl [] wr).alloc (.cells YC.toArray 51); have b2 := Blk.new wr YC 51
      go_upto_region 5 with (first | ((with_reducible refine gL 17 16 ?_); refine gl b (off + i * 38) YC HR0.out (by rw [HYL.out.1]; kernel_rfl) ?_; try simp only [sq]) | ((with_reducible refine gS 7 17 ?_); refine wpList_store_new rfl 51 (.tmp 7) (.tmp 17) rfl _ YC (by rfl) (by rfl) (by rw [HYL.out.1]; kernel_rfl) (by rw [HYL.out.1]; kernel_rfl) HYL.out.2 ?_) | fail)
      obtain ⟨bx, hbx⟩ : ∃ b, wr.heap.size = b := ⟨_, rfl⟩
      rw [hbx] at b2; (try rw [hbx]); generalize wr.alloc (.cells YC.toArray 51) = w3 at k2 b2 ⊢; have K3 := Lib.hid (HK.out.trans k2); have B3 := Lib.hid b2; clear k2 b2 hbx HR0; have HRG := Lib.hid (show ∀ w', Keep [] w3 w' → w'.rangeAt bx 0 YC ∧ w'.rangeAt nx 0 XC from fun w' k => ⟨(k.blk B3.out (by simp)).rng, ((K3.out.trans k).blk B1.out (by simp)).rng⟩); have HYL := Lib.hid HYL.out.1; have HCY := Lib.hid (fun w => HCM.out y YC hYC w); obtain ⟨c, hc⟩ : ∃ c, cmpT y x = c := ⟨_, rfl⟩
      rw [hc] at HCY; have HNXs := Lib.hid (HNX0.out.step hy); have hsame : c = 0 ↔ sameT y x = true := by rw [← hc]; exact cmpT_zero y x
      have HTY := Lib.hid (show ∀ w', Keep [] w3 w' → w'.cell? ⟨bx, 37, none⟩ = some (.int .i64 y.tick) from fun w' k => (k.blk B3.out (by simp)).get (by rw [← hYC]; exact y.at37)); clear hy h1 h2 h3 hYC hc; by_cases hc0 : c = 0
      · have g1 : (c == 0) = true := by simp [hc0]
        have g2 : decide (c = 0) = true := decide_eq_true hc0; have g0 : (c != 0) = false := by simp [hc0]
        have HNX : Hid (OldAt x M (i + 1) o) := by
          have := HNXs.out; unfold stepO at this; rw [if_pos (hsame.1 hc0)] at this; exact this
        clear hsame hc0 HNXs; refine wp_region_held_drew (S := fun w' => Keep [] w3 w') (by kernel_rfl) ((Keep.refl _ _).drew) (fun hHeld => ?_); refine gZ 0 bx 0 (YC) (fun w' hSw => (HRG.out w' hSw).1) (by rw [HYL.out]; kernel_rfl) ?_; (try simp only [sq]); refine gZ 1 nx 0 (XC) (fun w' hSw => (HRG.out w' hSw).2) (by rw [HXL.out]; kernel_rfl) ?_; (try simp only [sq]); refine gR 2 rfl (fun K hK => ?_); go_simp; refine (HCY.out _).mono ?_; rintro e wq ⟨rfl, kq⟩; have hKq := hHeld.trans kq; clear kq; (try go_simp); refine hK.out _ _ (hKq) (fun hHeld => ?_); clear hK K; (try simp only [sq]); refine gW 3 ?_; (try simp only [sq]); refine gW 4 ?_; (try simp only [sq]); refine gN 5 ?_; (try simp only [sq]); refine gN 6 ?_; (try simp only [sq]); refine gN 7 ?_; (try simp only [sq]); refine gN 8 ?_; (try simp only [sq]); refine gN 9 ?_; (try simp only [sq]); refine gN 10 ?_; (try simp only [sq]); refine gN 11 ?_; (try simp only [sq]); refine gN 12 ?_; (try simp only [sq]); refine gN 13 ?_; (try simp only [sq]); refine gN 14 ?_; (try simp only [sq]); refine gN 15 ?_; (try simp only [sq]); refine gN 16 ?_; (try simp only [sq]); refine gN 17 ?_; (try simp only [sq]); refine gN 18 ?_; (try simp only [sq]); refine gN 19 ?_; (try simp only [sq]); refine gW 20 ?_; (try simp only [sq]); refine wpAnyH_done (by kernel_rfl) ?_ _; have HKQ := Lib.hid (K3.out.trans hKq); go_wp2_with fail
        go_roundg (M.length - (i + 1))
        case measure => omega
        case rel => exact ⟨i + 1, o, rfl, rfl, by omega, rfl, HNX, HKQ, HOT⟩
      · have g1 : (c == 0) = false := by simp [hc0]
        have g2 : decide (c = 0) = false := decide_eq_false hc0; have g0 : (c != 0) = true := by simp [hc0]
        have hns : ¬ sameT y x = true := fun k => hc0 (hsame.2 k)
        cases o with
        | none =>
          have g3 : decide ((-1 : Int) < 0) = true := by decide
          rw [show oldV none = .int .i64 (-1) from rfl]
          have HNX : Hid (OldAt x M (i + 1) (some (i, y))) := by
            have := HNXs.out; unfold stepO at this; rw [if_neg hns] at this; exact this
          clear hsame hc0 HNXs hns; refine wp_region_held_drew (S := fun w' => Keep [] w3 w') (by kernel_rfl) ((Keep.refl _ _).drew) (fun hHeld => ?_); refine gZ 0 bx 0 (YC) (fun w' hSw => (HRG.out w' hSw).1) (by rw [HYL.out]; kernel_rfl) ?_; (try simp only [sq]); refine gZ 1 nx 0 (XC) (fun w' hSw => (HRG.out w' hSw).2) (by rw [HXL.out]; kernel_rfl) ?_; (try simp only [sq]); refine gR 2 rfl (fun K hK => ?_); go_simp; refine (HCY.out _).mono ?_; rintro e wq ⟨rfl, kq⟩; have hKq := hHeld.trans kq; clear kq; (try go_simp); refine hK.out _ _ (hKq) (fun hHeld => ?_); clear hK K; (try simp only [sq]); refine gW 3 ?_; (try simp only [sq]); refine gW 4 ?_; (try simp only [sq]); refine gW 5 ?_; (try simp only [sq]); refine gW 6 ?_; (try simp only [sq]); refine gW 7 ?_; (try simp only [sq]); refine gN 8 ?_; (try simp only [sq]); refine gN 9 ?_; (try simp only [sq]); refine gN 10 ?_; (try simp only [sq]); refine gN 11 ?_; (try simp only [sq]); refine gN 12 ?_; (try simp only [sq]); refine gN 13 ?_; (try simp only [sq]); refine gN 14 ?_; (try simp only [sq]); refine gN 15 ?_; (try simp only [sq]); refine gN 16 ?_; (try simp only [sq]); refine gN 17 ?_; (try simp only [sq]); refine gN 18 ?_; (try simp only [sq]); refine gW 19 ?_; (try simp only [sq]); refine gW 20 ?_; (try simp only [sq]); refine wpAnyH_done (by kernel_rfl) ?_ _; have HKQ := Lib.hid (K3.out.trans hKq); go_wp2_with fail
          go_roundg (M.length - (i + 1))
          case measure => omega
          case rel => exact ⟨i + 1, some (i, y), rfl, rfl, by omega, rfl, HNX, HKQ, HOT⟩
        | some p =>
          obtain ⟨k, z⟩ := p; rw [show oldV (some (k, z)) = .int .i64 (k : Nat) from rfl]; have hz := HNX0.out.2 k z rfl; have hkl := (List.getElem?_eq_some_iff.1 hz).1
          have HC := Lib.hid (show ∀ w', Keep [] w3 w' → w'.cell? ⟨bx, 37, none⟩ = some (.int .i64 y.tick) ∧ w'.cell? ⟨t, 0, none⟩ = some (.slice (some ⟨b, off, none⟩) M.length cap) ∧ w'.cell? ⟨b, off + k * 38 + 37, none⟩ = some (.int .i64 z.tick) from fun w' kk => ⟨HTY.out w' kk, ((K3.out.trans kk).blk HB.out (by simp)).get rfl, by
            obtain ⟨b', off', cap'', hv', _, _, h3'⟩ := HS.out.cell hz; cases hv'; refine (K3.out.trans kk).load ?_; rw [h3' 37 (by omega)]; exact z.at37⟩)
          have g3 : decide ((k : Int) < 0) = false := decide_eq_false (by omega); have g4 : decide ((k : Int) < (M.length : Nat)) = true := decide_eq_true (by omega); have g4n : decide (k < M.length) = true := decide_eq_true hkl; by_cases htk : y.tick < z.tick
          · have g5 : decide (y.tick < z.tick) = true := decide_eq_true htk
            have HNX : Hid (OldAt x M (i + 1) (some (i, y))) := by
              have := HNXs.out; unfold stepO at this; rw [if_neg hns] at this; simp only [htk, if_true] at this; exact this
            clear hsame hc0 HNXs hns htk hz; refine wp_region_held_drew (S := fun w' => Keep [] w3 w') (by kernel_rfl) ((Keep.refl _ _).drew) (fun hHeld => ?_); refine gZ 0 bx 0 (YC) (fun w' hSw => (HRG.out w' hSw).1) (by rw [HYL.out]; kernel_rfl) ?_; (try simp only [sq]); refine gZ 1 nx 0 (XC) (fun w' hSw => (HRG.out w' hSw).2) (by rw [HXL.out]; kernel_rfl) ?_; (try simp only [sq]); refine gR 2 rfl (fun K hK => ?_); go_simp; refine (HCY.out _).mono ?_; rintro e wq ⟨rfl, kq⟩; have hKq := hHeld.trans kq; clear kq; (try go_simp); refine hK.out _ _ (hKq) (fun hHeld => ?_); clear hK K; (try simp only [sq]); refine gW 3 ?_; (try simp only [sq]); refine gW 4 ?_; (try simp only [sq]); refine gW 5 ?_; (try simp only [sq]); refine gW 6 ?_; (try simp only [sq]); refine gW 7 ?_; (try simp only [sq]); refine gW 8 ?_; (try simp only [sq]); refine gV 9 (v := ?_) ?_ ?_; rotate_left
            · (intro w' hSw; obtain ⟨d1, d2, d3⟩ := HC.out w' hSw; go_simp) <;> (with_reducible rfl)
            (try simp only [sq]); refine gW 10 ?_; (try simp only [sq]); refine gW 11 ?_; (try simp only [sq]); refine gW 12 ?_; (try simp only [sq]); refine gV 13 (v := ?_) ?_ ?_; rotate_left
            · (intro w' hSw; obtain ⟨d1, d2, d3⟩ := HC.out w' hSw; go_simp) <;> (with_reducible rfl)
            (try simp only [sq]); refine gW 14 ?_; (try simp only [sq]); refine gW 15 ?_; (try simp only [sq]); refine gW 16 ?_; (try simp only [sq]); refine gV 17 (v := ?_) ?_ ?_; rotate_left
            · (intro w' hSw; obtain ⟨d1, d2, d3⟩ := HC.out w' hSw; go_simp) <;> (with_reducible rfl)
            (try simp only [sq]); refine gW 18 ?_; (try simp only [sq]); refine gW 19 ?_; (try simp only [sq]); refine gW 20 ?_; (try simp only [sq]); refine wpAnyH_done (by kernel_rfl) ?_ _; have HKQ := Lib.hid (K3.out.trans hKq); go_wp2_with fail
            go_roundg (M.length - (i + 1))
            case measure => omega
            case rel => exact ⟨i + 1, some (i, y), rfl, rfl, by omega, rfl, HNX, HKQ, HOT⟩
          · have g5 : decide (y.tick < z.tick) = false := decide_eq_false htk
            have HNX : Hid (OldAt x M (i + 1) (some (k, z))) := by
              have := HNXs.out; unfold stepO at this; rw [if_neg hns] at this; simp only [htk, if_false] at this; exact this
            clear hsame hc0 HNXs hns htk hz; refine wp_region_held_drew (S := fun w' => Keep [] w3 w') (by kernel_rfl) ((Keep.refl _ _).drew) (fun hHeld => ?_); refine gZ 0 bx 0 (YC) (fun w' hSw => (HRG.out w' hSw).1) (by rw [HYL.out]; kernel_rfl) ?_; (try simp only [sq]); refine gZ 1 nx 0 (XC) (fun w' hSw => (HRG.out w' hSw).2) (by rw [HXL.out]; kernel_rfl) ?_; (try simp only [sq]); refine gR 2 rfl (fun K hK => ?_); go_simp; refine (HCY.out _).mono ?_; rintro e wq ⟨rfl, kq⟩; have hKq := hHeld.trans kq; clear kq; (try go_simp); refine hK.out _ _ (hKq) (fun hHeld => ?_); clear hK K; (try simp only [sq]); refine gW 3 ?_; (try simp only [sq]); refine gW 4 ?_; (try simp only [sq]); refine gW 5 ?_; (try simp only [sq]); refine gW 6 ?_; (try simp only [sq]); refine gW 7 ?_; (try simp only [sq]); refine gW 8 ?_; (try simp only [sq]); refine gV 9 (v := ?_) ?_ ?_; rotate_left
            · (intro w' hSw; obtain ⟨d1, d2, d3⟩ := HC.out w' hSw; go_simp) <;> (with_reducible rfl)
            (try simp only [sq]); refine gW 10 ?_; (try simp only [sq]); refine gW 11 ?_; (try simp only [sq]); refine gW 12 ?_; (try simp only [sq]); refine gV 13 (v := ?_) ?_ ?_; rotate_left
            · (intro w' hSw; obtain ⟨d1, d2, d3⟩ := HC.out w' hSw; go_simp) <;> (with_reducible rfl)
            (try simp only [sq]); refine gW 14 ?_; (try simp only [sq]); refine gW 15 ?_; (try simp only [sq]); refine gW 16 ?_; (try simp only [sq]); refine gV 17 (v := ?_) ?_ ?_; rotate_left
            · (intro w' hSw; obtain ⟨d1, d2, d3⟩ := HC.out w' hSw; go_simp) <;> (with_reducible rfl)
            (try simp only [sq]); refine gW 18 ?_; (try simp only [sq]); refine gW 19 ?_; (try simp only [sq]); refine gW 20 ?_; (try simp only [sq]); refine wpAnyH_done (by kernel_rfl) ?_ _; have HKQ := Lib.hid (K3.out.trans hKq); go_wp2_with fail
            go_roundg (M.length - (i + 1))
            case measure => omega
            case rel => exact ⟨i + 1, some (k, z), rfl, rfl, by omega, rfl, HNX, HKQ, HOT⟩
    · obtain rfl : i = M.length := by omega
      have HEQ := Lib.hid (show oldV o = R from by
        have := HNX0.out.1; rw [List.drop_length] at this; rw [← HR.out, this]; rfl)
      clear hlt; go_wp2_with fail; go_ret; exact ⟨by rw [← HEQ.out]; rfl, K1.out.trans HK.out⟩
variable {F : Fence} {n : Nat} {P : Program}
def rfBusy (W : World) (l : Nat) (r : Loop) : World := W.putObj l (.loop { r with state := .busy })
def rfOn (W : World) (l : Nat) (r : Loop) : World := W.putObj l (.loop { r with state := .ready, pending := none })
def rfOff (W : World) (l : Nat) (r : Loop) : World := W.putObj l (.loop { r with state := .done, pending := some .ret })
def rfEnd (W : World) (l : Nat) (r : Loop) : World := W.putObj l (.loop { r with state := .exhausted })
def rfPost (l : Nat) (r : Loop) (W1 : World) (Rn Rx : World → Prop) : Exit → Act → World → Prop
  | .normal, _, W3 => KeepsOthers W1 W3 ∧ Rn (rfOn W3 l r)
  | .ret, _, W3 => KeepsOthers W1 W3 ∧ Rx (rfOff W3 l r)
  | _, _, _ => False
theorem rf_yield {l : Nat} {W : World} {r : Loop} {x : Array Value} {a1 : Act} {Rn Rx : World → Prop} (hfn : F.fn r.fn) (hl : W.heap[l]? = some (.loop r)) (hr : r.state = .ready) (hps : x.size = r.params.size)
    (hassign : ∀ K : Act → World → Prop, K a1 W → r.assign.wpIn (F.inRound l) n P (Exit.then K (fun _ _ _ => False)) { tmps := (r.params.zip x).foldl (fun t (p, v) => t.setIfInBounds p v) r.tmps, defers := [] } W)
    (hbody : r.body.wpIn (F.inRound l) n P (rfPost l r (rfBusy W l r) Rn Rx) a1 (rfBusy W l r)) :
    YieldAt F n P l x W fun e W' => (e = .returned (.bool true) ∧ Rn W') ∨ (e = .returned (.bool false) ∧ Rx W') := by
  refine ⟨_, _, _, _, run_yield hl hps, roundIn_of_wpIn hfn (hassign _ ⟨_, run_beginRound hl hr, ?_⟩)⟩; have h2 : (rfBusy W l r).heap[l]? = some (.loop { r with state := .busy }) := World.putObj_heap_same (Array.getElem?_eq_some_iff.1 hl).1; refine wpIn_mono hbody ?_; rintro e a3 W3 hp
  cases e with
  | normal => exact ⟨_, _, run_endRound none (hp.1.same _ _ h2 rfl), .inl ⟨rfl, hp.2⟩⟩
  | ret => exact ⟨_, _, run_endRound (some .ret) (hp.1.same _ _ h2 rfl), .inr ⟨rfl, hp.2⟩⟩
  | exit id => exact hp.elim
  | goto t => exact hp.elim
  | panic ch => exact hp.elim
  | outgrown => exact hp.elim
def rfStart (w : World) (r : Loop) : World := (w.alloc (.deferred (some []))).alloc (.loop r)
def rfRec (w : World) (a : Act) (ps : Array Tmp) (assign body : Code) (fn : FuncId) : Loop := { state := .ready, pending := none, fn := fn, tmps := a.tmps, params := ps, assign := assign, body := body, defers := w.heap.size }
def rfDone (w : World) (a : Act) (ps : Array Tmp) (assign body : Code) (fn : FuncId) : Loop := { state := .done, pending := some .ret, fn := fn, tmps := a.tmps, params := ps, assign := assign, body := body, defers := w.heap.size }
def rfMark (w : World) (a : Act) : Act := { a with defers := { target := .collected w.heap.size, args := #[] } :: a.defers }
theorem rf_range {g : Operand} {ps : Array Tmp} {assign body : Code} {Q : Exit → Act → World → Prop} {a : Act} {w : World}
    (hro : F.round = none) (h1 : 1 ≤ n) {gf : Nat} {lb : Array Value} (hg : a.eval g = .func (.func gf) #[] lb) (hFg : F.fn gf) (eg : ∀ args w, (callFunc gf args).run P w = .ok (.enter gf args) w)
    (hiter : ∀ fn, F.fn fn → CallsIn F (n - 1) P gf (#[.func (.yield (w.heap.size + 1)) #[] #[]] ++ lb) (rfStart w (rfRec w a ps assign body fn)) fun e W2 => (∃ v, e = .returned v) ∧
      ((W2.heap[w.heap.size + 1]? = some (.loop (rfRec w a ps assign body fn)) ∧ Q .normal (rfMark w a) (rfEnd W2 (w.heap.size + 1) (rfRec w a ps assign body fn))) ∨
       (W2.heap[w.heap.size + 1]? = some (.loop (rfDone w a ps assign body fn)) ∧ Code.ret.wpIn F n P Q (rfMark w a) (rfEnd W2 (w.heap.size + 1) (rfDone w a ps assign body fn))))) :
    (Code.rangeFunc g ps assign body).wpIn F n P Q a w := by
  refine wpIn_rangeFunc ?_; intro fn hfn; rw [hro]
  refine ⟨w.heap.size + 1, [{ target := .collected w.heap.size, args := #[] }], rfStart w (rfRec w a ps assign body fn), { target := .fn (.func gf) lb, args := #[.func (.yield (w.heap.size + 1)) #[] #[]] }, rfStart w (rfRec w a ps assign body fn), gf,
    #[.func (.yield (w.heap.size + 1)) #[] #[]] ++ lb, rfStart w (rfRec w a ps assign body fn), run_enterLoop_outer _ _ _ _ _, ?_, ?_, ?_, fun _ => h1, ?_⟩
  · simp only [resolve, hg]; simp [go_sem]
  · intro f' hf'; simp [Target.leads] at hf'; subst hf'; exact hFg
  · simp [invoke, go_sem, eg]
  · refine (hiter fn hfn).mono ?_; rintro e W2 ⟨⟨v, rfl⟩, (⟨hl, hq⟩ | ⟨hl, hq⟩)⟩
    · exact ⟨none, _, run_endLoop hl (by simp [rfRec]), hq⟩
    · exact ⟨some .ret, _, run_endLoop hl (by simp [rfDone]), hq⟩
end Go.Proofs.YtkghgaopcgcheaaGreatDoor
namespace Go.Proofs.YtkghgaopcgcheaaGreatDoor
open Go.RowKit
def lettersB : List UInt8 := [97, 98, 99, 100, 101, 102, 103, 104, 105, 106, 107, 108, 109, 110, 111, 112, 113, 114, 115, 116, 117, 118, 119, 120, 121, 122, 48, 49, 50, 51, 52, 53, 54, 55, 56, 57]
def sepsB : List UInt8 := [46, 95, 45]
def tagsB : List UInt8 := lettersB ++ [65, 66, 67, 68, 69, 70, 71, 72, 73, 74, 75, 76, 77, 78, 79, 80, 81, 82, 83, 84, 85, 86, 87, 88, 89, 90] ++ sepsB
def isSepM (l : List UInt8) : Bool := l == [46] || l == [95] || l == [95, 95] || (!l.isEmpty && (Lib.trimS l [45]).isEmpty)
def wordR (s : List UInt8) : List UInt8 := Lib.trimLeftS s lettersB
def sepR (s : List UInt8) : List UInt8 := Lib.trimLeftS s sepsB
def partM : Nat → List UInt8 → Bool
  | 0, _ => false
  | k + 1, s => if (wordR s).length = s.length then false else if wordR s = [] then true
    else if isSepM ((wordR s).take ((wordR s).length - (sepR (wordR s)).length)) then partM k (sepR (wordR s)) else false
def isPartM (s : List UInt8) : Bool := partM (s.length + 1) s
theorem wordR_le (s : List UInt8) : (wordR s).length ≤ s.length := (List.dropWhile_sublist _).length_le
theorem sepR_le (s : List UInt8) : (sepR s).length ≤ s.length := (List.dropWhile_sublist _).length_le
def slashF : Nat → List UInt8 → List (List UInt8)
  | 0, s => [s]
  | k + 1, s => if Lib.indexByte s 47 = -1 then [s] else s.take (Lib.indexByte s 47).toNat :: slashF k (s.drop ((Lib.indexByte s 47).toNat + 1))
def isRepoM (s : List UInt8) : Bool := decide (s.length ≤ 128) && (slashF s.length s).all isPartM
def isTagM (s : List UInt8) : Bool := !s.isEmpty && decide (s.length ≤ 128) && (s.headD 0 != 46) && (s.headD 0 != 45) && s.all tagsB.contains
end Go.Proofs.YtkghgaopcgcheaaGreatDoor
