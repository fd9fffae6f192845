/- Parts of the proof of ErrandAsks, in order. No conditions but those that each theorem states. -/
import Derived.Test.YtlhnjkekjbbhcaaGreatDoorYErrandAsks0
import Derived.Lib.SlBytesConst
import Derived.Lib.LaidTab
import Derived.Lib.ItoaNum
import Derived.Lib.ItoaLen
import Derived.Sort.Grow
import Derived.DeepKeys4
import Derived.Test.YtlhnjkekjbbhcaaGreatDoorYErrandAsks25
set_option linter.unusedSimpArgs false
set_option linter.unusedVariables false
namespace Go.Proofs.YtlhnjkekjbbhcaaGreatDoor
open Go.RowKit Go.Shelf
def fin (l : List UInt8) (e : Int) : Value := .tuple #[.string (S l), .int .i64 e]
theorem laid_many {st : List UInt8} {L : List Fld} (h : 32 < L.length) : laidE st L = 1 ∧ laidS st L = [] := by
  have h0 : laidOk L = false := by unfold laidOk; simp; omega
  have h1 : laidE st L = 1 := by unfold laidE; rw [h0]; rfl
  exact ⟨h1, by unfold laidS; rw [h1]; rfl⟩
theorem laid_bad {st : List UInt8} {L : List Fld} {x : Fld} (hx : x ∈ L) (hg : goodF x = false) : laidE st L = 1 ∧ laidS st L = [] := by
  have h0 : laidOk L = false := by
    unfold laidOk; rw [show L.all goodF = false from by rw [List.all_eq_false]; exact ⟨x, hx, by simp [hg]⟩, Bool.and_false]
  have h1 : laidE st L = 1 := by unfold laidE; rw [h0]; rfl
  exact ⟨h1, by unfold laidS; rw [h1]; rfl⟩
theorem laid_good {st : List UInt8} {L : List Fld} (h : L.length ≤ 32) (hg : L.all goodF = true) : laidE st L = (if (headT st L).length ≤ 4096 then 0 else 4) ∧ laidS st L = (if (headT st L).length ≤ 4096 then headT st L else []) := by
  have h0 : laidOk L = true := by unfold laidOk; rw [hg]; simp [h]
  have h1 : laidE st L = (if (headT st L).length ≤ 4096 then 0 else 4) := by unfold laidE; rw [h0]; rfl
  refine ⟨h1, ?_⟩; unfold laidS; rw [h1]; by_cases h2 : (headT st L).length ≤ 4096
  · rw [if_pos h2, if_pos h2, if_pos rfl]
  · rw [if_neg h2, if_neg h2, if_neg (by decide)]
theorem body_take {L : List Fld} {k : Nat} {x : Fld} (h : L[k]? = some x) : bodyT (L.take (k + 1)) = bodyT (L.take k) ++ (printF x ++ [13, 10]) := by
  have e : L.take (k + 1) = L.take k ++ [x] := by rw [List.take_add_one, h]; rfl
  rw [e]; simp [bodyT]
set_option maxRecDepth 100000 in
set_option maxHeartbeats 2000000 in
theorem outlet_laid (st : List UInt8) (va : Value) (L : List Fld) (w : World) (ha : Sl Fld.cells 2 w va L) (hg : L.length ≤ 32 → ∀ x ∈ L, x.name.length + x.value.length ≤ 1048576) (hst : st.length ≤ 1048576) :
    Calls Tryz.prog 85 #[.string (S st), va] w fun e w' => e = .returned (fin (laidS st L) (laidE st L)) ∧ Keep [] w w' := by
  obtain ⟨aa, ca, rfl, hal⟩ := ha.shape; have hal' : L.length ≤ 9223372036854775807 := hal; by_cases h32 : 32 < L.length
  · have h := laid_many (st := st) h32; have HX := Lib.hid h; clear h ha hg; go_enter Tryz.func85, Tryz.ntmps85; go_wp2_with fail; go_ret2; exact ⟨by rw [HX.out.1, HX.out.2]; rfl, Keep.refl _ _⟩
  · have hst2 : S st ++ ⟨#[13, 10]⟩ = S (st ++ [13, 10]) := S_append st [13, 10]; have hsz := S_size st; have HG := Lib.hid (hg (by omega)); have HA := Lib.hid ha; have hB := Lib.hid (bld_new (Keep.refl [] w)); clear ha hg hal; go_enter Tryz.func85, Tryz.ntmps85; go_wp2_with fail; refine (bld_write hB.out (st ++ [13, 10]) (by simp; omega)).mono ?_; rintro e w1 ⟨rfl, hb1⟩; rw [List.nil_append] at hb1; have HB := Lib.hid hb1; clear hb1 hB hst2; go_wp2_with fail; generalize w.heap.size = b at HB
    go_loopg [17] L.length (fun g i wr => ∃ (k : Nat) (T : List UInt8), i = .int .i64 k ∧ k ≤ L.length ∧ g = L.length - k ∧ T.length ≤ 1048578 + k * 1048580 ∧ Hid (T = st ++ [13, 10] ++ bodyT (L.take k) ∧ (L.take k).all goodF = true) ∧ Hid (Bld w wr b T))
    case atStart => exact ⟨0, st ++ [13, 10], rfl, Nat.zero_le _, by omega, by simp; omega, Lib.hid ⟨by simp [bodyT], by simp⟩, HB⟩
    case round =>
      obtain ⟨k, T, rfl, hk, hgk, hT, HE, HB⟩ := hrel; by_cases hlt : k < L.length
      · obtain ⟨x, hx⟩ : ∃ x, L[k]? = some x := ⟨_, List.getElem?_eq_getElem hlt⟩
        have hxl := HG.out x (List.mem_of_getElem? hx); have har := HA.out.keep Fld.cells_length (by omega) HA.out HB.out.kept (by simp) (Nat.le_refl _); obtain ⟨ba, oa, ca', hva, _, hca, hcell⟩ := har.cell hx; cases hva; have hc0 := hcell 0 (by omega); have hc1 := hcell 1 (by omega); simp only [Fld.cells, List.getElem?_cons_zero, List.getElem?_cons_succ, Nat.add_zero] at hc0 hc1; have hca' : ca ≤ 9223372036854775807 := hca; have hGd := fun w1 => field_Good x w1 (show x.name.length ≤ 9223372036854775807 by omega) (show x.value.length ≤ 9223372036854775807 by omega)
        have HX := Lib.hid hx; have hkA := (Keep.refl [] wr).alloc (.cells #[.string (S x.name), .string (S x.value)] 89); have hbA : Blk (wr.alloc (.cells #[.string (S x.name), .string (S x.value)] 89)) wr.heap.size 89 x.cells := Blk.newA wr _ _; have HKA := Lib.hid (And.intro hkA hbA); clear hcell hx har hca hkA hbA
        cases hgx : goodF x with
        | false =>
          rw [hgx] at hGd; have HGd := Lib.hid hGd; have HF := Lib.hid (laid_bad (st := st) (List.mem_of_getElem? HX.out) hgx); clear hGd hgx; go_wp2_with fail; refine (HGd.out _).mono ?_; rintro e w2 ⟨rfl, hk2⟩; have HK2 := Lib.hid ((HB.out.kept.trans HKA.out.1).trans hk2); clear hk2; go_wp2_with fail; go_ret2; exact ⟨by rw [HF.out.1, HF.out.2]; rfl, HK2.out⟩
        | true =>
          rw [hgx] at hGd; have HGd := Lib.hid hGd; have HPr := Lib.hid (fun w1 => field_Print x w1 (by omega)); have hcat : S (printF x) ++ ⟨#[13, 10]⟩ = S (printF x ++ [13, 10]) := S_append _ [13, 10]; have sP := S_size (printF x); have lP : (printF x).length ≤ 1048578 := by simp [printF]; omega
          have HGX := Lib.hid hgx; clear hGd hgx; go_wp2_with fail; refine (HGd.out _).mono ?_; rintro e w2 ⟨rfl, hk2⟩; have HB2 := Lib.hid ((HB.out.keep0 HKA.out.1).keep0 hk2); have hb2 := hk2.blk HKA.out.2 (by simp); have d0 := hb2.get (k := 0) rfl; have d1 := hb2.get (k := 1) rfl; clear hk2 hb2; go_wp2_with fail; refine (HPr.out _).mono ?_; rintro e w3 ⟨rfl, hk3⟩; have HB3 := Lib.hid (HB2.out.keep0 hk3); clear hk3 d0 d1; go_wp2_with fail; refine (bld_write HB3.out (printF x ++ [13, 10]) (by simp; omega)).mono ?_; rintro e w4 ⟨rfl, hb4⟩; have HB4 := Lib.hid hb4; clear hb4 hcat; go_wp2_with fail
          go_roundg (L.length - (k + 1))
          case measure => omega
          case rel =>
            refine ⟨k + 1, T ++ (printF x ++ [13, 10]), by go_num, by omega, rfl, by simp; omega, Lib.hid ⟨?_, ?_⟩, HB4⟩
            · rw [body_take HX.out, HE.out.1]; simp
            · rw [show L.take (k + 1) = L.take k ++ [x] from by rw [List.take_add_one, HX.out]; rfl, List.all_append, HE.out.2]; simp [HGX.out]
      · have hkl : k = L.length := by omega
        have hE := HE.out; rw [hkl, List.take_length] at hE; have hhd : T ++ [13, 10] = headT st L := by unfold headT; rw [hE.1]
        have hlay := laid_good (st := st) (show L.length ≤ 32 by omega) hE.2; rw [← hhd] at hlay; have HL := Lib.hid hlay; have hT' : (T ++ [13, 10]).length ≤ 70000000 := by simp; omega
        clear hE hhd hlay HE; go_wp2_with fail; refine (bld_write HB.out [13, 10] (by simp; omega)).mono ?_; rintro e w2 ⟨rfl, hb2⟩; have HB2 := Lib.hid hb2; clear hb2; generalize T ++ [13, 10] = H at HL HB2 hT'; go_wp2_with fail; refine (bld_len HB2.out).mono ?_; rintro e w3 ⟨rfl, rfl⟩; by_cases h4 : H.length ≤ 4096
        · have h4' : decide (4096 < ((H.length : Nat) : Int)) = false := by simp; omega
          have hl := HL.out; rw [if_pos h4, if_pos h4] at hl; have HL := Lib.hid hl; clear hl h4; go_wp2_with fail; refine (bld_string HB2.out).mono ?_; rintro e w4 ⟨rfl, hk4⟩; go_wp2_with fail; go_ret2; exact ⟨by rw [HL.out.1, HL.out.2]; rfl, hk4⟩
        · have h4' : decide (4096 < ((H.length : Nat) : Int)) = true := by simp; omega
          have hl := HL.out; rw [if_neg h4, if_neg h4] at hl; have HL := Lib.hid hl; clear hl h4; go_wp2_with fail; go_ret2; exact ⟨by rw [HL.out.1, HL.out.2]; rfl, HB2.out.kept⟩
theorem Sl.keep0 {α : Type} {enc : α → List Value} {n : Nat} {w w' : World} {v : Value} {L : List α} (h : Sl enc n w v L) (hn : ∀ x, (enc x).length = n) (h0 : 0 < n) (k : Keep [] w w') : Sl enc n w' v L := h.keep hn h0 h k (by simp) (Nat.le_refl _)
theorem ask_no {m t : List UInt8} {L : List Fld} (h : askOk m t = false) : askE m t L = 1 ∧ askS m t L = [] := by unfold askE askS; rw [h]; exact ⟨rfl, rfl⟩
theorem ask_yes {m t : List UInt8} {L : List Fld} (h : askOk m t = true) : askE m t L = laidE (askT m t) L ∧ askS m t L = laidS (askT m t) L := by unfold askE askS; rw [h]; exact ⟨rfl, rfl⟩
set_option maxRecDepth 100000 in
set_option maxHeartbeats 1000000 in
theorem outlet_Ask (m t : List UInt8) (va : Value) (L : List Fld) (w : World) (hm : ML w) (hl : m.length + t.length ≤ 1048000) (ha : Sl Fld.cells 2 w va L) (hg : L.length ≤ 32 → ∀ x ∈ L, x.name.length + x.value.length ≤ 1048576) :
    Calls Tryz.prog 47 #[.string (S m), .string (S t), va] w fun e w' => e = .returned (fin (askS m t L) (askE m t L)) ∧ Keep [] w w' := by
  have hst : askT m t = m ++ [32] ++ t ++ [32] ++ protB := rfl; have hok : askOk m t = (decide ((lnM (askT m t)).s = 200) && decide ((askT m t).length ≤ 1024)) := rfl; have hno := ask_no (m := m) (t := t) (L := L); have hyes := ask_yes (m := m) (t := t) (L := L); have hlen : (askT m t).length = m.length + t.length + 10 := by rw [hst]; simp [protB]; omega
  have HLi := Lib.hid (inlet_Line (askT m t) w hm (by omega)); have HL := Lib.hid (fun w' (k : Keep [] w w') => outlet_laid (askT m t) va L w' (ha.keep0 Fld.cells_length (by omega) k) hg (by omega)); generalize askE m t L = ae at *; generalize askS m t L = av at *; generalize askOk m t = ok at *; generalize askT m t = st at *; have q1 : S m ++ (⟨#[32]⟩ : ByteArray) = S (m ++ [32]) := S_append _ [32]; have q2 : S (m ++ [32]) ++ S t = S (m ++ [32] ++ t) := S_append _ _; have q3 : S (m ++ [32] ++ t) ++ (⟨#[32]⟩ : ByteArray) = S (m ++ [32] ++ t ++ [32]) := S_append _ [32]; have q4 : S (m ++ [32] ++ t ++ [32]) ++ (⟨#[72, 84, 84, 80, 47, 49, 46, 49]⟩ : ByteArray) = S st := by rw [hst]; exact S_append _ protB
  have t1 : (m ++ [32]).length = m.length + 1 := by simp
  have t2 : (m ++ [32] ++ t).length = m.length + t.length + 1 := by simp; omega
  have t3 : (m ++ [32] ++ t ++ [32]).length = m.length + t.length + 2 := by simp; omega
  generalize m ++ [32] ++ t ++ [32] = x3 at *; generalize m ++ [32] ++ t = x2 at *; generalize m ++ [32] = x1 at *; have s0 := S_size m; have s1 := S_size t; have s2 := S_size x1; have s3 := S_size x2; have s4 := S_size x3; have s5 := S_size st; generalize lnM st = R at *; obtain ⟨rm, rt, rv, rs⟩ := R; dsimp only at hok; unfold Ln.out at HLi; dsimp only at HLi; clear ha hg hst; by_cases h2 : rs = 200
  · have h2' := (int_eq h2).2; by_cases h3 : st.length ≤ 1024
    · have h3' : decide (((st.length : Nat) : Int) > 1024) = false := by simp; omega
      have HX := Lib.hid (hyes (by rw [hok]; simp [h2, h3])); clear hok hno hyes h2 h3 hlen; go_enter Tryz.func47, Tryz.ntmps47; go_wp2_with fail; refine HLi.out.mono ?_; rintro e w1 ⟨rfl, k1⟩; go_wp2_with fail; refine (HL.out _ k1).mono ?_; rintro e w3 ⟨rfl, k3⟩; unfold fin; go_wp2_with fail; go_ret2; exact ⟨by rw [HX.out.1, HX.out.2]; rfl, k1.trans k3⟩
    · have h3' : decide (((st.length : Nat) : Int) > 1024) = true := by simp; omega
      have HX := Lib.hid (hno (by rw [hok]; simp [h3])); clear hok hno hyes h2 h3 hlen; go_enter Tryz.func47, Tryz.ntmps47; go_wp2_with fail; refine HLi.out.mono ?_; rintro e w1 ⟨rfl, k1⟩; go_wp2_with fail; go_ret2; exact ⟨by rw [HX.out.1, HX.out.2]; rfl, k1⟩
  · have h2' := (int_ne h2).2; have HX := Lib.hid (hno (by rw [hok]; simp [h2])); clear hok hno hyes h2 hlen; go_enter Tryz.func47, Tryz.ntmps47; go_wp2_with fail; refine HLi.out.mono ?_; rintro e w1 ⟨rfl, k1⟩; go_wp2_with fail; go_ret2; exact ⟨by rw [HX.out.1, HX.out.2]; rfl, k1⟩
end Go.Proofs.YtlhnjkekjbbhcaaGreatDoor
