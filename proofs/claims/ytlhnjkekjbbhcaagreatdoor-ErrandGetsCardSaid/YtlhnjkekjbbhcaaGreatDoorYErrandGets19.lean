/- Parts of the proof of ErrandGets, in order. No conditions but those that each theorem states. -/
import Derived.Test.YtlhnjkekjbbhcaaGreatDoorYErrandGets0
import Derived.Lib.SlBytesConst
import Derived.DeepKeys4
import Derived.Lib.SlTrimSet
import Derived.Test.YtlhnjkekjbbhcaaGreatDoorYErrandGets18
set_option linter.unusedSimpArgs false
set_option linter.unusedVariables false
namespace Go.Proofs.YtlhnjkekjbbhcaaGreatDoor
open Go.RowKit Go.Shelf
def fin (l : List UInt8) (e : Int) : Value := .tuple #[.string (S l), .int .i64 e]
theorem laid_many {st : List UInt8} {L : List Fld} (h : 32 < L.length) : laidE st L = 1 ∧ laidS st L = [] := by
  have h0 : laidOk L = false := by unfold laidOk; simp; omega
  have h1 : laidE st L = 1 := by unfold laidE; rw [h0]; rfl
  exact ⟨h1, by unfold laidS; rw [h1]; rfl⟩
theorem laid_bad {st : List UInt8} {L : List Fld} {x : Fld} (hx : x ∈ L) (hg : goodF x = false) : laidE st L = 1 ∧ laidS st L = [] := by
  have h0 : laidOk L = false := by
    unfold laidOk; rw [show L.all goodF = false from by rw [List.all_eq_false]; exact ⟨x, hx, by simp [hg]⟩, Bool.and_false]
  have h1 : laidE st L = 1 := by unfold laidE; rw [h0]; rfl
  exact ⟨h1, by unfold laidS; rw [h1]; rfl⟩
theorem laid_good {st : List UInt8} {L : List Fld} (h : L.length ≤ 32) (hg : L.all goodF = true) : laidE st L = (if (headT st L).length ≤ 4096 then 0 else 4) ∧ laidS st L = (if (headT st L).length ≤ 4096 then headT st L else []) := by
  have h0 : laidOk L = true := by unfold laidOk; rw [hg]; simp [h]
  have h1 : laidE st L = (if (headT st L).length ≤ 4096 then 0 else 4) := by unfold laidE; rw [h0]; rfl
  refine ⟨h1, ?_⟩; unfold laidS; rw [h1]; by_cases h2 : (headT st L).length ≤ 4096
  · rw [if_pos h2, if_pos h2, if_pos rfl]
  · rw [if_neg h2, if_neg h2, if_neg (by decide)]
theorem body_take {L : List Fld} {k : Nat} {x : Fld} (h : L[k]? = some x) : bodyT (L.take (k + 1)) = bodyT (L.take k) ++ (printF x ++ [13, 10]) := by
  have e : L.take (k + 1) = L.take k ++ [x] := by rw [List.take_add_one, h]; rfl
  rw [e]; simp [bodyT]
set_option maxRecDepth 100000 in
set_option maxHeartbeats 2000000 in
theorem outlet_laid (st : List UInt8) (va : Value) (L : List Fld) (w : World) (ha : Sl Fld.cells 2 w va L) (hg : L.length ≤ 32 → ∀ x ∈ L, x.name.length + x.value.length ≤ 1048576) (hst : st.length ≤ 1048576) :
    Calls Tryz.prog 85 #[.string (S st), va] w fun e w' => e = .returned (fin (laidS st L) (laidE st L)) ∧ Keep [] w w' := by
  obtain ⟨aa, ca, rfl, hal⟩ := ha.shape; have hal' : L.length ≤ 9223372036854775807 := hal; by_cases h32 : 32 < L.length
  · have h := laid_many (st := st) h32; have HX := Lib.hid h; clear h ha hg; go_enter Tryz.func85, Tryz.ntmps85; go_wp2_with fail; go_ret2; exact ⟨by rw [HX.out.1, HX.out.2]; rfl, Keep.refl _ _⟩
  · have hst2 : S st ++ ⟨#[13, 10]⟩ = S (st ++ [13, 10]) := S_append st [13, 10]; have hsz := S_size st; have HG := Lib.hid (hg (by omega)); have HA := Lib.hid ha; have hB := Lib.hid (bld_new (Keep.refl [] w)); clear ha hg hal; go_enter Tryz.func85, Tryz.ntmps85; go_wp2_with fail; refine (bld_write hB.out (st ++ [13, 10]) (by simp; omega)).mono ?_; rintro e w1 ⟨rfl, hb1⟩; rw [List.nil_append] at hb1; have HB := Lib.hid hb1; clear hb1 hB hst2; go_wp2_with fail; generalize w.heap.size = b at HB
    go_loopg [17] L.length (fun g i wr => ∃ (k : Nat) (T : List UInt8), i = .int .i64 k ∧ k ≤ L.length ∧ g = L.length - k ∧ T.length ≤ 1048578 + k * 1048580 ∧ Hid (T = st ++ [13, 10] ++ bodyT (L.take k) ∧ (L.take k).all goodF = true) ∧ Hid (Bld w wr b T))
    case atStart => exact ⟨0, st ++ [13, 10], rfl, Nat.zero_le _, by omega, by simp; omega, Lib.hid ⟨by simp [bodyT], by simp⟩, HB⟩
    case round =>
      obtain ⟨k, T, rfl, hk, hgk, hT, HE, HB⟩ := hrel; by_cases hlt : k < L.length
      · obtain ⟨x, hx⟩ : ∃ x, L[k]? = some x := ⟨_, List.getElem?_eq_getElem hlt⟩
        have hxl := HG.out x (List.mem_of_getElem? hx); have har := HA.out.keep Fld.cells_length (by omega) HA.out HB.out.kept (by simp) (Nat.le_refl _); obtain ⟨ba, oa, ca', hva, _, hca, hcell⟩ := har.cell hx; cases hva; have hc0 := hcell 0 (by omega); have hc1 := hcell 1 (by omega); simp only [Fld.cells, List.getElem?_cons_zero, List.getElem?_cons_succ, Nat.add_zero] at hc0 hc1; have hca' : ca ≤ 9223372036854775807 := hca; have hGd := fun w1 => field_Good x w1 (show x.name.length ≤ 9223372036854775807 by omega) (show x.value.length ≤ 9223372036854775807 by omega)
        have HX := Lib.hid hx; have hkA := (Keep.refl [] wr).alloc (.cells #[.string (S x.name), .string (S x.value)] 89); have hbA : Blk (wr.alloc (.cells #[.string (S x.name), .string (S x.value)] 89)) wr.heap.size 89 x.cells := Blk.newA wr _ _; have HKA := Lib.hid (And.intro hkA hbA); clear hcell hx har hca hkA hbA
        cases hgx : goodF x with
        | false =>
          rw [hgx] at hGd; have HGd := Lib.hid hGd; have HF := Lib.hid (laid_bad (st := st) (List.mem_of_getElem? HX.out) hgx); clear hGd hgx; go_wp2_with fail; refine (HGd.out _).mono ?_; rintro e w2 ⟨rfl, hk2⟩; have HK2 := Lib.hid ((HB.out.kept.trans HKA.out.1).trans hk2); clear hk2; go_wp2_with fail; go_ret2; exact ⟨by rw [HF.out.1, HF.out.2]; rfl, HK2.out⟩
        | true =>
          rw [hgx] at hGd; have HGd := Lib.hid hGd; have HPr := Lib.hid (fun w1 => field_Print x w1 (by omega)); have hcat : S (printF x) ++ ⟨#[13, 10]⟩ = S (printF x ++ [13, 10]) := S_append _ [13, 10]; have sP := S_size (printF x); have lP : (printF x).length ≤ 1048578 := by simp [printF]; omega
          have HGX := Lib.hid hgx; clear hGd hgx; go_wp2_with fail; refine (HGd.out _).mono ?_; rintro e w2 ⟨rfl, hk2⟩; have HB2 := Lib.hid ((HB.out.keep0 HKA.out.1).keep0 hk2); have hb2 := hk2.blk HKA.out.2 (by simp); have d0 := hb2.get (k := 0) rfl; have d1 := hb2.get (k := 1) rfl; clear hk2 hb2; go_wp2_with fail; refine (HPr.out _).mono ?_; rintro e w3 ⟨rfl, hk3⟩; have HB3 := Lib.hid (HB2.out.keep0 hk3); clear hk3 d0 d1; go_wp2_with fail; refine (bld_write HB3.out (printF x ++ [13, 10]) (by simp; omega)).mono ?_; rintro e w4 ⟨rfl, hb4⟩; have HB4 := Lib.hid hb4; clear hb4 hcat; go_wp2_with fail
          go_roundg (L.length - (k + 1))
          case measure => omega
          case rel =>
            refine ⟨k + 1, T ++ (printF x ++ [13, 10]), by go_num, by omega, rfl, by simp; omega, Lib.hid ⟨?_, ?_⟩, HB4⟩
            · rw [body_take HX.out, HE.out.1]; simp
            · rw [show L.take (k + 1) = L.take k ++ [x] from by rw [List.take_add_one, HX.out]; rfl, List.all_append, HE.out.2]; simp [HGX.out]
      · have hkl : k = L.length := by omega
        have hE := HE.out; rw [hkl, List.take_length] at hE; have hhd : T ++ [13, 10] = headT st L := by unfold headT; rw [hE.1]
        have hlay := laid_good (st := st) (show L.length ≤ 32 by omega) hE.2; rw [← hhd] at hlay; have HL := Lib.hid hlay; have hT' : (T ++ [13, 10]).length ≤ 70000000 := by simp; omega
        clear hE hhd hlay HE; go_wp2_with fail; refine (bld_write HB.out [13, 10] (by simp; omega)).mono ?_; rintro e w2 ⟨rfl, hb2⟩; have HB2 := Lib.hid hb2; clear hb2; generalize T ++ [13, 10] = H at HL HB2 hT'; go_wp2_with fail; refine (bld_len HB2.out).mono ?_; rintro e w3 ⟨rfl, rfl⟩; by_cases h4 : H.length ≤ 4096
        · have h4' : decide (4096 < ((H.length : Nat) : Int)) = false := by simp; omega
          have hl := HL.out; rw [if_pos h4, if_pos h4] at hl; have HL := Lib.hid hl; clear hl h4; go_wp2_with fail; refine (bld_string HB2.out).mono ?_; rintro e w4 ⟨rfl, hk4⟩; go_wp2_with fail; go_ret2; exact ⟨by rw [HL.out.1, HL.out.2]; rfl, hk4⟩
        · have h4' : decide (4096 < ((H.length : Nat) : Int)) = true := by simp; omega
          have hl := HL.out; rw [if_neg h4, if_neg h4] at hl; have HL := Lib.hid hl; clear hl h4; go_wp2_with fail; go_ret2; exact ⟨by rw [HL.out.1, HL.out.2]; rfl, HB2.out.kept⟩
theorem Sl.keep0 {α : Type} {enc : α → List Value} {n : Nat} {w w' : World} {v : Value} {L : List α} (h : Sl enc n w v L) (hn : ∀ x, (enc x).length = n) (h0 : 0 < n) (k : Keep [] w w') : Sl enc n w' v L := h.keep hn h0 h k (by simp) (Nat.le_refl _)
def protSp : List UInt8 := [72, 84, 84, 80, 47, 49, 46, 49, 32]
theorem ans_no {s : Int} {L : List Fld} (h : statOk s = false) : ansE s L = 1 ∧ ansS s L = [] := by unfold ansE ansS; rw [h]; exact ⟨rfl, rfl⟩
theorem ans_yes {s : Int} {L : List Fld} (h : statOk s = true) : ansE s L = laidE (stOf s) L ∧ ansS s L = laidS (stOf s) L := by unfold ansE ansS; rw [h]; exact ⟨rfl, rfl⟩
set_option maxRecDepth 100000 in
set_option maxHeartbeats 1000000 in
theorem outlet_Answer (s : Int) (va : Value) (L : List Fld) (w : World) (hs : in64 s) (hp : P10 w) (ha : Sl Fld.cells 2 w va L) (hg : L.length ≤ 32 → ∀ x ∈ L, x.name.length + x.value.length ≤ 1048576) :
    Calls Tryz.prog 80 #[.int .i64 s, va] w fun e w' => e = .returned (fin (ansS s L) (ansE s L)) ∧ Keep [] w w' := by
  by_cases h1 : s < 100
  · have HX := Lib.hid (ans_no (s := s) (L := L) (by unfold statOk; simp; omega)); clear ha hg hp; go_enter Tryz.func80, Tryz.ntmps80; go_wp2_with fail; go_ret2; exact ⟨by rw [HX.out.1, HX.out.2]; rfl, Keep.refl _ _⟩
  · by_cases h2 : 599 < s
    · have HX := Lib.hid (ans_no (s := s) (L := L) (by unfold statOk; simp; omega)); have h2' : decide (s > 599) = true := by simp; omega
      clear ha hg hp h2; go_enter Tryz.func80, Tryz.ntmps80; go_wp2_with fail; go_ret2; exact ⟨by rw [HX.out.1, HX.out.2]; rfl, Keep.refl _ _⟩
    · have HX := Lib.hid (ans_yes (s := s) (L := L) (by unfold statOk; simp; omega)); have h2' : decide (s > 599) = false := by simp; omega
      have h1' : decide (s < 100) = false := by simp; omega
      have hst : stOf s = protSp ++ Lib.itoa s ++ [32] ++ reasonM s := rfl; have hlen := stOf_len s hs; have HD := Lib.hid (hexa_Dec s w hs hp); have HR := Lib.hid (fun w' => outlet_Reason s w'); have li := itoa_len s hs; have lr := reason_len s; generalize stOf s = st at *; generalize Lib.itoa s = ia at *; generalize reasonM s = re at *; have q1 : (⟨#[72, 84, 84, 80, 47, 49, 46, 49, 32]⟩ : ByteArray) ++ S ia = S (protSp ++ ia) := S_append protSp ia; have q2 : S (protSp ++ ia) ++ (⟨#[32]⟩ : ByteArray) = S (protSp ++ ia ++ [32]) := S_append _ [32]; have q3 : S (protSp ++ ia ++ [32]) ++ S re = S st := by rw [S_append, hst]
      have t1 : (protSp ++ ia).length = 9 + ia.length := by simp [protSp]; omega
      have t2 : (protSp ++ ia ++ [32]).length = 10 + ia.length := by simp [protSp]; omega
      generalize protSp ++ ia ++ [32] = x2 at *; generalize protSp ++ ia = x1 at *; have s1 := S_size ia; have s2 := S_size re; have s3 := S_size x1; have s4 := S_size x2; have HL := Lib.hid (fun w' (k : Keep [] w w') => outlet_laid st va L w' (ha.keep0 Fld.cells_length (by omega) k) hg (by omega)); clear ha hg hp h1 h2 hst; go_enter Tryz.func80, Tryz.ntmps80; go_wp2_with fail; refine HD.out.mono ?_; rintro e w1 ⟨rfl, k1⟩; go_wp2_with fail; refine (HR.out _).mono ?_; rintro e w2 ⟨rfl, rfl⟩; go_wp2_with fail; refine (HL.out _ k1).mono ?_; rintro e w3 ⟨rfl, k3⟩; unfold fin; go_wp2_with fail; go_ret2; exact ⟨by rw [HX.out.1, HX.out.2]; rfl, k1.trans k3⟩
theorem ask_no {m t : List UInt8} {L : List Fld} (h : askOk m t = false) : askE m t L = 1 ∧ askS m t L = [] := by unfold askE askS; rw [h]; exact ⟨rfl, rfl⟩
theorem ask_yes {m t : List UInt8} {L : List Fld} (h : askOk m t = true) : askE m t L = laidE (askT m t) L ∧ askS m t L = laidS (askT m t) L := by unfold askE askS; rw [h]; exact ⟨rfl, rfl⟩
set_option maxRecDepth 100000 in
set_option maxHeartbeats 1000000 in
theorem outlet_Ask (m t : List UInt8) (va : Value) (L : List Fld) (w : World) (hm : ML w) (hl : m.length + t.length ≤ 1048000) (ha : Sl Fld.cells 2 w va L) (hg : L.length ≤ 32 → ∀ x ∈ L, x.name.length + x.value.length ≤ 1048576) :
    Calls Tryz.prog 47 #[.string (S m), .string (S t), va] w fun e w' => e = .returned (fin (askS m t L) (askE m t L)) ∧ Keep [] w w' := by
  have hst : askT m t = m ++ [32] ++ t ++ [32] ++ protB := rfl; have hok : askOk m t = (decide ((lnM (askT m t)).s = 200) && decide ((askT m t).length ≤ 1024)) := rfl; have hno := ask_no (m := m) (t := t) (L := L); have hyes := ask_yes (m := m) (t := t) (L := L); have hlen : (askT m t).length = m.length + t.length + 10 := by rw [hst]; simp [protB]; omega
  have HLi := Lib.hid (inlet_Line (askT m t) w hm (by omega)); have HL := Lib.hid (fun w' (k : Keep [] w w') => outlet_laid (askT m t) va L w' (ha.keep0 Fld.cells_length (by omega) k) hg (by omega)); generalize askE m t L = ae at *; generalize askS m t L = av at *; generalize askOk m t = ok at *; generalize askT m t = st at *; have q1 : S m ++ (⟨#[32]⟩ : ByteArray) = S (m ++ [32]) := S_append _ [32]; have q2 : S (m ++ [32]) ++ S t = S (m ++ [32] ++ t) := S_append _ _; have q3 : S (m ++ [32] ++ t) ++ (⟨#[32]⟩ : ByteArray) = S (m ++ [32] ++ t ++ [32]) := S_append _ [32]; have q4 : S (m ++ [32] ++ t ++ [32]) ++ (⟨#[72, 84, 84, 80, 47, 49, 46, 49]⟩ : ByteArray) = S st := by rw [hst]; exact S_append _ protB
  have t1 : (m ++ [32]).length = m.length + 1 := by simp
  have t2 : (m ++ [32] ++ t).length = m.length + t.length + 1 := by simp; omega
  have t3 : (m ++ [32] ++ t ++ [32]).length = m.length + t.length + 2 := by simp; omega
  generalize m ++ [32] ++ t ++ [32] = x3 at *; generalize m ++ [32] ++ t = x2 at *; generalize m ++ [32] = x1 at *; have s0 := S_size m; have s1 := S_size t; have s2 := S_size x1; have s3 := S_size x2; have s4 := S_size x3; have s5 := S_size st; generalize lnM st = R at *; obtain ⟨rm, rt, rv, rs⟩ := R; dsimp only at hok; unfold Ln.out at HLi; dsimp only at HLi; clear ha hg hst; by_cases h2 : rs = 200
  · have h2' := (int_eq h2).2; by_cases h3 : st.length ≤ 1024
    · have h3' : decide (((st.length : Nat) : Int) > 1024) = false := by simp; omega
      have HX := Lib.hid (hyes (by rw [hok]; simp [h2, h3])); clear hok hno hyes h2 h3 hlen; go_enter Tryz.func47, Tryz.ntmps47; go_wp2_with fail; refine HLi.out.mono ?_; rintro e w1 ⟨rfl, k1⟩; go_wp2_with fail; refine (HL.out _ k1).mono ?_; rintro e w3 ⟨rfl, k3⟩; unfold fin; go_wp2_with fail; go_ret2; exact ⟨by rw [HX.out.1, HX.out.2]; rfl, k1.trans k3⟩
    · have h3' : decide (((st.length : Nat) : Int) > 1024) = true := by simp; omega
      have HX := Lib.hid (hno (by rw [hok]; simp [h3])); clear hok hno hyes h2 h3 hlen; go_enter Tryz.func47, Tryz.ntmps47; go_wp2_with fail; refine HLi.out.mono ?_; rintro e w1 ⟨rfl, k1⟩; go_wp2_with fail; go_ret2; exact ⟨by rw [HX.out.1, HX.out.2]; rfl, k1⟩
  · have h2' := (int_ne h2).2; have HX := Lib.hid (hno (by rw [hok]; simp [h2])); clear hok hno hyes h2 hlen; go_enter Tryz.func47, Tryz.ntmps47; go_wp2_with fail; refine HLi.out.mono ?_; rintro e w1 ⟨rfl, k1⟩; go_wp2_with fail; go_ret2; exact ⟨by rw [HX.out.1, HX.out.2]; rfl, k1⟩
theorem laid_ok {st : List UInt8} {L : List Fld} (h : laidE st L = 0) : laidS st L = headT st L ∧ L.length ≤ 32 ∧ (∀ f ∈ L, goodF f = true) ∧ (headT st L).length ≤ 4096 := by
  have hs : laidS st L = headT st L := by unfold laidS; rw [if_pos h]
  unfold laidE at h
  cases hk : laidOk L with
  | false => rw [hk] at h; simp at h
  | true =>
    rw [hk, if_pos rfl] at h
    have hl : (headT st L).length ≤ 4096 := by
      by_cases hl : (headT st L).length ≤ 4096
      · exact hl
      · rw [if_neg hl] at h; simp at h
    unfold laidOk at hk; simp at hk; exact ⟨hs, hk.1, hk.2, hl⟩
theorem clean_app {a b : List UInt8} (ha : clean a) (hb : clean b) : clean (a ++ b) := by
  intro x hx; rcases List.mem_append.1 hx with h | h
  · exact ha x h
  · exact hb x h
theorem clean_ite {c : Prop} [Decidable c] {a b : List UInt8} (ha : clean a) (hb : clean b) : clean (if c then a else b) := by split <;> assumption
theorem reason_clean (s : Int) : clean (reasonM s) := by
  unfold reasonM
  repeat (refine clean_ite (by intro x hx; revert x; decide) ?_)
  intro x hx; revert x; decide
theorem dec_dig {n : Nat} (h1 : 100 ≤ n) (h2 : n ≤ 599) : (Lib.itoa (n : Int)).length = 3 ∧ clean (Lib.itoa (n : Int)) := by
  rw [Lib.itoa_nonneg, dec_big (by omega), dec_big (by omega), dec_small (by omega)]; refine ⟨rfl, ?_⟩; intro x hx; have hd : ∀ y : Nat, y < 10 → UInt8.ofNat (48 + y) ≠ 13 ∧ UInt8.ofNat (48 + y) ≠ 10 := by decide
  rcases List.mem_append.1 hx with hx | hx
  · rcases List.mem_append.1 hx with hx | hx
    · rw [List.mem_singleton.1 hx]; exact hd _ (by omega)
    · rw [List.mem_singleton.1 hx]; exact hd _ (by omega)
  · rw [List.mem_singleton.1 hx]; exact hd _ (by omega)
theorem stOf_ok {s : Int} (h : statOk s = true) : clean (stOf s) ∧ 13 ≤ (stOf s).length ∧ (stOf s).length ≤ 1024 ∧ (stOf s).take 9 = [72, 84, 84, 80, 47, 49, 46, 49, 32] ∧ (stOf s).drop 13 = reasonM s := by
  unfold statOk at h; simp at h; obtain ⟨n, rfl⟩ : ∃ n : Nat, s = n := ⟨s.toNat, by omega⟩
  obtain ⟨h3, hc⟩ := dec_dig (n := n) (by omega) (by omega); have hr := reason_len (n : Int); have hcr := reason_clean (n : Int); unfold stOf; generalize Lib.itoa (n : Int) = d at *; generalize reasonM (n : Int) = r at *; have hp : clean protB := by intro x hx; revert x; decide
  have h32 : clean [32] := by intro x hx; revert x; decide
  refine ⟨clean_app (clean_app (clean_app (clean_app hp h32) hc) h32) hcr, by simp [protB]; omega, by simp [protB]; omega, by simp [protB], ?_⟩
  match d, h3 with
  | [a, b, c], _ => rfl
theorem ans_read {s : Int} {L : List Fld} (more : List UInt8) (h : ansE s L = 0) : splitM (ansS s L ++ more) = ⟨stOf s, L, (ansS s L).length, 0⟩ ∧ (ansS s L).length ≤ 4096 ∧ 13 ≤ (stOf s).length ∧ (stOf s).take 9 = [72, 84, 84, 80, 47, 49, 46, 49, 32] ∧ (stOf s).drop 13 = reasonM s := by
  cases hs : statOk s with
  | false => rw [(ans_no (L := L) hs).1] at h; simp at h
  | true =>
    obtain ⟨h1, h2⟩ := ans_yes (L := L) hs; rw [h1] at h; obtain ⟨h3, h4, h5, h6⟩ := laid_ok h; obtain ⟨c1, c2, c3, c4, c5⟩ := stOf_ok hs; rw [h2, h3]; exact ⟨split_head _ L more c1 (by intro h0; rw [h0] at c2; simp at c2) c3 h5 h4 h6, h6, c2, c4, c5⟩
end Go.Proofs.YtlhnjkekjbbhcaaGreatDoor
namespace Go.Proofs.YtlhnjkekjbbhcaaGreatDoor
open Go.RowKit
theorem wd_ite {c : Prop} [Decidable c] {a b : List UInt8} (ha : wdOk (32 :: a) = true) (hb : wdOk (32 :: b) = true) : wdOk (32 :: if c then a else b) = true := by split <;> assumption
theorem st_line {c : Nat} (h1 : 100 ≤ c) (h2 : c ≤ 599) : slM (stOf (c : Nat)) = ⟨(c : Nat), 1, true⟩ := by
  have hit : Lib.itoa ((c : Nat) : Int) = [UInt8.ofNat (48 + c / 100), UInt8.ofNat (48 + c / 10 % 10), UInt8.ofNat (48 + c % 10)] := by
    rw [Lib.itoa_nonneg, dec_big (by omega), dec_big (by omega), dec_small (by omega)]; have : c / 10 / 10 = c / 100 := by omega
    rw [this]; rfl
  have hd : (stOf (c : Nat)).drop 7 = 49 :: 32 :: UInt8.ofNat (48 + c / 100) :: UInt8.ofNat (48 + c / 10 % 10) :: UInt8.ofNat (48 + c % 10) :: (32 :: reasonM (c : Nat)) := by
    unfold stOf; rw [hit]; rfl
  have hp : Lib.hasPrefix (stOf (c : Nat)) http1B = true := by
    unfold stOf; rw [hit]; rfl
  have dg : ∀ y : Fin 10, digB (UInt8.ofNat (48 + y.1)) = true ∧ ((UInt8.ofNat (48 + y.1)).toNat : Int) - 48 = ((y.1 : Nat) : Int) := by decide
  have dg' : ∀ y : Nat, y < 10 → digB (UInt8.ofNat (48 + y)) = true ∧ ((UInt8.ofNat (48 + y)).toNat : Int) - 48 = ((y : Nat) : Int) := fun y hy => dg ⟨y, hy⟩
  have da : ∀ y : Fin 6, y.1 ≠ 0 → decide (49 ≤ (UInt8.ofNat (48 + y.1)).toNat) = true ∧ decide ((UInt8.ofNat (48 + y.1)).toNat ≤ 53) = true := by decide
  have d1 := dg' (c / 100) (by omega); have d2 := dg' (c / 10 % 10) (by omega); have d3 := dg' (c % 10) (by omega); have d4 := da ⟨c / 100, by omega⟩ (by show c / 100 ≠ 0; omega)
  have hr : wdOk (32 :: reasonM (c : Nat)) = true := by
    unfold reasonM
    repeat' (first | apply wd_ite)
    all_goals decide +kernel
  have hs : sixOk 49 32 (UInt8.ofNat (48 + c / 100)) (UInt8.ofNat (48 + c / 10 % 10)) (UInt8.ofNat (48 + c % 10)) (32 :: reasonM (c : Nat)) = true := by
    have hall : [UInt8.ofNat (48 + c / 100), UInt8.ofNat (48 + c / 10 % 10), UInt8.ofNat (48 + c % 10)].all digB = true := by rw [List.all_cons, List.all_cons, List.all_cons, d1.1, d2.1, d3.1]; rfl
    unfold sixOk; rw [hr, d4.1, d4.2, hall]; rfl
  rw [slM_six hp hd, hs, if_pos rfl]; unfold stN; simp only [List.foldl_cons, List.foldl_nil]; rw [d1.2, d2.2, d3.2]; congr 1; omega
theorem dropWhile_none {p : UInt8 → Bool} {l : List UInt8} (h : ∀ x ∈ l, p x = false) : l.dropWhile p = l := by
  cases l with
  | nil => rfl
  | cons x r => rw [List.dropWhile_cons_of_neg (by simp [h x (by simp)])]
theorem trimW_plain {l : List UInt8} (h : ∀ b ∈ l, ([32, 9] : List UInt8).contains b = false) : trimW l = l := by
  rw [trimW_eq]; unfold Lib.trimRightS Lib.trimLeftS; rw [dropWhile_none h, dropWhile_none (fun x hx => h x (List.mem_reverse.1 hx)), List.reverse_reverse]
theorem dec_plain (u : Nat) : isTxt (Lib.decDigits u) = true ∧ trimW (Lib.decDigits u) = Lib.decDigits u := by
  have hk : ∀ b : UInt8, decB b = true → textB b = true ∧ ([32, 9] : List UInt8).contains b = false := by
    have key : ∀ n : Fin 256, decB (UInt8.ofNat n.1) = true → textB (UInt8.ofNat n.1) = true ∧ ([32, 9] : List UInt8).contains (UInt8.ofNat n.1) = false := by decide +kernel
    intro b; have := key ⟨b.toNat, UInt8.toNat_lt b⟩; rw [UInt8.ofNat_toNat] at this; exact this
  have ha := List.all_eq_true.1 (dec_all u); exact ⟨List.all_eq_true.2 (fun b hb => (hk b (ha b hb)).1), trimW_plain (fun b hb => (hk b (ha b hb)).2)⟩
def clL (l : Nat) : List Fld := [⟨nCL, Lib.decDigits l⟩]
theorem cl_good (l : Nat) : ∀ f ∈ clL l, goodF f = true := by
  intro f hf; have h9 : f = ⟨nCL, Lib.decDigits l⟩ := by simpa [clL] using hf
  obtain ⟨h1, h2⟩ := dec_plain l; rw [h9]; unfold goodF; dsimp only; rw [h1, h2, show isTok nCL = true by decide +kernel]; simp
structure HeadOf (s : List UInt8) (c : Nat) (L : List Fld) : Prop where
  at' : ∀ more, splitM (s ++ more) = ⟨stOf (c : Nat), L, s.length, 0⟩
  len : s.length ≤ 4096 ∧ 2 ≤ s.length
  code : 200 ≤ c ∧ c ≤ 599
theorem head_of {c : Nat} {L : List Fld} (h : ansE (c : Nat) L = 0) (h1 : 200 ≤ c) (h2 : c ≤ 599) : HeadOf (ansS (c : Nat) L) c L := by
  have hl := ans_read (s := (c : Nat)) (L := L) [] h; refine ⟨fun more => (ans_read more h).1, ⟨hl.2.1, ?_⟩, h1, h2⟩; have := split_pos (ansS (c : Nat) L ++ []) (by rw [hl.1]); rw [hl.1] at this; exact this
theorem HeadOf.read {s : List UInt8} {c : Nat} {L : List Fld} (h : HeadOf s c L) (hd : Bool) {most : Int} (more : List UInt8) (hm : in64 most) (a : Ans) (Q : ReS)
    (hf : reFrame { reNew hd most with inp := more } ⟨(c : Nat), L, 0, false, closesM L 1⟩ = ⟨Q, a, true⟩) :
    reAll ((reNew hd most).add (s ++ more)) = reAll { Q with ans := some a } ∧ (reAll { Q with ans := some a }).ok (2 * (s.length + more.length)) := by
  have hok := add_okR (reNew_ok hd hm) (s ++ more); have hs := h.at' more; have hinp : ((reNew hd most).add (s ++ more)).inp = s ++ more := rfl
  have hP : headP ((reNew hd most).add (s ++ more)) = { reNew hd most with inp := more } := by
    unfold headP; rw [hinp, hs]; show ({ (reNew hd most).add (s ++ more) with inp := (s ++ more).drop s.length } : ReS) = _; rw [List.drop_left]; rfl
  have hl := st_line (show 100 ≤ c by have := h.code; omega) h.code.2
  have hA : headA ((reNew hd most).add (s ++ more)) = ⟨(c : Nat), L, 0, false, closesM L 1⟩ := by
    unfold headA; rw [hinp, hs]; dsimp only; rw [hl]
  have hr : readR ((reNew hd most).add (s ++ more)) = ({ Q with ans := some a }, true) := by
    unfold readR; rw [if_pos (show ((reNew hd most).add (s ++ more)).st = 0 from rfl)]; unfold readHeadR; rw [hP, hA, hf, hinp, hs]; dsimp only; rw [hl]; dsimp only; have := h.code; rw [if_neg (by decide), if_neg (by simp; omega), if_neg (by omega), if_pos rfl]
  have e1 := reAll_read hok; rw [hr] at e1; refine ⟨e1, ?_⟩; rw [← e1]; exact ok_mono (reAll_ok hok) (by simp)
theorem all_length {X : ReS} {n : Nat} (hok : X.ok n) (h2 : X.st = 2) : reAll X = (if X.left ≤ X.inp.length then lenA X X.left else lenB X X.inp.length) := by
  have e1 : readR X = readLengthR X := by unfold readR; rw [if_neg (by omega), if_neg (by omega), if_pos h2]
  have hr := read_ok hok; rw [reAll_read hok, e1, lengthR_eq]; rw [e1, lengthR_eq] at hr; by_cases hl : X.left ≤ X.inp.length
  · rw [show min X.left X.inp.length = X.left by omega, if_pos (by omega), if_pos hl]; exact reAll5 (P := lenA X X.left) (Nat.le_refl 4)
  · rw [show min X.left X.inp.length = X.inp.length by omega, if_neg (by omega), if_neg hl]; have q1 : (lenB X X.inp.length).st = 2 := h2; have q2 : (lenB X X.inp.length).inp = [] := List.drop_length; have q3 : (lenB X X.inp.length).left = X.left - X.inp.length := rfl; refine reAll_stop (P := lenB X X.inp.length) ?_; have e2 : readR (lenB X X.inp.length) = readLengthR (lenB X X.inp.length) := by unfold readR; rw [if_neg (by omega), if_neg (by omega), if_pos q1]
    rw [e2, lengthR_eq, q2, q3]; show (if X.left - X.inp.length - min (X.left - X.inp.length) 0 = 0 then _ else (_, decide (0 < min (X.left - X.inp.length) 0))).2 = false; rw [if_neg (by omega)]; simp
theorem all_chunks {X : ReS} {n : Nat} (hok : X.ok n) (h1 : X.st = 1) {c : Ck} (hc : X.chk = some c) (hi : X.inp ≠ []) (he : (addC c X.inp).err = 0) : reAll X = (if (addC c X.inp).st = 4 then chB X c (addC c X.inp) else chC X c (addC c X.inp)) := by
  have e1 : readR X = readChunksR X := by unfold readR; rw [if_neg (by omega), if_pos h1]
  rw [reAll_read hok, e1, chunksR_eq hc hi, if_neg (by simp [he])]; by_cases h4 : (addC c X.inp).st = 4
  · rw [if_pos h4, if_pos h4]; exact reAll5 (P := chB X c (addC c X.inp)) (Nat.le_refl 4)
  · rw [if_neg h4, if_neg h4]; have q1 : (chC X c (addC c X.inp)).st = 1 := h1; refine reAll_stop (P := chC X c (addC c X.inp)) ?_; have e2 : readR (chC X c (addC c X.inp)) = readChunksR (chC X c (addC c X.inp)) := by unfold readR; rw [if_neg (by omega), if_pos q1]
    rw [e2]; unfold readChunksR; rw [show (chC X c (addC c X.inp)).chk = some (addC c X.inp) from rfl]; dsimp only; rw [if_pos (show (chC X c (addC c X.inp)).inp = [] from rfl)]
def lettersB : List UInt8 := [97, 98, 99, 100, 101, 102, 103, 104, 105, 106, 107, 108, 109, 110, 111, 112, 113, 114, 115, 116, 117, 118, 119, 120, 121, 122, 48, 49, 50, 51, 52, 53, 54, 55, 56, 57]
def sepsB : List UInt8 := [46, 95, 45]
def tagsB : List UInt8 := lettersB ++ [65, 66, 67, 68, 69, 70, 71, 72, 73, 74, 75, 76, 77, 78, 79, 80, 81, 82, 83, 84, 85, 86, 87, 88, 89, 90] ++ sepsB
def isSepM (l : List UInt8) : Bool := l == [46] || l == [95] || l == [95, 95] || (!l.isEmpty && (Lib.trimS l [45]).isEmpty)
def wordR (s : List UInt8) : List UInt8 := Lib.trimLeftS s lettersB
def sepR (s : List UInt8) : List UInt8 := Lib.trimLeftS s sepsB
def partM : Nat → List UInt8 → Bool
  | 0, _ => false
  | k + 1, s => if (wordR s).length = s.length then false else if wordR s = [] then true
    else if isSepM ((wordR s).take ((wordR s).length - (sepR (wordR s)).length)) then partM k (sepR (wordR s)) else false
def isPartM (s : List UInt8) : Bool := partM (s.length + 1) s
theorem wordR_le (s : List UInt8) : (wordR s).length ≤ s.length := (List.dropWhile_sublist _).length_le
theorem sepR_le (s : List UInt8) : (sepR s).length ≤ s.length := (List.dropWhile_sublist _).length_le
def slashF : Nat → List UInt8 → List (List UInt8)
  | 0, s => [s]
  | k + 1, s => if Lib.indexByte s 47 = -1 then [s] else s.take (Lib.indexByte s 47).toNat :: slashF k (s.drop ((Lib.indexByte s 47).toNat + 1))
def isRepoM (s : List UInt8) : Bool := decide (s.length ≤ 128) && (slashF s.length s).all isPartM
def isTagM (s : List UInt8) : Bool := !s.isEmpty && decide (s.length ≤ 128) && (s.headD 0 != 46) && (s.headD 0 != 45) && s.all tagsB.contains
end Go.Proofs.YtlhnjkekjbbhcaaGreatDoor
