/- Parts of the proof of ErrandWaits, in order. No conditions but those that each theorem states. -/
import Derived.Test.YtlhnjkekjbbhcaaGreatDoorYErrandWaits0
import Derived.Lib.SlBytesConst
import Derived.Lib.LaidTab
import Derived.Lib.ItoaNum
import Derived.Lib.ItoaLen
import Derived.Sort.Grow
import Derived.DeepKeys4
import Derived.Test.YtlhnjkekjbbhcaaGreatDoorYErrandWaits35
namespace Go.Proofs.YtlhnjkekjbbhcaaGreatDoor
open Go.RowKit Go.Shelf
theorem Sl.keep0 {α : Type} {enc : α → List Value} {n : Nat} {w w' : World} {v : Value} {L : List α} (h : Sl enc n w v L) (hn : ∀ x, (enc x).length = n) (h0 : 0 < n) (k : Keep [] w w') : Sl enc n w' v L := h.keep hn h0 h k (by simp) (Nat.le_refl _)
theorem ask_no {m t : List UInt8} {L : List Fld} (h : askOk m t = false) : askE m t L = 1 ∧ askS m t L = [] := by unfold askE askS; rw [h]; exact ⟨rfl, rfl⟩
theorem ask_yes {m t : List UInt8} {L : List Fld} (h : askOk m t = true) : askE m t L = laidE (askT m t) L ∧ askS m t L = laidS (askT m t) L := by unfold askE askS; rw [h]; exact ⟨rfl, rfl⟩
set_option maxRecDepth 100000 in
set_option maxHeartbeats 1000000 in
theorem outlet_Ask (m t : List UInt8) (va : Value) (L : List Fld) (w : World) (hm : ML w) (hl : m.length + t.length ≤ 1048000) (ha : Sl Fld.cells 2 w va L) (hg : L.length ≤ 32 → ∀ x ∈ L, x.name.length + x.value.length ≤ 1048576) :
    Calls Tryz.prog 47 #[.string (S m), .string (S t), va] w fun e w' => e = .returned (fin (askS m t L) (askE m t L)) ∧ Keep [] w w' := by
  have hst : askT m t = m ++ [32] ++ t ++ [32] ++ protB := rfl; have hok : askOk m t = (decide ((lnM (askT m t)).s = 200) && decide ((askT m t).length ≤ 1024)) := rfl; have hno := ask_no (m := m) (t := t) (L := L); have hyes := ask_yes (m := m) (t := t) (L := L); have hlen : (askT m t).length = m.length + t.length + 10 := by rw [hst]; simp [protB]; omega
  have HLi := Lib.hid (inlet_Line (askT m t) w hm (by omega)); have HL := Lib.hid (fun w' (k : Keep [] w w') => outlet_laid (askT m t) va L w' (ha.keep0 Fld.cells_length (by omega) k) hg (by omega)); generalize askE m t L = ae at *; generalize askS m t L = av at *; generalize askOk m t = ok at *; generalize askT m t = st at *; have q1 : S m ++ (⟨#[32]⟩ : ByteArray) = S (m ++ [32]) := S_append _ [32]; have q2 : S (m ++ [32]) ++ S t = S (m ++ [32] ++ t) := S_append _ _; have q3 : S (m ++ [32] ++ t) ++ (⟨#[32]⟩ : ByteArray) = S (m ++ [32] ++ t ++ [32]) := S_append _ [32]; have q4 : S (m ++ [32] ++ t ++ [32]) ++ (⟨#[72, 84, 84, 80, 47, 49, 46, 49]⟩ : ByteArray) = S st := by rw [hst]; exact S_append _ protB
  have t1 : (m ++ [32]).length = m.length + 1 := by simp
  have t2 : (m ++ [32] ++ t).length = m.length + t.length + 1 := by simp; omega
  have t3 : (m ++ [32] ++ t ++ [32]).length = m.length + t.length + 2 := by simp; omega
  generalize m ++ [32] ++ t ++ [32] = x3 at *; generalize m ++ [32] ++ t = x2 at *; generalize m ++ [32] = x1 at *; have s0 := S_size m; have s1 := S_size t; have s2 := S_size x1; have s3 := S_size x2; have s4 := S_size x3; have s5 := S_size st; generalize lnM st = R at *; obtain ⟨rm, rt, rv, rs⟩ := R; dsimp only at hok; unfold Ln.out at HLi; dsimp only at HLi; clear ha hg hst; by_cases h2 : rs = 200
  · have h2' := (int_eq h2).2; by_cases h3 : st.length ≤ 1024
    · have h3' : decide (((st.length : Nat) : Int) > 1024) = false := by simp; omega
      have HX := Lib.hid (hyes (by rw [hok]; simp [h2, h3])); clear hok hno hyes h2 h3 hlen; go_enter Tryz.func47, Tryz.ntmps47; go_wp2_with fail; refine HLi.out.mono ?_; rintro e w1 ⟨rfl, k1⟩; go_wp2_with fail; refine (HL.out _ k1).mono ?_; rintro e w3 ⟨rfl, k3⟩; unfold fin; go_wp2_with fail; go_ret2; exact ⟨by rw [HX.out.1, HX.out.2]; rfl, k1.trans k3⟩
    · have h3' : decide (((st.length : Nat) : Int) > 1024) = true := by simp; omega
      have HX := Lib.hid (hno (by rw [hok]; simp [h3])); clear hok hno hyes h2 h3 hlen; go_enter Tryz.func47, Tryz.ntmps47; go_wp2_with fail; refine HLi.out.mono ?_; rintro e w1 ⟨rfl, k1⟩; go_wp2_with fail; go_ret2; exact ⟨by rw [HX.out.1, HX.out.2]; rfl, k1⟩
  · have h2' := (int_ne h2).2; have HX := Lib.hid (hno (by rw [hok]; simp [h2])); clear hok hno hyes h2 hlen; go_enter Tryz.func47, Tryz.ntmps47; go_wp2_with fail; refine HLi.out.mono ?_; rintro e w1 ⟨rfl, k1⟩; go_wp2_with fail; go_ret2; exact ⟨by rw [HX.out.1, HX.out.2]; rfl, k1⟩
end Go.Proofs.YtlhnjkekjbbhcaaGreatDoor
