/- Parts of the proof of ErrandAsks, in order. No conditions but those that each theorem states. -/
import Derived.Test.YtlhnjkekjbbhcaaGreatDoorYErrandAsks0
import Derived.Lib.SlBytesConst
import Derived.Lib.LaidTab
import Derived.Lib.ItoaNum
import Derived.Lib.ItoaLen
import Derived.Sort.Grow
import Derived.Test.YtlhnjkekjbbhcaaGreatDoorYErrandAsks31
set_option linter.unusedSimpArgs false
set_option linter.unusedVariables false
namespace Go.Proofs.YtlhnjkekjbbhcaaGreatDoor
open Go.RowKit Go.Shelf
structure AnIn (w : World) (va : Value) (F : List Fld) : Prop where
  sl : Sl Fld.cells 2 w va F
  nm : ∀ x ∈ F, x.name.length ≤ 1048576
  vl : ∀ x ∈ F, x.value.length ≤ 1048576
theorem AnIn.keep {w w' : World} {va : Value} {F : List Fld} (h : AnIn w va F) (k : Keep [] w w') : AnIn w' va F := ⟨h.sl.keep Fld.cells_length (by omega) h.sl k (by simp) (Nat.le_refl _), h.nm, h.vl⟩
theorem getV_le {F : List Fld} {n : List UInt8} (h : ∀ x ∈ F, x.value.length ≤ 1048576) : (getV F n).length ≤ 1048576 := by
  unfold getV
  cases hs : getS F n with
  | nil => simp
  | cons f r =>
    have : f ∈ getS F n := by rw [hs]; simp
    exact h f (List.mem_filter.1 this).1
theorem AnIn.get {w : World} {va : Value} {F : List Fld} (h : AnIn w va F) {n : List UInt8} (hn : n.length ≤ 100) : Calls Tryz.prog 37 #[va, .string (S n)] w (GetOut w F n) :=
  field_Get va F n w h.sl (fun x hx => show _ ≤ 9223372036854775807 by have := h.nm x hx; omega) (show _ ≤ 9223372036854775807 by omega)
theorem an_size (st : Int) (va : Value) (len : Int) (ch cl : Bool) : (Tryz.prog.info? 30).map (·.size) = some (ansC st va len ch cl).length := ans_size
theorem typM_no {F : List Fld} (h : isTypeM (getV F ctB) = false) : typM F = [] := by unfold typM; rw [h]; rfl
theorem typM_yes {F : List Fld} (h : isTypeM (getV F ctB) = true) : typM F = getV F ctB := by unfold typM; rw [h]; rfl
theorem isType_is {l : List UInt8} {v : Bool} (h : isTypeM l = v) (w : World) (hm : ML w) (hl : l.length ≤ 1048576) : Calls Tryz.prog 128 #[.string (S l)] w fun e w' => e = .returned (.bool v) ∧ Keep [] w w' := by
  subst h; exact taste_IsType l w hm hl
set_option maxRecDepth 100000 in
set_option maxHeartbeats 2000000 in
theorem errand_kind (st : Int) (va : Value) (F : List Fld) (len : Int) (ch cl : Bool) (w : World) (hm : ML w) (ha : AnIn w va F) :
    Calls Tryz.prog 81 #[.agg (ansC st va len ch cl).toArray] w fun e w' => e = .returned (.string (S (typM F))) ∧ Keep [] w w' := by
  have M0 := Lib.hid (Mem.nil w); have HG := Lib.hid (fun w' (k : Keep [] w w') => show Calls Tryz.prog 37 #[va, .string ⟨#[67, 111, 110, 116, 101, 110, 116, 45, 84, 121, 112, 101]⟩] w' (GetOut w' F ctB) from (ha.keep k).get (n := ctB) (by decide)); have hvl := getV_le (n := ctB) ha.vl; cases hb : isTypeM (getV F ctB)
  all_goals
    have HR := Lib.hid (show typM F = _ from by first | exact typM_no hb | exact typM_yes hb); have HT := Lib.hid (fun w' (k : Keep [] w w') => isType_is hb w' (hm.keep k (by simp)) hvl); clear hb hvl ha hm; go_enter Tryz.func81, Tryz.ntmps81
    go_wp2_with (first | ((with_reducible refine gX 1 ?_); refine wpList_boxM rfl 30 (.tmp 0) rfl (ansC st va len ch cl) (by rfl) M0 ?_; intro b w1 M1 _ _; have c1 := M1.out.get 0 rfl 1 rfl; try simp only [Act.put, sqA, sqB, sqC]) | fail); refine (HG.out _ M1.out.kp).mono ?_; unfold GetOut; rintro e w2 ⟨rfl, k2⟩; have M2 := Lib.hid (M1.out.keep0 k2); clear k2; go_wp2_with fail; refine (HT.out _ M2.out.kp).mono ?_; rintro e w3 ⟨rfl, k3⟩; have M3 := Lib.hid (M2.out.keep0 k3); clear k3; go_wp2_with fail; go_ret; exact ⟨by rw [HR.out]; first | rfl | simp [S], M3.out.kp⟩
set_option maxRecDepth 100000 in
set_option maxHeartbeats 2000000 in
theorem errand_size (st : Int) (va : Value) (len : Int) (ch cl : Bool) (w : World) :
    Calls Tryz.prog 91 #[.agg (ansC st va len ch cl).toArray] w fun e w' => e = .returned (.int .i64 (sizM len)) ∧ Keep [] w w' := by
  have M0 := Lib.hid (Mem.nil w); have hE : sizM len = if len < 0 ∨ 1048576 < len then 0 else len := rfl
  by_cases h1 : len < 0
  · rw [if_pos (.inl h1)] at hE; have HE := Lib.hid hE; clear hE; go_enter Tryz.func91, Tryz.ntmps91
    go_wp2_with (first | ((with_reducible refine gX 1 ?_); refine wpList_boxM rfl 30 (.tmp 0) rfl (ansC st va len ch cl) (by rfl) M0 ?_; intro b w1 M1 _ _; have c1 := M1.out.get 0 rfl 2 rfl; try simp only [Act.put, sqA, sqB, sqC]) | fail); go_ret; exact ⟨by rw [HE.out]; rfl, M1.out.kp⟩
  · by_cases h2 : 1048576 < len
    · rw [if_pos (.inr h2)] at hE; have HE := Lib.hid hE; clear hE; go_enter Tryz.func91, Tryz.ntmps91
      go_wp2_with (first | ((with_reducible refine gX 1 ?_); refine wpList_boxM rfl 30 (.tmp 0) rfl (ansC st va len ch cl) (by rfl) M0 ?_; intro b w1 M1 _ _; have c1 := M1.out.get 0 rfl 2 rfl; try simp only [Act.put, sqA, sqB, sqC]) | fail); go_ret; exact ⟨by rw [HE.out]; rfl, M1.out.kp⟩
    · rw [if_neg (by omega)] at hE; have HE := Lib.hid hE; clear hE; go_enter Tryz.func91, Tryz.ntmps91
      go_wp2_with (first | ((with_reducible refine gX 1 ?_); refine wpList_boxM rfl 30 (.tmp 0) rfl (ansC st va len ch cl) (by rfl) M0 ?_; intro b w1 M1 _ _; have c1 := M1.out.get 0 rfl 2 rfl; try simp only [Act.put, sqA, sqB, sqC]) | fail); go_ret; exact ⟨by rw [HE.out]; rfl, M1.out.kp⟩
theorem dg_end {w0 w : World} {L : List (Nat × TypeId × List Value)} {b : Nat} {d : Dig} (h : Mem w0 w L) (i : Nat) (hi : L[i]? = some (b, 23, digC d)) : (loadVar 23 ⟨b, 0, none⟩).run Tryz.prog w = .ok (.agg (digC d).toArray) w := dig_load (h.blk i hi).range'
theorem stampP_is {l : List UInt8} {o : Option Dig} (h : behindO l = o) (w : World) (hl : l.length ≤ 1048576) : Calls Tryz.prog 124 #[.string (S l)] w fun e w' => e = .returned (.tuple #[.agg (digC (o.getD zeroD)).toArray, .int .i64 (if o.isSome then 0 else 3)]) ∧ Keep [] w w' := by
  subst h; exact stamp_Parse l w hl
def shownO (a : List Fld) (o : Option Dig) : Ending := .returned (.tuple #[.agg (digC (o.getD zeroD)).toArray, .int .i64 (getN a dcdB : Nat), .bool o.isSome])
set_option maxRecDepth 100000 in
set_option maxHeartbeats 2000000 in
theorem errand_shown (st : Int) (va : Value) (F : List Fld) (len : Int) (ch cl : Bool) (w : World) (ha : AnIn w va F) :
    Calls Tryz.prog 90 #[.agg (ansC st va len ch cl).toArray] w fun e w' => e = shownO F (behindO (getV F dcdB)) ∧ Keep [] w w' := by
  have M0 := Lib.hid (Mem.nil w); have HG := Lib.hid (fun w' (k : Keep [] w w') => show Calls Tryz.prog 37 #[va, .string ⟨#[68, 111, 99, 107, 101, 114, 45, 67, 111, 110, 116, 101, 110, 116, 45, 68, 105, 103, 101, 115, 116]⟩] w' (GetOut w' F dcdB) from (ha.keep k).get (n := dcdB) (by decide)); have hvl := getV_le (n := dcdB) ha.vl; clear ha; have hP := fun w' => stampP_is (l := getV F dcdB) rfl w' hvl
  obtain ⟨d, hd⟩ : ∃ d, (behindO (getV F dcdB)).getD zeroD = d := ⟨_, rfl⟩
  obtain ⟨v, hv⟩ : ∃ v, (behindO (getV F dcdB)).isSome = v := ⟨_, rfl⟩
  have HR := Lib.hid (show shownO F (behindO (getV F dcdB)) = .returned (.tuple #[.agg (digC d).toArray, .int .i64 (getN F dcdB : Nat), .bool v]) by unfold shownO; rw [hd, hv]); rw [hd, hv] at hP; have HP := Lib.hid hP; clear hP hd hv hvl; cases v
  case false =>
    go_enter Tryz.func90, Tryz.ntmps90; go_wp2_with (first | ((with_reducible refine gX 1 ?_); refine wpList_boxM rfl 30 (.tmp 0) rfl (ansC st va len ch cl) (by rfl) M0 ?_; intro b w1 M1 _ _; try simp only [Act.put, sqA, sqB, sqC]) | ((with_reducible refine gA 2 ?_); refine wpList_allocM rfl 23 rfl (digC zeroD) (Lib.hid dig_zero) M1 ?_; intro b2 w2 M2 _ _; have c1 := M2.out.get 1 rfl 1 rfl; try simp only [Act.put, sqA, sqB, sqC]) | fail); refine (HG.out _ M2.out.kp).mono ?_; unfold GetOut; rintro e w3 ⟨rfl, k3⟩; have M3 := Lib.hid (M2.out.keep0 k3); clear k3; go_wp2_with fail; refine (HP.out _).mono ?_; rintro e w4 ⟨rfl, k4⟩; have M4 := Lib.hid (M3.out.keep0 k4); clear k4
    go_wp2_with (first | ((with_reducible refine gA 7 ?_); refine wpList_allocM rfl 23 rfl (digC zeroD) (Lib.hid dig_zero) M4 ?_; intro b7 w5 M5 _ _; try simp only [Act.put, sqA, sqB, sqC]) | ((with_reducible refine gS 7 18 ?_); refine wpList_storeM rfl 23 (.tmp 7) (.tmp 18) rfl M5 0 rfl (by rfl) (digC d) (by rfl) (dig_size _) (by rw [digC_length, digC_length]) (dig_one _) ?_; intro w6 M6 _; try simp only [Act.put]) | ((with_reducible refine gL 20 7 ?_); refine wpList_loadM (by rfl) 23 (.tmp 7) rfl M6 0 rfl (by rfl) _ Tryz.underlying23 rfl (dig_size _) ?_; try simp only [Act.put, sqA, sqB, sqC]) | ((with_reducible refine gS 2 20 ?_); refine wpList_storeM rfl 23 (.tmp 2) (.tmp 20) rfl M6 1 rfl (by rfl) (digC d) (by rfl) (dig_size _) (by rw [digC_length, digC_length]) (dig_one _) ?_; intro w7 M7 _; try simp only [Act.put]) | fail); have hload := dg_end M7.out 1 rfl; rw [HR.out]; refine bodyPost_ret (v := .tuple #[.agg (digC d).toArray, .int .i64 (getN F dcdB : Nat), .bool false]) (by simp [results, Tryz.results90, asAddr, Result.andThen, hload]) rfl ⟨rfl, M7.out.kp⟩
  case true =>
    go_enter Tryz.func90, Tryz.ntmps90; go_wp2_with (first | ((with_reducible refine gX 1 ?_); refine wpList_boxM rfl 30 (.tmp 0) rfl (ansC st va len ch cl) (by rfl) M0 ?_; intro b w1 M1 _ _; try simp only [Act.put, sqA, sqB, sqC]) | ((with_reducible refine gA 2 ?_); refine wpList_allocM rfl 23 rfl (digC zeroD) (Lib.hid dig_zero) M1 ?_; intro b2 w2 M2 _ _; have c1 := M2.out.get 1 rfl 1 rfl; try simp only [Act.put, sqA, sqB, sqC]) | fail); refine (HG.out _ M2.out.kp).mono ?_; unfold GetOut; rintro e w3 ⟨rfl, k3⟩; have M3 := Lib.hid (M2.out.keep0 k3); clear k3; go_wp2_with fail; refine (HP.out _).mono ?_; rintro e w4 ⟨rfl, k4⟩; have M4 := Lib.hid (M3.out.keep0 k4); clear k4
    go_wp2_with (first | ((with_reducible refine gA 7 ?_); refine wpList_allocM rfl 23 rfl (digC zeroD) (Lib.hid dig_zero) M4 ?_; intro b7 w5 M5 _ _; try simp only [Act.put, sqA, sqB, sqC]) | ((with_reducible refine gS 7 18 ?_); refine wpList_storeM rfl 23 (.tmp 7) (.tmp 18) rfl M5 0 rfl (by rfl) (digC d) (by rfl) (dig_size _) (by rw [digC_length, digC_length]) (dig_one _) ?_; intro w6 M6 _; try simp only [Act.put]) | ((with_reducible refine gL 20 7 ?_); refine wpList_loadM (by rfl) 23 (.tmp 7) rfl M6 0 rfl (by rfl) _ Tryz.underlying23 rfl (dig_size _) ?_; try simp only [Act.put, sqA, sqB, sqC]) | ((with_reducible refine gS 2 20 ?_); refine wpList_storeM rfl 23 (.tmp 2) (.tmp 20) rfl M6 1 rfl (by rfl) (digC d) (by rfl) (dig_size _) (by rw [digC_length, digC_length]) (dig_one _) ?_; intro w7 M7 _; try simp only [Act.put]) | fail); have hload := dg_end M7.out 1 rfl; rw [HR.out]; refine bodyPost_ret (v := .tuple #[.agg (digC d).toArray, .int .i64 (getN F dcdB : Nat), .bool true]) (by simp [results, Tryz.results90, asAddr, Result.andThen, hload]) rfl ⟨rfl, M7.out.kp⟩
end Go.Proofs.YtlhnjkekjbbhcaaGreatDoor
