/- Parts of the proof of ErrandGets, in order. No conditions but those that each theorem states. -/
import Derived.Test.YtlhnjkekjbbhcaaGreatDoorYErrandGets0
import Derived.Lib.LaidTab
import Derived.Lib.ItoaNum
import Derived.Lib.ItoaLen
import Derived.Sort.Grow
import Derived.Lib.SlBytesConst
import Derived.Deep.RegionHeld3
import Derived.Test.YtlhnjkekjbbhcaaGreatDoorYErrandGets7
set_option linter.unusedSimpArgs false
set_option linter.unusedVariables false
namespace Go.Proofs.YtlhnjkekjbbhcaaGreatDoor
open Go.RowKit Go.Shelf
theorem drop_atG {α : Type} {l : List α} {k : Nat} {c : α} (h : l[k]? = some c) : l.drop k = c :: l.drop (k + 1) := by
  obtain ⟨hl, hc⟩ := List.getElem?_eq_some_iff.1 h; rw [List.drop_eq_getElem_cons hl, hc]
theorem trimW_len (l : List UInt8) : (trimW l).length ≤ l.length := by
  unfold trimW Lib.trimS Lib.trimLeftS Lib.trimRightS; refine Nat.le_trans (List.dropWhile_sublist _).length_le ?_; rw [List.length_reverse]; refine Nat.le_trans (List.dropWhile_sublist _).length_le ?_; simp
theorem cutM_elem (b : UInt8) (m : Nat) : ∀ (l : List UInt8) (q : Bool) (p : List UInt8), p.length + l.length ≤ m → ∀ x ∈ cutM b l q p, x.length ≤ m
  | [], q, p, h, x, hx => by
    simp [cutM] at hx; subst hx; have := trimW_len p; simp at h; omega
  | [c], q, p, h, x, hx => by
    rw [cutM.eq_def] at hx; dsimp only at hx
    split at hx
    · exact cutM_elem b m [] _ _ (by simp at h ⊢; omega) x hx
    · split at hx
      · simp at hx; subst hx; have := trimW_len (p ++ [c]); simp at h this; omega
      · split at hx
        · rcases List.mem_cons.1 hx with rfl | hx
          · have := trimW_len p; simp at h; omega
          · exact cutM_elem b m [] _ _ (by simp at h ⊢) x hx
        · exact cutM_elem b m [] _ _ (by simp at h ⊢; omega) x hx
  | c :: d :: r, q, p, h, x, hx => by
    rw [cutM.eq_def] at hx; dsimp only at hx
    split at hx
    · exact cutM_elem b m (d :: r) _ _ (by simp at h ⊢; omega) x hx
    · split at hx
      · exact cutM_elem b m r _ _ (by simp at h ⊢; omega) x hx
      · split at hx
        · rcases List.mem_cons.1 hx with rfl | hx
          · have := trimW_len p; simp at h; omega
          · exact cutM_elem b m (d :: r) _ _ (by simp at h ⊢; omega) x hx
        · exact cutM_elem b m (d :: r) _ _ (by simp at h ⊢; omega) x hx
theorem cutW_elem {l : List UInt8} {b : UInt8} {x : List UInt8} (h : x ∈ cutW l b) : x.length ≤ l.length := cutM_elem b l.length l false [] (by simp) x h
def P10 (w : World) : Prop := Lib.TabIs Tryz.prog w "internal/strconv.uint64pow10" .u64 Lib.pow10Tab
theorem P10.keep {w w' : World} {S : List Nat} (h : P10 w) (k : Keep S w w') (hn : ∀ g, Tryz.prog.globalNamed "internal/strconv.uint64pow10" = some g → g ∉ S) : P10 w' := by
  unfold P10 Lib.TabIs World.var? at *
  cases hg : Tryz.prog.globalNamed "internal/strconv.uint64pow10" with
  | none => simp [hg] at h
  | some g =>
    (try rw [hg] at h); simp only [Option.bind_some] at h ⊢
    cases ho : w.heap[g]? with
    | none => rw [ho] at h; simp at h
    | some o =>
      rw [k.heap ho (hn g hg)]; rw [ho] at h; exact h
theorem P10.keep0 {w w' : World} (h : P10 w) (k : Keep [] w w') : P10 w' := h.keep k (by simp)
theorem laid_at {P : Program} {W : World} {name : String} {k : IntKind} {zs : List Int} {g : Nat} {t e : TypeId} {n : Nat}
    (hg : P.globalNamed name = some g) (hty : (P.globals[g]?).map (·.type) = some t) (ht : P.underlying t = some (.array n e)) (he : P.underlying e = some (.int k)) (hce : P.cellsOf e = 1) (hct : P.cellsOf t = n) :
    ∀ {laid : List (String × DataW Unit)} {ps : List MemPlace}, (name, Lib.tabData k zs) ∈ laid → DataW.LaidVars P W laid ps → Lib.TabIs P W name k zs
  | [], ps, hm, _ => by simp at hm
  | x :: r, ps, hm, h => by
    obtain ⟨g', t', cs, fuel, p, q, hg', ht', hvar, hd, hr, _⟩ := h; rcases List.mem_cons.1 hm with e | hm
    · subst e; obtain rfl := Option.some.inj (hg.symm.trans hg'); obtain rfl := Option.some.inj (hty.symm.trans ht'); unfold Lib.TabIs; rw [hvar, ← Lib.cells_of_tab ht he hce hct hd]
    · exact laid_at hg hty ht he hce hct hm hr
theorem P10.laid {W : World} {laid : List (String × DataW Unit)} (h : laidMet Tryz.prog laid W) (hm : ("internal/strconv.uint64pow10", Lib.tabData .u64 Lib.pow10Tab) ∈ laid := by first | (repeat (first | exact List.Mem.head _ | exact List.Mem.tail _ (List.Mem.head _) | exact List.Mem.tail _ (List.Mem.tail _ (List.Mem.head _)))) | simp) : P10 W := by
  obtain ⟨ps, h, _⟩ := h; exact laid_at (g := 4) (t := 247) (e := 188) (n := 20) (by kernel_rfl) rfl (by kernel_rfl) (by kernel_rfl) (by kernel_rfl) (by kernel_rfl) hm h
theorem keep_grow (w : World) (k : Nat) (os : Array Obj) : Keep [] w (Sort.grow (w.drewN k) os) :=
  ⟨rfl, rfl, rfl, by simp [Sort.grow, World.drewN], fun i hi _ => by
    show (w.heap ++ os)[i]? = w.heap[i]?
    rw [Array.getElem?_append_left hi]⟩
theorem hexa_Dec (n : Int) (w : World) (hn : in64 n) (hp : P10 w) :
    Calls Tryz.prog 126 #[.int .i64 n] w fun e w' => e = .returned (.string (S (Lib.itoa n))) ∧ Keep [] w w' := by
  have hI := Lib.hid (fun w' (k : Keep [] w w') => Tryz.strconv_Itoa n hn.1 hn.2 w' (hp.keep0 k)); go_enter Tryz.func126, Tryz.ntmps126; go_wp2_with fail; refine (hI.out _ (Keep.refl _ _)).mono ?_; rintro e w1 ⟨rfl, k, os, rfl⟩; have hk := keep_grow w k os; generalize Sort.grow (w.drewN k) os = w1 at hk; go_wp2_with fail; go_ret; exact ⟨rfl, hk⟩
theorem itoa_len (n : Int) (h : in64 n) : (Lib.itoa n).length ≤ 21 := Lib.itoa_length_le n h.1 h.2
def reasonM (s : Int) : List UInt8 :=
  if s = 200 then [79, 75] else
  if s = 206 then [80, 97, 114, 116, 105, 97, 108, 32, 67, 111, 110, 116, 101, 110, 116] else
  if s = 304 then [78, 111, 116, 32, 77, 111, 100, 105, 102, 105, 101, 100] else
  if s = 400 then [66, 97, 100, 32, 82, 101, 113, 117, 101, 115, 116] else
  if s = 404 then [78, 111, 116, 32, 70, 111, 117, 110, 100] else
  if s = 405 then [77, 101, 116, 104, 111, 100, 32, 78, 111, 116, 32, 65, 108, 108, 111, 119, 101, 100] else
  if s = 406 then [78, 111, 116, 32, 65, 99, 99, 101, 112, 116, 97, 98, 108, 101] else
  if s = 413 then [67, 111, 110, 116, 101, 110, 116, 32, 84, 111, 111, 32, 76, 97, 114, 103, 101] else
  if s = 416 then [82, 97, 110, 103, 101, 32, 78, 111, 116, 32, 83, 97, 116, 105, 115, 102, 105, 97, 98, 108, 101] else
  if s = 431 then [82, 101, 113, 117, 101, 115, 116, 32, 72, 101, 97, 100, 101, 114, 32, 70, 105, 101, 108, 100, 115, 32, 84, 111, 111, 32, 76, 97, 114, 103, 101] else
  if s = 502 then [66, 97, 100, 32, 71, 97, 116, 101, 119, 97, 121] else
  if s = 503 then [83, 101, 114, 118, 105, 99, 101, 32, 85, 110, 97, 118, 97, 105, 108, 97, 98, 108, 101] else
  if s = 504 then [71, 97, 116, 101, 119, 97, 121, 32, 84, 105, 109, 101, 111, 117, 116] else
  if s = 505 then [72, 84, 84, 80, 32, 86, 101, 114, 115, 105, 111, 110, 32, 78, 111, 116, 32, 83, 117, 112, 112, 111, 114, 116, 101, 100] else
  [85, 110, 107, 110, 111, 119, 110]
def protB : List UInt8 := [72, 84, 84, 80, 47, 49, 46, 49]
def laidOk (L : List Fld) : Bool := decide (L.length ≤ 32) && L.all goodF
def laidE (st : List UInt8) (L : List Fld) : Int := if laidOk L then (if (headT st L).length ≤ 4096 then 0 else 4) else 1
def laidS (st : List UInt8) (L : List Fld) : List UInt8 := if laidE st L = 0 then headT st L else []
def stOf (s : Int) : List UInt8 := protB ++ [32] ++ Lib.itoa s ++ [32] ++ reasonM s
def statOk (s : Int) : Bool := decide (100 ≤ s) && decide (s ≤ 599)
def ansE (s : Int) (L : List Fld) : Int := if statOk s then laidE (stOf s) L else 1
def ansS (s : Int) (L : List Fld) : List UInt8 := if statOk s then laidS (stOf s) L else []
def tgtB (b : UInt8) : Bool := decide (33 ≤ b.toNat) && decide (b.toNat ≤ 126)
def isTgt (l : List UInt8) : Bool := l.all tgtB && !l.isEmpty
def httpB : List UInt8 := [72, 84, 84, 80, 47]
def digB (b : UInt8) : Bool := decide (48 ≤ b.toNat) && decide (b.toNat ≤ 57)
def verOk (l : List UInt8) : Bool := decide (l.length = 8) && decide (l.take 5 = httpB) && digB (l.getD 5 0) && (l.getD 6 0 == 46) && digB (l.getD 7 0)
def minS (l : List UInt8) : Int := if verOk l then (if l.getD 5 0 = 49 ∧ (l.getD 7 0).toNat ≤ 49 then 200 else 505) else 400
def minV (l : List UInt8) : Int := if minS l = 200 then ((l.getD 7 0).toNat : Int) - 48 else 0
structure Ln where
  m : List UInt8
  t : List UInt8
  v : Int
  s : Int
def lnM (l : List UInt8) : Ln :=
  let c := Lib.cut l [32]
  let d := Lib.cut c.2.1 [32]
  if c.2.2 && d.2.2 && isTok c.1 && isTgt d.1 then (if minS d.2.1 = 200 then ⟨c.1, d.1, minV d.2.1, 200⟩ else ⟨[], [], 0, minS d.2.1⟩) else ⟨[], [], 0, 400⟩
def askT (m t : List UInt8) : List UInt8 := m ++ [32] ++ t ++ [32] ++ protB
def askOk (m t : List UInt8) : Bool := decide ((lnM (askT m t)).s = 200) && decide ((askT m t).length ≤ 1024)
def askE (m t : List UInt8) (L : List Fld) : Int := if askOk m t then laidE (askT m t) L else 1
def askS (m t : List UInt8) (L : List Fld) : List UInt8 := if askOk m t then laidS (askT m t) L else []
theorem len_ite {c : Prop} [Decidable c] {a b : List UInt8} {n : Nat} (ha : a.length ≤ n) (hb : b.length ≤ n) : (if c then a else b).length ≤ n := by split <;> assumption
theorem reason_len (s : Int) : (reasonM s).length ≤ 40 := by
  unfold reasonM
  repeat (refine len_ite (by decide) ?_)
  decide
theorem stOf_len (s : Int) (h : in64 s) : (stOf s).length ≤ 100 := by
  have h1 := reason_len s; have h2 := itoa_len s h; unfold stOf; simp [protB]; omega
set_option maxRecDepth 100000 in
set_option maxHeartbeats 4000000 in
theorem outlet_Reason (s : Int) (w : World) : Calls Tryz.prog 127 #[.int .i64 s] w fun e w' => e = .returned (.string (S (reasonM s))) ∧ w' = w := by
  by_cases h200 : s = 200
  · subst h200; go_enter Tryz.func127, Tryz.ntmps127; go_wp2_with fail; go_ret; exact ⟨rfl, rfl⟩
  by_cases h206 : s = 206
  · subst h206; go_enter Tryz.func127, Tryz.ntmps127; go_wp2_with fail; go_ret; exact ⟨rfl, rfl⟩
  by_cases h304 : s = 304
  · subst h304; go_enter Tryz.func127, Tryz.ntmps127; go_wp2_with fail; go_ret; exact ⟨rfl, rfl⟩
  by_cases h400 : s = 400
  · subst h400; go_enter Tryz.func127, Tryz.ntmps127; go_wp2_with fail; go_ret; exact ⟨rfl, rfl⟩
  by_cases h404 : s = 404
  · subst h404; go_enter Tryz.func127, Tryz.ntmps127; go_wp2_with fail; go_ret; exact ⟨rfl, rfl⟩
  by_cases h405 : s = 405
  · subst h405; go_enter Tryz.func127, Tryz.ntmps127; go_wp2_with fail; go_ret; exact ⟨rfl, rfl⟩
  by_cases h406 : s = 406
  · subst h406; go_enter Tryz.func127, Tryz.ntmps127; go_wp2_with fail; go_ret; exact ⟨rfl, rfl⟩
  by_cases h413 : s = 413
  · subst h413; go_enter Tryz.func127, Tryz.ntmps127; go_wp2_with fail; go_ret; exact ⟨rfl, rfl⟩
  by_cases h416 : s = 416
  · subst h416; go_enter Tryz.func127, Tryz.ntmps127; go_wp2_with fail; go_ret; exact ⟨rfl, rfl⟩
  by_cases h431 : s = 431
  · subst h431; go_enter Tryz.func127, Tryz.ntmps127; go_wp2_with fail; go_ret; exact ⟨rfl, rfl⟩
  by_cases h502 : s = 502
  · subst h502; go_enter Tryz.func127, Tryz.ntmps127; go_wp2_with fail; go_ret; exact ⟨rfl, rfl⟩
  by_cases h503 : s = 503
  · subst h503; go_enter Tryz.func127, Tryz.ntmps127; go_wp2_with fail; go_ret; exact ⟨rfl, rfl⟩
  by_cases h504 : s = 504
  · subst h504; go_enter Tryz.func127, Tryz.ntmps127; go_wp2_with fail; go_ret; exact ⟨rfl, rfl⟩
  by_cases h505 : s = 505
  · subst h505; go_enter Tryz.func127, Tryz.ntmps127; go_wp2_with fail; go_ret; exact ⟨rfl, rfl⟩
  have q200 : (s == 200) = false := (int_ne h200).1; have q206 : (s == 206) = false := (int_ne h206).1; have q304 : (s == 304) = false := (int_ne h304).1; have q400 : (s == 400) = false := (int_ne h400).1; have q404 : (s == 404) = false := (int_ne h404).1; have q405 : (s == 405) = false := (int_ne h405).1; have q406 : (s == 406) = false := (int_ne h406).1; have q413 : (s == 413) = false := (int_ne h413).1; have q416 : (s == 416) = false := (int_ne h416).1; have q431 : (s == 431) = false := (int_ne h431).1; have q502 : (s == 502) = false := (int_ne h502).1; have q503 : (s == 503) = false := (int_ne h503).1; have q504 : (s == 504) = false := (int_ne h504).1; have q505 : (s == 505) = false := (int_ne h505).1; have HR := Lib.hid (show reasonM s = [85, 110, 107, 110, 111, 119, 110] by unfold reasonM; simp only [h200, h206, h304, h400, h404, h405, h406, h413, h416, h431, h502, h503, h504, h505, if_false]); clear h200 h206 h304 h400 h404 h405 h406 h413 h416 h431 h502 h503 h504 h505; go_enter Tryz.func127, Tryz.ntmps127; go_wp2_with fail; go_ret; exact ⟨by rw [HR.out]; rfl, rfl⟩
set_option maxHeartbeats 1000000 in
theorem outlet_Bodyless (s : Int) (h : Bool) (w : World) :
    Calls Tryz.prog 154 #[.int .i64 s, .bool h] w fun e w' => e = .returned (.bool (h || (decide (100 ≤ s) && decide (s < 200)) || decide (s = 204) || decide (s = 304))) ∧ w' = w := by
  cases h with
  | true =>
    go_enter Tryz.func154, Tryz.ntmps154; go_wp2_with fail; go_ret; exact ⟨by simp, rfl⟩
  | false =>
    by_cases h1 : 100 ≤ s ∧ s < 200
    · obtain ⟨ha, hb⟩ := h1; have ha' : decide (s ≥ 100) = true := by simp; omega
      go_enter Tryz.func154, Tryz.ntmps154; go_wp2_with fail; go_ret; exact ⟨by simp [ha, hb], rfl⟩
    · have hx : (decide (100 ≤ s) && decide (s < 200)) = false := by simp; omega
      rw [hx]; by_cases ha : 100 ≤ s
      · have hb : decide (s < 200) = false := by simp; omega
        by_cases h4 : s = 204
        · have h4' := (int_eq h4).1; clear h1 hx; go_enter Tryz.func154, Tryz.ntmps154; go_wp2_with fail; go_ret; exact ⟨by simp [h4], rfl⟩
        · have h4' := (int_ne h4).1; clear h1 hx; go_enter Tryz.func154, Tryz.ntmps154; go_wp2_with fail
          all_goals (go_ret; refine ⟨?_, rfl⟩)
          all_goals (by_cases h5 : s = 304 <;> simp [h4, h5])
      · by_cases h4 : s = 204
        · omega
        · have h4' := (int_ne h4).1; clear h1 hx; go_enter Tryz.func154, Tryz.ntmps154; go_wp2_with fail
          all_goals (go_ret; refine ⟨?_, rfl⟩)
          all_goals (by_cases h5 : s = 304 <;> simp [h5])
set_option maxHeartbeats 400000 in
theorem inlet_isDigit (b : UInt8) (w : World) :
    Calls Tryz.prog 175 #[.int .u8 b.toNat] w fun e w' => e = .returned (.bool (digB b)) ∧ w = w' := by
  have hb := u8_nat b; by_cases h1 : 48 ≤ b.toNat
  · by_cases h2 : b.toNat ≤ 57
    · go_enter Tryz.func175, Tryz.ntmps175; go_wp2_with fail; go_ret; exact ⟨by simp [digB, h1, h2] <;> omega, rfl⟩
    · go_enter Tryz.func175, Tryz.ntmps175; go_wp2_with fail; go_ret; exact ⟨by simp [digB, h1, h2] <;> omega, rfl⟩
  · go_enter Tryz.func175, Tryz.ntmps175; go_wp2_with fail; go_ret; exact ⟨by simp [digB, h1], rfl⟩
set_option maxRecDepth 100000 in
set_option maxHeartbeats 1000000 in
theorem inlet_isTarget (l : List UInt8) (w : World) (hs : l.length ≤ maxLen) :
    Calls Tryz.prog 132 #[.string (S l)] w fun e w' => e = .returned (.bool (isTgt l)) ∧ Keep [] w w' := by
  have hs' : l.length ≤ 9223372036854775807 := hs; have hcv := conv_run w (S l); have hcell : Hid (∀ (k : Nat) (c : UInt8), l[k]? = some c → _) := fun k c h => conv_at w 5 h
  have hkp := conv_keep w 5 (S l); generalize Lib.bytesWorld w 5 (S l) = wb at hcv hcell hkp; have hsz := S_size l; have hte := S_toList l; clear hs; go_enter Tryz.func132, Tryz.ntmps132; go_wp2_with fail
  go_loop [8] (fun i => ∃ k : Nat, i = .int .i64 k ∧ k ≤ l.length ∧ Hid ((l.take k).all tgtB = true)) (fun i => l.length - (intOf i).toNat)
  case atStart => exact ⟨0, rfl, Nat.zero_le _, by simp [Hid]⟩
  case round =>
    obtain ⟨k, rfl, hk, hall⟩ := hrel; by_cases hlt : k < l.length
    · obtain ⟨c, hg⟩ : ∃ c, l[k]? = some c := ⟨_, List.getElem?_eq_getElem hlt⟩
      have hc := hcell.out k c hg; have hc8 := u8_nat c; have HG := Lib.hid hg; clear hg; by_cases ht : tgtB c = true
      · have h1 : 33 ≤ c.toNat ∧ c.toNat ≤ 126 := by simpa [tgtB] using ht
        have h2 : ¬ c.toNat ≤ 32 := by omega
        have h3 : ¬ 126 < c.toNat := by omega
        have HT := Lib.hid ht; clear ht h1; go_wp2_with fail
        go_round
        case rel => exact ⟨k + 1, by go_num, by omega, by rw [Hid, take_snoc HG.out, List.all_append, hall.out]; simp [HT.out]⟩
        case measure => simp [intOf]; omega
      · have this : isTgt l = false := by
          unfold isTgt; rw [show l.all tgtB = false from by rw [List.all_eq_false]; exact ⟨c, List.mem_of_getElem? HG.out, ht⟩]; rfl
        have H := Lib.hid this; by_cases h2 : c.toNat ≤ 32
        · clear this ht; go_wp2_with fail; go_ret; exact ⟨ret_bool H.out.symm, hkp⟩
        · have h3 : 126 < c.toNat := by
            simp [tgtB] at ht; omega
          clear this ht; go_wp2_with fail; go_ret; exact ⟨ret_bool H.out.symm, hkp⟩
    · have e : l.take k = l := List.take_of_length_le (by omega); rw [e] at hall; clear e; go_wp2_with fail; go_ret; refine ⟨ret_bool ?_, hkp⟩; unfold isTgt; rw [hall.out]; simp
theorem take5_prefix (l : List UInt8) : Lib.hasPrefix l httpB = decide (l.take 5 = httpB) := by
  rw [Bool.eq_iff_iff]; unfold Lib.hasPrefix; rw [List.isPrefixOf_iff_prefix, List.prefix_iff_eq_take]; constructor
  · intro h; exact decide_eq_true h.symm
  · intro h; exact (of_decide_eq_true h).symm
theorem ver_no {l : List UInt8} (h : Lib.hasPrefix l httpB = false ∨ l.length ≠ 8) : minS l = 400 ∧ minV l = 0 := by
  have hv : verOk l = false := by
    unfold verOk; rcases h with h | h
    · rw [take5_prefix] at h; rw [h]; simp
    · simp [h]
  have hs : minS l = 400 := by unfold minS; rw [hv]; rfl
  exact ⟨hs, by unfold minV; rw [hs]; rfl⟩
theorem ver_of (a p c : UInt8) : minS (httpB ++ [a, p, c]) = (if digB a && (p == 46) && digB c then (if a = 49 ∧ c.toNat ≤ 49 then 200 else 505) else 400) ∧ minV (httpB ++ [a, p, c]) = (if digB a && (p == 46) && digB c then (if a = 49 ∧ c.toNat ≤ 49 then (c.toNat : Int) - 48 else 0) else 0) := by
  have hv : verOk (httpB ++ [a, p, c]) = (digB a && (p == 46) && digB c) := by
    unfold verOk; simp [httpB]
  have hs : minS (httpB ++ [a, p, c]) = (if digB a && (p == 46) && digB c then (if a = 49 ∧ c.toNat ≤ 49 then 200 else 505) else 400) := by
    unfold minS; rw [hv]; rfl
  refine ⟨hs, ?_⟩; unfold minV; rw [hs]; by_cases h1 : (digB a && (p == 46) && digB c) = true
  · by_cases h2 : a = 49 ∧ c.toNat ≤ 49
    · rw [if_pos h1, if_pos h2, if_pos rfl, if_pos h1, if_pos h2]; rfl
    · rw [if_pos h1, if_neg h2, if_neg (by decide), if_pos h1, if_neg h2]
  · rw [if_neg h1, if_neg (by decide), if_neg h1]
set_option maxRecDepth 100000 in
set_option maxHeartbeats 2000000 in
theorem inlet_minor (l : List UInt8) (w : World) (hl : l.length ≤ maxLen) :
    Calls Tryz.prog 133 #[.string (S l)] w fun e w' => e = .returned (.tuple #[.int .i64 (minV l), .int .i64 (minS l)]) ∧ Keep [] w w' := by
  have hl' : l.length ≤ 9223372036854775807 := hl
  have hP : Calls Tryz.prog 74 #[.string (S l), .string ⟨#[72, 84, 84, 80, 47]⟩] w fun e w' => e = .returned (.tuple #[.string (S (Lib.trimPrefix l httpB)), .bool (Lib.hasPrefix l httpB)]) ∧ w' = w := by
    have := Tryz.strings_CutPrefix (S l) ⟨#[72, 84, 84, 80, 47]⟩ w; rw [S_list] at this; exact this
  have hsz := S_size l
  cases hpf : Lib.hasPrefix l httpB with
  | false =>
    obtain ⟨e1, e2⟩ := ver_no (.inl hpf); rw [e1, e2]; rw [hpf] at hP; have HP := Lib.hid hP; clear hP hpf e1 e2; go_enter Tryz.func133, Tryz.ntmps133; go_wp2_with fail; refine HP.out.mono ?_; rintro e w1 ⟨rfl, rfl⟩; go_wp2_with fail; go_ret2; exact ⟨rfl, Keep.refl _ _⟩
  | true =>
    rw [hpf] at hP; by_cases h8 : l.length = 8
    · have hle : l = httpB ++ l.drop 5 := by
        rw [take5_prefix] at hpf; have := of_decide_eq_true hpf; rw [← this, List.take_append_drop]
      have htr : Lib.trimPrefix l httpB = l.drop 5 := by unfold Lib.trimPrefix; rw [if_pos hpf]; rfl
      have hr3 : (l.drop 5).length = 3 := by rw [List.length_drop, h8]
      rw [htr] at hP; generalize l.drop 5 = r at *
      obtain ⟨a, p, c, rfl⟩ : ∃ a p c, r = [a, p, c] := by
        match r, hr3 with
        | [a, p, c], _ => exact ⟨a, p, c, rfl⟩
      have g0 := S_get (l := [a, p, c]) (k := 0) (c := a) rfl; have g1 := S_get (l := [a, p, c]) (k := 1) (c := p) rfl; have g2 := S_get (l := [a, p, c]) (k := 2) (c := c) rfl; have hs3 : (S [a, p, c]).size = 3 := S_size _; obtain ⟨hms, hmv⟩ := ver_of a p c; rw [← hle] at hms hmv; generalize minS l = ms at hms ⊢; generalize minV l = mv at hmv ⊢; have h8' : ((l.length : Nat) : Int) = 8 := by omega
      have h8q := (int_eq h8').2; have HP := Lib.hid hP; have Da := Lib.hid (fun w1 => inlet_isDigit a w1); have Dc := Lib.hid (fun w1 => inlet_isDigit c w1); have ca := u8_nat a; have cp := u8_nat p; have cc := u8_nat c; generalize S [a, p, c] = sr at *; clear hP hpf hle htr hr3 h8 h8'
      cases hda : digB a with
      | false =>
        rw [hda] at Da hms hmv; have HX := Lib.hid (show mv = 0 ∧ ms = 400 from ⟨by simpa using hmv, by simpa using hms⟩); clear hms hmv hda; go_enter Tryz.func133, Tryz.ntmps133; go_wp2_with fail; refine HP.out.mono ?_; rintro e w1 ⟨rfl, rfl⟩; go_wp2_with (first | (go_at_call 175; refine (Da.out _).mono ?_; rintro e w2 ⟨rfl, rfl⟩) | (go_at_call 175; refine (Dc.out _).mono ?_; rintro e w2 ⟨rfl, rfl⟩)); go_ret2; exact ⟨by rw [HX.out.1, HX.out.2]; rfl, Keep.refl _ _⟩
      | true =>
        by_cases hp : p = 46
        · have hpb : (p == 46) = true := by simp [hp]
          have hpn : ((p.toNat : Nat) : Int) = 46 := by rw [hp]; rfl
          have hpq := (int_eq hpn).2; rw [hda, hpb] at hms hmv; rw [hda] at Da; clear hpn hp hpb
          cases hdc : digB c with
          | false =>
            rw [hdc] at Dc hms hmv; have HX := Lib.hid (show mv = 0 ∧ ms = 400 from ⟨by simpa using hmv, by simpa using hms⟩); clear hms hmv hda hdc; go_enter Tryz.func133, Tryz.ntmps133; go_wp2_with fail; refine HP.out.mono ?_; rintro e w1 ⟨rfl, rfl⟩; go_wp2_with (first | (go_at_call 175; refine (Da.out _).mono ?_; rintro e w2 ⟨rfl, rfl⟩) | (go_at_call 175; refine (Dc.out _).mono ?_; rintro e w2 ⟨rfl, rfl⟩)); go_ret2; exact ⟨by rw [HX.out.1, HX.out.2]; rfl, Keep.refl _ _⟩
          | true =>
            rw [hdc] at Dc hms hmv; simp only [Bool.and_self, if_true] at hms hmv; have hc9 : 48 ≤ c.toNat ∧ c.toNat ≤ 57 := by simpa [digB] using hdc
            obtain ⟨hc0, hc1⟩ := hc9; by_cases ha : a = 49
            · have han : ((a.toNat : Nat) : Int) = 49 := by rw [ha]; rfl
              have haq := (int_eq han).2; by_cases hc : c.toNat ≤ 49
              · rw [if_pos ⟨ha, hc⟩] at hms hmv; have hcq : decide (((c.toNat : Nat) : Int) > 49) = false := by simp; omega
                have hwr := IntWalk.u8_in ((c.toNat : Int) - 48) (by omega); have hwi := IntWalk.i64_in ((c.toNat : Int) - 48) (by omega); have HX := Lib.hid (And.intro hmv hms); clear hms hmv hda hdc ha han; go_enter Tryz.func133, Tryz.ntmps133; go_wp2_with fail; refine HP.out.mono ?_; rintro e w1 ⟨rfl, rfl⟩; go_wp2_with (first | (go_at_call 175; refine (Da.out _).mono ?_; rintro e w2 ⟨rfl, rfl⟩) | (go_at_call 175; refine (Dc.out _).mono ?_; rintro e w2 ⟨rfl, rfl⟩)); go_ret2; exact ⟨by rw [HX.out.1, HX.out.2]; rfl, Keep.refl _ _⟩
              · rw [if_neg (fun h => hc h.2)] at hms hmv; have hcq : decide (((c.toNat : Nat) : Int) > 49) = true := by simp; omega
                have HX := Lib.hid (And.intro hmv hms); clear hms hmv hda hdc ha han; go_enter Tryz.func133, Tryz.ntmps133; go_wp2_with fail; refine HP.out.mono ?_; rintro e w1 ⟨rfl, rfl⟩; go_wp2_with (first | (go_at_call 175; refine (Da.out _).mono ?_; rintro e w2 ⟨rfl, rfl⟩) | (go_at_call 175; refine (Dc.out _).mono ?_; rintro e w2 ⟨rfl, rfl⟩)); go_ret2; exact ⟨by rw [HX.out.1, HX.out.2]; rfl, Keep.refl _ _⟩
            · rw [if_neg (fun h => ha h.1)] at hms hmv; have han : ((a.toNat : Nat) : Int) ≠ 49 := fun e => ha (UInt8.toNat_inj.1 (by show a.toNat = 49; omega))
              have haq := (int_ne han).2; have HX := Lib.hid (And.intro hmv hms); clear hms hmv hda hdc ha han; go_enter Tryz.func133, Tryz.ntmps133; go_wp2_with fail; refine HP.out.mono ?_; rintro e w1 ⟨rfl, rfl⟩; go_wp2_with (first | (go_at_call 175; refine (Da.out _).mono ?_; rintro e w2 ⟨rfl, rfl⟩) | (go_at_call 175; refine (Dc.out _).mono ?_; rintro e w2 ⟨rfl, rfl⟩)); go_ret2; exact ⟨by rw [HX.out.1, HX.out.2]; rfl, Keep.refl _ _⟩
        · have hpb : (p == 46) = false := by simp [hp]
          have hpn : ((p.toNat : Nat) : Int) ≠ 46 := fun e => hp (UInt8.toNat_inj.1 (by show p.toNat = 46; omega))
          have hpq := (int_ne hpn).2; rw [hda, hpb] at hms hmv; rw [hda] at Da; have HX := Lib.hid (show mv = 0 ∧ ms = 400 from ⟨by simpa using hmv, by simpa using hms⟩); clear hms hmv hda hpn hp hpb; go_enter Tryz.func133, Tryz.ntmps133; go_wp2_with fail; refine HP.out.mono ?_; rintro e w1 ⟨rfl, rfl⟩; go_wp2_with (first | (go_at_call 175; refine (Da.out _).mono ?_; rintro e w2 ⟨rfl, rfl⟩) | (go_at_call 175; refine (Dc.out _).mono ?_; rintro e w2 ⟨rfl, rfl⟩)); go_ret2; exact ⟨by rw [HX.out.1, HX.out.2]; rfl, Keep.refl _ _⟩
    · obtain ⟨e1, e2⟩ := ver_no (.inr h8); rw [e1, e2]; have h8' : ((l.length : Nat) : Int) ≠ 8 := by omega
      have h8q := (int_ne h8').2; have HP := Lib.hid hP; clear hP hpf e1 e2 h8 h8'; go_enter Tryz.func133, Tryz.ntmps133; go_wp2_with fail; refine HP.out.mono ?_; rintro e w1 ⟨rfl, rfl⟩; go_wp2_with fail; go_ret2; exact ⟨rfl, Keep.refl _ _⟩
end Go.Proofs.YtlhnjkekjbbhcaaGreatDoor
