/- Parts of the proof of ErrandTries, in order. No conditions but those that each theorem states. -/
import Derived.Test.YtlhnjkekjbbhcaaGreatDoorYErrandTries0
import Derived.Lib.SlBytesConst
import Derived.Lib.LaidTab
import Derived.Lib.ItoaNum
import Derived.Lib.ItoaLen
import Derived.Sort.Grow
import Derived.DeepKeys4
import Derived.Deep.MidRow
import Derived.Test.YtlhnjkekjbbhcaaGreatDoorYErrandTries39
set_option linter.unusedSimpArgs false
set_option linter.unusedVariables false
namespace Go.Proofs.YtlhnjkekjbbhcaaGreatDoor
open Go.RowKit Go.Shelf
def nilS : Value := .slice Option.none 0 0
theorem bd_errand (k : Ky) (c : Cf) (t : Tk) : Tryz.prog.built 106 [(1, .agg k.cells.toArray), (2, .agg c.cells.toArray), (3, .agg t.cells.toArray), (4, .int .i64 1)] = some ((erNew k c t).cells (.pointer Option.none) nilS).toArray := by
  obtain ⟨kd, repo, tag, ⟨l, hl⟩, bl⟩ := k; obtain ⟨trepo, ttag, tf, ⟨tl, htl⟩, tt, ts, ta⟩ := t; obtain ⟨b0, b1, b2, b3, b4, b5, b6, b7, b8, b9, b10, b11, b12, b13, b14, b15, b16, b17, b18, b19, b20, b21, b22, b23, b24, b25, b26, b27, b28, b29, b30, b31, rfl⟩ := list32 l hl; obtain ⟨d0, d1, d2, d3, d4, d5, d6, d7, d8, d9, d10, d11, d12, d13, d14, d15, d16, d17, d18, d19, d20, d21, d22, d23, d24, d25, d26, d27, d28, d29, d30, d31, rfl⟩ := list32 tl htl; kernel_rfl
def tryC (p : Nat) (now : Int) : List Value := [.pointer (some ⟨p, 0, Option.none⟩), .int .i64 now, .int .i64 now, .int .i64 0, nilS, .int .i64 0, .bool false, .bool false, .bool false, .string (S []), .int .i64 0, .int .i64 0, .bool false]
theorem bd_try (p : Nat) (now : Int) : Tryz.prog.built 104 [(0, .pointer (some ⟨p, 0, Option.none⟩)), (1, .int .i64 now), (2, .int .i64 now)] = some (tryC p now).toArray := by kernel_rfl
theorem try_size (p : Nat) (now : Int) : (Tryz.prog.info? 104).map (·.size) = some (tryC p now).length := by kernel_rfl
theorem try_one (p : Nat) (now : Int) : ∀ v ∈ tryC p now, v.oneCell' = true := by
  intro v hv; simp only [tryC, nilS, List.mem_cons, List.not_mem_nil, or_false] at hv; rcases hv with rfl | rfl | rfl | rfl | rfl | rfl | rfl | rfl | rfl | rfl | rfl | rfl | rfl <;> rfl
def newOk (k : Ky) (c : Cf) (t : Tk) : Bool := decide (askedE k c.host t = 0) && (goodSp c.tm && (goodSp c.bo && (decide (0 ≤ c.re) && decide (c.re ≤ 5))))
theorem asked_01 (k : Ky) (h : List UInt8) (t : Tk) : askedE k h t = 0 ∨ askedE k h t = 1 := by unfold askedE; split <;> simp
section
variable {w0 w w' : World} {b n : Nat} {rp va : Value} {X X' L : List Nat} {E E' : ErS}
theorem Et.new {k : Ky} {c : Cf} {t : Tk} (kp : Keep [] w0 w) (k2 : Keep [] w w') (hb : w.heap.size ≤ b) (hB : Blk w' b 106 ((erNew k c t).cells (.pointer Option.none) nilS)) (hL : ∀ l ∈ L, l < w.heap.size) : Et w0 w' b (.pointer Option.none) nilS [] (erNew k c t) 0 L :=
  ⟨hB, ⟨rfl, rfl⟩, Own.nil _ _ _ _ _, (fun f hf => by cases hf), kp.trans k2, Nat.le_trans kp.size hb, by simp [nilS, Value.ownBlock], fun l hl => ⟨by have := hL l hl; omega, by simp [nilS, Value.ownBlock], Nat.lt_of_lt_of_le (hL l hl) k2.size⟩⟩
def NewOut (w0 w : World) (k : Ky) (c : Cf) (t : Tk) (L : List Nat) (e : Ending) (w' : World) : Prop :=
  (newOk k c t = true ∧ ∃ b, e = .returned (.tuple #[.pointer (some ⟨b, 0, Option.none⟩), .int .i64 0]) ∧ w.heap.size ≤ b ∧ Et w0 w' b (.pointer Option.none) nilS [] (erNew k c t) 0 L ∧ Keep [] w w') ∨
  (newOk k c t = false ∧ e = .returned (.tuple #[.pointer Option.none, .int .i64 1]) ∧ Keep [] w w')
set_option maxRecDepth 100000 in
set_option maxHeartbeats 8000000 in
theorem er_New (k : Ky) (c : Cf) (t : Tk) (kp : Keep [] w0 w) (hm : ML w) (hk : okKy k) (hh : c.host.length ≤ 1000000) (hL : ∀ l ∈ L, l < w.heap.size) :
    Calls Tryz.prog 17 #[.agg k.cells.toArray, .agg c.cells.toArray, .agg t.cells.toArray] w (NewOut w0 w k c t L) := by
  have M0 := Lib.hid (Mem.nil w); have HBD := Lib.hid (bd_errand k c t); have HA := Lib.hid (fun w' (kk : Keep [] w w') => errand_Asked k c.host t w' (hm.keep kk (by simp)) hk hh); unfold askedO at HA; have HNew := Lib.hid (fun b w' (k2 : Keep [] w w') (hb : w.heap.size ≤ b) hB => Et.new (k := k) (c := c) (t := t) (L := L) kp k2 hb hB hL); have g1 := term_Good c.tm; have g2 := term_Good c.bo; have ha01 := asked_01 k c.host t; obtain ⟨ok, hok⟩ : ∃ z, newOk k c t = z := ⟨_, rfl⟩
  have HOK := Lib.hid hok; have hok2 : (decide (askedE k c.host t = 0) && (goodSp c.tm && (goodSp c.bo && (decide (0 ≤ c.re) && decide (c.re ≤ 5))))) = ok := hok; clear hm hk hh kp hL hok; generalize askedE k c.host t = ae at *; generalize askedS k c.host t = as' at *; by_cases hae : ae = 0
  rotate_left
  · have e1 := (int_ne hae).2; obtain rfl : ae = 1 := by omega
    obtain rfl : false = ok := by simpa using hok2
    clear hok2 ha01 hae g1 g2; go_enter Tryz.func17, Tryz.ntmps17
    go_wp2_with (first | ((with_reducible refine gX 3 ?_); refine wpList_boxM rfl 25 (.tmp 0) rfl (k.cells) (by rfl) M0 ?_; intro b3 w1 M1 _ _; try simp only [Act.put, sqA, sqB, sqC]) | ((with_reducible refine gX 4 ?_); refine wpList_boxM rfl 48 (.tmp 1) rfl (c.cells) (by rfl) M1 ?_; intro b4 w2 M2 _ _; try simp only [Act.put, sqA, sqB, sqC]) | ((with_reducible refine gX 5 ?_); refine wpList_boxM rfl 27 (.tmp 2) rfl (t.cells) (by rfl) M2 ?_; intro b5 w3 M3 _ _; have d0 := M3.out.get 1 rfl 0 rfl; try simp only [Act.put, sqA, sqB, sqC]) | ((with_reducible refine gL 11 3 ?_); refine wpList_loadM (by rfl) 25 (.tmp 3) rfl M3 2 rfl (by rfl) _ Tryz.underlying25 rfl (ky_size k) ?_; try simp only [Act.put, sqA, sqB, sqC]) | ((with_reducible refine gL 14 5 ?_); refine wpList_loadM (by rfl) 27 (.tmp 5) rfl M3 0 rfl (by rfl) _ Tryz.underlying27 rfl (tk_size t) ?_; try simp only [Act.put, sqA, sqB, sqC]) | fail); refine (HA.out _ M3.out.kp).mono ?_; rintro e w4 ⟨rfl, k4⟩; have K4 := Lib.hid (M3.out.kp.trans k4); clear k4 d0; go_wp2_with fail; go_ret2; exact .inr ⟨HOK.out, rfl, K4.out⟩
  subst hae; have hall : Hid (ok = true → goodSp c.tm = true ∧ goodSp c.bo = true ∧ 0 ≤ c.re ∧ c.re ≤ 5) := Lib.hid (fun hh => by rw [hh] at hok2; simpa using hok2); cases hg1 : goodSp c.tm <;> cases hg2 : goodSp c.bo
  all_goals
    by_cases r1 : 0 ≤ c.re
    all_goals
      by_cases r2 : c.re ≤ 5
      all_goals (try (exfalso; omega))
      all_goals
        rw [hg1] at g1 hok2; rw [hg2] at g2 hok2; simp [r1, r2] at hok2; subst hok2; clear hall hg1 hg2 ha01; go_enter Tryz.func17, Tryz.ntmps17
        go_wp2_with (first | ((with_reducible refine gX 3 ?_); refine wpList_boxM rfl 25 (.tmp 0) rfl (k.cells) (by rfl) M0 ?_; intro b3 w1 M1 _ _; try simp only [Act.put, sqA, sqB, sqC]) | ((with_reducible refine gX 4 ?_); refine wpList_boxM rfl 48 (.tmp 1) rfl (c.cells) (by rfl) M1 ?_; intro b4 w2 M2 _ _; try simp only [Act.put, sqA, sqB, sqC]) | ((with_reducible refine gX 5 ?_); refine wpList_boxM rfl 27 (.tmp 2) rfl (t.cells) (by rfl) M2 ?_; intro b5 w3 M3 _ _; have d0 := M3.out.get 1 rfl 0 rfl; try simp only [Act.put, sqA, sqB, sqC]) | ((with_reducible refine gL 11 3 ?_); refine wpList_loadM (by rfl) 25 (.tmp 3) rfl M3 2 rfl (by rfl) _ Tryz.underlying25 rfl (ky_size k) ?_; try simp only [Act.put, sqA, sqB, sqC]) | ((with_reducible refine gL 14 5 ?_); refine wpList_loadM (by rfl) 27 (.tmp 5) rfl M3 0 rfl (by rfl) _ Tryz.underlying27 rfl (tk_size t) ?_; try simp only [Act.put, sqA, sqB, sqC]) | fail); refine (HA.out _ M3.out.kp).mono ?_; rintro e w4 ⟨rfl, k4⟩; have M4 := Lib.hid (M3.out.keep0 k4); have d5 := M4.out.get 1 rfl 5 rfl; have d10 := M4.out.get 1 rfl 10 rfl; have d11 := M4.out.get 1 rfl 11 rfl; clear k4 d0
        go_wp2_with (first | (go_at_call 59; with_reducible refine (g1 _).mono ?_; rintro e w' ⟨rfl, rfl⟩) | (go_at_call 59; with_reducible refine (g2 _).mono ?_; rintro e w' ⟨rfl, rfl⟩) | ((with_reducible refine gL 41 3 ?_); refine wpList_loadM (by rfl) 25 (.tmp 3) rfl M4 2 rfl (by rfl) _ Tryz.underlying25 rfl (ky_size k) ?_; try simp only [Act.put, sqA, sqB, sqC]) | ((with_reducible refine gL 42 4 ?_); refine wpList_loadM (by rfl) 48 (.tmp 4) rfl M4 1 rfl (by rfl) _ Tryz.underlying48 rfl (cf_size c) ?_; try simp only [Act.put, sqA, sqB, sqC]) | ((with_reducible refine gL 43 5 ?_); refine wpList_loadM (by rfl) 27 (.tmp 5) rfl M4 0 rfl (by rfl) _ Tryz.underlying27 rfl (tk_size t) ?_; try simp only [Act.put, sqA, sqB, sqC]) | ((with_reducible refine gB 44 ?_); refine wpList_buildM (by rfl) 106 _ rfl ([(1, .agg k.cells.toArray), (2, .agg c.cells.toArray), (3, .agg t.cells.toArray), (4, .int .i64 1)]) (by simp [Act.eval]) ((erNew k c t).cells (.pointer Option.none) nilS) HBD ?_; try simp only [Act.put, sqA, sqB, sqC]) | ((with_reducible refine gX 45 ?_); refine wpList_boxM rfl 106 (.tmp 44) rfl ((erNew k c t).cells (.pointer Option.none) nilS) (by rfl) M4 ?_; intro eb w5 M5 _ _; try simp only [Act.put, sqA, sqB, sqC]) | fail); go_ret2
        first
          | exact .inr ⟨HOK.out, rfl, M4.out.kp⟩
          | exact .inl ⟨HOK.out, eb, rfl, M5.out.lo 0 rfl, HNew.out _ _ M5.out.kp (M5.out.lo 0 rfl) (M5.out.blk 0 rfl), M5.out.kp⟩
def EtAny (w0 w : World) (b : Nat) (X : List Nat) (E' : ErS) (n : Nat) (L : List Nat) (w' : World) : Prop := ∃ rp' va' X', Et w0 w' b rp' va' X' E' n L ∧ Keep (b :: X) w w' ∧ ∀ x ∈ X', x ∈ X ∨ w.heap.size ≤ x
theorem begin_is (E : ErS) (now : Int) (p : Nat) : [] ++ tryC p now ++ E.past = ({ E with rep := some (reNew (decide (E.key.kind ≠ 2)) 1048576), began := now, last := now, head := ans0, body := false, data := [], taken := 0, size := 0, reuse := false } : ErS).cells (.pointer (some ⟨p, 0, Option.none⟩)) nilS := rfl
theorem in64_blob : in64 1048576 := by unfold in64; omega
set_option maxRecDepth 100000 in
set_option maxHeartbeats 800000 in
theorem er_BeginNo (h : Et w0 w b rp va X E n L) (now : Int) (hw : (decide (E.state = 1) && decide (E.unt ≤ now)) = false) : Calls Tryz.prog 22 #[.pointer (some ⟨b, 0, Option.none⟩), .int .i64 now] w fun e w' => e = .returned (.tuple #[.string (S []), .int .i64 8]) ∧ w = w' := by
  have HW := er_Wants h now; rw [hw] at HW; clear h hw; go_enter Tryz.func22, Tryz.ntmps22; go_wp2_with (first | (go_at_call 21; refine HW.mono ?_; rintro e w' ⟨rfl, rfl⟩) | fail); go_ret2; exact ⟨rfl, rfl⟩
end
end Go.Proofs.YtlhnjkekjbbhcaaGreatDoor
namespace Go.Proofs.YtlhnjkekjbbhcaaGreatDoor
open Go.RowKit Go.Shelf
section
variable {w0 w w' : World} {b n : Nat} {rp va : Value} {X X' L : List Nat} {E E' : ErS}
theorem Et.begun {wN : World} {p : Nat} {P : ReS} (h : Et w0 w b rp va X E n L) (k1 : Keep [] w wN) (hR : Rp w0 wN p [p] P 0 (b :: L)) (k2 : Keep [b] wN w') (hB : Blk w' b 106 (E'.cells (.pointer (some ⟨p, 0, Option.none⟩)) nilS)) (hr : E'.rep = some P) (hh : E'.head = ans0) : Et w0 w' b (.pointer (some ⟨p, 0, Option.none⟩)) nilS [p] E' 0 L := by
  have hpb : b ∉ [p] := (hR.ap b (by simp)).1; refine ⟨hB, ?_, ?_, ?_, (h.kp.trans k1).above k2 (by simpa using h.lo), h.lo, by simp [nilS, Value.ownBlock], fun l hl => ⟨(h.ap l hl).1, by simp [nilS, Value.ownBlock], Nat.lt_of_lt_of_le (Nat.lt_of_lt_of_le (h.ap l hl).2.2 k1.size) k2.size⟩⟩
  · rw [hr]
    exact ⟨p, rfl, hR.keep k2 (by simpa using h.lo) (fun x hx => by
      have h9 : x = p := by simpa using hx
      subst h9; simp only [List.mem_singleton]; rintro rfl
      simp at hpb)⟩
  · rw [hh]; exact Own.nil _ _ _ _ _
  · rw [hh]; intro f hf; cases hf
set_option maxRecDepth 100000 in
set_option maxHeartbeats 4000000 in
theorem er_Begin (h : Et w0 w b rp va X E n L) (hm : ML w0) (now : Int) (hw : (decide (E.state = 1) && decide (E.unt ≤ now)) = true) (hk : okKy E.key) (hh : E.cfg.host.length ≤ 1000000) (ha : askedE E.key E.cfg.host E.known = 0) (htr : 0 ≤ E.tries ∧ E.tries ≤ 1152921504606846976) :
    Calls Tryz.prog 22 #[.pointer (some ⟨b, 0, Option.none⟩), .int .i64 now] w fun e w' => e = .returned (.tuple #[.string (S (askedS E.key E.cfg.host E.known)), .int .i64 0]) ∧ EtAny w0 w b X (erBegin E now) 0 L w' := by
  have HW := er_Wants h now; rw [hw] at HW; have M0 : Hid (MemK w [] w0 w [(b, 106, E.cells rp va)]) := Lib.hid (MemK.of h.mem.1 []); have HA := Lib.hid (fun w' (m : MemK w [] w0 w' [(b, 106, E.cells rp va)]) => errand_Asked E.key E.cfg.host E.known w' (hm.keep m.1.kp (by simp)) hk hh); unfold askedO at HA; rw [ha] at HA; have H := Lib.hid h; clear h hw hk hh ha hm; generalize hS : askedS E.key E.cfg.host E.known = as' at *; clear hS; obtain ⟨kb, hkb⟩ : ∃ z, decide (E.key.kind ≠ 2) = z := ⟨_, rfl⟩
  have ek : (E.key.kind != 2) = kb := by rw [← hkb]; by_cases hk : E.key.kind = 2 <;> simp [hk]
  have HKB := Lib.hid hkb; clear hkb; go_enter Tryz.func22, Tryz.ntmps22
  go_upto_region 5 with (first | (go_at_call 21; refine HW.mono ?_; rintro e w' ⟨rfl, rfl⟩) | fail)
  clear HW; refine wp_region_noPanic ?_; refine wp_region_held_drew (S := fun w' => MemK w [] w0 w' [(b, 106, E.cells rp va)]) (by kernel_rfl) ((Lib.hid (M0.out.keep0 ((Keep.refl _ _).drew))).out) (fun hHeld => ?_); have M0d := Lib.hid (M0.out.keep0 ((Keep.refl _ _).drew)); refine gU 0 (oi := ⟨some 17, .move (.tmp 0), _, _, _, none⟩) (v := ?_) rfl (Or.inl ⟨by rfl, ?_⟩) (by assumption) ?_; rotate_left
  · (intro w' hSw; go_simp) <;> (with_reducible rfl)
  (try simp only [Act.put, sqA, sqC, sqB]); refine gU 1 (oi := ⟨some 18, .nilCheck (.tmp 17), _, _, _, none⟩) (v := ?_) rfl (Or.inl ⟨by rfl, ?_⟩) (by assumption) ?_; rotate_left
  · (intro w' hSw; go_simp) <;> (with_reducible rfl)
  (try simp only [Act.put, sqA, sqC, sqB]); refine gU 2 (oi := ⟨some 19, .fieldAddr _ (.tmp 18) 1, _, _, _, none⟩) (v := ?_) rfl (Or.inl ⟨by rfl, ?_⟩) (by assumption) ?_; rotate_left
  · (intro w' hSw; go_simp) <;> (with_reducible rfl)
  (try simp only [Act.put, sqA, sqC, sqB]); refine gU 3 (oi := ⟨some 20, .load _ (.tmp 19), _, _, _, none⟩) rfl (yieldsIf_load_mid (by rfl) 25 (.tmp 19) rfl _ 13 (by rfl) (E.key.cells) _ (fun w' hSw => fun j v hj => MemK.get (hSw) 0 rfl (13 + j) (((er_keyP _ _ _)) j v hj)) Tryz.underlying25 rfl (ky_size E.key)) (by assumption) ?_; (try simp only [Act.put, sqA, sqC, sqB]); refine gU 4 (oi := ⟨some 21, .move (.tmp 0), _, _, _, none⟩) (v := ?_) rfl (Or.inl ⟨by rfl, ?_⟩) (by assumption) ?_; rotate_left
  · (intro w' hSw; go_simp) <;> (with_reducible rfl)
  (try simp only [Act.put, sqA, sqC, sqB]); refine gU 5 (oi := ⟨some 22, .nilCheck (.tmp 21), _, _, _, none⟩) (v := ?_) rfl (Or.inl ⟨by rfl, ?_⟩) (by assumption) ?_; rotate_left
  · (intro w' hSw; go_simp) <;> (with_reducible rfl)
  (try simp only [Act.put, sqA, sqC, sqB]); refine gU 6 (oi := ⟨some 23, .fieldAddr _ (.tmp 22) 2, _, _, _, none⟩) (v := ?_) rfl (Or.inl ⟨by rfl, ?_⟩) (by assumption) ?_; rotate_left
  · (intro w' hSw; go_simp) <;> (with_reducible rfl)
  (try simp only [Act.put, sqA, sqC, sqB]); refine gU 7 (oi := ⟨some 24, .fieldAddr _ (.tmp 23) 0, _, _, _, none⟩) (v := ?_) rfl (Or.inl ⟨by rfl, ?_⟩) (by assumption) ?_; rotate_left
  · (intro w' hSw; go_simp) <;> (with_reducible rfl)
  (try simp only [Act.put, sqA, sqC, sqB]); refine gU 8 (oi := ⟨some 25, .load _ (.tmp 24), _, _, _, none⟩) (v := ?_) rfl (Or.inl ⟨by rfl, ?_⟩) (by assumption) ?_; rotate_left
  · (intro w' hSw; have hy49 : w'.cell? ⟨b, 49, Option.none⟩ = some (.string (S E.cfg.host)) := hSw.get 0 rfl 49 (g_host _ _ _); clear hSw; go_simp) <;> (with_reducible rfl)
  (try simp only [Act.put, sqA, sqC, sqB]); refine gU 9 (oi := ⟨some 26, .move (.tmp 0), _, _, _, none⟩) (v := ?_) rfl (Or.inl ⟨by rfl, ?_⟩) (by assumption) ?_; rotate_left
  · (intro w' hSw; go_simp) <;> (with_reducible rfl)
  (try simp only [Act.put, sqA, sqC, sqB]); refine gU 10 (oi := ⟨some 27, .nilCheck (.tmp 26), _, _, _, none⟩) (v := ?_) rfl (Or.inl ⟨by rfl, ?_⟩) (by assumption) ?_; rotate_left
  · (intro w' hSw; go_simp) <;> (with_reducible rfl)
  (try simp only [Act.put, sqA, sqC, sqB]); refine gU 11 (oi := ⟨some 28, .fieldAddr _ (.tmp 27) 3, _, _, _, none⟩) (v := ?_) rfl (Or.inl ⟨by rfl, ?_⟩) (by assumption) ?_; rotate_left
  · (intro w' hSw; go_simp) <;> (with_reducible rfl)
  (try simp only [Act.put, sqA, sqC, sqB]); refine gU 12 (oi := ⟨some 29, .load _ (.tmp 28), _, _, _, none⟩) rfl (yieldsIf_load_mid (by rfl) 27 (.tmp 28) rfl _ 62 (by rfl) (E.known.cells) _ (fun w' hSw => fun j v hj => MemK.get (hSw) 0 rfl (62 + j) (((er_knownP _ _ _)) j v hj)) Tryz.underlying27 rfl (tk_size E.known)) (by assumption) ?_; (try simp only [Act.put, sqA, sqC, sqB]); refine gR 13 rfl (fun K hK => ?_); go_simp; refine (HA.out _ M0d.out).mono ?_; rintro e wr1 ⟨rfl, kR⟩; have MR1 := Lib.hid (M0d.out.keep0 kR); clear kR; (try go_simp); refine hK.out _ _ (MR1.out) (fun hHeld => ?_); clear hK K; (try simp only [Act.put, sqA, sqC, sqB]); refine gU 14 (oi := ⟨some 16, .move (.tmp 30), _, _, _, none⟩) (v := ?_) rfl (Or.inl ⟨by rfl, ?_⟩) (by assumption) ?_; rotate_left
  · (intro w' hSw; go_simp) <;> (with_reducible rfl)
  (try simp only [Act.put, sqA, sqC, sqB]); refine gU 15 (oi := ⟨some 31, _, _, _, _, none⟩) (v := ?_) rfl (Or.inl ⟨by rfl, ?_⟩) (by assumption) ?_; rotate_left
  · (intro w' hSw; go_simp) <;> (with_reducible rfl)
  (try simp only [Act.put, sqA, sqC, sqB]); refine gU 16 (oi := ⟨some 32, _, _, _, _, none⟩) (v := ?_) rfl (Or.inl ⟨by rfl, ?_⟩) (by assumption) ?_; rotate_left
  · (intro w' hSw; go_simp) <;> (with_reducible rfl)
  (try simp only [Act.put, sqA, sqC, sqB]); refine gU 17 (oi := ⟨some 6, .assign (.tmp 31), _, _, _, none⟩) (v := ?_) rfl (Or.inl ⟨by rfl, ?_⟩) (by assumption) ?_; rotate_left
  · (intro w' hSw; go_simp) <;> (with_reducible rfl)
  (try simp only [Act.put, sqA, sqC, sqB]); refine gU 18 (oi := ⟨some 7, .assign (.tmp 32), _, _, _, none⟩) (v := ?_) rfl (Or.inl ⟨by rfl, ?_⟩) (by assumption) ?_; rotate_left
  · (intro w' hSw; go_simp) <;> (with_reducible rfl)
  (try simp only [Act.put, sqA, sqC, sqB]); refine wpAnyH_done (by kernel_rfl) ?_ _; refine NoPanic.normal ?_; have c13 := MR1.out.get 0 rfl 13 (g_kind _ _ _); have HNw := Lib.hid (rp_new (w0 := w0) kb in64_blob MR1.out.1.kp (b :: L) (by intro l hl; rcases List.mem_cons.1 hl with rfl | hl; exact Nat.lt_of_lt_of_le H.out.lt MR1.out.2.size; exact Nat.lt_of_lt_of_le (H.out.ap l hl).2.2 MR1.out.2.size)); go_wp2_with fail; refine HNw.out.mono ?_; rintro e wn ⟨p, rfl, hp, hpl, hR, kn⟩; have HR := Lib.hid hR; have HPN := Lib.hid hp; have KN : Hid (Keep [] w wn) := Lib.hid (MR1.out.2.trans kn); have MB : Hid (MemK wn [b] w0 wn [(b, 106, E.cells rp va)]) := Lib.hid (MemK.of (MR1.out.1.keep0 kn) [b]); clear hR kn hp hpl c13 HNw; have HBT := Lib.hid (bd_try p now)
  go_wp2_with (first | ((with_reducible refine gB 46 ?_); refine wpList_buildM (by rfl) 104 _ rfl ([(0, .pointer (some ⟨p, 0, Option.none⟩)), (1, .int .i64 now), (2, .int .i64 now)]) (by simp [Act.eval]) (tryC p now) HBT ?_; try simp only [Act.put, sqA, sqB, sqC]) | ((with_reducible refine gS 48 46 ?_); refine wpList_storePartK rfl 104 (.tmp 48) (.tmp 46) rfl MB 0 rfl 0 (by rfl) (tryC p now) (by rfl) (try_size p now) ([]) (E.top rp va) (E.past) (p_top E rp va) rfl rfl (try_one p now) (fun _ => by simp) ?_; intro w5 M5; have hR := M5.out; simp only [sqC, begin_is E now p] at hR; clear M5; have M5 := Lib.hid hR; clear hR; try simp only [Act.put]) | ((with_reducible refine gT 51 ?_); refine wpList_store1K rfl 3 (.tmp 51) _ rfl M5 0 rfl 100 (by rfl) (.int .i64 2) (by rfl) rfl rfl (by kernel_rfl) (by rw [ErS.len]; omega) (fun _ => by simp) ?_; intro w6 M6; have hR := M6.out; simp only [sqC, s_state] at hR; clear M6; have M6 := Lib.hid hR; clear hR; have c138 : w6.cell? ⟨b, 138, Option.none⟩ = some (.int .i64 E.tries) := M6.out.get 0 rfl 138 (g_tries _ _ _); try simp only [Act.put]) | ((with_reducible refine gT 58 ?_); refine wpList_store1K rfl 3 (.tmp 58) _ rfl M6 0 rfl 138 (by rfl) (.int .i64 (E.tries + 1)) (by rfl) rfl rfl (by kernel_rfl) (by rw [ErS.len]; omega) (fun _ => by simp) ?_; intro w7 M7; have hR := M7.out; simp only [sqC, s_tries] at hR; clear M7; have M7 := Lib.hid hR; clear hR; clear c138; try simp only [Act.put]) | fail); go_ret2; have hKB := HKB.out; subst hKB; refine ⟨rfl, _, _, [p], H.out.begun (E' := erBegin E now) KN.out HR.out M7.out.2 (M7.out.1.blk 0 rfl) rfl rfl, ?_, ?_⟩
  · exact (KN.out.mono (S' := b :: X) (by simp)).trans' M7.out.2 (by simp)
  · intro x hx; have h9 : x = p := by simpa using hx
    rw [h9]; exact .inr (Nat.le_trans MR1.out.2.size HPN.out)
end
end Go.Proofs.YtlhnjkekjbbhcaaGreatDoor
