/- Parts of the proof of ErrandJudges, in order. No conditions but those that each theorem states. -/
import Derived.Test.YtlhnjkekjbbhcaaGreatDoorYErrandJudges0
import Derived.Lib.SlBytesConst
import Derived.Lib.LaidTab
import Derived.Lib.ItoaNum
import Derived.Lib.ItoaLen
import Derived.Sort.Grow
import Derived.Deep.MidRow
import Derived.DeepKeys4
import Derived.Test.YtlhnjkekjbbhcaaGreatDoorYErrandJudges22
namespace Go.Proofs.YtlhnjkekjbbhcaaGreatDoor
open Go.RowKit Go.Shelf
def nilS : Value := .slice Option.none 0 0
theorem bd_errand (k : Ky) (c : Cf) (t : Tk) : Tryz.prog.built 106 [(1, .agg k.cells.toArray), (2, .agg c.cells.toArray), (3, .agg t.cells.toArray), (4, .int .i64 1)] = some ((erNew k c t).cells (.pointer Option.none) nilS).toArray := by
  obtain ⟨kd, repo, tag, ⟨l, hl⟩, bl⟩ := k; obtain ⟨trepo, ttag, tf, ⟨tl, htl⟩, tt, ts, ta⟩ := t; obtain ⟨b0, b1, b2, b3, b4, b5, b6, b7, b8, b9, b10, b11, b12, b13, b14, b15, b16, b17, b18, b19, b20, b21, b22, b23, b24, b25, b26, b27, b28, b29, b30, b31, rfl⟩ := list32 l hl; obtain ⟨d0, d1, d2, d3, d4, d5, d6, d7, d8, d9, d10, d11, d12, d13, d14, d15, d16, d17, d18, d19, d20, d21, d22, d23, d24, d25, d26, d27, d28, d29, d30, d31, rfl⟩ := list32 tl htl; kernel_rfl
def tryC (p : Nat) (now : Int) : List Value := [.pointer (some ⟨p, 0, Option.none⟩), .int .i64 now, .int .i64 now, .int .i64 0, nilS, .int .i64 0, .bool false, .bool false, .bool false, .string (S []), .int .i64 0, .int .i64 0, .bool false]
theorem bd_try (p : Nat) (now : Int) : Tryz.prog.built 104 [(0, .pointer (some ⟨p, 0, Option.none⟩)), (1, .int .i64 now), (2, .int .i64 now)] = some (tryC p now).toArray := by kernel_rfl
theorem try_size (p : Nat) (now : Int) : (Tryz.prog.info? 104).map (·.size) = some (tryC p now).length := by kernel_rfl
theorem try_one (p : Nat) (now : Int) : ∀ v ∈ tryC p now, v.oneCell' = true := by
  intro v hv; simp only [tryC, nilS, List.mem_cons, List.not_mem_nil, or_false] at hv; rcases hv with rfl | rfl | rfl | rfl | rfl | rfl | rfl | rfl | rfl | rfl | rfl | rfl | rfl <;> rfl
def newOk (k : Ky) (c : Cf) (t : Tk) : Bool := decide (askedE k c.host t = 0) && (goodSp c.tm && (goodSp c.bo && (decide (0 ≤ c.re) && decide (c.re ≤ 5))))
theorem asked_01 (k : Ky) (h : List UInt8) (t : Tk) : askedE k h t = 0 ∨ askedE k h t = 1 := by unfold askedE; split <;> simp
section
variable {w0 w w' : World} {b n : Nat} {rp va : Value} {X X' L : List Nat} {E E' : ErS}
theorem Et.new {k : Ky} {c : Cf} {t : Tk} (kp : Keep [] w0 w) (k2 : Keep [] w w') (hb : w.heap.size ≤ b) (hB : Blk w' b 106 ((erNew k c t).cells (.pointer Option.none) nilS)) (hL : ∀ l ∈ L, l < w.heap.size) : Et w0 w' b (.pointer Option.none) nilS [] (erNew k c t) 0 L :=
  ⟨hB, ⟨rfl, rfl⟩, Own.nil _ _ _ _ _, (fun f hf => by cases hf), kp.trans k2, Nat.le_trans kp.size hb, by simp [nilS, Value.ownBlock], fun l hl => ⟨by have := hL l hl; omega, by simp [nilS, Value.ownBlock], Nat.lt_of_lt_of_le (hL l hl) k2.size⟩⟩
def NewOut (w0 w : World) (k : Ky) (c : Cf) (t : Tk) (L : List Nat) (e : Ending) (w' : World) : Prop :=
  (newOk k c t = true ∧ ∃ b, e = .returned (.tuple #[.pointer (some ⟨b, 0, Option.none⟩), .int .i64 0]) ∧ w.heap.size ≤ b ∧ Et w0 w' b (.pointer Option.none) nilS [] (erNew k c t) 0 L ∧ Keep [] w w') ∨
  (newOk k c t = false ∧ e = .returned (.tuple #[.pointer Option.none, .int .i64 1]) ∧ Keep [] w w')
set_option maxRecDepth 100000 in
set_option maxHeartbeats 8000000 in
theorem er_New (k : Ky) (c : Cf) (t : Tk) (kp : Keep [] w0 w) (hm : ML w) (hk : okKy k) (hh : c.host.length ≤ 1000000) (hL : ∀ l ∈ L, l < w.heap.size) :
    Calls Tryz.prog 17 #[.agg k.cells.toArray, .agg c.cells.toArray, .agg t.cells.toArray] w (NewOut w0 w k c t L) := by
  have M0 := Lib.hid (Mem.nil w); have HBD := Lib.hid (bd_errand k c t); have HA := Lib.hid (fun w' (kk : Keep [] w w') => errand_Asked k c.host t w' (hm.keep kk (by simp)) hk hh); unfold askedO at HA; have HNew := Lib.hid (fun b w' (k2 : Keep [] w w') (hb : w.heap.size ≤ b) hB => Et.new (k := k) (c := c) (t := t) (L := L) kp k2 hb hB hL); have g1 := term_Good c.tm; have g2 := term_Good c.bo; have ha01 := asked_01 k c.host t; obtain ⟨ok, hok⟩ : ∃ z, newOk k c t = z := ⟨_, rfl⟩
  have HOK := Lib.hid hok; have hok2 : (decide (askedE k c.host t = 0) && (goodSp c.tm && (goodSp c.bo && (decide (0 ≤ c.re) && decide (c.re ≤ 5))))) = ok := hok; clear hm hk hh kp hL hok; generalize askedE k c.host t = ae at *; generalize askedS k c.host t = as' at *; by_cases hae : ae = 0
  rotate_left
  · have e1 := (int_ne hae).2; obtain rfl : ae = 1 := by omega
    obtain rfl : false = ok := by simpa using hok2
    clear hok2 ha01 hae g1 g2; go_enter Tryz.func17, Tryz.ntmps17
    go_wp2_with (first | ((with_reducible refine gX 3 ?_); refine wpList_boxM rfl 25 (.tmp 0) rfl (k.cells) (by rfl) M0 ?_; intro b3 w1 M1 _ _; try simp only [Act.put, sqA, sqB, sqC]) | ((with_reducible refine gX 4 ?_); refine wpList_boxM rfl 48 (.tmp 1) rfl (c.cells) (by rfl) M1 ?_; intro b4 w2 M2 _ _; try simp only [Act.put, sqA, sqB, sqC]) | ((with_reducible refine gX 5 ?_); refine wpList_boxM rfl 27 (.tmp 2) rfl (t.cells) (by rfl) M2 ?_; intro b5 w3 M3 _ _; have d0 := M3.out.get 1 rfl 0 rfl; try simp only [Act.put, sqA, sqB, sqC]) | ((with_reducible refine gL 11 3 ?_); refine wpList_loadM (by rfl) 25 (.tmp 3) rfl M3 2 rfl (by rfl) _ Tryz.underlying25 rfl (ky_size k) ?_; try simp only [Act.put, sqA, sqB, sqC]) | ((with_reducible refine gL 14 5 ?_); refine wpList_loadM (by rfl) 27 (.tmp 5) rfl M3 0 rfl (by rfl) _ Tryz.underlying27 rfl (tk_size t) ?_; try simp only [Act.put, sqA, sqB, sqC]) | fail); refine (HA.out _ M3.out.kp).mono ?_; rintro e w4 ⟨rfl, k4⟩; have K4 := Lib.hid (M3.out.kp.trans k4); clear k4 d0; go_wp2_with fail; go_ret2; exact .inr ⟨HOK.out, rfl, K4.out⟩
  subst hae; have hall : Hid (ok = true → goodSp c.tm = true ∧ goodSp c.bo = true ∧ 0 ≤ c.re ∧ c.re ≤ 5) := Lib.hid (fun hh => by rw [hh] at hok2; simpa using hok2); cases hg1 : goodSp c.tm <;> cases hg2 : goodSp c.bo
  all_goals
    by_cases r1 : 0 ≤ c.re
    all_goals
      by_cases r2 : c.re ≤ 5
      all_goals (try (exfalso; omega))
      all_goals
        rw [hg1] at g1 hok2; rw [hg2] at g2 hok2; simp [r1, r2] at hok2; subst hok2; clear hall hg1 hg2 ha01; go_enter Tryz.func17, Tryz.ntmps17
        go_wp2_with (first | ((with_reducible refine gX 3 ?_); refine wpList_boxM rfl 25 (.tmp 0) rfl (k.cells) (by rfl) M0 ?_; intro b3 w1 M1 _ _; try simp only [Act.put, sqA, sqB, sqC]) | ((with_reducible refine gX 4 ?_); refine wpList_boxM rfl 48 (.tmp 1) rfl (c.cells) (by rfl) M1 ?_; intro b4 w2 M2 _ _; try simp only [Act.put, sqA, sqB, sqC]) | ((with_reducible refine gX 5 ?_); refine wpList_boxM rfl 27 (.tmp 2) rfl (t.cells) (by rfl) M2 ?_; intro b5 w3 M3 _ _; have d0 := M3.out.get 1 rfl 0 rfl; try simp only [Act.put, sqA, sqB, sqC]) | ((with_reducible refine gL 11 3 ?_); refine wpList_loadM (by rfl) 25 (.tmp 3) rfl M3 2 rfl (by rfl) _ Tryz.underlying25 rfl (ky_size k) ?_; try simp only [Act.put, sqA, sqB, sqC]) | ((with_reducible refine gL 14 5 ?_); refine wpList_loadM (by rfl) 27 (.tmp 5) rfl M3 0 rfl (by rfl) _ Tryz.underlying27 rfl (tk_size t) ?_; try simp only [Act.put, sqA, sqB, sqC]) | fail); refine (HA.out _ M3.out.kp).mono ?_; rintro e w4 ⟨rfl, k4⟩; have M4 := Lib.hid (M3.out.keep0 k4); have d5 := M4.out.get 1 rfl 5 rfl; have d10 := M4.out.get 1 rfl 10 rfl; have d11 := M4.out.get 1 rfl 11 rfl; clear k4 d0
        go_wp2_with (first | (go_at_call 59; with_reducible refine (g1 _).mono ?_; rintro e w' ⟨rfl, rfl⟩) | (go_at_call 59; with_reducible refine (g2 _).mono ?_; rintro e w' ⟨rfl, rfl⟩) | ((with_reducible refine gL 41 3 ?_); refine wpList_loadM (by rfl) 25 (.tmp 3) rfl M4 2 rfl (by rfl) _ Tryz.underlying25 rfl (ky_size k) ?_; try simp only [Act.put, sqA, sqB, sqC]) | ((with_reducible refine gL 42 4 ?_); refine wpList_loadM (by rfl) 48 (.tmp 4) rfl M4 1 rfl (by rfl) _ Tryz.underlying48 rfl (cf_size c) ?_; try simp only [Act.put, sqA, sqB, sqC]) | ((with_reducible refine gL 43 5 ?_); refine wpList_loadM (by rfl) 27 (.tmp 5) rfl M4 0 rfl (by rfl) _ Tryz.underlying27 rfl (tk_size t) ?_; try simp only [Act.put, sqA, sqB, sqC]) | ((with_reducible refine gB 44 ?_); refine wpList_buildM (by rfl) 106 _ rfl ([(1, .agg k.cells.toArray), (2, .agg c.cells.toArray), (3, .agg t.cells.toArray), (4, .int .i64 1)]) (by simp [Act.eval]) ((erNew k c t).cells (.pointer Option.none) nilS) HBD ?_; try simp only [Act.put, sqA, sqB, sqC]) | ((with_reducible refine gX 45 ?_); refine wpList_boxM rfl 106 (.tmp 44) rfl ((erNew k c t).cells (.pointer Option.none) nilS) (by rfl) M4 ?_; intro eb w5 M5 _ _; try simp only [Act.put, sqA, sqB, sqC]) | fail); go_ret2
        first
          | exact .inr ⟨HOK.out, rfl, M4.out.kp⟩
          | exact .inl ⟨HOK.out, eb, rfl, M5.out.lo 0 rfl, HNew.out _ _ M5.out.kp (M5.out.lo 0 rfl) (M5.out.blk 0 rfl), M5.out.kp⟩
def EtAny (w0 w : World) (b : Nat) (X : List Nat) (E' : ErS) (n : Nat) (L : List Nat) (w' : World) : Prop := ∃ rp' va' X', Et w0 w' b rp' va' X' E' n L ∧ Keep (b :: X) w w' ∧ ∀ x ∈ X', x ∈ X ∨ w.heap.size ≤ x
theorem begin_is (E : ErS) (now : Int) (p : Nat) : [] ++ tryC p now ++ E.past = ({ E with rep := some (reNew (decide (E.key.kind ≠ 2)) 1048576), began := now, last := now, head := ans0, body := false, data := [], taken := 0, size := 0, reuse := false } : ErS).cells (.pointer (some ⟨p, 0, Option.none⟩)) nilS := rfl
theorem in64_blob : in64 1048576 := by unfold in64; omega
end
end Go.Proofs.YtlhnjkekjbbhcaaGreatDoor
namespace Go.Proofs.YtlhnjkekjbbhcaaGreatDoor
open Go.RowKit Go.Shelf
section
variable {w0 w w' : World} {b n : Nat} {rp va : Value} {X X' L : List Nat} {E E' : ErS}
theorem Et.begun {wN : World} {p : Nat} {P : ReS} (h : Et w0 w b rp va X E n L) (k1 : Keep [] w wN) (hR : Rp w0 wN p [p] P 0 (b :: L)) (k2 : Keep [b] wN w') (hB : Blk w' b 106 (E'.cells (.pointer (some ⟨p, 0, Option.none⟩)) nilS)) (hr : E'.rep = some P) (hh : E'.head = ans0) : Et w0 w' b (.pointer (some ⟨p, 0, Option.none⟩)) nilS [p] E' 0 L := by
  have hpb : b ∉ [p] := (hR.ap b (by simp)).1; refine ⟨hB, ?_, ?_, ?_, (h.kp.trans k1).above k2 (by simpa using h.lo), h.lo, by simp [nilS, Value.ownBlock], fun l hl => ⟨(h.ap l hl).1, by simp [nilS, Value.ownBlock], Nat.lt_of_lt_of_le (Nat.lt_of_lt_of_le (h.ap l hl).2.2 k1.size) k2.size⟩⟩
  · rw [hr]
    exact ⟨p, rfl, hR.keep k2 (by simpa using h.lo) (fun x hx => by
      have h9 : x = p := by simpa using hx
      subst h9; simp only [List.mem_singleton]; rintro rfl
      simp at hpb)⟩
  · rw [hh]; exact Own.nil _ _ _ _ _
  · rw [hh]; intro f hf; cases hf
set_option maxRecDepth 100000 in
set_option maxHeartbeats 4000000 in
theorem er_Begin (h : Et w0 w b rp va X E n L) (hm : ML w0) (now : Int) (hw : (decide (E.state = 1) && decide (E.unt ≤ now)) = true) (hk : okKy E.key) (hh : E.cfg.host.length ≤ 1000000) (ha : askedE E.key E.cfg.host E.known = 0) (htr : 0 ≤ E.tries ∧ E.tries ≤ 1152921504606846976) :
    Calls Tryz.prog 22 #[.pointer (some ⟨b, 0, Option.none⟩), .int .i64 now] w fun e w' => e = .returned (.tuple #[.string (S (askedS E.key E.cfg.host E.known)), .int .i64 0]) ∧ EtAny w0 w b X (erBegin E now) 0 L w' := by
  have HW := er_Wants h now; rw [hw] at HW; have M0 : Hid (MemK w [] w0 w [(b, 106, E.cells rp va)]) := Lib.hid (MemK.of h.mem.1 []); have HA := Lib.hid (fun w' (m : MemK w [] w0 w' [(b, 106, E.cells rp va)]) => errand_Asked E.key E.cfg.host E.known w' (hm.keep m.1.kp (by simp)) hk hh); unfold askedO at HA; rw [ha] at HA; have H := Lib.hid h; clear h hw hk hh ha hm; generalize hS : askedS E.key E.cfg.host E.known = as' at *; clear hS; obtain ⟨kb, hkb⟩ : ∃ z, decide (E.key.kind ≠ 2) = z := ⟨_, rfl⟩
  have ek : (E.key.kind != 2) = kb := by rw [← hkb]; by_cases hk : E.key.kind = 2 <;> simp [hk]
  have HKB := Lib.hid hkb; clear hkb; go_enter Tryz.func22, Tryz.ntmps22
  go_upto_region 5 with (first | (go_at_call 21; refine HW.mono ?_; rintro e w' ⟨rfl, rfl⟩) | fail)
  clear HW; refine wp_region_noPanic ?_; refine wp_region_held_drew (S := fun w' => MemK w [] w0 w' [(b, 106, E.cells rp va)]) (by kernel_rfl) ((Lib.hid (M0.out.keep0 ((Keep.refl _ _).drew))).out) (fun hHeld => ?_); have M0d := Lib.hid (M0.out.keep0 ((Keep.refl _ _).drew)); refine gU 0 (oi := ⟨some 17, .move (.tmp 0), _, _, _, none⟩) (v := ?_) rfl (Or.inl ⟨by rfl, ?_⟩) (by assumption) ?_; rotate_left
  · (intro w' hSw; go_simp) <;> (with_reducible rfl)
  (try simp only [Act.put, sqA, sqC, sqB]); refine gU 1 (oi := ⟨some 18, .nilCheck (.tmp 17), _, _, _, none⟩) (v := ?_) rfl (Or.inl ⟨by rfl, ?_⟩) (by assumption) ?_; rotate_left
  · (intro w' hSw; go_simp) <;> (with_reducible rfl)
  (try simp only [Act.put, sqA, sqC, sqB]); refine gU 2 (oi := ⟨some 19, .fieldAddr _ (.tmp 18) 1, _, _, _, none⟩) (v := ?_) rfl (Or.inl ⟨by rfl, ?_⟩) (by assumption) ?_; rotate_left
  · (intro w' hSw; go_simp) <;> (with_reducible rfl)
  (try simp only [Act.put, sqA, sqC, sqB]); refine gU 3 (oi := ⟨some 20, .load _ (.tmp 19), _, _, _, none⟩) rfl (yieldsIf_load_mid (by rfl) 25 (.tmp 19) rfl _ 13 (by rfl) (E.key.cells) _ (fun w' hSw => fun j v hj => MemK.get (hSw) 0 rfl (13 + j) (((er_keyP _ _ _)) j v hj)) Tryz.underlying25 rfl (ky_size E.key)) (by assumption) ?_; (try simp only [Act.put, sqA, sqC, sqB]); refine gU 4 (oi := ⟨some 21, .move (.tmp 0), _, _, _, none⟩) (v := ?_) rfl (Or.inl ⟨by rfl, ?_⟩) (by assumption) ?_; rotate_left
  · (intro w' hSw; go_simp) <;> (with_reducible rfl)
  (try simp only [Act.put, sqA, sqC, sqB]); refine gU 5 (oi := ⟨some 22, .nilCheck (.tmp 21), _, _, _, none⟩) (v := ?_) rfl (Or.inl ⟨by rfl, ?_⟩) (by assumption) ?_; rotate_left
  · (intro w' hSw; go_simp) <;> (with_reducible rfl)
  (try simp only [Act.put, sqA, sqC, sqB]); refine gU 6 (oi := ⟨some 23, .fieldAddr _ (.tmp 22) 2, _, _, _, none⟩) (v := ?_) rfl (Or.inl ⟨by rfl, ?_⟩) (by assumption) ?_; rotate_left
  · (intro w' hSw; go_simp) <;> (with_reducible rfl)
  (try simp only [Act.put, sqA, sqC, sqB]); refine gU 7 (oi := ⟨some 24, .fieldAddr _ (.tmp 23) 0, _, _, _, none⟩) (v := ?_) rfl (Or.inl ⟨by rfl, ?_⟩) (by assumption) ?_; rotate_left
  · (intro w' hSw; go_simp) <;> (with_reducible rfl)
  (try simp only [Act.put, sqA, sqC, sqB]); refine gU 8 (oi := ⟨some 25, .load _ (.tmp 24), _, _, _, none⟩) (v := ?_) rfl (Or.inl ⟨by rfl, ?_⟩) (by assumption) ?_; rotate_left
  · (intro w' hSw; have hy49 : w'.cell? ⟨b, 49, Option.none⟩ = some (.string (S E.cfg.host)) := hSw.get 0 rfl 49 (g_host _ _ _); clear hSw; go_simp) <;> (with_reducible rfl)
  (try simp only [Act.put, sqA, sqC, sqB]); refine gU 9 (oi := ⟨some 26, .move (.tmp 0), _, _, _, none⟩) (v := ?_) rfl (Or.inl ⟨by rfl, ?_⟩) (by assumption) ?_; rotate_left
  · (intro w' hSw; go_simp) <;> (with_reducible rfl)
  (try simp only [Act.put, sqA, sqC, sqB]); refine gU 10 (oi := ⟨some 27, .nilCheck (.tmp 26), _, _, _, none⟩) (v := ?_) rfl (Or.inl ⟨by rfl, ?_⟩) (by assumption) ?_; rotate_left
  · (intro w' hSw; go_simp) <;> (with_reducible rfl)
  (try simp only [Act.put, sqA, sqC, sqB]); refine gU 11 (oi := ⟨some 28, .fieldAddr _ (.tmp 27) 3, _, _, _, none⟩) (v := ?_) rfl (Or.inl ⟨by rfl, ?_⟩) (by assumption) ?_; rotate_left
  · (intro w' hSw; go_simp) <;> (with_reducible rfl)
  (try simp only [Act.put, sqA, sqC, sqB]); refine gU 12 (oi := ⟨some 29, .load _ (.tmp 28), _, _, _, none⟩) rfl (yieldsIf_load_mid (by rfl) 27 (.tmp 28) rfl _ 62 (by rfl) (E.known.cells) _ (fun w' hSw => fun j v hj => MemK.get (hSw) 0 rfl (62 + j) (((er_knownP _ _ _)) j v hj)) Tryz.underlying27 rfl (tk_size E.known)) (by assumption) ?_; (try simp only [Act.put, sqA, sqC, sqB]); refine gR 13 rfl (fun K hK => ?_); go_simp; refine (HA.out _ M0d.out).mono ?_; rintro e wr1 ⟨rfl, kR⟩; have MR1 := Lib.hid (M0d.out.keep0 kR); clear kR; (try go_simp); refine hK.out _ _ (MR1.out) (fun hHeld => ?_); clear hK K; (try simp only [Act.put, sqA, sqC, sqB]); refine gU 14 (oi := ⟨some 16, .move (.tmp 30), _, _, _, none⟩) (v := ?_) rfl (Or.inl ⟨by rfl, ?_⟩) (by assumption) ?_; rotate_left
  · (intro w' hSw; go_simp) <;> (with_reducible rfl)
  (try simp only [Act.put, sqA, sqC, sqB]); refine gU 15 (oi := ⟨some 31, _, _, _, _, none⟩) (v := ?_) rfl (Or.inl ⟨by rfl, ?_⟩) (by assumption) ?_; rotate_left
  · (intro w' hSw; go_simp) <;> (with_reducible rfl)
  (try simp only [Act.put, sqA, sqC, sqB]); refine gU 16 (oi := ⟨some 32, _, _, _, _, none⟩) (v := ?_) rfl (Or.inl ⟨by rfl, ?_⟩) (by assumption) ?_; rotate_left
  · (intro w' hSw; go_simp) <;> (with_reducible rfl)
  (try simp only [Act.put, sqA, sqC, sqB]); refine gU 17 (oi := ⟨some 6, .assign (.tmp 31), _, _, _, none⟩) (v := ?_) rfl (Or.inl ⟨by rfl, ?_⟩) (by assumption) ?_; rotate_left
  · (intro w' hSw; go_simp) <;> (with_reducible rfl)
  (try simp only [Act.put, sqA, sqC, sqB]); refine gU 18 (oi := ⟨some 7, .assign (.tmp 32), _, _, _, none⟩) (v := ?_) rfl (Or.inl ⟨by rfl, ?_⟩) (by assumption) ?_; rotate_left
  · (intro w' hSw; go_simp) <;> (with_reducible rfl)
  (try simp only [Act.put, sqA, sqC, sqB]); refine wpAnyH_done (by kernel_rfl) ?_ _; refine NoPanic.normal ?_; have c13 := MR1.out.get 0 rfl 13 (g_kind _ _ _); have HNw := Lib.hid (rp_new (w0 := w0) kb in64_blob MR1.out.1.kp (b :: L) (by intro l hl; rcases List.mem_cons.1 hl with rfl | hl; exact Nat.lt_of_lt_of_le H.out.lt MR1.out.2.size; exact Nat.lt_of_lt_of_le (H.out.ap l hl).2.2 MR1.out.2.size)); go_wp2_with fail; refine HNw.out.mono ?_; rintro e wn ⟨p, rfl, hp, hpl, hR, kn⟩; have HR := Lib.hid hR; have HPN := Lib.hid hp; have KN : Hid (Keep [] w wn) := Lib.hid (MR1.out.2.trans kn); have MB : Hid (MemK wn [b] w0 wn [(b, 106, E.cells rp va)]) := Lib.hid (MemK.of (MR1.out.1.keep0 kn) [b]); clear hR kn hp hpl c13 HNw; have HBT := Lib.hid (bd_try p now)
  go_wp2_with (first | ((with_reducible refine gB 46 ?_); refine wpList_buildM (by rfl) 104 _ rfl ([(0, .pointer (some ⟨p, 0, Option.none⟩)), (1, .int .i64 now), (2, .int .i64 now)]) (by simp [Act.eval]) (tryC p now) HBT ?_; try simp only [Act.put, sqA, sqB, sqC]) | ((with_reducible refine gS 48 46 ?_); refine wpList_storePartK rfl 104 (.tmp 48) (.tmp 46) rfl MB 0 rfl 0 (by rfl) (tryC p now) (by rfl) (try_size p now) ([]) (E.top rp va) (E.past) (p_top E rp va) rfl rfl (try_one p now) (fun _ => by simp) ?_; intro w5 M5; have hR := M5.out; simp only [sqC, begin_is E now p] at hR; clear M5; have M5 := Lib.hid hR; clear hR; try simp only [Act.put]) | ((with_reducible refine gT 51 ?_); refine wpList_store1K rfl 3 (.tmp 51) _ rfl M5 0 rfl 100 (by rfl) (.int .i64 2) (by rfl) rfl rfl (by kernel_rfl) (by rw [ErS.len]; omega) (fun _ => by simp) ?_; intro w6 M6; have hR := M6.out; simp only [sqC, s_state] at hR; clear M6; have M6 := Lib.hid hR; clear hR; have c138 : w6.cell? ⟨b, 138, Option.none⟩ = some (.int .i64 E.tries) := M6.out.get 0 rfl 138 (g_tries _ _ _); try simp only [Act.put]) | ((with_reducible refine gT 58 ?_); refine wpList_store1K rfl 3 (.tmp 58) _ rfl M6 0 rfl 138 (by rfl) (.int .i64 (E.tries + 1)) (by rfl) rfl rfl (by kernel_rfl) (by rw [ErS.len]; omega) (fun _ => by simp) ?_; intro w7 M7; have hR := M7.out; simp only [sqC, s_tries] at hR; clear M7; have M7 := Lib.hid hR; clear hR; clear c138; try simp only [Act.put]) | fail); go_ret2; have hKB := HKB.out; subst hKB; refine ⟨rfl, _, _, [p], H.out.begun (E' := erBegin E now) KN.out HR.out M7.out.2 (M7.out.1.blk 0 rfl) rfl rfl, ?_, ?_⟩
  · exact (KN.out.mono (S' := b :: X) (by simp)).trans' M7.out.2 (by simp)
  · intro x hx; have h9 : x = p := by simpa using hx
    rw [h9]; exact .inr (Nat.le_trans MR1.out.2.size HPN.out)
end
end Go.Proofs.YtlhnjkekjbbhcaaGreatDoor
namespace Go.Proofs.YtlhnjkekjbbhcaaGreatDoor
open Go.RowKit Go.Shelf
def dig1 : Dig := ⟨1 :: List.replicate 31 0, by simp⟩
def ky24 : Ky := ⟨2, [97], [], dig1, true⟩
def cf24 : Cf := ⟨[117, 112], 0, 0, 0, 0, 1, 0, 0, 0, 0, 4621819117588971520, 4611686018427387904, 0⟩
def ky0 : Ky := ⟨0, [], [], zeroD, false⟩
def tk0 : Tk := ⟨[], [], false, zeroD, [], 0, 0⟩
def cf0 : Cf := ⟨[], 0, 0, 0, 0, 0, 0, 0, 0, 0, 0, 0, 0⟩
theorem bd_dig1 : Tryz.prog.built 23 [(0, .int .u8 1)] = some (digC dig1).toArray := by kernel_rfl
theorem bd_ky24 : Tryz.prog.built 25 [(0, .int .i64 2), (1, .string ⟨#[97]⟩), (3, .agg (digC dig1).toArray), (4, .bool true)] = some ky24.cells.toArray := by kernel_rfl
theorem bd_cf24 : Tryz.prog.built 48 [(0, .string ⟨#[117, 112]⟩), (5, .int .i64 1), (10, .float .f64 4621819117588971520), (11, .float .f64 4611686018427387904)] = some cf24.cells.toArray := by kernel_rfl
theorem bd_ky0 : Tryz.prog.built 25 [] = some ky0.cells.toArray := by kernel_rfl
theorem bd_tk0 : Tryz.prog.built 27 [] = some tk0.cells.toArray := by kernel_rfl
theorem ky_zero : ZeroIs Tryz.prog 25 ky0.cells := fun w => by simp [go_sem]; rfl
theorem cf_zero : ZeroIs Tryz.prog 48 cf0.cells := fun w => by simp [go_sem]; rfl
theorem ky_end {w0 w : World} {L : List (Nat × TypeId × List Value)} {b : Nat} {r : Ky} (h : Mem w0 w L) (i : Nat) (hi : L[i]? = some (b, 25, r.cells)) : (loadVar 25 ⟨b, 0, none⟩).run Tryz.prog w = .ok (.agg r.cells.toArray) w :=
  run_loadVar_mid (P := Tryz.prog) w b 0 25 r.cells _ (h.blk i hi).range' Tryz.underlying25 rfl (ky_size r)
theorem cf_end {w0 w : World} {L : List (Nat × TypeId × List Value)} {b : Nat} {r : Cf} (h : Mem w0 w L) (i : Nat) (hi : L[i]? = some (b, 48, r.cells)) : (loadVar 48 ⟨b, 0, none⟩).run Tryz.prog w = .ok (.agg r.cells.toArray) w :=
  run_loadVar_mid (P := Tryz.prog) w b 0 48 r.cells _ (h.blk i hi).range' Tryz.underlying48 rfl (cf_size r)
set_option maxRecDepth 100000 in
set_option maxHeartbeats 1600000 in
theorem law24_body (w : World) : Calls Tryz.prog 29 #[] w fun e w' => e = .returned (.agg ky24.cells.toArray) ∧ Keep [] w w' := by
  have M0 : Hid (MemK w [] w w []) := Lib.hid (MemK.of (Mem.nil w) []); have HB1 := Lib.hid bd_dig1; have HB2 := Lib.hid bd_ky24; go_enter Tryz.func29, Tryz.ntmps29
  go_wp2_with (first | ((with_reducible refine gA 0 ?_); refine wpList_allocK rfl 25 rfl (ky0.cells) (Lib.hid ky_zero) M0 ?_; intro c w1 M1 hnewc; try simp only [Act.put, sqA, sqC]) | ((with_reducible refine gB 1 ?_); refine wpList_buildM (by rfl) 23 _ rfl ([(0, .int .u8 1)]) (by simp [Act.eval]) (digC dig1) HB1 ?_; try simp only [Act.put, sqA, sqB, sqC]) | ((with_reducible refine gB 2 ?_); refine wpList_buildM (by rfl) 25 _ rfl ([(0, .int .i64 2), (1, .string ⟨#[97]⟩), (3, .agg (digC dig1).toArray), (4, .bool true)]) (by simp [Act.eval]) (ky24.cells) HB2 ?_; try simp only [Act.put, sqA, sqB, sqC]) | ((with_reducible refine gS 0 2 ?_); refine wpList_storeK rfl 25 (.tmp 0) (.tmp 2) rfl M1 0 rfl (by rfl) (ky24.cells) (by rfl) (ky_size _) (by rw [Ky.len, Ky.len]) (Ky.one _) (fun hlt => absurd hnewc.out (by omega)) ?_; intro w2 M2; try simp only [Act.put]) | fail); have hload := ky_end M2.out.1 0 rfl; refine bodyPost_ret (v := .agg ky24.cells.toArray) (by simp [results, Tryz.results29, asAddr, hload]) rfl ⟨rfl, M2.out.2⟩
set_option maxRecDepth 100000 in
set_option maxHeartbeats 1600000 in
theorem law24_some (w : World) : Calls Tryz.prog 39 #[] w fun e w' => e = .returned (.agg cf24.cells.toArray) ∧ Keep [] w w' := by
  have M0 : Hid (MemK w [] w w []) := Lib.hid (MemK.of (Mem.nil w) []); have HB1 := Lib.hid bd_cf24; go_enter Tryz.func39, Tryz.ntmps39
  go_wp2_with (first | ((with_reducible refine gA 0 ?_); refine wpList_allocK rfl 48 rfl (cf0.cells) (Lib.hid cf_zero) M0 ?_; intro c w1 M1 hnewc; try simp only [Act.put, sqA, sqC]) | ((with_reducible refine gB 1 ?_); refine wpList_buildM (by rfl) 48 _ rfl ([(0, .string ⟨#[117, 112]⟩), (5, .int .i64 1), (10, .float .f64 4621819117588971520), (11, .float .f64 4611686018427387904)]) (by simp [Act.eval]) (cf24.cells) HB1 ?_; try simp only [Act.put, sqA, sqB, sqC]) | ((with_reducible refine gS 0 1 ?_); refine wpList_storeK rfl 48 (.tmp 0) (.tmp 1) rfl M1 0 rfl (by rfl) (cf24.cells) (by rfl) (cf_size _) (by rw [Cf.len, Cf.len]) (Cf.one _) (fun hlt => absurd hnewc.out (by omega)) ?_; intro w2 M2; try simp only [Act.put]) | fail); have hload := cf_end M2.out.1 0 rfl; refine bodyPost_ret (v := .agg cf24.cells.toArray) (by simp [results, Tryz.results39, asAddr, hload]) rfl ⟨rfl, M2.out.2⟩
def aw24T : List UInt8 := [72, 84, 84, 80, 47, 49, 46, 49, 32, 50, 48, 48, 32, 79, 75, 13, 10, 67, 111, 110, 116, 101, 110, 116, 45, 76, 101, 110, 103, 116, 104, 58, 32, 51, 13, 10, 67, 111, 110, 116, 101, 110, 116, 45, 84, 121, 112, 101, 58, 32, 120, 47, 121, 13, 10, 13, 10, 97, 98]
def aw24E : ErS := erBegin (erNew ky24 cf24 tk0) 5
def aw24F : Option ErS := erHear aw24E aw24T false 6
def aw24G : Option ErS := aw24F.bind fun E => erHear (erTook E) [99] false 7
theorem aw24_new : newOk ky24 cf24 tk0 = true := by decide +kernel
theorem aw24_no : newOk ky0 cf24 tk0 = false := by decide +kernel
theorem aw24_asked : askedE ky24 [117, 112] tk0 = 0 ∧ 20 ≤ (askedS ky24 [117, 112] tk0).length ∧ (askedS ky24 [117, 112] tk0).take 4 = [71, 69, 84, 32] := by refine ⟨?_, ?_, ?_⟩ <;> decide +kernel
theorem aw24_F : aw24F.map (fun E => (E.data, E.taken, E.misses, E.silent, E.heard, E.size, E.cfg.bo)) = some ([97, 98], 0, 0, 0, 0, 2, 4611686018427387904) := by kernel_rfl
theorem aw24_F2 : aw24F.map (fun E => (E.rep.map fun P => P.ans.isNone)) = some (some true) := by kernel_rfl
theorem aw24_G : aw24G.map (fun E => (E.data, E.taken, E.state, E.reuse, E.tries)) = some ([99], 2, 3, true, 1) := by kernel_rfl
theorem aw24_Asmall : (askedS ky24 [117, 112] tk0).length ≤ 1000 := by decide +kernel
theorem aw24_G2 : aw24G.map (fun E => (E.res.status, E.res.dig, E.res.typ, E.res.size, E.res.at_)) = some (200, dig1, [120, 47, 121], 3, 5) := by kernel_rfl
theorem aw24_facts : ∃ F G, erHear aw24E aw24T false 6 = some F ∧ erHear (erTook F) [99] false 7 = some G ∧ F.data = [97, 98] ∧ F.taken = 0 ∧ (erTook F).cnt 1 ∧ (erTook F).told ∧ G.data = [99] ∧ G.taken = 2 ∧ G.state = 3 ∧ G.reuse = true ∧ G.tries = 1 ∧ G.res = ⟨200, dig1, [120, 47, 121], 3, 5⟩ := by
  have f1 := aw24_F; have f2 := aw24_F2; have g1 := aw24_G; have g2 := aw24_G2; unfold aw24G at g1 g2
  cases hF : aw24F with
  | none => rw [hF] at f1; cases f1
  | some F =>
    rw [hF] at f1 f2 g1 g2; simp only [Option.map_some, Option.bind_some, Option.some.injEq, Prod.mk.injEq] at f1 f2 g1 g2; obtain ⟨a1, a2, a3, a4, a5, a6, a7⟩ := f1
    cases hG : erHear (erTook F) [99] false 7 with
    | none => rw [hG] at g1; cases g1
    | some G =>
      rw [hG] at g1 g2; simp only [Option.map_some, Option.some.injEq, Prod.mk.injEq] at g1 g2; obtain ⟨b1, b2, b3, b4, b5⟩ := g1; obtain ⟨c1, c2, c3, c4, c5⟩ := g2; refine ⟨F, G, hF, hG, a1, a2, ?_, ?_, b1, b2, b3, b4, b5, ?_⟩
      · show cntOf F.misses F.silent F.heard ([] : List UInt8).length F.size F.cfg.bo 1; rw [a3, a4, a5, a6, a7]; unfold cntOf; refine ⟨⟨?_, ?_⟩, ⟨?_, ?_⟩, ⟨?_, ?_⟩, ?_, ⟨?_, ?_⟩, ?_⟩ <;> decide
      · intro P hP; have hP' : F.rep = some P := hP; rw [hP'] at f2; simpa using f2
      · cases hr : G.res with
        | mk s d t z x =>
          rw [hr] at c1 c2 c3 c4 c5; simp only at c1 c2 c3 c4 c5; rw [c1, c2, c3, c4, c5]
theorem ok_ky24 : okKy ky24 := by unfold okKy in64; exact ⟨by decide, by decide, by decide, by decide⟩
theorem ok_ky0 : okKy ky0 := by unfold okKy in64; exact ⟨by decide, by decide, by decide, by decide⟩
def rs24 : Rs := ⟨200, dig1, [120, 47, 121], 3, 5⟩
theorem good_rs24 : goodRs rs24 := by unfold goodRs maxLen; refine ⟨?_, ⟨?_, ?_⟩, ⟨?_, ?_⟩, ?_, ?_⟩ <;> decide
theorem bd_rs24 : Tryz.prog.built 39 [(0, .int .i64 200), (1, .agg (digC dig1).toArray), (2, .string ⟨#[120, 47, 121]⟩), (3, .int .i64 3), (4, .int .i64 5)] = some rs24.cells.toArray := by kernel_rfl
theorem aw24_C : (erBegin (erNew ky24 cf24 tk0) 5).cnt 0 := by
  show cntOf 0 0 0 0 0 4611686018427387904 0; unfold cntOf; refine ⟨⟨?_, ?_⟩, ⟨?_, ?_⟩, ⟨?_, ?_⟩, ?_, ⟨?_, ?_⟩, ?_⟩ <;> decide
set_option maxRecDepth 100000 in
set_option maxHeartbeats 16000000 in
theorem errand_awake (w : World) (hm : ML w) : Calls Tryz.prog 8 #[] w fun e w' => e = .returned (.bool true) ∧ Keep [] w w' := by
  obtain ⟨F, G, hF, hG, fd, ft, fc, fo, gd, gt, gs, gr, gtr, gres⟩ := aw24_facts; have HF := Lib.hid hF; have HG := Lib.hid hG; have FD := Lib.hid fd; have FT := Lib.hid ft; have FC := Lib.hid fc; have FO := Lib.hid fo; have GD := Lib.hid gd; have GT := Lib.hid gt; have GS := Lib.hid gs; have GR := Lib.hid gr; have GTR := Lib.hid gtr; have GRES := Lib.hid gres; have HML := Lib.hid hm; have HN1 := Lib.hid (fun w' (k : Keep [] w w') => er_New (w0 := w) (L := []) ky24 cf24 tk0 k (hm.keep k (by simp)) ok_ky24 (by decide) (by simp)); have HN2 := Lib.hid (fun w' (k : Keep [] w w') => er_New (w0 := w) (L := []) ky0 cf24 tk0 k (hm.keep k (by simp)) ok_ky0 (by decide) (by simp)); have HBd := Lib.hid (fun w' => law24_body w'); have HSm := Lib.hid (fun w' => law24_some w'); have HB0 := Lib.hid bd_tk0; have HBk := Lib.hid bd_ky0; have HB1 := Lib.hid bd_dig1; have HBR := Lib.hid bd_rs24; obtain ⟨as', has⟩ : ∃ z, askedS ky24 [117, 112] tk0 = z := ⟨_, rfl⟩
  have hasked := aw24_asked; have hsml := aw24_Asmall; rw [has] at hasked hsml; have HAS := Lib.hid has; have HA0 := Lib.hid hasked.1; have hlen := hasked.2.1; have hsz : (S as').size = as'.length := rfl; have hx4 : (S as').extract 0 4 = S [71, 69, 84, 32] := by rw [S_extract, List.drop_zero, hasked.2.2]
  have t1 := S_toList [71, 69, 84, 32]; have t2 := S_toList [97, 98]; have t3 := S_toList [99]; clear hm hF hG fd ft fc fo gd gt gs gr gtr gres has hasked; go_enter Tryz.func8, Tryz.ntmps8; go_wp2_with fail; refine (HBd.out _).mono ?_; rintro e w1 ⟨rfl, k1⟩; have K1 := Lib.hid k1; clear k1; go_wp2_with fail; refine (HSm.out _).mono ?_; rintro e w2 ⟨rfl, k2⟩; have K2 := Lib.hid (K1.out.trans k2); clear k2 K1
  go_wp2_with (first | ((with_reducible refine gB 15 ?_); refine wpList_buildM (by rfl) 27 _ rfl ([]) (by simp [Act.eval]) (tk0.cells) HB0 ?_; try simp only [Act.put, sqA, sqB, sqC]) | fail); refine (HN1.out _ K2.out).mono ?_; rintro e w3 hN; rcases hN with ⟨_, b, rfl, hb, hE, k3⟩ | ⟨hno, _⟩
  rotate_left
  · rw [aw24_new] at hno; cases hno
  have H3 := Lib.hid hE; clear hb hE k3 K2 HN1 HBd; have HW := Lib.hid (er_Wants H3.out 0); have HBg := Lib.hid (er_Begin H3.out HML.out 5 (by decide) ok_ky24 (by decide) HA0.out ⟨by decide, by decide⟩); have hwa : (decide ((erNew ky24 cf24 tk0).state = 1) && decide ((erNew ky24 cf24 tk0).unt ≤ 0)) = true := by decide
  rw [hwa] at HW; have hk1 : (erNew ky24 cf24 tk0).key = ky24 := rfl; have hk2 : (erNew ky24 cf24 tk0).cfg.host = [117, 112] := rfl; have hk3 : (erNew ky24 cf24 tk0).known = tk0 := rfl; rw [hk1, hk2, hk3, HAS.out] at HBg; clear hwa hk1 hk2 hk3; go_wp2_with (first | (go_at_call 21; refine HW.out.mono ?_; rintro e w' ⟨rfl, rfl⟩) | fail); refine HBg.out.mono ?_; rintro e w4 ⟨rfl, rp, va, X, hE, _, _⟩; have H4 := Lib.hid hE; have HSt := Lib.hid (er_State H4.out); have hst2 : (erBegin (erNew ky24 cf24 tk0) 5).state = 2 := rfl; rw [hst2] at HSt; clear hE HBg HW H3 hst2; have HHr := Lib.hid (er_Hear H4.out HML.out aw24T false 6 ⟨by decide, by decide⟩ (by decide) HF.out aw24_C (by decide) (fun P hP => by cases hP; rfl)); go_wp2_with (first | (go_at_call 18; refine HSt.out.mono ?_; rintro e w' ⟨rfl, rfl⟩) | fail); refine HHr.out.mono ?_; rintro e w5 ⟨rfl, va5, X5, hE, _, _⟩; have H5 := Lib.hid hE; clear hE HHr H4 HSt hlen hsz hx4 t1 hsml; have HTk := Lib.hid (er_Take H5.out (by rw [FD.out]; decide) (by rw [FT.out]; decide)); rw [FD.out, FT.out] at HTk; go_wp2_with fail; refine HTk.out.mono ?_; rintro e w6 ⟨rfl, hE, _⟩; have H6 := Lib.hid hE; clear hE HTk H5; have HHr := Lib.hid (er_Hear H6.out HML.out [99] false 7 ⟨by decide, by decide⟩ (by decide) HG.out FC.out (by decide) FO.out); go_wp2_with fail; refine HHr.out.mono ?_; rintro e w7 ⟨rfl, va7, X7, hE, _, _⟩; have H7 := Lib.hid hE; clear hE HHr H6; have HTk := Lib.hid (er_Take H7.out (by rw [GD.out]; decide) (by rw [GT.out]; decide)); rw [GD.out, GT.out] at HTk; go_wp2_with fail; refine HTk.out.mono ?_; rintro e w8 ⟨rfl, hE, _⟩; have H8 := Lib.hid hE; clear hE HTk H7; have HRs := Lib.hid (er_Result H8.out); have hres : (erTook G).res = rs24 := GRES.out; rw [hres] at HRs; clear hres; go_wp2_with fail; refine HRs.out.mono ?_; rintro e w9 ⟨rfl, k9⟩; have H9 := Lib.hid (H8.out.keep0 k9); have M9 : Hid (MemK w9 [] w w9 []) := Lib.hid ⟨Mem.of H9.out.kp, Keep.refl _ _⟩; clear k9 HRs H8
  go_upto_region 12 with (first | ((with_reducible refine gA 9 ?_); refine wpList_allocK rfl 39 rfl (rs0.cells) (Lib.hid rs_zero) M9 ?_; intro c wa MA hnewc; try simp only [Act.put, sqA, sqB, sqC]) | ((with_reducible refine gS 9 67 ?_); refine wpList_storeK rfl 39 (.tmp 9) (.tmp 67) rfl MA 0 rfl (by rfl) (rs24.cells) (by rfl) (rs_size _) (by rw [Rs.len, Rs.len]) (Rs.one _) (fun hlt => absurd hnewc.out (by omega)) ?_; intro wb MB; try simp only [Act.put]) | fail)
  have H10 := Lib.hid (H9.out.keep0 MB.out.2); clear MA M9 H9
  go_wp2_with (first | ((with_reducible refine gB 69 ?_); refine wpList_buildM (by rfl) 25 _ rfl ([]) (by simp [Act.eval]) (ky0.cells) HBk ?_; try simp only [Act.put, sqA, sqB, sqC]) | fail); refine (HSm.out _).mono ?_; rintro e wc1 ⟨rfl, k1⟩; have K1 := Lib.hid k1; clear k1
  go_wp2_with (first | ((with_reducible refine gB 71 ?_); refine wpList_buildM (by rfl) 27 _ rfl ([]) (by simp [Act.eval]) (tk0.cells) HB0 ?_; try simp only [Act.put, sqA, sqB, sqC]) | fail); refine (HN2.out _ (H10.out.kp.trans K1.out)).mono ?_; rintro e wd hN; rcases hN with ⟨hno, _⟩ | ⟨_, rfl, k2⟩
  · rw [aw24_no] at hno; cases hno
  have MD := Lib.hid (MB.out.1.keep0 (K1.out.trans k2)); have H11 := Lib.hid (H10.out.keep0 (K1.out.trans k2)); clear k2 K1 MB H10 HN2 HSm; have HSt := Lib.hid (er_State H11.out); have HRu := Lib.hid (er_Reuse H11.out); have HTr := Lib.hid (er_Tries H11.out); have q1 : (erTook G).state = 3 := GS.out; have q2 : (erTook G).reuse = true := GR.out; have q3 : (erTook G).tries = 1 := GTR.out; rw [q1] at HSt; rw [q2] at HRu; rw [q3] at HTr; have heq := fun w' => eqRs rs24 rs24 good_rs24 good_rs24 w'
  rw [decide_eq_true rfl] at heq; have KF := Lib.hid MD.out.kp; clear q1 q2 q3
  go_wp2_with (first | (go_at_call 18; refine HSt.out.mono ?_; rintro e w' ⟨rfl, rfl⟩) | (go_at_call 42; refine HRu.out.mono ?_; rintro e w' ⟨rfl, rfl⟩) | (go_at_call 20; refine HTr.out.mono ?_; rintro e w' ⟨rfl, rfl⟩) | ((with_reducible refine gL 95 9 ?_); refine wpList_loadM (by rfl) 39 (.tmp 9) rfl MD 0 rfl (by rfl) _ Tryz.underlying39 rfl (rs_size _) ?_; try simp only [Act.put, sqA, sqB, sqC]) | ((with_reducible refine gB 96 ?_); refine wpList_buildM (by rfl) 23 _ rfl ([(0, .int .u8 1)]) (by simp [Act.eval]) (digC dig1) HB1 ?_; try simp only [Act.put, sqA, sqB, sqC]) | ((with_reducible refine gB 97 ?_); refine wpList_buildM (by rfl) 39 _ rfl ([(0, .int .i64 200), (1, .agg (digC dig1).toArray), (2, .string ⟨#[120, 47, 121]⟩), (3, .int .i64 3), (4, .int .i64 5)]) (by simp [Act.eval]) (rs24.cells) HBR ?_; try simp only [Act.put, sqA, sqB, sqC]) | fail); go_ret; exact ⟨rfl, KF.out⟩
set_option maxRecDepth 100000 in
set_option maxHeartbeats 2000000 in
theorem ref_laid (st : List UInt8) (va : Value) (L : List Fld) (w : World) (ha : Sl Fld.cells 2 w va L) (hg : L.length ≤ 32 → ∀ x ∈ L, x.name.length + x.value.length ≤ 1048576) (hst : st.length ≤ 1048576) :
    Calls Tryz.prog 89 #[.string (S st), va] w fun e w' => e = .returned (fin (laidS st L) (laidE st L)) ∧ Keep [] w w' := by
  obtain ⟨aa, ca, rfl, hal⟩ := ha.shape; have hal' : L.length ≤ 9223372036854775807 := hal; by_cases h32 : 32 < L.length
  · have h := laid_many (st := st) h32; have HX := Lib.hid h; clear h ha hg; go_enter Tryz.func89, Tryz.ntmps89; go_wp2_with fail; go_ret2; exact ⟨by rw [HX.out.1, HX.out.2]; rfl, Keep.refl _ _⟩
  · have hst2 : S st ++ ⟨#[13, 10]⟩ = S (st ++ [13, 10]) := S_append st [13, 10]; have hsz := S_size st; have HG := Lib.hid (hg (by omega)); have HA := Lib.hid ha; clear ha hg hal; go_enter Tryz.func89, Tryz.ntmps89; go_wp2_with fail; clear hst2
    go_loopg [6, 7] L.length (fun g si i wr => ∃ (k : Nat) (T : List UInt8), si = .string (S T) ∧ i = .int .i64 k ∧ k ≤ L.length ∧ g = L.length - k ∧ T.length ≤ 1048578 + k * 1048580 ∧ Hid (T = st ++ [13, 10] ++ bodyT (L.take k) ∧ (L.take k).all goodF = true) ∧ Hid (Keep [] w wr))
    case atStart => exact ⟨0, st ++ [13, 10], rfl, rfl, Nat.zero_le _, by omega, by simp; omega, Lib.hid ⟨by simp [bodyT], by simp⟩, Lib.hid (Keep.refl _ _)⟩
    case round =>
      obtain ⟨k, T, rfl, rfl, hk, hgk, hT, HE, HK⟩ := hrel; have sT := S_size T; by_cases hlt : k < L.length
      · obtain ⟨x, hx⟩ : ∃ x, L[k]? = some x := ⟨_, List.getElem?_eq_getElem hlt⟩
        have hxl := HG.out x (List.mem_of_getElem? hx); have har := HA.out.keep0 Fld.cells_length (by omega) HK.out; obtain ⟨ba, oa, ca', hva, _, hca, hcell⟩ := har.cell hx; cases hva; have hc0 := hcell 0 (by omega); have hc1 := hcell 1 (by omega); simp only [Fld.cells, List.getElem?_cons_zero, List.getElem?_cons_succ, Nat.add_zero] at hc0 hc1; have hca' : ca ≤ 9223372036854775807 := hca; have hh0 : (0 : Int) ≤ (k : Int) := by omega
        have hh1 : (k : Int) < (L.length : Int) := by omega
        have hkw := IntWalk.i64_in ((k : Int) + 1) (by omega); have HT := Lib.hid (fun w1 => ref_IsToken x.name w1 (show x.name.length ≤ 9223372036854775807 by omega)); have HTx := Lib.hid (fun w1 => ref_Text x.value w1 (show x.value.length ≤ 9223372036854775807 by omega)); have HTr := Lib.hid (fun w1 => ref_Trim x.value w1 (show x.value.length ≤ 9223372036854775807 by omega)); have HX := Lib.hid hx; have hkA := (Keep.refl [] wr).alloc (.cells #[.string (S x.name), .string (S x.value)] 89); have hbA : Blk (wr.alloc (.cells #[.string (S x.name), .string (S x.value)] 89)) wr.heap.size 89 x.cells := Blk.newA wr _ _; have hGd : goodF x = (isTok x.name && isTxt x.value && (trimW x.value == x.value)) := rfl; have sn := S_size x.name; have sv := S_size x.value; have c1 := S_append T x.name; have c2 : S (T ++ x.name) ++ (⟨#[58, 32]⟩ : ByteArray) = S (T ++ x.name ++ [58, 32]) := S_append _ [58, 32]; have c3 := S_append (T ++ x.name ++ [58, 32]) x.value; have c4 : S (T ++ x.name ++ [58, 32] ++ x.value) ++ (⟨#[13, 10]⟩ : ByteArray) = S (T ++ x.name ++ [58, 32] ++ x.value ++ [13, 10]) := S_append _ [13, 10]; have l1 : (T ++ x.name).length = T.length + x.name.length := by simp
        have l2 : (T ++ x.name ++ [58, 32]).length = T.length + x.name.length + 2 := by simp; omega
        have l3 : (T ++ x.name ++ [58, 32] ++ x.value).length = T.length + x.name.length + x.value.length + 2 := by simp; omega
        have l4 : (T ++ x.name ++ [58, 32] ++ x.value ++ [13, 10]).length = T.length + x.name.length + x.value.length + 4 := by simp; omega
        have e4 : T ++ x.name ++ [58, 32] ++ x.value ++ [13, 10] = T ++ (printF x ++ [13, 10]) := by simp [printF]
        have HCat := Lib.hid (And.intro c1 (And.intro c2 (And.intro c3 c4))); have HLen := Lib.hid (And.intro l1 (And.intro l2 (And.intro l3 l4))); have HE4 := Lib.hid e4; clear c1 c2 c3 c4 l1 l2 l3 l4 e4 hx hcell har hca
        go_upto_region 8 with fail
        generalize hwA : wr.alloc (.cells #[.string (S x.name), .string (S x.value)] 89) = wA at *; (try rw [hwA]); generalize hnb : wr.heap.size = nb at *; clear hwA hnb; have hA0 : ∀ n, (ext wA n).cell? ⟨nb, 0, none⟩ = some (.string (S x.name)) := fun n => ((ext_keep _ n).blk hbA (by simp)).get rfl
        have hA1 : ∀ n, (ext wA n).cell? ⟨nb, 1, none⟩ = some (.string (S x.value)) := fun n => ((ext_keep _ n).blk hbA (by simp)).get rfl
        have HBA := Lib.hid hbA; have HKA := Lib.hid (HK.out.trans hkA); clear hbA hkA hc0 hc1
        go_cut [41] (fun v wx => v = .bool (!goodF x) ∧ Hid (Keep [] wA wx))
        case first =>
          cases htk : isTok x.name with
          | false =>
            rw [htk] at HT hGd; have HGd := Lib.hid hGd; clear hGd htk; refine wp_region_ext_lit (by kernel_rfl) (by kernel_rfl) ?_
            repeat (go_big_quiet_step ((go_at_call 141; exact Calls.quiet_ext_same (HT.out _))))
            refine wpQuiet_nil ?_; intro _ hw'; obtain ⟨nq, hw''⟩ := hw'; subst hw''; go_wp2_with fail; go_meet; exact ⟨by rw [HGd.out]; rfl, Lib.hid (ext_keep _ nq)⟩
          | true =>
            rw [htk] at HT hGd
            cases htx : isTxt x.value with
            | false =>
              rw [htx] at HTx hGd; have HGd := Lib.hid hGd; clear hGd htk htx; refine wp_region_ext_lit (by kernel_rfl) (by kernel_rfl) ?_
              repeat (go_big_quiet_step (first | (go_at_call 141; exact Calls.quiet_ext_same (HT.out _)) | (go_at_call 142; exact Calls.quiet_ext_same (HTx.out _))))
              refine wpQuiet_nil ?_; intro _ hw'; obtain ⟨nq, hw''⟩ := hw'; subst hw''; go_wp2_with fail; go_meet; exact ⟨by rw [HGd.out]; rfl, Lib.hid (ext_keep _ nq)⟩
            | true =>
              rw [htx] at HTx hGd; have t1 := S_toList (trimW x.value); have t2 := S_toList x.value; have HGd := Lib.hid hGd; clear hGd htk htx; refine wp_region_ext_lit (by kernel_rfl) (by kernel_rfl) ?_
              repeat (go_big_quiet_step (first | (go_at_call 141; exact Calls.quiet_ext_same (HT.out _)) | (go_at_call 142; exact Calls.quiet_ext_same (HTx.out _)) | (go_at_call 143; exact Calls.quiet_ext_same (HTr.out _))))
              refine wpQuiet_nil ?_; intro _ hw'; obtain ⟨nq, hw''⟩ := hw'; subst hw''; go_wp2_with fail; go_meet; exact ⟨by rw [HGd.out]; rfl, Lib.hid (ext_keep _ nq)⟩
        case rest =>
          obtain ⟨rfl, HKx⟩ := hcut; have hb2 := HKx.out.blk HBA.out (by simp); have d0 := hb2.get (k := 0) rfl; have d1 := hb2.get (k := 1) rfl; have HK2 := Lib.hid (HKA.out.trans HKx.out); clear hb2 hGd HT HTx HTr hA0 hA1 HBA HKA HKx
          cases hgx : goodF x with
          | false =>
            have HF := Lib.hid (laid_bad (st := st) (List.mem_of_getElem? HX.out) hgx); clear hgx; go_wp2_with fail; go_ret2; exact ⟨by rw [HF.out.1, HF.out.2]; rfl, HK2.out⟩
          | true =>
            have HGX := Lib.hid hgx; clear hgx; obtain ⟨c1, c2, c3, c4⟩ := HCat.out; obtain ⟨l1, l2, l3, l4⟩ := HLen.out; have e4 := HE4.out; generalize T ++ x.name ++ [58, 32] ++ x.value ++ [13, 10] = x4 at *; generalize T ++ x.name ++ [58, 32] ++ x.value = x3 at *; generalize T ++ x.name ++ [58, 32] = x2 at *; generalize T ++ x.name = x1 at *; have s1 := S_size x1; have s2 := S_size x2; have s3 := S_size x3; have HE4 := Lib.hid e4; clear e4 HCat HLen; go_wp2_with fail
            go_roundg (L.length - (k + 1))
            case measure => omega
            case rel =>
              refine ⟨k + 1, x4, rfl, by go_num, by omega, rfl, by omega, Lib.hid ⟨?_, ?_⟩, HK2⟩
              · rw [HE4.out, body_take HX.out, HE.out.1]; simp
              · rw [show L.take (k + 1) = L.take k ++ [x] from by rw [List.take_add_one, HX.out]; rfl, List.all_append, HE.out.2]; simp [HGX.out]
      · have hkl : k = L.length := by omega
        have hE := HE.out; rw [hkl, List.take_length] at hE; have hhd : T ++ [13, 10] = headT st L := by unfold headT; rw [hE.1]
        have hlay := laid_good (st := st) (show L.length ≤ 32 by omega) hE.2; rw [← hhd] at hlay; have HL := Lib.hid hlay; have hT' : (T ++ [13, 10]).length ≤ 70000000 := by simp; omega
        have hca : S T ++ (⟨#[13, 10]⟩ : ByteArray) = S (T ++ [13, 10]) := S_append T [13, 10]; have hge : ¬ (k : Int) < (L.length : Int) := by omega
        clear hE hhd hlay HE; generalize T ++ [13, 10] = H at HL hT' hca; have sH := S_size H; by_cases h4 : H.length ≤ 4096
        · have h4' : decide (4096 < ((H.length : Nat) : Int)) = false := by simp; omega
          have hl := HL.out; rw [if_pos h4, if_pos h4] at hl; have HL := Lib.hid hl; clear hl h4 hkl; go_wp2_with fail; go_ret2; exact ⟨by rw [HL.out.1, HL.out.2]; rfl, HK.out⟩
        · have h4' : decide (4096 < ((H.length : Nat) : Int)) = true := by simp; omega
          have hl := HL.out; rw [if_neg h4, if_neg h4] at hl; have HL := Lib.hid hl; clear hl h4 hkl; go_wp2_with fail; go_ret2; exact ⟨by rw [HL.out.1, HL.out.2]; rfl, HK.out⟩
end Go.Proofs.YtlhnjkekjbbhcaaGreatDoor
