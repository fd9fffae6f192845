/- Parts of the proof of ErrandTries, in order. No conditions but those that each theorem states. -/
import Derived.Test.YtlhnjkekjbbhcaaGreatDoorYErrandTries0
import Derived.Lib.SlBytesConst
import Derived.Lib.LaidTab
import Derived.Lib.ItoaNum
import Derived.Lib.ItoaLen
import Derived.Sort.Grow
import Derived.DeepKeys4
import Derived.Deep.MidRow
import Derived.Test.YtlhnjkekjbbhcaaGreatDoorYErrandTries36
set_option linter.unusedSimpArgs false
set_option linter.unusedVariables false
namespace Go.Proofs.YtlhnjkekjbbhcaaGreatDoor
open Go.RowKit Go.Shelf
section
variable {w0 w w' : World} {b n : Nat} {rp va : Value} {X L : List Nat} {E E' : ErS}
theorem er_keyP (E : ErS) (rp va : Value) : ∀ j v, E.key.cells[j]? = some v → (E.cells rp va)[13 + j]? = some v := fun j v hv => by
  have hj := (List.getElem?_eq_some_iff.1 hv).1; rw [Ky.len] at hj; rw [er_key E rp va hj]; exact hv
theorem er_knownP (E : ErS) (rp va : Value) : ∀ j v, E.known.cells[j]? = some v → (E.cells rp va)[62 + j]? = some v := fun j v hv => by
  have hj := (List.getElem?_eq_some_iff.1 hv).1; rw [Tk.len] at hj; rw [er_known E rp va hj]; exact hv
theorem Et.newHead {a : Ans} {va2 : Value} (h : Et w0 w b rp va X E n L) (k : Keep [b] w w') (hB : Blk w' b 106 (E'.cells rp va2)) (hr : E'.rep = E.rep) (hh : E'.head.F = a.F) (ho : Own Fld.cells 2 w0.heap.size 89 w va2 a.F) (ha : smallA a) (hg : ∀ g, va2.ownBlock = some g → g ≠ b ∧ g ∉ X ∧ g ∉ L) : Et w0 w' b rp va2 X E' n L := by
  have hx := h.xlt; refine ⟨hB, ?_, ?_, ?_, h.kp.above k (by simpa using h.lo), h.lo, fun hh => (hg b hh).1 rfl, fun l hl => ⟨(h.ap l hl).1, fun hh => (hg l hh).2.2 hl, Nat.lt_of_lt_of_le (h.ap l hl).2.2 k.size⟩⟩
  · have hr' := h.rep; rw [hr]
    cases hP : E.rep with
    | none => rw [hP] at hr'; exact hr'
    | some P =>
      obtain ⟨p, hp, hR⟩ := h.reply hP; have hR2 := (hR.keep k (by simpa using h.lo) (fun x hx' => by simpa using (hx x hx').2.1))
      refine ⟨p, hp, hR2.re, hR2.ok, hR2.kp, fun l hl => ?_⟩; rcases List.mem_cons.1 hl with rfl | hl
      · exact hR2.ap _ (by simp)
      · rcases List.mem_append.1 hl with hl | hl
        · have hl2 : va2.ownBlock = some l := by simpa using hl
          exact ⟨(hg l hl2).2.1, Nat.lt_of_lt_of_le (ho.lt l hl2).2 k.size⟩
        · exact hR2.ap _ (by simp [hl])
  · rw [hh]; exact ho.keep k (fun g hg' => by simpa using (hg g hg').1)
  · rw [hh]; exact ha
theorem head_body {E : ErS} {P : ReS} {a : Ans} {now : Int} (hP : E.rep = some P) (h : judgeV E.key a = 3) : erHead E P a now = { E with head := a, body := true } := by
  unfold erHead; rw [if_pos h, ← hP]
theorem head_again {E : ErS} {P : ReS} {a : Ans} {now : Int} (hP : E.rep = some P) (h : judgeV E.key a = 2) : erHead E P a now = erMiss { E with head := a, heard := E.heard + 1 } 502 now := by
  have h3 : ¬ judgeV E.key a = 3 := by omega
  unfold erHead; rw [if_neg h3, if_pos h, ← hP]
theorem head_yes {E : ErS} {P : ReS} {a : Ans} {now : Int} (h3 : judgeV E.key a ≠ 3) (h2 : judgeV E.key a ≠ 2) (hb : noBody a.st (decide (E.key.kind ≠ 2)) = true) : erHead E P a now = erFin { E with rep := some (nextR P).p, head := a, heard := E.heard + 1, reuse := erClean { E with head := a } P } (judgeR E.key E.known a E.began) := by
  unfold erHead; rw [if_neg h3, if_neg h2, if_pos hb]
theorem head_no {E : ErS} {P : ReS} {a : Ans} {now : Int} (hP : E.rep = some P) (h3 : judgeV E.key a ≠ 3) (h2 : judgeV E.key a ≠ 2) (hb : noBody a.st (decide (E.key.kind ≠ 2)) = false) : erHead E P a now = erFin { E with head := a, heard := E.heard + 1, reuse := false } (judgeR E.key E.known a E.began) := by
  unfold erHead; rw [if_neg h3, if_neg h2, if_neg (by rw [hb]; simp), ← hP]
def EtTook (w0 w : World) (b : Nat) (rp va : Value) (X : List Nat) (E' : ErS) (n : Nat) (L : List Nat) (w' : World) : Prop := ∃ X', Et w0 w' b rp va X' E' n L ∧ Keep (b :: X) w w' ∧ ∀ x ∈ X', x ∈ X ∨ w.heap.size ≤ x
set_option maxRecDepth 100000 in
set_option maxHeartbeats 6400000 in
theorem er_headed (h : Et w0 w b rp va X E n L) (hm : ML w0) (hn : n ≤ 400000) {P : ReS} (hP : E.rep = some P) (a : Ans) {sa : Option Addr} {sl sc : Nat} (ho : Own Fld.cells 2 w0.heap.size 89 w (.slice sa sl sc) a.F) (ha : smallA a) (hg : ∀ g, (Value.slice sa sl sc).ownBlock = some g → g ≠ b ∧ g ∉ X ∧ g ∉ L) (now : Int) (hs : smallE E now) (hh : 0 ≤ E.heard ∧ E.heard ≤ 1152921504606846976) :
    Calls Tryz.prog 103 #[.pointer (some ⟨b, 0, Option.none⟩), .agg (ansC a.st (.slice sa sl sc) a.len a.ch a.cl).toArray, .int .i64 now] w fun e w' => e = .returned (.tuple #[]) ∧ EtTook w0 w b rp (.slice sa sl sc) X (erHead E P a now) n L w' := by
  have M0 : Hid (MemK w [b] w0 w [(b, 106, E.cells rp va)]) := Lib.hid (MemK.of h.mem.1 [b]); have HNH := Lib.hid (fun (E' : ErS) w' (k : Keep [b] w w') (hB : Blk w' b 106 (E'.cells rp (.slice sa sl sc))) (hr : E'.rep = E.rep) (hh : E'.head = a) => h.newHead (E' := E') k hB hr (by rw [hh]) ho ha hg); have HO := Lib.hid (ansC_one a.st (v := .slice sa sl sc) a.len a.ch a.cl rfl); have HML := Lib.hid hm; have HP := Lib.hid hP; have HSM := Lib.hid hs; have HXL := Lib.hid h.xlt; have HBS := Lib.hid h.base; have HXX : Hid (∀ x ∈ X, x ∈ X ∨ w.heap.size ≤ x) := Lib.hid (fun x hx => .inl hx); obtain ⟨p, hrp, _⟩ := h.reply hP; have HRP := Lib.hid hrp; have hac0 : (ansC a.st (.slice sa sl sc) a.len a.ch a.cl)[0]? = some (.int .i64 a.st) := rfl; have HA0 := Lib.hid hac0; obtain ⟨va2, hva2⟩ : ∃ z, Value.slice sa sl sc = z := ⟨_, rfl⟩
  rw [hva2] at HNH HO HA0 ⊢; clear h hm hP hs ho ha hg hrp hac0 hva2; go_enter Tryz.func103, Tryz.ntmps103
  go_upto_region 2 with (first | ((with_reducible refine gX 4 ?_); refine wpList_boxK rfl 30 (.tmp 1) rfl (ansC a.st va2 a.len a.ch a.cl) (by rfl) M0 ?_; intro c w1 M1 hnewc; try simp only [Act.put, sqA, sqB, sqC]) | ((with_reducible refine gL 9 4 ?_); refine wpList_loadK (by rfl) 30 (.tmp 4) rfl M1 0 rfl (by rfl) _ Tryz.underlying30 rfl (an_size _ _ _ _ _) ?_; try simp only [Act.put, sqA, sqB, sqC]) | ((with_reducible refine gS 12 9 ?_); refine wpList_storePartK rfl 30 (.tmp 12) (.tmp 9) rfl M1 1 rfl 3 (by rfl) (ansC a.st va2 a.len a.ch a.cl) (by rfl) (an_size _ _ _ _ _) (ErS.pre3 E rp) (ansC E.head.st va E.head.len E.head.ch E.head.cl) (E.post8) (p_head E rp va) rfl rfl HO.out (fun _ => by simp) ?_; intro w2 M2; have hR := M2.out; simp only [sqC, sqB, p_head' E rp va2 a] at hR; clear M2; have M2 := Lib.hid hR; clear hR; try simp only [Act.put]) | fail)
  have M2' : Hid (MemK w [b] w0 w2 [(c, 30, ansC a.st va2 a.len a.ch a.cl), (b, 106, ({ E with head := a } : ErS).cells rp va2)]) := M2; clear M2 M1; have HJ := Lib.hid (fun w' (m : MemK w [b] w0 w' [(c, 30, ansC a.st va2 a.len a.ch a.cl), (b, 106, ({ E with head := a } : ErS).cells rp va2)]) => errand_Judge E.key E.known a va2 E.began w' (HML.out.keep m.1.kp (by simp)) (HNH.out ({ E with head := a } : ErS) w' m.2 (m.1.blk 1 rfl) rfl rfl).an); unfold judgeO at HJ; obtain ⟨jv, hjv⟩ : ∃ z, judgeV E.key a = z := ⟨_, rfl⟩
  obtain ⟨jr, hjr⟩ : ∃ z, judgeR E.key E.known a E.began = z := ⟨_, rfl⟩
  rw [hjv, hjr] at HJ; have HJV := Lib.hid hjv; have HJR := Lib.hid hjr; clear hjv hjr
  go_cut [6, 7] (fun v6 v7 wx => v6 = .int .i64 jv ∧ ∃ d, v7 = .pointer (some ⟨d, 0, Option.none⟩) ∧ Hid (w.heap.size ≤ d) ∧ Hid (MemK w [b] w0 wx ((d, 39, jr.cells) :: [(c, 30, ansC a.st va2 a.len a.ch a.cl), (b, 106, ({ E with head := a } : ErS).cells rp va2)])))
  case first =>
    refine wp_region_noPanic ?_; refine wp_region_held_drew (S := fun w' => MemK w [b] w0 w' [(c, 30, ansC a.st va2 a.len a.ch a.cl), (b, 106, ({ E with head := a } : ErS).cells rp va2)]) (by kernel_rfl) ((Lib.hid (M2'.out.keep0 ((Keep.refl _ _).drew))).out) (fun hHeld => ?_); have M2'd := Lib.hid (M2'.out.keep0 ((Keep.refl _ _).drew)); refine gU 0 (oi := ⟨some 14, .move (.tmp 0), _, _, _, none⟩) (v := ?_) rfl (Or.inl ⟨by rfl, ?_⟩) (by assumption) ?_; rotate_left
    · (intro w' hSw; go_simp) <;> (with_reducible rfl)
    (try simp only [Act.put, sqA, sqC, sqB]); refine gU 1 (oi := ⟨some 15, .nilCheck (.tmp 14), _, _, _, none⟩) (v := ?_) rfl (Or.inl ⟨by rfl, ?_⟩) (by assumption) ?_; rotate_left
    · (intro w' hSw; go_simp) <;> (with_reducible rfl)
    (try simp only [Act.put, sqA, sqC, sqB]); refine gU 2 (oi := ⟨some 16, .fieldAddr _ (.tmp 15) 1, _, _, _, none⟩) (v := ?_) rfl (Or.inl ⟨by rfl, ?_⟩) (by assumption) ?_; rotate_left
    · (intro w' hSw; go_simp) <;> (with_reducible rfl)
    (try simp only [Act.put, sqA, sqC, sqB]); refine gU 3 (oi := ⟨some 17, .load _ (.tmp 16), _, _, _, none⟩) rfl (yieldsIf_load_mid (by rfl) 25 (.tmp 16) rfl _ 13 (by rfl) (E.key.cells) _ (fun w' hSw => fun j v hj => MemK.get (hSw) 1 rfl (13 + j) (((er_keyP _ _ _)) j v hj)) Tryz.underlying25 rfl (ky_size E.key)) (by assumption) ?_; (try simp only [Act.put, sqA, sqC, sqB]); refine gU 4 (oi := ⟨some 18, .move (.tmp 0), _, _, _, none⟩) (v := ?_) rfl (Or.inl ⟨by rfl, ?_⟩) (by assumption) ?_; rotate_left
    · (intro w' hSw; go_simp) <;> (with_reducible rfl)
    (try simp only [Act.put, sqA, sqC, sqB]); refine gU 5 (oi := ⟨some 19, .nilCheck (.tmp 18), _, _, _, none⟩) (v := ?_) rfl (Or.inl ⟨by rfl, ?_⟩) (by assumption) ?_; rotate_left
    · (intro w' hSw; go_simp) <;> (with_reducible rfl)
    (try simp only [Act.put, sqA, sqC, sqB]); refine gU 6 (oi := ⟨some 20, .fieldAddr _ (.tmp 19) 3, _, _, _, none⟩) (v := ?_) rfl (Or.inl ⟨by rfl, ?_⟩) (by assumption) ?_; rotate_left
    · (intro w' hSw; go_simp) <;> (with_reducible rfl)
    (try simp only [Act.put, sqA, sqC, sqB]); refine gU 7 (oi := ⟨some 21, .load _ (.tmp 20), _, _, _, none⟩) rfl (yieldsIf_load_mid (by rfl) 27 (.tmp 20) rfl _ 62 (by rfl) (E.known.cells) _ (fun w' hSw => fun j v hj => MemK.get (hSw) 1 rfl (62 + j) (((er_knownP _ _ _)) j v hj)) Tryz.underlying27 rfl (tk_size E.known)) (by assumption) ?_; (try simp only [Act.put, sqA, sqC, sqB]); refine gU 8 (oi := ⟨some 22, .load _ (.tmp 4), _, _, _, none⟩) rfl (yieldsIf_load_mid (by rfl) 30 (.tmp 4) rfl _ 0 (by rfl) (ansC a.st va2 a.len a.ch a.cl) _ (fun w' hSw => ((hSw).1.blk 0 (by rfl)).range') Tryz.underlying30 rfl (an_size _ _ _ _ _)) (by assumption) ?_; (try simp only [Act.put, sqA, sqC, sqB]); refine gU 9 (oi := ⟨some 23, .move (.tmp 0), _, _, _, none⟩) (v := ?_) rfl (Or.inl ⟨by rfl, ?_⟩) (by assumption) ?_; rotate_left
    · (intro w' hSw; go_simp) <;> (with_reducible rfl)
    (try simp only [Act.put, sqA, sqC, sqB]); refine gU 10 (oi := ⟨some 24, .nilCheck (.tmp 23), _, _, _, none⟩) (v := ?_) rfl (Or.inl ⟨by rfl, ?_⟩) (by assumption) ?_; rotate_left
    · (intro w' hSw; go_simp) <;> (with_reducible rfl)
    (try simp only [Act.put, sqA, sqC, sqB]); refine gU 11 (oi := ⟨some 25, .fieldAddr _ (.tmp 24) 0, _, _, _, none⟩) (v := ?_) rfl (Or.inl ⟨by rfl, ?_⟩) (by assumption) ?_; rotate_left
    · (intro w' hSw; go_simp) <;> (with_reducible rfl)
    (try simp only [Act.put, sqA, sqC, sqB]); refine gU 12 (oi := ⟨some 26, .fieldAddr _ (.tmp 25) 1, _, _, _, none⟩) (v := ?_) rfl (Or.inl ⟨by rfl, ?_⟩) (by assumption) ?_; rotate_left
    · (intro w' hSw; go_simp) <;> (with_reducible rfl)
    (try simp only [Act.put, sqA, sqC, sqB]); refine gU 13 (oi := ⟨some 27, .load _ (.tmp 26), _, _, _, none⟩) (v := ?_) rfl (Or.inl ⟨by rfl, ?_⟩) (by assumption) ?_; rotate_left
    · (intro w' hSw; have hy1 : w'.cell? ⟨b, 1, Option.none⟩ = some (.int .i64 E.began) := hSw.get 1 rfl 1 (g_began _ _ _); clear hSw; go_simp) <;> (with_reducible rfl)
    (try simp only [Act.put, sqA, sqC, sqB]); refine wpAnyH_ready (rs := [14, 18]) (by kernel_rfl) (by simp) (AllReadyH.cons rfl (fun K hK => ?_) (AllReadyH.cons rfl (fun K hK => ?_) AllReadyH.nil))
    · go_simp; refine (HJ.out _ M2'd.out).mono ?_; rintro e wr1 ⟨rfl, kR⟩; have MR1 := Lib.hid (M2'd.out.keep0 kR); clear kR; (try go_simp); refine hK.out _ _ (MR1.out) (fun hHeld => ?_); clear hK K; (try simp only [Act.put, sqA, sqC, sqB]); refine gU 15 (oi := ⟨some 13, .move (.tmp 28), _, _, _, none⟩) (v := ?_) rfl (Or.inl ⟨by rfl, ?_⟩) (by assumption) ?_; rotate_left
      · (intro w' hSw; go_simp) <;> (with_reducible rfl)
      (try simp only [Act.put, sqA, sqC, sqB]); refine gU 16 (oi := ⟨some 29, _, _, _, _, none⟩) (v := ?_) rfl (Or.inl ⟨by rfl, ?_⟩) (by assumption) ?_; rotate_left
      · (intro w' hSw; go_simp) <;> (with_reducible rfl)
      (try simp only [Act.put, sqA, sqC, sqB]); refine gU 17 (oi := ⟨some 30, _, _, _, _, none⟩) (v := ?_) rfl (Or.inl ⟨by rfl, ?_⟩) (by assumption) ?_; rotate_left
      · (intro w' hSw; go_simp) <;> (with_reducible rfl)
      (try simp only [Act.put, sqA, sqC, sqB]); refine gR 18 rfl (fun K hK => ?_); rw [if_pos (by rfl)]; refine wp_allocK 39 rfl (rs0.cells) (Lib.hid rs_zero) MR1 ?_; intro d2 wr2 MR2 hnewd2; refine hK.out _ _ ((MemK.tail MR2.out)) (fun hHeld => ?_); clear hK K; (try simp only [Act.put, sqA]); refine gU 19 (oi := ⟨some 6, .assign (.tmp 29), _, _, _, none⟩) (v := ?_) rfl (Or.inl ⟨by rfl, ?_⟩) (by assumption) ?_; rotate_left
      · (intro w' hSw; go_simp) <;> (with_reducible rfl)
      (try simp only [Act.put]); refine gR 20 rfl (fun K hK => ?_); rw [if_pos (by rfl)]; refine wp_storeK 39 (.tmp 7) _ rfl MR2 0 rfl (by rfl) (jr.cells) (by rfl) (rs_size jr) (by rw [Rs.len, Rs.len]) (Rs.one jr) (fun hlt => absurd (hnewd2).out (by omega)) ?_; intro wr3 MR3; have hR := MR3.out; simp only [sqC] at hR; clear MR3; have MR3 := Lib.hid hR; clear hR; refine hK.out _ _ ((MemK.tail MR3.out)) (fun hHeld => ?_); clear hK K; (try simp only [Act.put]); refine wpAnyH_done (by kernel_rfl) ?_ _; refine NoPanic.normal ?_; go_simp; go_wp2_with fail; go_meet; exact ⟨rfl, d2, rfl, hnewd2, MR3⟩
    · rw [if_pos (by rfl)]; refine wp_allocK 39 rfl (rs0.cells) (Lib.hid rs_zero) M2'd ?_; intro d4 wr4 MR4 hnewd4; refine hK.out _ _ ((MemK.tail MR4.out)) (fun hHeld => ?_); clear hK K; (try simp only [Act.put, sqA]); refine gR 14 rfl (fun K hK => ?_); go_simp; refine (HJ.out _ (MemK.tail MR4.out)).mono ?_; rintro e wr5 ⟨rfl, kR⟩; have MR5 := Lib.hid (MR4.out.keep0 kR); clear kR; (try go_simp); refine hK.out _ _ ((MemK.tail MR5.out)) (fun hHeld => ?_); clear hK K; (try simp only [Act.put, sqA, sqC, sqB]); refine gU 15 (oi := ⟨some 13, .move (.tmp 28), _, _, _, none⟩) (v := ?_) rfl (Or.inl ⟨by rfl, ?_⟩) (by assumption) ?_; rotate_left
      · (intro w' hSw; go_simp) <;> (with_reducible rfl)
      (try simp only [Act.put, sqA, sqC, sqB]); refine gU 16 (oi := ⟨some 29, _, _, _, _, none⟩) (v := ?_) rfl (Or.inl ⟨by rfl, ?_⟩) (by assumption) ?_; rotate_left
      · (intro w' hSw; go_simp) <;> (with_reducible rfl)
      (try simp only [Act.put, sqA, sqC, sqB]); refine gU 17 (oi := ⟨some 30, _, _, _, _, none⟩) (v := ?_) rfl (Or.inl ⟨by rfl, ?_⟩) (by assumption) ?_; rotate_left
      · (intro w' hSw; go_simp) <;> (with_reducible rfl)
      (try simp only [Act.put, sqA, sqC, sqB]); refine gU 19 (oi := ⟨some 6, .assign (.tmp 29), _, _, _, none⟩) (v := ?_) rfl (Or.inl ⟨by rfl, ?_⟩) (by assumption) ?_; rotate_left
      · (intro w' hSw; go_simp) <;> (with_reducible rfl)
      (try simp only [Act.put, sqA, sqC, sqB]); refine gR 20 rfl (fun K hK => ?_); rw [if_pos (by rfl)]; refine wp_storeK 39 (.tmp 7) _ rfl MR5 0 rfl (by rfl) (jr.cells) (by rfl) (rs_size jr) (by rw [Rs.len, Rs.len]) (Rs.one jr) (fun hlt => absurd (hnewd4).out (by omega)) ?_; intro wr6 MR6; have hR := MR6.out; simp only [sqC] at hR; clear MR6; have MR6 := Lib.hid hR; clear hR; refine hK.out _ _ ((MemK.tail MR6.out)) (fun hHeld => ?_); clear hK K; (try simp only [Act.put, sqA]); refine wpAnyH_done (by kernel_rfl) ?_ _; refine NoPanic.normal ?_; go_simp; go_wp2_with fail; go_meet; exact ⟨rfl, d4, rfl, hnewd4, MR6⟩
  obtain ⟨rfl, d, rfl, hnewd, M3⟩ := hcut; clear HJ M2'; by_cases hj3 : jv = 3
  · have HR := Lib.hid (head_body (now := now) HP.out (HJV.out.trans hj3)); have e1 := (int_eq hj3).1; clear hj3
    go_wp2_with (first | ((with_reducible refine gT 64 ?_); refine wpList_store1K rfl 4 (.tmp 64) _ rfl M3 2 rfl 8 (by rfl) (.bool true) (by rfl) rfl rfl (by kernel_rfl) (by rw [ErS.len]; omega) (fun _ => by simp) ?_; intro w4 M4; have hR := M4.out; simp only [sqC, sqB, s_body] at hR; clear M4; have M4 := Lib.hid hR; clear hR; try simp only [Act.put]) | fail)
    first | go_end0 | refine bodyPost_ret (results_none rfl _ _ _) rfl ?_
    rw [HR.out]; exact ⟨rfl, X, HNH.out _ _ M4.out.2 (M4.out.1.blk 2 rfl) rfl rfl, M4.out.2.mono (by simp), HXX.out⟩
  by_cases hj2 : jv = 2
  · have HR := Lib.hid (head_again (now := now) HP.out (HJV.out.trans hj2)); have e1 := (int_ne hj3).1; have e2 := (int_eq hj2).1; have c141 := M3.out.get 2 rfl 141 (g_heard _ _ _); clear hj3 hj2
    go_wp2_with (first | ((with_reducible refine gT 73 ?_); refine wpList_store1K rfl 3 (.tmp 73) _ rfl M3 2 rfl 141 (by rfl) (.int .i64 (E.heard + 1)) (by rfl) rfl rfl (by kernel_rfl) (by rw [ErS.len]; omega) (fun _ => by simp) ?_; intro w4 M4; have hR := M4.out; simp only [sqC, sqB, s_heard] at hR; clear M4; have M4 := Lib.hid hR; clear hR; clear c141; try simp only [Act.put]) | fail); refine (er_miss (HNH.out _ _ M4.out.2 (M4.out.1.blk 2 rfl) rfl rfl) 502 now HSM.out).mono ?_; rintro e w5 ⟨rfl, h5, k5⟩; have H5 := Lib.hid h5; have K5 := Lib.hid (M4.out.2.trans k5); clear h5 k5; go_wp2_with fail
    first | go_end0 | refine bodyPost_ret (results_none rfl _ _ _) rfl ?_
    rw [HR.out]; exact ⟨rfl, X, H5.out, K5.out.mono (by simp), HXX.out⟩
  have e1 := (int_ne hj3).1; have e2 := (int_ne hj2).1; have c141 := M3.out.get 2 rfl 141 (g_heard _ _ _); obtain ⟨nb, hnb⟩ : ∃ z, noBody a.st (decide (E.key.kind ≠ 2)) = z := ⟨_, rfl⟩
  have HH3 := Lib.hid (show judgeV E.key a ≠ 3 by rw [HJV.out]; exact hj3); have HH2 := Lib.hid (show judgeV E.key a ≠ 2 by rw [HJV.out]; exact hj2); have HNB := Lib.hid hnb; obtain ⟨kb, hkb⟩ : ∃ z, decide (E.key.kind ≠ 2) = z := ⟨_, rfl⟩
  have ek : (E.key.kind != 2) = kb := by rw [← hkb]; by_cases hk : E.key.kind = 2 <;> simp [hk]
  have hBl := fun w' => (show Calls Tryz.prog 154 #[.int .i64 a.st, .bool (decide (E.key.kind ≠ 2))] w' fun e w'' => e = .returned (.bool (noBody a.st (decide (E.key.kind ≠ 2)))) ∧ w'' = w' from outlet_Bodyless a.st _ w')
  rw [hnb, hkb] at hBl; have HBl := Lib.hid hBl; clear hBl hkb; clear hj3 hj2 hnb
  go_upto_region 5 with (first | ((with_reducible refine gT 38 ?_); refine wpList_store1K rfl 3 (.tmp 38) _ rfl M3 2 rfl 141 (by rfl) (.int .i64 (E.heard + 1)) (by rfl) rfl rfl (by kernel_rfl) (by rw [ErS.len]; omega) (fun _ => by simp) ?_; intro w4 M4; have hR := M4.out; simp only [sqC, sqB, s_heard] at hR; clear M4; have M4 := Lib.hid hR; clear hR; clear c141; try simp only [Act.put]) | fail)
  have M4' : Hid (MemK w [b] w0 w4 [(d, 39, jr.cells), (c, 30, ansC a.st va2 a.len a.ch a.cl), (b, 106, ({ E with head := a, heard := E.heard + 1 } : ErS).cells rp va2)]) := M4; clear M4; have H4 := Lib.hid (fun w' (m : MemK w [b] w0 w' [(d, 39, jr.cells), (c, 30, ansC a.st va2 a.len a.ch a.cl), (b, 106, ({ E with head := a, heard := E.heard + 1 } : ErS).cells rp va2)]) => HNH.out _ _ m.2 (m.1.blk 2 rfl) rfl rfl)
  cases nb with
  | true =>
    have HR := Lib.hid (head_yes (P := P) (now := now) HH3.out HH2.out HNB.out); rw [HJR.out] at HR; refine wp_region_noPanic ?_; refine wp_region_held_drew (S := fun w' => w'.cell? ⟨c, 0, Option.none⟩ = some (.int .i64 a.st) ∧ w'.cell? ⟨b, 13, Option.none⟩ = some (.int .i64 E.key.kind)) (by kernel_rfl) (⟨(Lib.hid (M4'.out.keep0 ((Keep.refl _ _).drew))).out.get 1 rfl 0 HA0.out, (Lib.hid (M4'.out.keep0 ((Keep.refl _ _).drew))).out.get 2 rfl 13 (g_kind _ _ _)⟩) (fun hHeld => ?_); have M4'd := Lib.hid (M4'.out.keep0 ((Keep.refl _ _).drew)); refine gU 0 (oi := ⟨some 39, .move (.tmp 0), _, _, _, none⟩) (v := ?_) rfl (Or.inl ⟨by rfl, ?_⟩) (by assumption) ?_; rotate_left
    · (intro w' hSw; go_simp) <;> (with_reducible rfl)
    (try simp only [Act.put, sqA, sqC, sqB]); refine gU 1 (oi := ⟨some 40, .fieldAddr _ (.tmp 4) 0, _, _, _, none⟩) (v := ?_) rfl (Or.inl ⟨by rfl, ?_⟩) (by assumption) ?_; rotate_left
    · (intro w' hSw; go_simp) <;> (with_reducible rfl)
    (try simp only [Act.put, sqA, sqC, sqB]); refine gU 2 (oi := ⟨some 41, .load _ (.tmp 40), _, _, _, none⟩) (v := ?_) rfl (Or.inl ⟨by rfl, ?_⟩) (by assumption) ?_; rotate_left
    · (intro w' hSw; obtain ⟨hyc, hyb⟩ := hSw; go_simp) <;> (with_reducible rfl)
    (try simp only [Act.put, sqA, sqC, sqB]); refine gU 3 (oi := ⟨some 42, .move (.tmp 0), _, _, _, none⟩) (v := ?_) rfl (Or.inl ⟨by rfl, ?_⟩) (by assumption) ?_; rotate_left
    · (intro w' hSw; go_simp) <;> (with_reducible rfl)
    (try simp only [Act.put, sqA, sqC, sqB]); refine gU 4 (oi := ⟨some 43, .nilCheck (.tmp 42), _, _, _, none⟩) (v := ?_) rfl (Or.inl ⟨by rfl, ?_⟩) (by assumption) ?_; rotate_left
    · (intro w' hSw; go_simp) <;> (with_reducible rfl)
    (try simp only [Act.put, sqA, sqC, sqB]); refine gU 5 (oi := ⟨some 44, .fieldAddr _ (.tmp 43) 1, _, _, _, none⟩) (v := ?_) rfl (Or.inl ⟨by rfl, ?_⟩) (by assumption) ?_; rotate_left
    · (intro w' hSw; go_simp) <;> (with_reducible rfl)
    (try simp only [Act.put, sqA, sqC, sqB]); refine gU 6 (oi := ⟨some 45, .fieldAddr _ (.tmp 44) 0, _, _, _, none⟩) (v := ?_) rfl (Or.inl ⟨by rfl, ?_⟩) (by assumption) ?_; rotate_left
    · (intro w' hSw; go_simp) <;> (with_reducible rfl)
    (try simp only [Act.put, sqA, sqC, sqB]); refine gU 7 (oi := ⟨some 46, .load _ (.tmp 45), _, _, _, none⟩) (v := ?_) rfl (Or.inl ⟨by rfl, ?_⟩) (by assumption) ?_; rotate_left
    · (intro w' hSw; obtain ⟨hyc, hyb⟩ := hSw; go_simp) <;> (with_reducible rfl)
    (try simp only [Act.put, sqA, sqC, sqB]); refine gU 8 (oi := ⟨some 47, .binOp _ _ _ _ _, _, _, _, none⟩) (v := ?_) rfl (Or.inl ⟨by rfl, ?_⟩) (by assumption) ?_; rotate_left
    · (intro w' hSw; go_simp) <;> (with_reducible rfl)
    (try simp only [Act.put, sqA, sqC, sqB]); refine gR 9 rfl (fun K hK => ?_); go_simp; refine (HBl.out _).mono ?_; rintro e wr1 ⟨rfl, rfl⟩; have MR1 := M4'd; (try go_simp); refine hK.out _ _ (⟨MR1.out.get 1 rfl 0 HA0.out, MR1.out.get 2 rfl 13 (g_kind _ _ _)⟩) (fun hHeld => ?_); clear hK K; (try simp only [Act.put, sqA, sqC, sqB]); refine gU 10 (oi := ⟨some 49, .move (.tmp 48), _, _, _, none⟩) (v := ?_) rfl (Or.inl ⟨by rfl, ?_⟩) (by assumption) ?_; rotate_left
    · (intro w' hSw; go_simp) <;> (with_reducible rfl)
    (try simp only [Act.put, sqA, sqC, sqB]); refine gU 11 (oi := ⟨some 50, .move (.tmp 0), _, _, _, some (10, true)⟩) (v := ?_) rfl (Or.inl ⟨by rfl, ?_⟩) (by assumption) ?_; rotate_left
    · (intro w' hSw; go_simp) <;> (with_reducible rfl)
    (try simp only [Act.put, sqA, sqC, sqB]); refine gR 12 rfl (fun K hK => ?_); go_simp; refine (er_isClean (H4.out _ MR1.out) HML.out hn HP.out).mono ?_; rintro e wr2 ⟨rfl, hX⟩; obtain ⟨X', hE, kX, hsub⟩ := hX; have HE := Lib.hid hE; have HS := Lib.hid hsub; have KA := Lib.hid ((MR1.out.2.mono (S' := b :: X) (by simp)).trans' kX (fun x hx _ => List.mem_cons_of_mem _ hx)); have MR2 : Hid (MemK wr2 [b] w0 wr2 [(d, 39, jr.cells), (c, 30, ansC a.st va2 a.len a.ch a.cl), (b, 106, ({ E with head := a, heard := E.heard + 1 } : ErS).cells rp va2)]) := Lib.hid ⟨MR1.out.1.keep kX (fun x hx => ⟨HBS.out x (List.mem_cons_of_mem _ hx), fun y hy => by have hh := HXL.out x hx; have hd := hnewd.out; have hc := hnewc.out; simp only [List.mem_cons, List.not_mem_nil, or_false] at hy; rcases hy with rfl | rfl | rfl <;> simp only <;> first | exact hh.2.1.symm | (have h1 := hh.1; omega)⟩), Keep.refl _ _⟩; clear hE kX hsub; (try go_simp); refine hK.out _ _ (⟨MR2.out.get 1 rfl 0 HA0.out, MR2.out.get 2 rfl 13 (g_kind _ _ _)⟩) (fun hHeld => ?_); clear hK K; (try simp only [Act.put, sqA, sqC, sqB]); refine gU 13 (oi := ⟨some 52, .pick _ _ _, _, _, _, none⟩) (v := ?_) rfl (Or.inl ⟨by rfl, ?_⟩) (by assumption) ?_; rotate_left
    · (intro w' hSw; go_simp) <;> (with_reducible rfl)
    (try simp only [Act.put, sqA, sqC, sqB]); refine gU 14 (oi := ⟨some 53, .nilCheck (.tmp 39), _, _, _, none⟩) (v := ?_) rfl (Or.inl ⟨by rfl, ?_⟩) (by assumption) ?_; rotate_left
    · (intro w' hSw; go_simp) <;> (with_reducible rfl)
    (try simp only [Act.put, sqA, sqC, sqB]); refine gU 15 (oi := ⟨some 54, .fieldAddr _ (.tmp 53) 0, _, _, _, none⟩) (v := ?_) rfl (Or.inl ⟨by rfl, ?_⟩) (by assumption) ?_; rotate_left
    · (intro w' hSw; go_simp) <;> (with_reducible rfl)
    (try simp only [Act.put, sqA, sqC, sqB]); refine gU 16 (oi := ⟨some 55, .fieldAddr _ (.tmp 54) 8, _, _, _, none⟩) (v := ?_) rfl (Or.inl ⟨by rfl, ?_⟩) (by assumption) ?_; rotate_left
    · (intro w' hSw; go_simp) <;> (with_reducible rfl)
    (try simp only [Act.put, sqA, sqC, sqB]); refine gR 17 rfl (fun K hK => ?_); rw [if_pos (by rfl)]; refine wp_store1K 4 (.tmp 55) _ rfl MR2 2 rfl 12 (by rfl) (.bool (erClean ({ E with head := a, heard := E.heard + 1 } : ErS) P)) (by rfl) rfl rfl (by kernel_rfl) (by rw [ErS.len]; omega) (fun _ => by simp) ?_; intro wr3 MR3; have hR := MR3.out; simp only [sqC, sqB, s_reuse] at hR; clear MR3; have MR3 := Lib.hid hR; clear hR; refine hK.out _ _ (⟨MR3.out.get 1 rfl 0 HA0.out, MR3.out.get 2 rfl 13 (g_kind _ _ _)⟩) (fun hHeld => ?_); clear hK K; (try simp only [Act.put, sqA]); refine wpAnyH_done (by kernel_rfl) ?_ _; refine NoPanic.normal ?_; have HF := Lib.hid (er_finish (HE.out.own MR3.out.2 (MR3.out.1.blk 2 rfl) (E' := { E with rep := some (nextR P).p, head := a, heard := E.heard + 1, reuse := erClean ({ E with head := a, heard := E.heard + 1 } : ErS) P }) rfl rfl) jr)
    go_wp2_with (first | ((with_reducible refine gL 57 7 ?_); refine wpList_loadK (by rfl) 39 (.tmp 7) rfl MR3 0 rfl (by rfl) _ Tryz.underlying39 rfl (rs_size _) ?_; try simp only [Act.put, sqA, sqB, sqC]) | fail); refine HF.out.mono ?_; rintro e w9 ⟨rfl, h9, k9⟩; have H9 := Lib.hid h9; have K9 := Lib.hid ((KA.out.trans' MR3.out.2 (by simp)).trans' k9 (by simp)); clear h9 k9; go_wp2_with fail
    first | go_end0 | refine bodyPost_ret (results_none rfl _ _ _) rfl ?_
    rw [HR.out]; exact ⟨rfl, X', H9.out, K9.out, (fun x hx => (HS.out x hx).imp id (fun hh => Nat.le_trans M4'.out.2.size hh))⟩
  | false =>
    have HR := Lib.hid (head_no (now := now) HP.out HH3.out HH2.out HNB.out); rw [HJR.out] at HR; refine wp_region_noPanic ?_; refine wp_region_held_drew (S := fun w' => w'.cell? ⟨c, 0, Option.none⟩ = some (.int .i64 a.st) ∧ w'.cell? ⟨b, 13, Option.none⟩ = some (.int .i64 E.key.kind)) (by kernel_rfl) (⟨(Lib.hid (M4'.out.keep0 ((Keep.refl _ _).drew))).out.get 1 rfl 0 HA0.out, (Lib.hid (M4'.out.keep0 ((Keep.refl _ _).drew))).out.get 2 rfl 13 (g_kind _ _ _)⟩) (fun hHeld => ?_); have M4'd := Lib.hid (M4'.out.keep0 ((Keep.refl _ _).drew)); refine gU 0 (oi := ⟨some 39, .move (.tmp 0), _, _, _, none⟩) (v := ?_) rfl (Or.inl ⟨by rfl, ?_⟩) (by assumption) ?_; rotate_left
    · (intro w' hSw; go_simp) <;> (with_reducible rfl)
    (try simp only [Act.put, sqA, sqC, sqB]); refine gU 1 (oi := ⟨some 40, .fieldAddr _ (.tmp 4) 0, _, _, _, none⟩) (v := ?_) rfl (Or.inl ⟨by rfl, ?_⟩) (by assumption) ?_; rotate_left
    · (intro w' hSw; go_simp) <;> (with_reducible rfl)
    (try simp only [Act.put, sqA, sqC, sqB]); refine gU 2 (oi := ⟨some 41, .load _ (.tmp 40), _, _, _, none⟩) (v := ?_) rfl (Or.inl ⟨by rfl, ?_⟩) (by assumption) ?_; rotate_left
    · (intro w' hSw; obtain ⟨hyc, hyb⟩ := hSw; go_simp) <;> (with_reducible rfl)
    (try simp only [Act.put, sqA, sqC, sqB]); refine gU 3 (oi := ⟨some 42, .move (.tmp 0), _, _, _, none⟩) (v := ?_) rfl (Or.inl ⟨by rfl, ?_⟩) (by assumption) ?_; rotate_left
    · (intro w' hSw; go_simp) <;> (with_reducible rfl)
    (try simp only [Act.put, sqA, sqC, sqB]); refine gU 4 (oi := ⟨some 43, .nilCheck (.tmp 42), _, _, _, none⟩) (v := ?_) rfl (Or.inl ⟨by rfl, ?_⟩) (by assumption) ?_; rotate_left
    · (intro w' hSw; go_simp) <;> (with_reducible rfl)
    (try simp only [Act.put, sqA, sqC, sqB]); refine gU 5 (oi := ⟨some 44, .fieldAddr _ (.tmp 43) 1, _, _, _, none⟩) (v := ?_) rfl (Or.inl ⟨by rfl, ?_⟩) (by assumption) ?_; rotate_left
    · (intro w' hSw; go_simp) <;> (with_reducible rfl)
    (try simp only [Act.put, sqA, sqC, sqB]); refine gU 6 (oi := ⟨some 45, .fieldAddr _ (.tmp 44) 0, _, _, _, none⟩) (v := ?_) rfl (Or.inl ⟨by rfl, ?_⟩) (by assumption) ?_; rotate_left
    · (intro w' hSw; go_simp) <;> (with_reducible rfl)
    (try simp only [Act.put, sqA, sqC, sqB]); refine gU 7 (oi := ⟨some 46, .load _ (.tmp 45), _, _, _, none⟩) (v := ?_) rfl (Or.inl ⟨by rfl, ?_⟩) (by assumption) ?_; rotate_left
    · (intro w' hSw; obtain ⟨hyc, hyb⟩ := hSw; go_simp) <;> (with_reducible rfl)
    (try simp only [Act.put, sqA, sqC, sqB]); refine gU 8 (oi := ⟨some 47, .binOp _ _ _ _ _, _, _, _, none⟩) (v := ?_) rfl (Or.inl ⟨by rfl, ?_⟩) (by assumption) ?_; rotate_left
    · (intro w' hSw; go_simp) <;> (with_reducible rfl)
    (try simp only [Act.put, sqA, sqC, sqB]); refine gR 9 rfl (fun K hK => ?_); go_simp; refine (HBl.out _).mono ?_; rintro e wr1 ⟨rfl, rfl⟩; have MR1 := M4'd; (try go_simp); refine hK.out _ _ (⟨MR1.out.get 1 rfl 0 HA0.out, MR1.out.get 2 rfl 13 (g_kind _ _ _)⟩) (fun hHeld => ?_); clear hK K; (try simp only [Act.put, sqA, sqC, sqB]); refine gU 10 (oi := ⟨some 49, .move (.tmp 48), _, _, _, none⟩) (v := ?_) rfl (Or.inl ⟨by rfl, ?_⟩) (by assumption) ?_; rotate_left
    · (intro w' hSw; go_simp) <;> (with_reducible rfl)
    (try simp only [Act.put, sqA, sqC, sqB]); refine gU 11 (oi := ⟨some 50, .move (.tmp 0), _, _, _, some (10, true)⟩) (v := undef) rfl (Or.inr ⟨by rfl, rfl⟩) (by assumption) ?_; (try simp only [Act.put, sqA, sqC, sqB]); refine gU 12 (oi := ⟨some 51, _, _, _, _, some (10, true)⟩) (v := undef) rfl (Or.inr ⟨by rfl, rfl⟩) (by assumption) ?_; (try simp only [Act.put, sqA, sqC, sqB]); refine gU 13 (oi := ⟨some 52, .pick _ _ _, _, _, _, none⟩) (v := ?_) rfl (Or.inl ⟨by rfl, ?_⟩) (by assumption) ?_; rotate_left
    · (intro w' hSw; go_simp) <;> (with_reducible rfl)
    (try simp only [Act.put, sqA, sqC, sqB]); refine gU 14 (oi := ⟨some 53, .nilCheck (.tmp 39), _, _, _, none⟩) (v := ?_) rfl (Or.inl ⟨by rfl, ?_⟩) (by assumption) ?_; rotate_left
    · (intro w' hSw; go_simp) <;> (with_reducible rfl)
    (try simp only [Act.put, sqA, sqC, sqB]); refine gU 15 (oi := ⟨some 54, .fieldAddr _ (.tmp 53) 0, _, _, _, none⟩) (v := ?_) rfl (Or.inl ⟨by rfl, ?_⟩) (by assumption) ?_; rotate_left
    · (intro w' hSw; go_simp) <;> (with_reducible rfl)
    (try simp only [Act.put, sqA, sqC, sqB]); refine gU 16 (oi := ⟨some 55, .fieldAddr _ (.tmp 54) 8, _, _, _, none⟩) (v := ?_) rfl (Or.inl ⟨by rfl, ?_⟩) (by assumption) ?_; rotate_left
    · (intro w' hSw; go_simp) <;> (with_reducible rfl)
    (try simp only [Act.put, sqA, sqC, sqB]); refine gR 17 rfl (fun K hK => ?_); rw [if_pos (by rfl)]; refine wp_store1K 4 (.tmp 55) _ rfl MR1 2 rfl 12 (by rfl) (.bool false) (by rfl) rfl rfl (by kernel_rfl) (by rw [ErS.len]; omega) (fun _ => by simp) ?_; intro wr2 MR2; have hR := MR2.out; simp only [sqC, sqB, s_reuse] at hR; clear MR2; have MR2 := Lib.hid hR; clear hR; refine hK.out _ _ (⟨MR2.out.get 1 rfl 0 HA0.out, MR2.out.get 2 rfl 13 (g_kind _ _ _)⟩) (fun hHeld => ?_); clear hK K; (try simp only [Act.put, sqA]); refine wpAnyH_done (by kernel_rfl) ?_ _; refine NoPanic.normal ?_; have HF := Lib.hid (er_finish (HNH.out _ _ MR2.out.2 (MR2.out.1.blk 2 rfl) rfl rfl) jr)
    go_wp2_with (first | ((with_reducible refine gL 57 7 ?_); refine wpList_loadK (by rfl) 39 (.tmp 7) rfl MR2 0 rfl (by rfl) _ Tryz.underlying39 rfl (rs_size _) ?_; try simp only [Act.put, sqA, sqB, sqC]) | fail); refine HF.out.mono ?_; rintro e w9 ⟨rfl, h9, k9⟩; have H9 := Lib.hid h9; have K9 := Lib.hid (MR2.out.2.trans k9); clear h9 k9; go_wp2_with fail
    first | go_end0 | refine bodyPost_ret (results_none rfl _ _ _) rfl ?_
    rw [HR.out]; exact ⟨rfl, X, H9.out, K9.out.mono (by simp), HXX.out⟩
end
end Go.Proofs.YtlhnjkekjbbhcaaGreatDoor
