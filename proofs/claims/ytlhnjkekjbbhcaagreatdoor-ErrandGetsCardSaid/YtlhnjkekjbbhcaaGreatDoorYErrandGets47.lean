/- Parts of the proof of ErrandGets, in order. No conditions but those that each theorem states. -/
import Derived.Test.YtlhnjkekjbbhcaaGreatDoorYErrandGets0
import Derived.Lib.SlBytesConst
import Derived.DeepKeys4
import Derived.Deep.MidRow
import Derived.OpenShut
import Derived.Test.YtlhnjkekjbbhcaaGreatDoorYErrandGets45
set_option linter.unusedSimpArgs false
set_option linter.unusedVariables false
namespace Go.Proofs.YtlhnjkekjbbhcaaGreatDoor
open Go.RowKit Go.Shelf
theorem hexD_ten : ∀ r : Fin 10, UInt8.ofNat (48 + r.1) = hexD r.1 := by decide +kernel
theorem decI_step' (first : Bool) (n : Nat) (h : first = true ∨ 0 < n) : decI first n = decI false (n / 10) ++ [hexD (n % 10)] := by
  rw [decI_step first n h, ← hexD_ten ⟨n % 10, Nat.mod_lt _ (by omega)⟩]
def hexI (first : Bool) (n : Nat) : List UInt8 := if first = true ∨ 0 < n then hexL n else []
theorem hexI_step (first : Bool) (n : Nat) (h : first = true ∨ 0 < n) : hexI first n = hexI false (n / 16) ++ [hexD (n % 16)] := by
  unfold hexI; rw [if_pos h]
  have e : hexP (n / 16) = if false = true ∨ 0 < n / 16 then hexL (n / 16) else [] := by
    by_cases h0 : 0 < n / 16
    · rw [if_pos (.inr h0), hexL_pos h0]
    · rw [if_neg (by simp; omega), show n / 16 = 0 by omega, hexP_zero]
  rw [← e]; rfl
theorem nat_modB (n b : Nat) : ((n : Int)).tmod (b : Int) = ((n % b : Nat) : Int) := by rw [Int.tmod_eq_emod_of_nonneg (by omega)]; exact (Int.natCast_emod n b).symm
theorem nat_divB (n b : Nat) : ((n : Int)).tdiv (b : Int) = ((n / b : Nat) : Int) := by rw [Int.tdiv_eq_ediv_of_nonneg (by omega)]; exact (Int.natCast_ediv n b).symm
set_option maxRecDepth 100000 in
set_option maxHeartbeats 4000000 in
theorem law24_based10 (m : Nat) (w : World) (hm : m ≤ 1048576) (hlen : (Lib.decDigits m).length ≤ 21) : Calls Tryz.prog 125 #[.int .i64 (m : Nat), .int .i64 10] w fun e w' => e = .returned (.string (S (Lib.decDigits m))) ∧ Keep [] w w' := by
  have HD := Lib.hid (show Lib.decDigits m = decI true m by simp [decI]); obtain ⟨L, hL⟩ : ∃ z, Lib.decDigits m = z := ⟨_, rfl⟩
  rw [hL] at hlen HD ⊢; clear hL; go_enter Tryz.func125, Tryz.ntmps125; go_wp2_with fail
  go_loopg [0, 5, 6] (m + 1) (fun g s0 s5 s6 wr => ∃ (n : Nat) (acc : List UInt8) (first : Bool), s0 = .int .i64 n ∧ s5 = .string (S acc) ∧ s6 = .bool first ∧ g = n + (if first then 1 else 0) ∧ n ≤ 1048576 ∧ Hid (Keep [] w wr) ∧ Hid (L = decI first n ++ acc))
  case atStart => exact ⟨m, [], true, rfl, rfl, rfl, by simp, hm, Lib.hid (Keep.refl _ _), Lib.hid (by rw [List.append_nil]; exact HD.out)⟩
  case round =>
    obtain ⟨n, acc, first, rfl, rfl, rfl, hg, hn, HK, HI⟩ := hrel; clear HD; by_cases hgo : first = true ∨ 0 < n
    · have hstep := decI_step' first n hgo; have hI := HI.out; rw [hstep, List.append_assoc, List.singleton_append] at hI; have hl2 := congrArg List.length hI; simp only [List.length_append, List.length_cons] at hl2; have hmd : ((n : Nat) : Int).tmod 10 = ((n % 10 : Nat) : Int) := nat_modB n 10; have hdv : ((n : Nat) : Int).tdiv 10 = ((n / 10 : Nat) : Int) := nat_divB n 10; have hr10 : n % 10 < 10 := Nat.mod_lt _ (by omega); have hcut := hex_cut16 (r := n % 10) (by omega); have hap : S [hexD (n % 10)] ++ S acc = S (hexD (n % 10) :: acc) := S_append _ _; have hq : n / 10 ≤ n := Nat.div_le_self _ _; have hq2 : 0 < n → n / 10 < n := fun h => Nat.div_lt_self h (by omega)
      have HN := Lib.hid hI; clear hI hstep HI; generalize n % 10 = r at *; generalize n / 10 = q at *; have hs1 := S_size acc; have hs2 := S_size [hexD r]; generalize hexD r = dg at *; simp only [List.length_singleton] at hs2; have hw := IntWalk.i64_in ((r : Int) + 1) (by omega); have htn : ((r : Int) + 1).toNat = r + 1 := by omega
      have hr0 : (0 : Int) ≤ (r : Int) := by omega
      have hr1 : (r : Int) + 1 ≤ 16 := by omega
      have hr2 : (r : Int) ≤ (r : Int) + 1 := by omega
      have hQ2 := Lib.hid hq2; clear hq2
      cases first with
      | true =>
        go_wp2_with fail; go_quiet (fail); go_wp2_with fail
        go_roundg (q + 0)
        case measure => simp at hg; omega
        case rel => exact ⟨q, dg :: acc, false, rfl, rfl, rfl, rfl, by omega, Lib.hid (HK.out.drewN _), HN⟩
      | false =>
        have hn0 : 0 < n := by simpa using hgo
        have hn1 : decide ((n : Int) > 0) = true := by simp; omega
        have hn2 : decide (0 < n) = true := decide_eq_true hn0; go_wp2_with fail; go_quiet (fail); go_wp2_with fail
        go_roundg (q + 0)
        case measure => have := hQ2.out hn0; simp at hg; omega
        case rel => exact ⟨q, dg :: acc, false, rfl, rfl, rfl, rfl, by omega, Lib.hid (HK.out.drewN _), HN⟩
    · have hf : first = false := by cases first <;> simp_all
      have hn0 : n = 0 := by omega
      have hI := HI.out; subst hf; have hd : decI false n = [] := by rw [hn0]; rfl
      rw [hd, List.nil_append] at hI; have HN := Lib.hid hI; have hn1 : decide ((n : Int) > 0) = false := by simp; omega
      have hn2 : decide (0 < n) = false := decide_eq_false (by omega); clear HI hI hgo hlen hn0 hd; go_wp2_with fail; go_ret; exact ⟨by rw [HN.out]; rfl, HK.out⟩
set_option maxRecDepth 100000 in
theorem law24_dec (m : Nat) (w : World) (hm : m ≤ 1048576) (hlen : (Lib.decDigits m).length ≤ 21) : Calls Tryz.prog 78 #[.int .i64 (m : Nat)] w fun e w' => e = .returned (.string (S (Lib.decDigits m))) ∧ Keep [] w w' := by
  have H := Lib.hid (fun w' => law24_based10 m w' hm hlen); generalize Lib.decDigits m = L at H ⊢; clear hlen hm; go_enter Tryz.func78, Tryz.ntmps78; go_wp2_with fail; refine (H.out _).mono ?_; rintro e w1 ⟨rfl, k1⟩; have K1 := Lib.hid k1; clear k1; go_wp2_with fail; go_ret; exact ⟨rfl, K1.out⟩
set_option maxRecDepth 100000 in
set_option maxHeartbeats 4000000 in
theorem law24_based16 (m : Nat) (w : World) (hm : m ≤ 1048576) (hlen : (hexL m).length ≤ 21) : Calls Tryz.prog 125 #[.int .i64 (m : Nat), .int .i64 16] w fun e w' => e = .returned (.string (S (hexL m))) ∧ Keep [] w w' := by
  have HD := Lib.hid (show hexL m = hexI true m by simp [hexI]); obtain ⟨L, hL⟩ : ∃ z, hexL m = z := ⟨_, rfl⟩
  rw [hL] at hlen HD ⊢; clear hL; go_enter Tryz.func125, Tryz.ntmps125; go_wp2_with fail
  go_loopg [0, 5, 6] (m + 1) (fun g s0 s5 s6 wr => ∃ (n : Nat) (acc : List UInt8) (first : Bool), s0 = .int .i64 n ∧ s5 = .string (S acc) ∧ s6 = .bool first ∧ g = n + (if first then 1 else 0) ∧ n ≤ 1048576 ∧ Hid (Keep [] w wr) ∧ Hid (L = hexI first n ++ acc))
  case atStart => exact ⟨m, [], true, rfl, rfl, rfl, by simp, hm, Lib.hid (Keep.refl _ _), Lib.hid (by rw [List.append_nil]; exact HD.out)⟩
  case round =>
    obtain ⟨n, acc, first, rfl, rfl, rfl, hg, hn, HK, HI⟩ := hrel; clear HD; by_cases hgo : first = true ∨ 0 < n
    · have hstep := hexI_step first n hgo; have hI := HI.out; rw [hstep, List.append_assoc, List.singleton_append] at hI; have hl2 := congrArg List.length hI; simp only [List.length_append, List.length_cons] at hl2; have hmd : ((n : Nat) : Int).tmod 16 = ((n % 16 : Nat) : Int) := nat_modB n 16; have hdv : ((n : Nat) : Int).tdiv 16 = ((n / 16 : Nat) : Int) := nat_divB n 16; have hr10 : n % 16 < 16 := Nat.mod_lt _ (by omega); have hcut := hex_cut16 (r := n % 16) (by omega); have hap : S [hexD (n % 16)] ++ S acc = S (hexD (n % 16) :: acc) := S_append _ _; have hq : n / 16 ≤ n := Nat.div_le_self _ _; have hq2 : 0 < n → n / 16 < n := fun h => Nat.div_lt_self h (by omega)
      have HN := Lib.hid hI; clear hI hstep HI; generalize n % 16 = r at *; generalize n / 16 = q at *; have hs1 := S_size acc; have hs2 := S_size [hexD r]; generalize hexD r = dg at *; simp only [List.length_singleton] at hs2; have hw := IntWalk.i64_in ((r : Int) + 1) (by omega); have htn : ((r : Int) + 1).toNat = r + 1 := by omega
      have hr0 : (0 : Int) ≤ (r : Int) := by omega
      have hr1 : (r : Int) + 1 ≤ 16 := by omega
      have hr2 : (r : Int) ≤ (r : Int) + 1 := by omega
      have hQ2 := Lib.hid hq2; clear hq2
      cases first with
      | true =>
        go_wp2_with fail; go_quiet (fail); go_wp2_with fail
        go_roundg (q + 0)
        case measure => simp at hg; omega
        case rel => exact ⟨q, dg :: acc, false, rfl, rfl, rfl, rfl, by omega, Lib.hid (HK.out.drewN _), HN⟩
      | false =>
        have hn0 : 0 < n := by simpa using hgo
        have hn1 : decide ((n : Int) > 0) = true := by simp; omega
        have hn2 : decide (0 < n) = true := decide_eq_true hn0; go_wp2_with fail; go_quiet (fail); go_wp2_with fail
        go_roundg (q + 0)
        case measure => have := hQ2.out hn0; simp at hg; omega
        case rel => exact ⟨q, dg :: acc, false, rfl, rfl, rfl, rfl, by omega, Lib.hid (HK.out.drewN _), HN⟩
    · have hf : first = false := by cases first <;> simp_all
      have hn0 : n = 0 := by omega
      have hI := HI.out; subst hf; have hd : hexI false n = [] := by rw [hn0]; rfl
      rw [hd, List.nil_append] at hI; have HN := Lib.hid hI; have hn1 : decide ((n : Int) > 0) = false := by simp; omega
      have hn2 : decide (0 < n) = false := decide_eq_false (by omega); clear HI hI hgo hlen hn0 hd; go_wp2_with fail; go_ret; exact ⟨by rw [HN.out]; rfl, HK.out⟩
set_option maxRecDepth 100000 in
theorem law24_hex (m : Nat) (w : World) (hm : m ≤ 1048576) (hlen : (hexL m).length ≤ 21) : Calls Tryz.prog 79 #[.int .i64 (m : Nat)] w fun e w' => e = .returned (.string (S (hexL m))) ∧ Keep [] w w' := by
  have H := Lib.hid (fun w' => law24_based16 m w' hm hlen); generalize hexL m = L at H ⊢; clear hlen hm; go_enter Tryz.func79, Tryz.ntmps79; go_wp2_with fail; refine (H.out _).mono ?_; rintro e w1 ⟨rfl, k1⟩; have K1 := Lib.hid k1; clear k1; go_wp2_with fail; go_ret; exact ⟨rfl, K1.out⟩
section
variable {w0 w : World} {b n : Nat} {rp va : Value} {X L : List Nat} {E : ErS}
set_option maxRecDepth 100000 in
set_option maxHeartbeats 1600000 in
theorem er_Size (h : Et w0 w b rp va X E n L) (hb : E.body = true) {si : Int} {is : Bool} (h1 : E.head.ch = true ∨ E.head.len < 0 → si = 0 ∧ is = false) (h2 : ¬ (E.head.ch = true ∨ E.head.len < 0) → si = E.head.len ∧ is = true) : Calls Tryz.prog 41 #[.pointer (some ⟨b, 0, Option.none⟩)] w fun e w' => e = .returned (.tuple #[.int .i64 si, .bool is]) ∧ w = w' := by
  have c5 := h.blk.get (g_len E rp va); have c6 := h.blk.get (g_ch E rp va); have c8 := h.blk.get (g_body E rp va); rw [hb] at c8; clear h hb; generalize E.head.len = ln at *; generalize E.head.ch = ch at *
  cases ch with
  | true =>
    obtain ⟨rfl, rfl⟩ := h1 (.inl rfl); clear h1 h2; go_enter Tryz.func41, Tryz.ntmps41; go_wp2_with fail; go_ret2; exact ⟨rfl, rfl⟩
  | false =>
    by_cases hl : ln < 0
    · obtain ⟨rfl, rfl⟩ := h1 (.inr hl); have d1 : decide (ln < 0) = true := decide_eq_true hl; clear h1 h2; go_enter Tryz.func41, Tryz.ntmps41; go_wp2_with fail; go_ret2; exact ⟨rfl, rfl⟩
    · obtain ⟨rfl, rfl⟩ := h2 (by simp; omega); have d1 : decide (si < 0) = false := decide_eq_false hl; clear h1 h2; go_enter Tryz.func41, Tryz.ntmps41; go_wp2_with fail; go_ret2; exact ⟨rfl, rfl⟩
set_option maxRecDepth 100000 in
set_option maxHeartbeats 1600000 in
theorem er_Type (h : Et w0 w b rp va X E n L) (hm : ML w) (hb : E.body = true) : Calls Tryz.prog 43 #[.pointer (some ⟨b, 0, Option.none⟩)] w fun e w' => e = .returned (.string (S (typM E.head.F))) ∧ Keep [] w w' := by
  have c8 := h.blk.get (g_body E rp va); rw [hb] at c8; have HK := Lib.hid (fun w' (kk : Keep [] w w') => errand_kind E.head.st va E.head.F E.head.len E.head.ch E.head.cl w' (hm.keep kk (by simp)) (h.an.keep kk)); have M0 := Lib.hid h.mem; have HH := Lib.hid (er_ans E rp va); clear h hb hm; go_enter Tryz.func43, Tryz.ntmps43
  go_wp2_with (first | ((with_reducible refine gL 17 16 ?_); refine wpList_loadPartK (by rfl) 30 (.tmp 16) rfl M0 0 rfl 3 (by rfl) (ansC E.head.st va E.head.len E.head.ch E.head.cl) HH.out _ Tryz.underlying30 rfl (an_size _ _ _ _ _) ?_; try simp only [Act.put, sqA, sqB, sqC]) | fail); refine (HK.out _ (Keep.refl _ _)).mono ?_; rintro e w1 ⟨rfl, k1⟩; have K1 := Lib.hid k1; clear k1; go_wp2_with fail; go_ret; exact ⟨rfl, K1.out⟩
end
end Go.Proofs.YtlhnjkekjbbhcaaGreatDoor
namespace Go.Proofs.YtlhnjkekjbbhcaaGreatDoor
open Go.RowKit Go.Shelf
theorem dec_le21 (m : Nat) (hm : m ≤ 1048576) : (Lib.decDigits m).length ≤ 21 := by rw [← Lib.itoa_nonneg]; exact itoa_len _ ⟨by omega, by omega⟩
theorem st200_len : (stOf 200).length = 15 := by decide +kernel
theorem gl_e (l : Nat) (hl : l ≤ 1048576) : ansE 200 (glL l) = 0 := by
  have h21 := dec_le21 l hl; unfold ansE; rw [if_pos (by decide)]; unfold laidE; rw [if_pos (by unfold laidOk; rw [Bool.and_eq_true]; exact ⟨rfl, List.all_eq_true.2 (gl_good l)⟩), if_pos]; unfold headT bodyT glL; simp only [List.length_append, st200_len, List.flatMap_cons, List.flatMap_nil, printF, List.length_cons, List.length_nil, ctB, textX, nCL]; omega
theorem gt_e : ansE 200 gtL = 0 := by decide +kernel
def ansT (b : List UInt8) (even : Bool) : List UInt8 := if even = true then ansS 200 (glL b.length) ++ b else ansS 200 gtL ++ chT b
theorem ans_len {L : List Fld} (h : ansE 200 L = 0) : (ansS 200 L).length ≤ 4096 := by
  unfold ansE at h; rw [if_pos (by decide)] at h; unfold ansS laidS; rw [if_pos (by decide), if_pos h]; unfold laidE at h
  split at h
  · split at h
    · assumption
    · omega
  · omega
theorem hexL_21 (n : Nat) (h : n ≤ 1048576) : (hexL n).length ≤ 16 := hexL_len (by omega)
theorem chT_len (b : List UInt8) (hb : b.length ≤ 4096) : (chT b).length ≤ b.length + 25 := by
  have := hexL_21 b.length (by omega); unfold chT; rw [List.length_append]
  split
  · simp [endC]
  · simp only [List.length_append, crlfC, endC, List.length_cons, List.length_nil]; omega
theorem ansT_len (b : List UInt8) (e : Bool) (hb : b.length ≤ 4096) : (ansT b e).length ≤ 8300 := by
  have h1 := ans_len (gl_e b.length (by omega)); have h2 := ans_len gt_e; have h3 := chT_len b hb; unfold ansT
  split
  · rw [List.length_append]; omega
  · rw [List.length_append]; omega
def ansA (b : List UInt8) (e : Bool) : Ans := if e = true then ⟨200, glL b.length, (b.length : Nat), false, false⟩ else ⟨200, gtL, 0, true, false⟩
theorem ansT_whole (b : List UInt8) (e : Bool) (hb : b.length ≤ 4096) : Whole (ansT b e) (ansA b e) b := by
  cases e with
  | true => exact whole_len (gl_head (gl_e b.length (by omega))) hb
  | false =>
    have h := whole_chunks (gt_head gt_e) hb; rw [chT_eq b hb] at h; exact h
theorem ansT_some (b : List UInt8) (e : Bool) (hb : b.length ≤ 4096) : ansT b e ≠ [] := by
  intro h; have hW := ansT_whole b e hb; rw [h] at hW; have h4 : (reAll ((reNew false 1048576).add [])).st = 0 := by decide +kernel
  rw [hW.st] at h4; cases h4
theorem ansA_st (b : List UInt8) (e : Bool) : (ansA b e).st = 200 := by unfold ansA; split <;> rfl
theorem ansA_cl (b : List UInt8) (e : Bool) : (ansA b e).cl = false := by unfold ansA; split <;> rfl
theorem ansA_typ (b : List UInt8) (e : Bool) : typM (ansA b e).F = textX := by
  unfold ansA
  split
  · exact gl_typ _
  · exact gt_typ
set_option maxRecDepth 100000 in
set_option maxHeartbeats 4000000 in
theorem law24_answer (b : List UInt8) (x : Int) (r : Nat) (hr : r < 2) (er : (IntKind.u64.wrap x).tmod 2 = (r : Int)) (w : World) (hp : P10 w) (hb : b.length ≤ 4096) :
    Calls Tryz.prog 40 #[.string (S b), .string (S textX), .int .i64 x] w fun e w' => e = .returned (.string (S (ansT b (r == 0)))) ∧ Keep [] w w' := by
  have M0 := Lib.hid (Mem.nil w); obtain ⟨is, Hs⟩ := fldinfo'; have HP := Lib.hid hp; have hsz : (S b).size = b.length := S_size _; have h1 := ans_len (gl_e b.length (by omega)); have h2 := ans_len gt_e; have i200 : in64 200 := by unfold in64; omega
  have I2 := Lib.hid i200; have hdl := dec_le21 b.length (by omega); have HD := Lib.hid (fun w' => law24_dec b.length w' (by omega) hdl); have HX := Lib.hid (fun w' => law24_hex b.length w' (by omega) (by have := hexL_21 b.length (by omega); omega)); have hxl := hexL_21 b.length (by omega); have hE1 := Lib.hid (gl_e b.length (by omega)); have hE2 := Lib.hid gt_e; have HDL := Lib.hid hdl; clear hp i200 hdl; rcases (show r = 0 ∨ r = 1 by omega) with rfl | rfl
  · have e0 : (((0 : Nat) : Int) == 0) = true := by decide
    have hfin : ansT b ((0 : Nat) == 0) = ansS 200 (glL b.length) ++ b := rfl; rw [hfin]; have a1 : S (ansS 200 (glL b.length)) ++ S b = S (ansS 200 (glL b.length) ++ b) := S_append _ _; have z1 : (S (ansS 200 (glL b.length))).size = (ansS 200 (glL b.length)).length := S_size _; clear hfin h2 hxl HX hE2 hr; obtain ⟨as', has⟩ : ∃ z, ansS 200 (glL b.length) = z := ⟨_, rfl⟩
    rw [has] at a1 z1 h1 ⊢; have HAS := Lib.hid has; clear has; go_enter Tryz.func40, Tryz.ntmps40
    go_wp2_with (first | ((with_reducible refine gD 13 ?_); refine wpList_lit1 rfl (.tmp 12) rfl ⟨ctB, textX⟩ (by rfl) M0 ?_; intro bl w1 M1 HO1 HF1; try simp only [Act.put, sqA, sqB, sqC]) | fail); refine (HD.out _).mono ?_; rintro e w2 ⟨rfl, k2⟩; have M2 := Lib.hid (M1.out.keep0 k2); have HO2 := Lib.hid (HO1.out.keep0 k2); clear k2
    go_wp2_with (first | (at_builtin; go_must (refine wpList_appendM rfl _ _ 28 rfl is (.agg #[.string ⟨#[]⟩, .string ⟨#[]⟩]) 32 Tryz.underlying28 Hs rfl (by decide) Fld.cells_length Fld.one M2 rfl (by rfl) HO2 HF1 ⟨nCL, Lib.decDigits b.length⟩ _ (by rfl) _ rfl (by show 1 + 1 ≤ 9223372036854775807; omega) (by show (1 + 1) * 32 ≤ 140737488355328; omega) ?_); intro v3 w3 HO3 M3 HF3 HS3) | fail)
    have HA := Lib.hid (outlet_Answer 200 _ (glL b.length) _ I2.out (HP.out.keep0 M3.out.kp) (HO3.out.sl Fld.cells_length) (fun _ f hf => by
      have := HDL.out; rcases List.mem_cons.1 hf with rfl | hf
      · decide
      · obtain rfl := List.mem_singleton.1 hf; show nCL.length + (Lib.decDigits b.length).length ≤ _; have : nCL.length = 14 := rfl; omega))
    refine HA.out.mono ?_; rintro e w4 ⟨rfl, k4⟩; have M4 := Lib.hid (M3.out.keep0 k4); unfold fin; rw [hE1.out, HAS.out]; clear k4 HA; go_wp2_with fail; go_ret; exact ⟨rfl, M4.out.kp⟩
  · have e0 : (((1 : Nat) : Int) == 0) = false := by decide
    have hfin : ansT b ((1 : Nat) == 0) = ansS 200 gtL ++ chT b := rfl; rw [hfin]; have hcl := chT_len b hb; have a1 : S (ansS 200 gtL) ++ S (chT b) = S (ansS 200 gtL ++ chT b) := S_append _ _; have z1 : (S (ansS 200 gtL)).size = (ansS 200 gtL).length := S_size _; have z2 : (S (chT b)).size = (chT b).length := S_size _; clear hfin h1 HD hE1 hr; obtain ⟨as', has⟩ : ∃ z, ansS 200 gtL = z := ⟨_, rfl⟩
    rw [has] at a1 z1 h2 ⊢; have HAS := Lib.hid has; clear has; by_cases hbe : b = []
    · have hem : (S b).toList.isEmpty = true := by rw [S_toList, hbe]; rfl
      have hc : (⟨#[]⟩ : ByteArray) ++ (⟨#[48, 13, 10, 13, 10]⟩ : ByteArray) = S (chT b) := by rw [hbe]; rfl
      generalize hcb : chT b = cb at *; clear hbe hcb; go_enter Tryz.func40, Tryz.ntmps40
      go_wp2_with (first | ((with_reducible refine gD 13 ?_); refine wpList_lit1 rfl (.tmp 12) rfl ⟨ctB, textX⟩ (by rfl) M0 ?_; intro bl w1 M1 HO1 HF1; try simp only [Act.put, sqA, sqB, sqC]) | (at_builtin; go_must (refine wpList_appendM rfl _ _ 28 rfl is (.agg #[.string ⟨#[]⟩, .string ⟨#[]⟩]) 32 Tryz.underlying28 Hs rfl (by decide) Fld.cells_length Fld.one M1 rfl (by rfl) HO1 HF1 ⟨nTE, nChunked⟩ _ (by rfl) _ rfl (by show 1 + 1 ≤ 9223372036854775807; omega) (by show (1 + 1) * 32 ≤ 140737488355328; omega) ?_); intro v3 w3 HO3 M3 HF3 HS3) | fail); have HA := Lib.hid (outlet_Answer 200 _ gtL _ I2.out (HP.out.keep0 M3.out.kp) (HO3.out.sl Fld.cells_length) (fun _ => by decide +kernel)); refine HA.out.mono ?_; rintro e w4 ⟨rfl, k4⟩; have M4 := Lib.hid (M3.out.keep0 k4); unfold fin; rw [hE2.out, HAS.out]; clear k4 HA; go_wp2_with fail; go_ret; exact ⟨rfl, M4.out.kp⟩
    · have hem : (S b).toList.isEmpty = false := by rw [S_toList]; cases b with | nil => exact absurd rfl hbe | cons => rfl
      have hc0 : chT b = hexL b.length ++ crlfC ++ b ++ crlfC ++ endC := by unfold chT; rw [if_neg hbe]
      have x1 : S (hexL b.length) ++ (⟨#[13, 10]⟩ : ByteArray) = S (hexL b.length ++ crlfC) := S_append _ _; have x2 : S (hexL b.length ++ crlfC) ++ S b = S (hexL b.length ++ crlfC ++ b) := S_append _ _; have x3 : S (hexL b.length ++ crlfC ++ b) ++ (⟨#[13, 10]⟩ : ByteArray) = S (hexL b.length ++ crlfC ++ b ++ crlfC) := S_append _ _; have x4 : S (hexL b.length ++ crlfC ++ b ++ crlfC) ++ (⟨#[48, 13, 10, 13, 10]⟩ : ByteArray) = S (chT b) := by rw [hc0]; exact S_append _ _
      have y0 := S_size (hexL b.length); have y1 := S_size (hexL b.length ++ crlfC); have y2 := S_size (hexL b.length ++ crlfC ++ b); have y3 := S_size (hexL b.length ++ crlfC ++ b ++ crlfC); have l1 : (hexL b.length ++ crlfC).length ≤ 18 := by rw [List.length_append]; show _ + 2 ≤ _; omega
      have l2 : (hexL b.length ++ crlfC ++ b).length ≤ 4200 := by rw [List.length_append]; omega
      have l3 : (hexL b.length ++ crlfC ++ b ++ crlfC).length ≤ 4202 := by rw [List.length_append]; show _ + 2 ≤ _; omega
      clear hc0; generalize chT b = cb at *; generalize hexL b.length ++ crlfC ++ b ++ crlfC = s3 at *; generalize hexL b.length ++ crlfC ++ b = s2 at *; generalize hexL b.length ++ crlfC = s1 at *; generalize hexL b.length = s0 at *; clear hbe; go_enter Tryz.func40, Tryz.ntmps40
      go_wp2_with (first | ((with_reducible refine gD 13 ?_); refine wpList_lit1 rfl (.tmp 12) rfl ⟨ctB, textX⟩ (by rfl) M0 ?_; intro bl w1 M1 HO1 HF1; try simp only [Act.put, sqA, sqB, sqC]) | (at_builtin; go_must (refine wpList_appendM rfl _ _ 28 rfl is (.agg #[.string ⟨#[]⟩, .string ⟨#[]⟩]) 32 Tryz.underlying28 Hs rfl (by decide) Fld.cells_length Fld.one M1 rfl (by rfl) HO1 HF1 ⟨nTE, nChunked⟩ _ (by rfl) _ rfl (by show 1 + 1 ≤ 9223372036854775807; omega) (by show (1 + 1) * 32 ≤ 140737488355328; omega) ?_); intro v3 w3 HO3 M3 HF3 HS3) | fail); refine (HX.out _).mono ?_; rintro e w5 ⟨rfl, k5⟩; have M5 := Lib.hid (M3.out.keep0 k5); have HO5 := Lib.hid (HO3.out.keep0 k5); clear k5; go_wp2_with fail; have HA := Lib.hid (outlet_Answer 200 _ gtL _ I2.out (HP.out.keep0 M5.out.kp) (HO5.out.sl Fld.cells_length) (fun _ => by decide +kernel)); refine HA.out.mono ?_; rintro e w4 ⟨rfl, k4⟩; have M4 := Lib.hid (M5.out.keep0 k4); unfold fin; rw [hE2.out, HAS.out]; clear k4 HA; go_wp2_with fail; go_ret; exact ⟨rfl, M4.out.kp⟩
end Go.Proofs.YtlhnjkekjbbhcaaGreatDoor
namespace Go.Proofs.YtlhnjkekjbbhcaaGreatDoor
open Go.ChangeShapes Go.WideShapes Go.ChangeAt Go.RowKit
def Fits {H : Type} (P : Program) (t : TypeId) (d : DataW H) : Prop := (d.weights P t).all (fun k => decide (k ≤ reachBytes)) = true
theorem fits_each {H : Type} {P : Program} : ∀ {ts : List TypeId} {ds : List (DataW H)}, (DataW.weightsEach P ts ds).all (fun k => decide (k ≤ reachBytes)) = true → ∀ (j : Nat) (t : TypeId) (d : DataW H), ts[j]? = some t → ds[j]? = some d → Fits P t d
  | [], _, _, _, _, _, h, _ => by simp at h
  | _ :: _, [], _, _, _, _, _, h => by simp at h
  | t :: ts, d :: ds, h, j, t', d', h1, h2 => by
    rw [DataW.weightsEach, List.all_append, Bool.and_eq_true] at h
    cases j with
    | zero =>
      simp at h1 h2; subst h1 h2; exact h.1
    | succ j => exact fits_each h.2 j t' d' (by simpa using h1) (by simpa using h2)
theorem fits_string {H : Type} {P : Program} {t : TypeId} {l : List UInt8} (h : Fits (H := H) P t (.lit (.string l))) : l.length ≤ 140737488351232 := by
  unfold Fits at h; rw [DataW.weights] at h; simp only [List.all_cons, List.all_nil, Bool.and_true, decide_eq_true_eq] at h; unfold reachBytes at h; omega
section
variable {H : Type} {enc : TypeId × Value → H} {w : World} {base : Nat} {spare : Nat → Bool} {held : Bool}
theorem int_cells : Tryz.prog.cellsOf 3 = 1 := by kernel_rfl
end
end Go.Proofs.YtlhnjkekjbbhcaaGreatDoor
namespace Go.Proofs.YtlhnjkekjbbhcaaGreatDoor
open Go.RowKit Go.Shelf
section
variable {E R : ErS}
end
section
variable {w0 w : World} {b n : Nat} {rp va : Value} {X L : List Nat} {E : ErS}
theorem er_ResultQ {r : Rs} (h : Et w0 w b rp va X E n L) (hx : E.res = r) : Calls Tryz.prog 19 #[.pointer (some ⟨b, 0, Option.none⟩)] w fun e w' => e = .returned (.agg r.cells.toArray) ∧ Keep [] w w' := hx ▸ er_Result h
end
end Go.Proofs.YtlhnjkekjbbhcaaGreatDoor
namespace Go.Proofs.YtlhnjkekjbbhcaaGreatDoor
open Go.RowKit Go.Shelf
section
variable {w0 w w' : World} {b n : Nat} {rp va rp' va' : Value} {X X' : List Nat} {E E' : ErS} {Q N : List (Nat × TypeId × List Value)}
structure Lw (w0 w : World) (b : Nat) (rp va : Value) (X : List Nat) (E : ErS) (n : Nat) (Q : List (Nat × TypeId × List Value)) : Prop where
  et : Et w0 w b rp va X E n (Q.map (·.1))
  me : Mem w0 w Q
theorem Lw.got {n' : Nat} (h : Lw w0 w b rp va X E n Q) (hE : Et w0 w' b rp' va' X' E' n' (Q.map (·.1))) (k : Keep (b :: X) w w') : Lw w0 w' b rp' va' X' E' n' Q := by
  refine ⟨hE, h.me.keep k (fun x hx => ⟨h.et.base x hx, fun y hy => ?_⟩)⟩; rcases List.mem_cons.1 hx with rfl | hx
  · exact (h.et.ap y.1 (List.mem_map.2 ⟨y, hy, rfl⟩)).1
  · exact fun hh => (h.et.xlt x hx).2.2.2 (List.mem_map.2 ⟨y, hy, hh⟩)
theorem Lw.keep0 (h : Lw w0 w b rp va X E n Q) (k : Keep [] w w') : Lw w0 w' b rp va X E n Q := ⟨h.et.keep0 k, h.me.keep0 k⟩
end
end Go.Proofs.YtlhnjkekjbbhcaaGreatDoor
namespace Go.Proofs.YtlhnjkekjbbhcaaGreatDoor
open Go.ChangeShapes Go.WideShapes Go.ChangeAt Go.RowKit
def intC (n : Int) : List Value := [.int .i64 n]
theorem intC_length (n : Int) : (intC n).length = 1 := rfl
theorem read_intC {H : Type} {enc : TypeId × Value → H} {w : World} {base : Nat} {spare : Nat → Bool} {held : Bool} (m : Nat) (cs : List Value) (x : DataW H × List MemPlace)
    (h : DataW.trod enc Tryz.prog w base spare held m 3 cs = some x) : ∃ a : Int, cs = intC a ∧ in64 a := by
  obtain ⟨a, c0, _, wa⟩ := DataW.trod_int Tryz.underlying3 h; exact ⟨a, c0, in64_of wa⟩
end Go.Proofs.YtlhnjkekjbbhcaaGreatDoor
