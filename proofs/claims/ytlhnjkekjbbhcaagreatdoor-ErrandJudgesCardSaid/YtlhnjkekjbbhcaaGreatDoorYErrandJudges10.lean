/- Parts of the proof of ErrandJudges, in order. No conditions but those that each theorem states. -/
import Derived.Test.YtlhnjkekjbbhcaaGreatDoorYErrandJudges0
import Derived.Great.Walk
import Derived.RangeFuncNested
import Derived.RangeFuncCalls
import Derived.RangeFuncLeaves
import Derived.Test.YtlhnjkekjbbhcaaGreatDoorYErrandJudges9
namespace Go.Proofs.YtlhnjkekjbbhcaaGreatDoor
open Go.RowKit Go.Shelf
theorem ref15_low (b : UInt8) (w : World) :
    Calls Tryz.prog 100 #[.int .u8 (b.toNat : Nat)] w fun e w' => e = .returned (.bool (lettersB.contains b)) ∧ w' = w := by
  rw [low_letters]; have HD := Lib.hid (show lowD b = (decide (97 ≤ b.toNat ∧ b.toNat ≤ 122) || decide (48 ≤ b.toNat ∧ b.toNat ≤ 57)) from rfl); have b8 := u8_nat b; by_cases h1 : 97 ≤ b.toNat
  · by_cases h2 : b.toNat ≤ 122
    · have HR := Lib.hid (show lowD b = true by rw [HD.out]; simp; omega); go_enter Tryz.func100, Tryz.ntmps100; have i1 : (97 : Int) ≤ (b.toNat : Int) := by omega
      have i2 : (b.toNat : Int) ≤ 122 := by omega
      clear h1 h2; go_wp2_with fail; go_ret; exact ⟨ret_bool HR.out.symm, rfl⟩
    · have HR := Lib.hid (show lowD b = false by rw [HD.out]; simp; omega); go_enter Tryz.func100, Tryz.ntmps100; have i1 : (97 : Int) ≤ (b.toNat : Int) := by omega
      have i2 : ¬ (b.toNat : Int) ≤ 122 := by omega
      have i3 : (48 : Int) ≤ (b.toNat : Int) := by omega
      have i4 : ¬ (b.toNat : Int) ≤ 57 := by omega
      clear h1 h2; go_wp2_with fail; go_ret; exact ⟨ret_bool HR.out.symm, rfl⟩
  · by_cases h3 : 48 ≤ b.toNat
    · by_cases h4 : b.toNat ≤ 57
      · have HR := Lib.hid (show lowD b = true by rw [HD.out]; simp; omega); go_enter Tryz.func100, Tryz.ntmps100; have i1 : ¬ (97 : Int) ≤ (b.toNat : Int) := by omega
        have i3 : (48 : Int) ≤ (b.toNat : Int) := by omega
        have i4 : (b.toNat : Int) ≤ 57 := by omega
        clear h1 h3 h4; go_wp2_with fail; go_ret; exact ⟨ret_bool HR.out.symm, rfl⟩
      · have HR := Lib.hid (show lowD b = false by rw [HD.out]; simp; omega); go_enter Tryz.func100, Tryz.ntmps100; have i1 : ¬ (97 : Int) ≤ (b.toNat : Int) := by omega
        have i3 : (48 : Int) ≤ (b.toNat : Int) := by omega
        have i4 : ¬ (b.toNat : Int) ≤ 57 := by omega
        clear h1 h3 h4; go_wp2_with fail; go_ret; exact ⟨ret_bool HR.out.symm, rfl⟩
    · have HR := Lib.hid (show lowD b = false by rw [HD.out]; simp; omega); go_enter Tryz.func100, Tryz.ntmps100; have i1 : ¬ (97 : Int) ≤ (b.toNat : Int) := by omega
      have i3 : ¬ (48 : Int) ≤ (b.toNat : Int) := by omega
      clear h1 h3; go_wp2_with fail; go_ret; exact ⟨ret_bool HR.out.symm, rfl⟩
theorem wordR_step {s : List UInt8} {i : Nat} {c : UInt8} (hc : s[i]? = some c) (hl : lettersB.contains c = true) : wordR (s.drop i) = wordR (s.drop (i + 1)) := by
  have hlt := (List.getElem?_eq_some_iff.1 hc).1; have hci := (List.getElem?_eq_some_iff.1 hc).2; rw [List.drop_eq_getElem_cons hlt, hci]; unfold wordR Lib.trimLeftS; rw [List.dropWhile_cons, if_pos hl]
theorem wordR_stop {s : List UInt8} {i : Nat} (h : ∀ c, s[i]? = some c → lettersB.contains c = false) : wordR (s.drop i) = s.drop i := by
  unfold wordR Lib.trimLeftS; rcases Nat.lt_or_ge i s.length with hlt | hge
  · have := h _ (List.getElem?_eq_getElem hlt); rw [List.drop_eq_getElem_cons hlt, List.dropWhile_cons, if_neg (by rw [this]; simp)]
  · rw [List.drop_eq_nil_of_le hge]; rfl
theorem b_ne {b : UInt8} {n : Nat} (hn : n < 256) (h : b ≠ UInt8.ofNat n) : b.toNat ≠ n := fun h9 => h (UInt8.toNat_inj.1 (by rw [h9, UInt8.toNat_ofNat']; omega))
theorem sepOk_at {w : List UInt8} {b : UInt8} (hb : w[0]? = some b) : sepOk w = (decide (b = 46 ∧ sepN w = 1) || decide (b = 95 ∧ (sepN w = 1 ∨ sepN w = 2)) || decide (b = 45 ∧ 1 ≤ sepN w)) := by
  cases w with
  | nil => simp at hb
  | cons x r => simp at hb; subst hb; rfl
theorem wordR_len {s : List UInt8} {i m : Nat} (hi : i ≤ s.length) (_him : i ≤ m) (hm : m ≤ s.length) (h : wordR (s.drop i) = s.drop m) : (wordR (s.drop i)).length = (s.drop i).length ↔ m = i := by
  rw [h, List.length_drop, List.length_drop]; omega
set_option maxRecDepth 100000 in
set_option maxHeartbeats 2000000 in
theorem ref15_part (s : List UInt8) (w : World) (hs : s.length ≤ 128) :
    Calls Tryz.prog 99 #[.string (S s)] w fun e w' => e = .returned (.bool (isPartM s)) ∧ Keep [] w w' := by
  have HM := Lib.hid (show isPartM s = partD (s.length + 1) s by rw [part_same]; rfl); have HLo := Lib.hid (fun (b : UInt8) w' => ref15_low b w'); have sS := S_size s; go_enter Tryz.func99, Tryz.ntmps99; go_wp2_with fail
  go_loopg [3] s.length (fun g iv wr => ∃ i : Nat, iv = .int .i64 (i : Nat) ∧ i ≤ s.length ∧ s.length - i ≤ g ∧ Hid (isPartM s = partD (g + 1) (s.drop i)) ∧ Hid (Keep [] w wr))
  case atStart => exact ⟨0, rfl, by omega, by omega, Lib.hid (by rw [HM.out]; rfl), Lib.hid (Keep.refl _ _)⟩
  case round =>
    obtain ⟨i, rfl, hi, hg, HE, HK⟩ := hrel; generalize hwr : wr = wi at *; clear hwr; obtain ⟨go, hgo⟩ : ∃ go, go = gk := ⟨_, rfl⟩
    have HE2 := Lib.hid (show isPartM s = (if (wordR (s.drop i)).length = (s.drop i).length then false else if wordR (s.drop i) = [] then true
      else if sepOk (wordR (s.drop i)) then partD go ((wordR (s.drop i)).drop (sepN (wordR (s.drop i)))) else false) by rw [hgo]; exact HE.out)
    clear HE; have hgL : s.length - i ≤ go := by omega
    go_wp2_with fail
    go_loopg [3] (s.length - i) (fun g iv wr => ∃ m : Nat, iv = .int .i64 (m : Nat) ∧ i ≤ m ∧ m ≤ s.length ∧ g = s.length - m ∧ Hid (wordR (s.drop i) = wordR (s.drop m)) ∧ wi = wr)
    case atStart => exact ⟨i, rfl, by omega, hi, rfl, Lib.hid rfl, rfl⟩
    case round =>
      obtain ⟨m, rfl, him, hm, hgm, HW, rfl⟩ := hrel; by_cases hml : m < s.length
      · obtain ⟨b, hb⟩ : ∃ b, s[m]? = some b := ⟨_, List.getElem?_eq_getElem hml⟩
        have HB := Lib.hid hb; have hget := S_get hb; have b8 := u8_nat b; have wk := IntWalk.i64_in ((m : Int) + 1) (by omega); have mlt : (m : Int) < (s.length : Int) := by omega
        clear hb
        cases hlo : lettersB.contains b with
        | true =>
          have HL2 := Lib.hid (fun w' => show Calls Tryz.prog 100 #[.int .u8 (b.toNat : Nat)] w' fun e w1 => e = .returned (.bool true) ∧ w1 = w' by have := HLo.out b w'; rwa [hlo] at this); have HLB := Lib.hid hlo; clear hlo; go_wp2_with (go_at_call 100; refine (HL2.out _).mono ?_; rintro e w1 ⟨rfl, rfl⟩)
          go_roundg (s.length - (m + 1))
          case measure => omega
          case rel => exact ⟨m + 1, by go_num, by omega, by omega, rfl, Lib.hid (by rw [HW.out, wordR_step HB.out HLB.out]), rfl⟩
        | false =>
          have HL2 := Lib.hid (fun w' => show Calls Tryz.prog 100 #[.int .u8 (b.toNat : Nat)] w' fun e w1 => e = .returned (.bool false) ∧ w1 = w' by have := HLo.out b w'; rwa [hlo] at this); have HW2 := Lib.hid (show wordR (s.drop i) = s.drop m by rw [HW.out]; exact wordR_stop (fun c hc => by rw [HB.out] at hc; cases hc; exact hlo)); have HLB := Lib.hid hlo; clear hlo; by_cases hmi : m = i
          · have q1 := (nat_eq hmi).1; have HR := Lib.hid (show isPartM s = false by rw [HE2.out, if_pos ((wordR_len hi him hm HW2.out).2 hmi)]); clear hmi; go_wp2_with (go_at_call 100; refine (HL2.out _).mono ?_; rintro e w1 ⟨rfl, rfl⟩); go_ret; exact ⟨ret_bool HR.out.symm, HK.out⟩
          · have q1 := (nat_ne hmi).1; have q2 := (nat_ne (show m ≠ s.length by omega)).1
            have HR := Lib.hid (show isPartM s = (if sepOk (s.drop m) then partD go ((s.drop m).drop (sepN (s.drop m))) else false) by
              rw [HE2.out, if_neg (fun h => hmi ((wordR_len hi him hm HW2.out).1 h)), HW2.out, if_neg (fun h => by have := congrArg List.length h; rw [List.length_drop] at this; simp at this; omega)])
            have hb0 : (s.drop m)[0]? = some b := by rw [List.getElem?_drop, Nat.add_zero]; exact HB.out
            have HB0 := Lib.hid hb0; clear HE2 HW hb0
            go_upto_block 4 with (go_at_call 100; refine (HL2.out _).mono ?_; rintro e w1 ⟨rfl, rfl⟩)
            go_cut [3] from 28 to 55 (fun jv wx => ∃ j : Nat, jv = .int .i64 (j : Nat) ∧ m ≤ j ∧ j ≤ s.length ∧ Hid (sepN (s.drop m) = j - m) ∧ Hid (Keep [] w wx))
            case first =>
              go_wp2_with fail
              go_loopg [3] (s.length - m) (fun g iv wr => ∃ j : Nat, iv = .int .i64 (j : Nat) ∧ m ≤ j ∧ j ≤ s.length ∧ g = s.length - j ∧ Hid (∀ (x : Nat) c, x < j - m → (s.drop m)[x]? = some c → c = b) ∧ Hid (m < j → b ≠ 47) ∧ Hid (Keep [] w wr))
              case atStart => exact ⟨m, rfl, by omega, hm, rfl, Lib.hid (fun x c h => by omega), Lib.hid (fun h => by omega), HK⟩
              case round =>
                obtain ⟨j, rfl, hmj, hj, hgj, HA, H47, HK2⟩ := hrel; by_cases hgoes : ∃ c, s[j]? = some c ∧ c = b ∧ b ≠ 47
                · obtain ⟨c, hc, rfl, h47⟩ := hgoes; have hget2 := S_get hc; have hjl := (List.getElem?_eq_some_iff.1 hc).1; have jlt : (j : Int) < (s.length : Int) := by omega
                  have wk2 := IntWalk.i64_in ((j : Int) + 1) (by omega); have q3 := (int_ne (show (c.toNat : Int) ≠ 47 by have := b_ne (by decide) (show c ≠ UInt8.ofNat 47 from h47); omega)).2; have HC := Lib.hid hc; have HN := Lib.hid h47; clear hc h47; go_wp2_with fail; go_quiet ((go_at_call 100; exact Calls.quiet_of_same (HL2.out _))); go_wp2_with fail
                  go_roundg (s.length - (j + 1))
                  case measure => omega
                  case rel => exact ⟨j + 1, by go_num, by omega, by omega, rfl, Lib.hid (fun x d hx hd => by
                    rcases Nat.lt_or_ge x (j - m) with h | h
                    · exact HA.out x d h hd
                    · have : x = j - m := by omega
                      subst this; rw [List.getElem?_drop, show m + (j - m) = j by omega, HC.out] at hd
                      exact (Option.some.inj hd).symm), Lib.hid (fun _ => HN.out), Lib.hid (HK2.out.drewN _)⟩
                · have hstop : ∀ c, (s.drop m)[j - m]? = some c → c ≠ b ∨ b = 47 := fun c hc => by
                    rw [List.getElem?_drop, show m + (j - m) = j by omega] at hc; rcases Decidable.em (b = 47) with h | h
                    · exact .inr h
                    · exact .inl (fun h2 => hgoes ⟨c, hc, h2, h⟩)
                  have HN := Lib.hid (show sepN (s.drop m) = j - m from sepN_at HB0.out (by rw [List.length_drop]; omega) HA.out hstop (fun h => by
                    rcases Nat.lt_or_ge m j with h1 | h1
                    · exact absurd h (H47.out h1)
                    · omega))
                  have HS := Lib.hid hstop; clear hgoes hstop; by_cases hjl : j < s.length
                  · obtain ⟨c, hc⟩ : ∃ c, s[j]? = some c := ⟨_, List.getElem?_eq_getElem hjl⟩
                    have hget2 := S_get hc; have c8 := u8_nat c; have jlt : (j : Int) < (s.length : Int) := by omega
                    have hcs := HS.out c (by rw [List.getElem?_drop, show m + (j - m) = j by omega]; exact hc); by_cases hcb : c = b
                    · have h47 : b = 47 := by
                        rcases hcs with h | h
                        · exact absurd hcb h
                        · exact h
                      subst hcb; have q3 := (int_eq (show (c.toNat : Int) = 47 by rw [h47]; rfl)).2; have q4 := (int_eq (show (c.toNat : Int) = (c.toNat : Int) from rfl)).1; clear hc hcs h47; go_wp2_with fail; go_quiet (fail); go_wp2_with fail; go_meet; exact ⟨j, rfl, hmj, hj, HN, Lib.hid (HK2.out.drewN _)⟩
                    · have q3 := (nat_ne (show c.toNat ≠ b.toNat from fun h => hcb (UInt8.toNat_inj.1 h))).1; clear hc hcs hcb; go_wp2_with fail; go_quiet (fail); go_wp2_with fail; go_meet; exact ⟨j, rfl, hmj, hj, HN, Lib.hid (HK2.out.drewN _)⟩
                  · have jlt : ¬ (j : Int) < (s.length : Int) := by omega
                    go_wp2_with fail; go_quiet (fail); go_wp2_with fail; go_meet; exact ⟨j, rfl, hmj, hj, HN, Lib.hid (HK2.out.drewN _)⟩
            case rest =>
            obtain ⟨j, rfl, hmj, hj, HN, HK2⟩ := hcut; have HOk := Lib.hid (show sepOk (s.drop m) = (decide (b = 46 ∧ j - m = 1) || decide (b = 95 ∧ (j - m = 1 ∨ j - m = 2)) || decide (b = 45 ∧ 1 ≤ j - m)) by rw [sepOk_at HB0.out, HN.out]); have HR2 := Lib.hid (show isPartM s = (if sepOk (s.drop m) then partD go (s.drop j) else false) by rw [HR.out, HN.out, List.drop_drop, show m + (j - m) = j by omega]); obtain ⟨n, hn⟩ : ∃ n : Nat, j = m + n := ⟨j - m, by omega⟩
            subst hn; have wk2 := IntWalk.i64_in (((m + n : Nat) : Int) - (m : Int)) (by omega); have en : (((m + n : Nat) : Int) - (m : Int)) = (n : Int) := by omega
            rw [en] at wk2; have en2 : (m : Int) + (n : Int) - (m : Int) = (n : Int) := by omega
            rw [Nat.add_sub_cancel_left] at HOk; have hn8 : n ≤ 128 := by omega
            have HI := Lib.hid him; clear HR HN; have hbN : ∀ n : Nat, n < 256 → b ≠ UInt8.ofNat n → (b.toNat : Int) ≠ (n : Nat) := fun n hn h => by have := b_ne hn h; omega
            by_cases h46 : b = 46
            · have q3 := (int_eq (show (b.toNat : Int) = 46 by rw [h46]; rfl)).1; by_cases hn1 : n = 1
              · have q4 := (int_eq (show (n : Int) = 1 by omega)).1; have HF := Lib.hid (show isPartM s = partD go (s.drop (m + n)) by rw [HR2.out, HOk.out, if_pos (by simp [h46, hn1])]); clear HR2 HOk h46 hbN; go_wp2_with fail
                go_roundg (go - 1)
                case measure => omega
                case rel => exact ⟨m + n, by go_num, by omega, by omega, Lib.hid (by rw [HF.out]; congr 1; omega), HK2⟩
              · have q4 := (int_ne (show (n : Int) ≠ 1 by omega)).1; have q5 := (int_ne (show (46 : Int) ≠ 95 by decide)).1; have q7 := (int_ne (show (46 : Int) ≠ 45 by decide)).1; have e46 : (b.toNat : Int) = 46 := by rw [h46]; rfl
                rw [← e46] at q5 q7; have HF := Lib.hid (show isPartM s = false by rw [HR2.out, HOk.out, if_neg (by simp [h46, hn1])]); clear HR2 HOk h46 hbN e46; go_wp2_with fail; go_ret; exact ⟨ret_bool HF.out.symm, HK2.out⟩
            · have q3 := (int_ne (show (b.toNat : Int) ≠ 46 from hbN 46 (by decide) h46)).1; by_cases h95 : b = 95
              · have q5 := (int_eq (show (b.toNat : Int) = 95 by rw [h95]; rfl)).1; by_cases hn1 : n = 1
                · have q4 := (int_eq (show (n : Int) = 1 by omega)).1; have HF := Lib.hid (show isPartM s = partD go (s.drop (m + n)) by rw [HR2.out, HOk.out, if_pos (by simp [h95, hn1])]); clear HR2 HOk h46 h95 hbN; go_wp2_with fail
                  go_roundg (go - 1)
                  case measure => omega
                  case rel => exact ⟨m + n, by go_num, by omega, by omega, Lib.hid (by rw [HF.out]; congr 1; omega), HK2⟩
                · have q4 := (int_ne (show (n : Int) ≠ 1 by omega)).1; by_cases hn2 : n = 2
                  · have q6 := (int_eq (show (n : Int) = 2 by omega)).1; have HF := Lib.hid (show isPartM s = partD go (s.drop (m + n)) by rw [HR2.out, HOk.out, if_pos (by simp [h95, hn2])]); clear HR2 HOk h46 h95 hbN; go_wp2_with fail
                    go_roundg (go - 1)
                    case measure => omega
                    case rel => exact ⟨m + n, by go_num, by omega, by omega, Lib.hid (by rw [HF.out]; congr 1; omega), HK2⟩
                  · have q6 := (int_ne (show (n : Int) ≠ 2 by omega)).1; have q7 := (int_ne (show (95 : Int) ≠ 45 by decide)).1; have e95 : (b.toNat : Int) = 95 := by rw [h95]; rfl
                    rw [← e95] at q7; have HF := Lib.hid (show isPartM s = false by rw [HR2.out, HOk.out, if_neg (by simp [h95, hn1, hn2])]); clear HR2 HOk h46 h95 hbN e95; go_wp2_with fail; go_ret; exact ⟨ret_bool HF.out.symm, HK2.out⟩
              · have q5 := (int_ne (show (b.toNat : Int) ≠ 95 from hbN 95 (by decide) h95)).1; by_cases h45 : b = 45
                · have q7 := (int_eq (show (b.toNat : Int) = 45 by rw [h45]; rfl)).1; by_cases hn1 : 1 ≤ n
                  · have q8 : (1 : Int) ≤ (n : Int) := by omega
                    have HF := Lib.hid (show isPartM s = partD go (s.drop (m + n)) by rw [HR2.out, HOk.out, if_pos (by simp [h45]; omega)]); clear HR2 HOk h46 h95 h45 hbN; go_wp2_with fail
                    go_roundg (go - 1)
                    case measure => omega
                    case rel => exact ⟨m + n, by go_num, by omega, by omega, Lib.hid (by rw [HF.out]; congr 1; omega), HK2⟩
                  · have q8 : ¬ (1 : Int) ≤ (n : Int) := by omega
                    have HF := Lib.hid (show isPartM s = false by rw [HR2.out, HOk.out, if_neg (by simp [h45]; omega)]); clear HR2 HOk h46 h95 h45 hbN; go_wp2_with fail; go_ret; exact ⟨ret_bool HF.out.symm, HK2.out⟩
                · have q7 := (int_ne (show (b.toNat : Int) ≠ 45 from hbN 45 (by decide) h45)).1; have HF := Lib.hid (show isPartM s = false by rw [HR2.out, HOk.out, if_neg (by simp [h46, h95, h45])]); clear HR2 HOk h46 h95 h45 hbN; go_wp2_with fail; go_ret; exact ⟨ret_bool HF.out.symm, HK2.out⟩
      · have hme : m = s.length := by omega
        have mlt : ¬ (m : Int) < (s.length : Int) := by omega
        have HW2 := Lib.hid (show wordR (s.drop i) = s.drop m by rw [HW.out]; exact wordR_stop (fun c hc => by rw [hme, List.getElem?_eq_none (Nat.le_refl _)] at hc; cases hc)); by_cases hmi : m = i
        · have q1 := (nat_eq hmi).1; have HR := Lib.hid (show isPartM s = false by rw [HE2.out, if_pos ((wordR_len hi him hm HW2.out).2 hmi)]); clear hmi hml hme; go_wp2_with fail; go_ret; exact ⟨ret_bool HR.out.symm, HK.out⟩
        · have q1 := (nat_ne hmi).1; have q2 := (nat_eq hme).1
          have HR := Lib.hid (show isPartM s = true by
            rw [HE2.out, if_neg (fun h => hmi ((wordR_len hi him hm HW2.out).1 h)), HW2.out, if_pos (by rw [hme, List.drop_length])])
          clear hmi hml hme; go_wp2_with fail; go_ret; exact ⟨ret_bool HR.out.symm, HK.out⟩
def tagOk (i : Nat) (b : UInt8) : Bool := lettersB.contains b || decide (65 ≤ b.toNat ∧ b.toNat ≤ 90) || b == 95 || (decide (i ≠ 0) && (b == 46 || b == 45))
theorem tags_eq (b : UInt8) : tagsB.contains b = (lettersB.contains b || decide (65 ≤ b.toNat ∧ b.toNat ≤ 90) || b == 95 || (b == 46 || b == 45)) := by
  refine all_u8 (p := fun b => tagsB.contains b = (lettersB.contains b || decide (65 ≤ b.toNat ∧ b.toNat ≤ 90) || b == 95 || (b == 46 || b == 45))) ?_ b; decide +kernel
theorem tag_first (b : UInt8) : tagOk 0 b = (b != 46 && b != 45 && tagsB.contains b) := by
  refine all_u8 (p := fun b => tagOk 0 b = (b != 46 && b != 45 && tagsB.contains b)) ?_ b; decide +kernel
theorem tag_later {i : Nat} (h : i ≠ 0) (b : UInt8) : tagOk i b = tagsB.contains b := by
  unfold tagOk; rw [tags_eq, decide_eq_true h, Bool.true_and]
theorem isTag_all (s : List UInt8) : isTagM s = true ↔ (1 ≤ s.length ∧ s.length ≤ 128) ∧ ∀ (i : Nat) b, s[i]? = some b → tagOk i b = true := by
  unfold isTagM
  cases s with
  | nil => simp
  | cons x r =>
    simp only [List.isEmpty_cons, Bool.not_false, Bool.true_and, Bool.and_eq_true, decide_eq_true_eq, List.headD_cons, List.all_cons]; constructor
    · rintro ⟨⟨⟨h1, h2⟩, h3⟩, h4, h5⟩; refine ⟨⟨by simp, h1⟩, fun i b hb => ?_⟩
      cases i with
      | zero => simp at hb; subst hb; rw [tag_first, h2, h3, h4]; rfl
      | succ i =>
        rw [tag_later (by omega)]; rw [List.all_eq_true] at h5; exact h5 b (List.mem_of_getElem? (by simpa using hb))
    · rintro ⟨⟨_, h1⟩, h2⟩; have h0 := h2 0 x rfl; rw [tag_first] at h0; simp only [Bool.and_eq_true] at h0; refine ⟨⟨⟨h1, h0.1.1⟩, h0.1.2⟩, h0.2, ?_⟩; rw [List.all_eq_true]; intro b hb; obtain ⟨j, hj⟩ := List.mem_iff_getElem?.1 hb; have := h2 (j + 1) b (by simpa using hj); rwa [tag_later (by omega)] at this
set_option maxRecDepth 100000 in
set_option maxHeartbeats 2000000 in
theorem ref15_IsTag (s : List UInt8) (w : World) (hs : s.length ≤ maxLen) :
    Calls Tryz.prog 58 #[.string (S s)] w fun e w' => e = .returned (.bool (isTagM s)) ∧ Keep [] w w' := by
  have hs' : s.length ≤ 9223372036854775807 := hs; have HM := Lib.hid (isTag_all s); have HLo := Lib.hid (fun (b : UInt8) w' => ref15_low b w'); have sS := S_size s; clear hs; go_enter Tryz.func58, Tryz.ntmps58; go_wp2_with fail
  go_loopg [3] s.length (fun g iv wr => ∃ i : Nat, iv = .int .i64 (i : Nat) ∧ i ≤ s.length ∧ g = s.length - i ∧ Hid (∀ (j : Nat) b, j < i → s[j]? = some b → tagOk j b = true) ∧ w = wr)
  case atStart => exact ⟨0, rfl, by omega, rfl, Lib.hid (fun j b h => by omega), rfl⟩
  case round =>
    obtain ⟨i, rfl, hi, hg, HA, rfl⟩ := hrel; by_cases hlt : i < s.length
    · obtain ⟨b, hb⟩ : ∃ b, s[i]? = some b := ⟨_, List.getElem?_eq_getElem hlt⟩
      have HB := Lib.hid hb; have hget := S_get hb; have b8 := u8_nat b; have ilt : (i : Int) < (s.length : Int) := by omega
      have wk := IntWalk.i64_in ((i : Int) + 1) (by omega)
      have HON := Lib.hid (fun (h : tagOk i b = true) => show ∀ (j : Nat) c, j < i + 1 → s[j]? = some c → tagOk j c = true from fun j c hj hc => by
        rcases Nat.lt_or_ge j i with h1 | h1
        · exact HA.out j c h1 hc
        · have : j = i := by omega
          subst this; rw [HB.out] at hc; cases hc; exact h)
      have HNO := Lib.hid (fun (h : ¬ tagOk i b = true) => show isTagM s = false by
        rw [Bool.eq_false_iff]; exact fun h1 => h (((HM.out).1 h1).2 i b HB.out))
      have HT := Lib.hid (show tagOk i b = (lettersB.contains b || decide (65 ≤ b.toNat ∧ b.toNat ≤ 90) || b == 95 || (decide (i ≠ 0) && (b == 46 || b == 45))) from rfl); have hbN : ∀ n : Nat, n < 256 → b ≠ UInt8.ofNat n → (b.toNat : Int) ≠ (n : Nat) := fun n hn h => by have := b_ne hn h; omega
      clear hb
      cases hlo : lettersB.contains b with
      | true =>
        have HL2 := Lib.hid (fun w' => show Calls Tryz.prog 100 #[.int .u8 (b.toNat : Nat)] w' fun e w1 => e = .returned (.bool true) ∧ w1 = w' by have := HLo.out b w'; rwa [hlo] at this); have HY := Lib.hid (HON.out (by rw [HT.out, hlo]; rfl)); clear hlo HNO HON HT HM hbN; go_wp2_with (go_at_call 100; refine (HL2.out _).mono ?_; rintro e w1 ⟨rfl, rfl⟩)
        go_roundg (s.length - (i + 1))
        case measure => omega
        case rel => exact ⟨i + 1, by go_num, by omega, rfl, HY, rfl⟩
      | false =>
        have HL2 := Lib.hid (fun w' => show Calls Tryz.prog 100 #[.int .u8 (b.toNat : Nat)] w' fun e w1 => e = .returned (.bool false) ∧ w1 = w' by have := HLo.out b w'; rwa [hlo] at this); rw [hlo, Bool.false_or] at HT; clear hlo; by_cases u1 : 65 ≤ b.toNat
        · have i1 : (65 : Int) ≤ (b.toNat : Int) := by omega
          by_cases u2 : b.toNat ≤ 90
          · have i2 : (b.toNat : Int) ≤ 90 := by omega
            have HY := Lib.hid (HON.out (by rw [HT.out]; simp [u1, u2])); clear HNO HON HT HM hbN u1 u2; go_wp2_with (go_at_call 100; refine (HL2.out _).mono ?_; rintro e w1 ⟨rfl, rfl⟩)
            go_roundg (s.length - (i + 1))
            case measure => omega
            case rel => exact ⟨i + 1, by go_num, by omega, rfl, HY, rfl⟩
          · have i2 : decide ((b.toNat : Int) ≤ 90) = false := decide_eq_false (by omega); by_cases h95 : b = 95
            · have q3 := (int_eq (show (b.toNat : Int) = 95 by rw [h95]; rfl)).2; have HY := Lib.hid (HON.out (by rw [HT.out]; simp [h95])); clear HNO HON HT HM hbN h95 u1 u2; go_wp2_with (go_at_call 100; refine (HL2.out _).mono ?_; rintro e w1 ⟨rfl, rfl⟩)
              go_roundg (s.length - (i + 1))
              case measure => omega
              case rel => exact ⟨i + 1, by go_num, by omega, rfl, HY, rfl⟩
            · have q3 := (int_ne (show (b.toNat : Int) ≠ 95 from hbN 95 (by decide) h95)).2; by_cases hi0 : i = 0
              · have q4 := (int_eq (show (i : Int) = 0 by omega)).1; have HF := Lib.hid (HNO.out (by rw [HT.out]; simp [u2, h95, hi0])); clear HNO HON HT HM hbN h95 hi0 u1 u2; go_wp2_with (go_at_call 100; refine (HL2.out _).mono ?_; rintro e w1 ⟨rfl, rfl⟩); go_ret; exact ⟨ret_bool HF.out.symm, Keep.refl _ _⟩
              · have q4 := (int_ne (show (i : Int) ≠ 0 by omega)).1; by_cases h46 : b = 46
                · have q5 := (int_eq (show (b.toNat : Int) = 46 by rw [h46]; rfl)).2; have HY := Lib.hid (HON.out (by rw [HT.out]; simp [h46, hi0])); clear HNO HON HT HM hbN h95 hi0 h46 u1 u2; go_wp2_with (go_at_call 100; refine (HL2.out _).mono ?_; rintro e w1 ⟨rfl, rfl⟩)
                  go_roundg (s.length - (i + 1))
                  case measure => omega
                  case rel => exact ⟨i + 1, by go_num, by omega, rfl, HY, rfl⟩
                · have q5 := (int_ne (show (b.toNat : Int) ≠ 46 from hbN 46 (by decide) h46)).2; by_cases h45 : b = 45
                  · have q6 := (int_eq (show (b.toNat : Int) = 45 by rw [h45]; rfl)).2; have HY := Lib.hid (HON.out (by rw [HT.out]; simp [h45, hi0])); clear HNO HON HT HM hbN h95 hi0 h46 h45 u1 u2; go_wp2_with (go_at_call 100; refine (HL2.out _).mono ?_; rintro e w1 ⟨rfl, rfl⟩)
                    go_roundg (s.length - (i + 1))
                    case measure => omega
                    case rel => exact ⟨i + 1, by go_num, by omega, rfl, HY, rfl⟩
                  · have q6 := (int_ne (show (b.toNat : Int) ≠ 45 from hbN 45 (by decide) h45)).2; have HF := Lib.hid (HNO.out (by rw [HT.out]; simp [u2, h95, h46, h45])); clear HNO HON HT HM hbN h95 hi0 h46 h45 u1 u2; go_wp2_with (go_at_call 100; refine (HL2.out _).mono ?_; rintro e w1 ⟨rfl, rfl⟩); go_ret; exact ⟨ret_bool HF.out.symm, Keep.refl _ _⟩
        · have i1 : ¬ (65 : Int) ≤ (b.toNat : Int) := by omega
          by_cases h95 : b = 95
          · have q3 := (int_eq (show (b.toNat : Int) = 95 by rw [h95]; rfl)).2; have HY := Lib.hid (HON.out (by rw [HT.out]; simp [h95])); clear HNO HON HT HM hbN h95 u1; go_wp2_with (go_at_call 100; refine (HL2.out _).mono ?_; rintro e w1 ⟨rfl, rfl⟩)
            go_roundg (s.length - (i + 1))
            case measure => omega
            case rel => exact ⟨i + 1, by go_num, by omega, rfl, HY, rfl⟩
          · have q3 := (int_ne (show (b.toNat : Int) ≠ 95 from hbN 95 (by decide) h95)).2; by_cases hi0 : i = 0
            · have q4 := (int_eq (show (i : Int) = 0 by omega)).1; have HF := Lib.hid (HNO.out (by rw [HT.out]; simp [u1, h95, hi0])); clear HNO HON HT HM hbN h95 hi0 u1; go_wp2_with (go_at_call 100; refine (HL2.out _).mono ?_; rintro e w1 ⟨rfl, rfl⟩); go_ret; exact ⟨ret_bool HF.out.symm, Keep.refl _ _⟩
            · have q4 := (int_ne (show (i : Int) ≠ 0 by omega)).1; by_cases h46 : b = 46
              · have q5 := (int_eq (show (b.toNat : Int) = 46 by rw [h46]; rfl)).2; have HY := Lib.hid (HON.out (by rw [HT.out]; simp [h46, hi0])); clear HNO HON HT HM hbN h95 hi0 h46 u1; go_wp2_with (go_at_call 100; refine (HL2.out _).mono ?_; rintro e w1 ⟨rfl, rfl⟩)
                go_roundg (s.length - (i + 1))
                case measure => omega
                case rel => exact ⟨i + 1, by go_num, by omega, rfl, HY, rfl⟩
              · have q5 := (int_ne (show (b.toNat : Int) ≠ 46 from hbN 46 (by decide) h46)).2; by_cases h45 : b = 45
                · have q6 := (int_eq (show (b.toNat : Int) = 45 by rw [h45]; rfl)).2; have HY := Lib.hid (HON.out (by rw [HT.out]; simp [h45, hi0])); clear HNO HON HT HM hbN h95 hi0 h46 h45 u1; go_wp2_with (go_at_call 100; refine (HL2.out _).mono ?_; rintro e w1 ⟨rfl, rfl⟩)
                  go_roundg (s.length - (i + 1))
                  case measure => omega
                  case rel => exact ⟨i + 1, by go_num, by omega, rfl, HY, rfl⟩
                · have q6 := (int_ne (show (b.toNat : Int) ≠ 45 from hbN 45 (by decide) h45)).2; have HF := Lib.hid (HNO.out (by rw [HT.out]; simp [u1, h95, h46, h45])); clear HNO HON HT HM hbN h95 hi0 h46 h45 u1; go_wp2_with (go_at_call 100; refine (HL2.out _).mono ?_; rintro e w1 ⟨rfl, rfl⟩); go_ret; exact ⟨ret_bool HF.out.symm, Keep.refl _ _⟩
    · have ilt : ¬ (i : Int) < (s.length : Int) := by omega
      have hie : i = s.length := by omega
      have HE := Lib.hid (show isTagM s = true ↔ 1 ≤ s.length ∧ s.length ≤ 128 from ⟨fun h => (HM.out.1 h).1, fun h => HM.out.2 ⟨h, fun j b hb => HA.out j b (by have := (List.getElem?_eq_some_iff.1 hb).1; omega) hb⟩⟩); clear hie; by_cases c1 : 1 ≤ s.length
      · have q1 : decide ((s.length : Int) ≥ 1) = true := by simp; omega
        by_cases c2 : s.length ≤ 128
        · have q2 : decide ((s.length : Int) ≤ 128) = true := by simp; omega
          have HR := Lib.hid (HE.out.2 ⟨c1, c2⟩); clear c1 c2 HE; go_wp2_with fail; go_ret; exact ⟨ret_bool HR.out.symm, Keep.refl _ _⟩
        · have q2 : decide ((s.length : Int) ≤ 128) = false := by simp; omega
          have HR := Lib.hid (show isTagM s = false by rw [Bool.eq_false_iff]; exact fun h => c2 (HE.out.1 h).2); clear c1 c2 HE; go_wp2_with fail; go_ret; exact ⟨ret_bool HR.out.symm, Keep.refl _ _⟩
      · have q1 : decide ((s.length : Int) ≥ 1) = false := by simp; omega
        have HR := Lib.hid (show isTagM s = false by rw [Bool.eq_false_iff]; exact fun h => c1 (HE.out.1 h).1); clear c1 HE; go_wp2_with fail; go_ret; exact ⟨ret_bool HR.out.symm, Keep.refl _ _⟩
end Go.Proofs.YtlhnjkekjbbhcaaGreatDoor
namespace Go.Proofs.YtlhnjkekjbbhcaaGreatDoor
open Go.RowKit
def Mem (w0 w : World) (L : List (Nat × TypeId × List Value)) : Prop :=
  Keep [] w0 w ∧ (∀ (i j : Nat) (x y : Nat × TypeId × List Value), L[i]? = some x → L[j]? = some y → x.1 = y.1 → i = j) ∧ ∀ x ∈ L, w0.heap.size ≤ x.1 ∧ Blk w x.1 x.2.1 x.2.2
section
variable {w0 w w' : World} {L : List (Nat × TypeId × List Value)}
theorem Mem.nil (w : World) : Mem w w [] := ⟨Keep.refl _ _, fun i j x y h => by simp at h, fun x h => by simp at h⟩
theorem Mem.of (k : Keep [] w0 w) : Mem w0 w [] := ⟨k, fun i j x y h => by simp at h, fun x h => by simp at h⟩
theorem Mem.kp (h : Mem w0 w L) : Keep [] w0 w := h.1
theorem Mem.blk (h : Mem w0 w L) (i : Nat) {b : Nat} {T : TypeId} {cs : List Value} (hi : L[i]? = some (b, T, cs)) : Blk w b T cs := (h.2.2 _ (List.mem_of_getElem? hi)).2
theorem Mem.lo (h : Mem w0 w L) (i : Nat) {b : Nat} {T : TypeId} {cs : List Value} (hi : L[i]? = some (b, T, cs)) : w0.heap.size ≤ b := (h.2.2 _ (List.mem_of_getElem? hi)).1
theorem Mem.get (h : Mem w0 w L) (i : Nat) {b : Nat} {T : TypeId} {cs : List Value} (hi : L[i]? = some (b, T, cs)) (k : Nat) {v : Value} (hk : cs[k]? = some v) : w.cell? ⟨b, k, none⟩ = some v := (h.blk i hi).get hk
theorem Mem.fz (h : Mem w0 w L) (i : Nat) {b : Nat} {T : TypeId} {cs : List Value} (hi : L[i]? = some (b, T, cs)) (k : Nat) : w.frozen? ⟨b, k, none⟩ = false := (h.blk i hi).frozen k
theorem Mem.keep (h : Mem w0 w L) {S : List Nat} (k : Keep S w w') (hS : ∀ x ∈ S, w0.heap.size ≤ x ∧ ∀ y ∈ L, y.1 ≠ x) : Mem w0 w' L :=
  ⟨h.1.trans' k fun x hx hlt => absurd (hS x hx).1 (by omega), h.2.1, fun x hx => ⟨(h.2.2 x hx).1, k.blk (h.2.2 x hx).2 fun hh => (hS _ hh).2 x hx rfl⟩⟩
theorem Mem.keep0 (h : Mem w0 w L) (k : Keep [] w w') : Mem w0 w' L := h.keep k (by simp)
theorem Mem.cons (h : Mem w0 w L) (k : Keep [] w w') {b : Nat} {T : TypeId} {cs : List Value} (hb : w.heap.size ≤ b) (hB : Blk w' b T cs) : Mem w0 w' ((b, T, cs) :: L) := by
  have h' := h.keep0 k; have hne : ∀ x ∈ L, x.1 < w.heap.size := fun x hx => (h.2.2 x hx).2.lt
  refine ⟨h'.1, fun i j x y hi hj he => ?_, fun x hx => ?_⟩
  · cases i with
    | zero =>
      cases j with
      | zero => rfl
      | succ j =>
        simp at hi hj; subst hi; have := hne _ (List.mem_of_getElem? hj); simp at he; omega
    | succ i =>
      cases j with
      | zero =>
        simp at hi hj; subst hj; have := hne _ (List.mem_of_getElem? hi); simp at he; omega
      | succ j =>
        simp at hi hj; rw [h.2.1 i j x y hi hj he]
  · rcases List.mem_cons.1 hx with rfl | hx
    · exact ⟨Nat.le_trans h.1.size hb, hB⟩
    · exact h'.2.2 x hx
theorem Mem.alloc (h : Mem w0 w L) (Z : List Value) (T : TypeId) : Mem w0 (w.alloc (.cells Z.toArray T)) ((w.heap.size, T, Z) :: L) := h.cons ((Keep.refl _ _).alloc _) (Nat.le_refl _) (Blk.new w Z T)
theorem Mem.allocA (h : Mem w0 w L) (Z : List Value) (A : Array Value) (hA : A = Z.toArray) (T : TypeId) : Mem w0 (w.alloc (.cells A T)) ((w.heap.size, T, Z) :: L) := by subst hA; exact h.alloc Z T
theorem Mem.tail {x : Nat × TypeId × List Value} (h : Mem w0 w (x :: L)) : Mem w0 w L := ⟨h.1, fun i j x y hi hj he => by have := h.2.1 (i + 1) (j + 1) x y (by simpa using hi) (by simpa using hj) he; omega, fun y hy => h.2.2 y (List.mem_cons_of_mem _ hy)⟩
theorem Mem.upd (h : Mem w0 w L) (i : Nat) {b : Nat} {T : TypeId} {cs ds : List Value} (hi : L[i]? = some (b, T, cs)) (k : Keep [b] w w') (hB : Blk w' b T ds) : Mem w0 w' (L.set i (b, T, ds)) := by
  have hlt : i < L.length := (List.getElem?_eq_some_iff.1 hi).1; refine ⟨h.1.trans' k fun x hx hlt => ?_, fun p q x y hp hq he => ?_, fun x hx => ?_⟩
  · have := h.lo i hi; have h1 : x = b := (by simpa using hx)
    omega
  · have back : ∀ (p : Nat) x, (L.set i (b, T, ds))[p]? = some x → ∃ z, L[p]? = some z ∧ z.1 = x.1 := fun p x hp => by
      rw [List.getElem?_set] at hp
      split at hp
      · rename_i hh; subst hh; cases hp; exact ⟨_, hi, rfl⟩
      · exact ⟨x, hp, rfl⟩
    obtain ⟨x', hp', e1⟩ := back p x hp; obtain ⟨y', hq', e2⟩ := back q y hq; exact h.2.1 p q x' y' hp' hq' (by rw [e1, e2]; exact he)
  · obtain ⟨p, hp⟩ := List.mem_iff_getElem?.1 hx; rw [List.getElem?_set] at hp
    split at hp
    · rename_i hh; subst hh; cases hp; exact ⟨h.lo _ hi, hB⟩
    · rename_i hh; refine ⟨(h.2.2 x (List.mem_of_getElem? hp)).1, k.blk (h.2.2 x (List.mem_of_getElem? hp)).2 fun hm => hh ?_⟩; have h1 : x.1 = b := (by simpa using hm)
      exact h.2.1 i p _ x hi hp h1.symm
theorem Mem.setCell (h : Mem w0 w L) (i : Nat) {b : Nat} {T : TypeId} {cs : List Value} (hi : L[i]? = some (b, T, cs)) (o : Nat) (v : Value) : Mem w0 (w.setCell ⟨b, o, none⟩ v) (L.set i (b, T, cs.set o v)) :=
  h.upd i hi ((Keep.refl _ _).setCell _ _ fun _ => by simp) ((h.blk i hi).set o v)
theorem blk_overN {b : Nat} {T : TypeId} : ∀ (vs : List Value) {w : World} {pre xs : List Value}, xs.length = vs.length → Blk w b T (pre ++ xs) → Blk (w.setCells b pre.length vs) b T (pre ++ vs)
  | [], w, pre, xs, hl, h => by
    have : xs = [] := List.length_eq_zero_iff.1 (by simpa using hl); subst this; exact h
  | v :: r, w, pre, x :: xs, hl, h => by
    have h1 := h.set pre.length v; rw [List.set_append_right _ _ (Nat.le_refl _), Nat.sub_self, sqC] at h1; have h2 := blk_overN r (pre := pre ++ [v]) (xs := xs) (by simpa using hl) (by simpa using h1); simpa [World.setCells] using h2
theorem blk_overMid {b : Nat} {T : TypeId} : ∀ (vs : List Value) {w : World} {pre xs suf : List Value}, xs.length = vs.length → Blk w b T (pre ++ xs ++ suf) → Blk (w.setCells b pre.length vs) b T (pre ++ vs ++ suf)
  | [], w, pre, xs, suf, hl, h => by
    have : xs = [] := List.length_eq_zero_iff.1 (by simpa using hl); subst this; exact h
  | v :: r, w, pre, x :: xs, suf, hl, h => by
    have h1 := h.set pre.length v; rw [List.append_assoc, List.set_append_right _ _ (Nat.le_refl _), Nat.sub_self, List.cons_append, sqC] at h1; have h2 := blk_overMid r (pre := pre ++ [v]) (xs := xs) (suf := suf) (by simpa using hl) (by simpa using h1); simpa [World.setCells] using h2
theorem Mem.setAll (h : Mem w0 w L) (i : Nat) {b : Nat} {T : TypeId} {cs : List Value} (hi : L[i]? = some (b, T, cs)) (vs : List Value) (hl : cs.length = vs.length) : Mem w0 (w.setCells b 0 vs) (L.set i (b, T, vs)) :=
  h.upd i hi (Keep.setCells' b (fun _ => by simp) vs 0 w (Keep.refl _ _)) (blk_overN vs (pre := []) hl (h.blk i hi))
theorem Mem.setMid (h : Mem w0 w L) (i : Nat) {b : Nat} {T : TypeId} {cs : List Value} (hi : L[i]? = some (b, T, cs)) (pre xs suf vs : List Value) (hc : cs = pre ++ xs ++ suf) (hl : xs.length = vs.length) (o : Nat) (ho : o = pre.length) : Mem w0 (w.setCells b o vs) (L.set i (b, T, pre ++ vs ++ suf)) := by
  subst hc ho; exact h.upd i hi (Keep.setCells' b (fun _ => by simp) vs _ w (Keep.refl _ _)) (blk_overMid vs hl (h.blk i hi))
end
section
variable {P : Program} {ops : Array Oper} {rest : List Oper} {o : Oper} {a : Act} {w w0 : World} {Q : Exit → Act → World → Prop} {L : List (Nat × TypeId × List Value)}
def ZeroIs (P : Program) (ty : TypeId) (Z : List Value) : Prop := ∀ w : World, (Instr.alloc ty true (.tuple #[])).run P w = .ok (.pointer (some ⟨w.heap.size, 0, none⟩)) (w.alloc (.cells Z.toArray ty))
theorem wpList_allocM (hgd : o.guard = none) (ty : TypeId) (ho : o.op = .alloc ty) (Z : List Value) (HZ : Hid (ZeroIs P ty Z)) (HM : Hid (Mem w0 w L))
    (h : ∀ b w', Hid (Mem w0 w' ((b, ty, Z) :: L)) → Hid (Keep [] w w') → Hid (b = w.heap.size) → wpList P ops Q rest (a.put o.dst (.pointer (some ⟨b, 0, none⟩))) w') : wpList P ops Q (o :: rest) a w :=
  wpList_plain hgd fun _ hK => by
    unfold Oper.wp execOp; simp only [ho]; have hz := HZ.out w; simp only [Sem.run_bind, hz, Result.andThen_ok, Sem.run_pure]; exact hK _ _ (h _ _ (Lib.hid (HM.out.alloc Z ty)) (Lib.hid ((Keep.refl _ _).alloc _)) (Lib.hid rfl))
theorem wpList_boxM (hgd : o.guard = none) (ty : TypeId) (x : Operand) (ho : o.op = .box ty x) (cs : List Value) (hx : (a.eval x).cells = cs.toArray) (HM : Hid (Mem w0 w L))
    (h : ∀ b w', Hid (Mem w0 w' ((b, ty, cs) :: L)) → Hid (Keep [] w w') → Hid (b = w.heap.size) → wpList P ops Q rest (a.put o.dst (.pointer (some ⟨b, 0, none⟩))) w') : wpList P ops Q (o :: rest) a w :=
  Great.wpList_boxTo hgd ty x ho o.dst rfl w.heap.size rfl cs.toArray hx (h _ _ (Lib.hid (HM.out.alloc cs ty)) (Lib.hid ((Keep.refl _ _).alloc _)) (Lib.hid rfl))
theorem wpList_loadM (hw : Region.wanted o (yielded ops a.tmps) = true) (ty : TypeId) (x : Operand) (ho : o.op = .load ty x) (HM : Hid (Mem w0 w L)) (i : Nat) {b : Nat} {T : TypeId} {cs : List Value} (hi : L[i]? = some (b, T, cs)) (hx : a.eval x = .pointer (some ⟨b, 0, none⟩))
    (d : TypeDesc) (hu : P.underlying ty = some d) (hd : d.isRow = true) (hs : (P.info? ty).map (·.size) = some cs.length)
    (h : wpList P ops Q rest (a.put o.dst (.agg cs.toArray)) w) : wpList P ops Q (o :: rest) a w :=
  wpList_step fun K hK => by
    rw [if_pos hw]; exact wp_load_mid ty x ho b 0 hx cs d (HM.out.blk i hi).range' hu hd hs (hK _ _ h)
theorem wpList_loadPart (hw : Region.wanted o (yielded ops a.tmps) = true) (ty : TypeId) (x : Operand) (ho : o.op = .load ty x) (HM : Hid (Mem w0 w L)) (i : Nat) {b : Nat} {T : TypeId} {cs : List Value} (hi : L[i]? = some (b, T, cs)) (off : Nat) (hx : a.eval x = .pointer (some ⟨b, off, none⟩))
    (vs : List Value) (hv : ∀ j v, vs[j]? = some v → cs[off + j]? = some v) (d : TypeDesc) (hu : P.underlying ty = some d) (hd : d.isRow = true) (hs : (P.info? ty).map (·.size) = some vs.length)
    (h : wpList P ops Q rest (a.put o.dst (.agg vs.toArray)) w) : wpList P ops Q (o :: rest) a w :=
  wpList_step fun K hK => by
    rw [if_pos hw]; exact wp_load_mid ty x ho b off hx vs d (fun j v hj => (HM.out.blk i hi).get (hv j v hj)) hu hd hs (hK _ _ h)
theorem wpList_storeM (hgd : o.guard = none) (ty : TypeId) (x y : Operand) (ho : o.op = .store ty x y) (HM : Hid (Mem w0 w L)) (i : Nat) {b : Nat} {T : TypeId} {cs : List Value} (hi : L[i]? = some (b, T, cs)) (hx : a.eval x = .pointer (some ⟨b, 0, none⟩)) (vs : List Value) (hy : a.eval y = .agg vs.toArray)
    (hs : (P.info? ty).map (·.size) = some vs.length) (hl : cs.length = vs.length) (h1 : ∀ v ∈ vs, v.oneCell' = true)
    (h : ∀ w', Hid (Mem w0 w' (L.set i (b, T, vs))) → Hid (Keep [b] w w') → wpList P ops Q rest (a.put o.dst undef) w') : wpList P ops Q (o :: rest) a w :=
  wpList_store_mid hgd ty x y ho b 0 vs.toArray hx hy ((HM.out.blk i hi).there' 0 _ (by simp [hl])) (by simpa using hs) (all_oneCell_toArray h1)
    (h _ (Lib.hid (HM.out.setAll i hi vs hl)) (Lib.hid (Keep.setCells' b (fun _ => by simp) vs 0 w (Keep.refl _ _))))
theorem wpList_storePart (hgd : o.guard = none) (ty : TypeId) (x y : Operand) (ho : o.op = .store ty x y) (HM : Hid (Mem w0 w L)) (i : Nat) {b : Nat} {T : TypeId} {cs : List Value} (hi : L[i]? = some (b, T, cs)) (off : Nat) (hx : a.eval x = .pointer (some ⟨b, off, none⟩)) (vs : List Value) (hy : a.eval y = .agg vs.toArray)
    (hs : (P.info? ty).map (·.size) = some vs.length) (pre xs suf : List Value) (hc : cs = pre ++ xs ++ suf) (hl : xs.length = vs.length) (ho2 : off = pre.length) (h1 : ∀ v ∈ vs, v.oneCell' = true)
    (h : ∀ w', Hid (Mem w0 w' (L.set i (b, T, pre ++ vs ++ suf))) → Hid (Keep [b] w w') → wpList P ops Q rest (a.put o.dst undef) w') : wpList P ops Q (o :: rest) a w :=
  wpList_store_mid hgd ty x y ho b off vs.toArray hx hy ((HM.out.blk i hi).there' off _ (by subst hc ho2; simp [hl])) (by simpa using hs) (all_oneCell_toArray h1)
    (h _ (Lib.hid (HM.out.setMid i hi pre xs suf vs hc hl off ho2)) (Lib.hid (Keep.setCells' b (fun _ => by simp) vs off w (Keep.refl _ _))))
theorem wpList_buildM (hw : Region.wanted o (yielded ops a.tmps) = true) (ty : TypeId) (ps : Array (Nat × Operand)) (ho : o.op = .build ty ps) (us : List (Nat × Value)) (hps : (ps.map fun (i, x) => (i, a.eval x)).toList = us) (cs : List Value) (HB : Hid (P.built ty us = some cs.toArray))
    (h : wpList P ops Q rest (a.put o.dst (.agg cs.toArray)) w) : wpList P ops Q (o :: rest) a w :=
  wpList_step fun K hK => by
    rw [if_pos hw]; subst hps; refine wp_build ty ps ho (by rw [HB.out]; rfl) (hK _ _ ?_); rw [HB.out]; exact h
end
theorem wpQuiet_loadP {P : Program} {ops : Array Oper} {C : World → Prop} {rest : List Oper} {o : Oper} {a : Act} {Q : Act → Prop} (hw : Region.wanted o (yielded ops a.tmps) = true) (ty : TypeId) (x : Operand) (ho : o.op = .load ty x)
    (b off : Nat) (hx : a.eval x = .pointer (some ⟨b, off, none⟩)) (cs : List Value) (d : TypeDesc) (hS : ∀ w, C w → w.rangeAt b off cs)
    (hu : P.underlying ty = some d) (hd : d.isRow = true) (hi : (P.info? ty).map (·.size) = some cs.length)
    (h : wpQuiet P ops C Q rest (a.put o.dst (.agg cs.toArray))) : wpQuiet P ops C Q (o :: rest) a := by
  unfold wpQuiet; rw [if_pos hw]; refine ⟨_, fun w hw => ?_, h⟩; unfold Oper.quietAt execOp; simp only [ho, hx, Instr.loadAt, Instr.sureAddr, Sem.run_bind, Sem.run_pure, Result.andThen_ok, run_loadVar_mid w b off ty cs d (hS w hw) hu hd hi]; exact ⟨rfl, rfl⟩
end Go.Proofs.YtlhnjkekjbbhcaaGreatDoor
namespace Go.Proofs.YtlhnjkekjbbhcaaGreatDoor
open Go.RowKit
variable {F : Fence} {n : Nat} {P : Program}
def rfBusy (W : World) (l : Nat) (r : Loop) : World := W.putObj l (.loop { r with state := .busy })
def rfOn (W : World) (l : Nat) (r : Loop) : World := W.putObj l (.loop { r with state := .ready, pending := none })
def rfOff (W : World) (l : Nat) (r : Loop) : World := W.putObj l (.loop { r with state := .done, pending := some .ret })
def rfEnd (W : World) (l : Nat) (r : Loop) : World := W.putObj l (.loop { r with state := .exhausted })
def rfPost (l : Nat) (r : Loop) (W1 : World) (Rn Rx : World → Prop) : Exit → Act → World → Prop
  | .normal, _, W3 => KeepsOthers W1 W3 ∧ Rn (rfOn W3 l r)
  | .ret, _, W3 => KeepsOthers W1 W3 ∧ Rx (rfOff W3 l r)
  | _, _, _ => False
theorem rf_yield {l : Nat} {W : World} {r : Loop} {x : Array Value} {a1 : Act} {Rn Rx : World → Prop} (hfn : F.fn r.fn) (hl : W.heap[l]? = some (.loop r)) (hr : r.state = .ready) (hps : x.size = r.params.size)
    (hassign : ∀ K : Act → World → Prop, K a1 W → r.assign.wpIn (F.inRound l) n P (Exit.then K (fun _ _ _ => False)) { tmps := (r.params.zip x).foldl (fun t (p, v) => t.setIfInBounds p v) r.tmps, defers := [] } W)
    (hbody : r.body.wpIn (F.inRound l) n P (rfPost l r (rfBusy W l r) Rn Rx) a1 (rfBusy W l r)) :
    YieldAt F n P l x W fun e W' => (e = .returned (.bool true) ∧ Rn W') ∨ (e = .returned (.bool false) ∧ Rx W') := by
  refine ⟨_, _, _, _, run_yield hl hps, roundIn_of_wpIn hfn (hassign _ ⟨_, run_beginRound hl hr, ?_⟩)⟩; have h2 : (rfBusy W l r).heap[l]? = some (.loop { r with state := .busy }) := World.putObj_heap_same (Array.getElem?_eq_some_iff.1 hl).1; refine wpIn_mono hbody ?_; rintro e a3 W3 hp
  cases e with
  | normal => exact ⟨_, _, run_endRound none (hp.1.same _ _ h2 rfl), .inl ⟨rfl, hp.2⟩⟩
  | ret => exact ⟨_, _, run_endRound (some .ret) (hp.1.same _ _ h2 rfl), .inr ⟨rfl, hp.2⟩⟩
  | exit id => exact hp.elim
  | goto t => exact hp.elim
  | panic ch => exact hp.elim
  | outgrown => exact hp.elim
def rfStart (w : World) (r : Loop) : World := (w.alloc (.deferred (some []))).alloc (.loop r)
def rfRec (w : World) (a : Act) (ps : Array Tmp) (assign body : Code) (fn : FuncId) : Loop := { state := .ready, pending := none, fn := fn, tmps := a.tmps, params := ps, assign := assign, body := body, defers := w.heap.size }
def rfDone (w : World) (a : Act) (ps : Array Tmp) (assign body : Code) (fn : FuncId) : Loop := { state := .done, pending := some .ret, fn := fn, tmps := a.tmps, params := ps, assign := assign, body := body, defers := w.heap.size }
def rfMark (w : World) (a : Act) : Act := { a with defers := { target := .collected w.heap.size, args := #[] } :: a.defers }
theorem rf_range {g : Operand} {ps : Array Tmp} {assign body : Code} {Q : Exit → Act → World → Prop} {a : Act} {w : World}
    (hro : F.round = none) (h1 : 1 ≤ n) {gf : Nat} {lb : Array Value} (hg : a.eval g = .func (.func gf) #[] lb) (hFg : F.fn gf) (eg : ∀ args w, (callFunc gf args).run P w = .ok (.enter gf args) w)
    (hiter : ∀ fn, F.fn fn → CallsIn F (n - 1) P gf (#[.func (.yield (w.heap.size + 1)) #[] #[]] ++ lb) (rfStart w (rfRec w a ps assign body fn)) fun e W2 => (∃ v, e = .returned v) ∧
      ((W2.heap[w.heap.size + 1]? = some (.loop (rfRec w a ps assign body fn)) ∧ Q .normal (rfMark w a) (rfEnd W2 (w.heap.size + 1) (rfRec w a ps assign body fn))) ∨
       (W2.heap[w.heap.size + 1]? = some (.loop (rfDone w a ps assign body fn)) ∧ Code.ret.wpIn F n P Q (rfMark w a) (rfEnd W2 (w.heap.size + 1) (rfDone w a ps assign body fn))))) :
    (Code.rangeFunc g ps assign body).wpIn F n P Q a w := by
  refine wpIn_rangeFunc ?_; intro fn hfn; rw [hro]
  refine ⟨w.heap.size + 1, [{ target := .collected w.heap.size, args := #[] }], rfStart w (rfRec w a ps assign body fn), { target := .fn (.func gf) lb, args := #[.func (.yield (w.heap.size + 1)) #[] #[]] }, rfStart w (rfRec w a ps assign body fn), gf,
    #[.func (.yield (w.heap.size + 1)) #[] #[]] ++ lb, rfStart w (rfRec w a ps assign body fn), run_enterLoop_outer _ _ _ _ _, ?_, ?_, ?_, fun _ => h1, ?_⟩
  · simp only [resolve, hg]; simp [go_sem]
  · intro f' hf'; simp [Target.leads] at hf'; subst hf'; exact hFg
  · simp [invoke, go_sem, eg]
  · refine (hiter fn hfn).mono ?_; rintro e W2 ⟨⟨v, rfl⟩, (⟨hl, hq⟩ | ⟨hl, hq⟩)⟩
    · exact ⟨none, _, run_endLoop hl (by simp [rfRec]), hq⟩
    · exact ⟨some .ret, _, run_endLoop hl (by simp [rfDone]), hq⟩
end Go.Proofs.YtlhnjkekjbbhcaaGreatDoor
