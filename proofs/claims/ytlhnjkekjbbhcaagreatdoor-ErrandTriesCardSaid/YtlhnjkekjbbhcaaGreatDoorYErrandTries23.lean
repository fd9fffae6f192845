/- Parts of the proof of ErrandTries, in order. No conditions but those that each theorem states. -/
import Derived.Test.YtlhnjkekjbbhcaaGreatDoorYErrandTries0
import Derived.Test.YtlhnjkekjbbhcaaGreatDoorYErrandTries9
import Derived.Test.YtlhnjkekjbbhcaaGreatDoorYErrandTries22
set_option linter.unusedSimpArgs false
set_option linter.unusedVariables false
namespace Go.Proofs.YtlhnjkekjbbhcaaGreatDoor
open Go.RowKit Go.Shelf
set_option maxRecDepth 100000 in
set_option maxHeartbeats 2000000 in
theorem place_isSeparator (l : List UInt8) (w : World) (hs : l.length ≤ maxLen) :
    Calls Tryz.prog 147 #[.string (S l)] w fun e w' => e = .returned (.bool (isSepM l)) ∧ Keep [] w w' := by
  have hT := fun w' => Any.strings_Trim_laid Tryz.lays160 (by kernel_rfl) (S l) ⟨#[45]⟩ w' hs (by decide) (ascii_of_all (by decide))
  rw [S_list] at hT; have HT := Lib.hid hT; have tl := S_toList l; have tt := S_toList (Lib.trimS l [45]); have hM : isSepM l = (l == [46] || l == [95] || l == [95, 95] || (!l.isEmpty && (Lib.trimS l [45]).isEmpty)) := rfl; have HM := Lib.hid hM; clear hT hs hM; by_cases h1 : l = [46]
  · have q1 : (l == [46]) = true := by simp [h1]
    have HR := Lib.hid (show isSepM l = true by rw [HM.out, q1]; rfl); clear h1; go_enter Tryz.func147, Tryz.ntmps147; go_wp2_with fail; go_ret; exact ⟨ret_bool HR.out.symm, Keep.refl _ _⟩
  · have q1 : (l == [46]) = false := by simp [h1]
    by_cases h2 : l = [95]
    · have q2 : (l == [95]) = true := by simp [h2]
      have HR := Lib.hid (show isSepM l = true by rw [HM.out, q1, q2]; rfl); clear h1 h2; go_enter Tryz.func147, Tryz.ntmps147; go_wp2_with fail; go_ret; exact ⟨ret_bool HR.out.symm, Keep.refl _ _⟩
    · have q2 : (l == [95]) = false := by simp [h2]
      by_cases h3 : l = [95, 95]
      · have q3 : (l == [95, 95]) = true := by simp [h3]
        have HR := Lib.hid (show isSepM l = true by rw [HM.out, q1, q2, q3]; rfl); clear h1 h2 h3; go_enter Tryz.func147, Tryz.ntmps147; go_wp2_with fail; go_ret; exact ⟨ret_bool HR.out.symm, Keep.refl _ _⟩
      · have q3 : (l == [95, 95]) = false := by simp [h3]
        by_cases h4 : l = []
        · have q4 : l.isEmpty = true := by simp [h4]
          have HR := Lib.hid (show isSepM l = false by rw [HM.out, q1, q2, q3, h4]; rfl); clear h1 h2 h3 h4; go_enter Tryz.func147, Tryz.ntmps147; go_wp2_with fail; go_ret; exact ⟨ret_bool HR.out.symm, Keep.refl _ _⟩
        · have q4 : l.isEmpty = false := by simp [h4]
          have HR := Lib.hid (show isSepM l = (Lib.trimS l [45]).isEmpty by
            rw [HM.out, q1, q2, q3]
            cases l with
            | nil => exact absurd rfl h4
            | cons x r => rfl)
          clear h1 h2 h3 h4; generalize Lib.trimS l [45] = tr at *; go_enter Tryz.func147, Tryz.ntmps147; go_wp2_with (go_at_call 186; refine (HT.out _).mono ?_; rintro e w1 ⟨rfl, hb⟩); go_ret; exact ⟨ret_bool HR.out.symm, Keep.of_below hb _⟩
set_option maxRecDepth 100000 in
set_option maxHeartbeats 2000000 in
theorem place_isPart (s : List UInt8) (w : World) (hs : s.length ≤ 128) :
    Calls Tryz.prog 96 #[.string (S s)] w fun e w' => e = .returned (.bool (isPartM s)) ∧ Keep [] w w' := by
  have HT := Lib.hid (fun (l : List UInt8) w' => show Calls Tryz.prog 146 #[.string (S l), .string ⟨#[97, 98, 99, 100, 101, 102, 103, 104, 105, 106, 107, 108, 109, 110, 111, 112, 113, 114, 115, 116, 117, 118, 119, 120, 121, 122, 48, 49, 50, 51, 52, 53, 54, 55, 56, 57]⟩] w' fun e w1 => e = .returned (.string (S (wordR l))) ∧ Keep [] w' w1 by
    have := Any.strings_TrimLeft_laid Tryz.lays161 (by kernel_rfl) (S l) ⟨lettersB.toArray⟩ w' (by decide) (ascii_of_all (by decide)); rw [S_list] at this; exact this.mono fun e w1 h => ⟨h.1, Keep.of_below h.2 _⟩)
  have HT2 := Lib.hid (fun (l : List UInt8) w' => show Calls Tryz.prog 146 #[.string (S l), .string ⟨#[46, 95, 45]⟩] w' fun e w1 => e = .returned (.string (S (sepR l))) ∧ Keep [] w' w1 by
    have := Any.strings_TrimLeft_laid Tryz.lays161 (by kernel_rfl) (S l) ⟨sepsB.toArray⟩ w' (by decide) (ascii_of_all (by decide)); rw [S_list] at this; exact this.mono fun e w1 h => ⟨h.1, Keep.of_below h.2 _⟩)
  go_enter Tryz.func96, Tryz.ntmps96; go_wp2_with fail; go_step3; go_wp2_with fail; go_step3; go_wp2_with fail
  go_loopg [0] s.length (fun g sv wr => ∃ l : List UInt8, sv = .string (S l) ∧ l.length ≤ g ∧ l.length ≤ 128 ∧ Hid (isPartM s = partM (g + 1) l) ∧ Hid (Keep [] w wr))
  case atStart => exact ⟨s, rfl, Nat.le_refl _, hs, Lib.hid rfl, Lib.hid (Keep.refl _ _)⟩
  case round =>
    obtain ⟨l, rfl, hg, hl, HE, HK⟩ := hrel; have sL := S_size l; have sW := S_size (wordR l); have sP := S_size (sepR (wordR l)); have w1 := wordR_le l; have w2 := sepR_le (wordR l); have tW := S_toList (wordR l); have h1 := Lib.hid (HT.out l); have h2 := Lib.hid (HT2.out (wordR l))
    have HEq := Lib.hid (show partM (gk + 1) l = if (wordR l).length = l.length then false else if wordR l = [] then true
      else if isSepM ((wordR l).take ((wordR l).length - (sepR (wordR l)).length)) then partM gk (sepR (wordR l)) else false from rfl)
    have x1 : (S (wordR l)).extract 0 ((wordR l).length - (sepR (wordR l)).length) = S ((wordR l).take ((wordR l).length - (sepR (wordR l)).length)) := by rw [S_extract]; simp
    have HSp := Lib.hid (fun w' => place_isSeparator ((wordR l).take ((wordR l).length - (sepR (wordR l)).length)) w' (by rw [List.length_take]; unfold maxLen; omega)); have n1 : (((wordR l).length : Int) - ((sepR (wordR l)).length : Int)).toNat = (wordR l).length - (sepR (wordR l)).length := by omega
    have wk := IntWalk.i64_in (((wordR l).length : Int) - ((sepR (wordR l)).length : Int)) (by omega); generalize (wordR l).take ((wordR l).length - (sepR (wordR l)).length) = sp at *; generalize hwr : wordR l = wd at *; generalize sepR wd = nx at *; have HE2 := Lib.hid (HE.out.trans HEq.out); clear hwr HEq HE HT HT2; by_cases c1 : wd.length = l.length
    · have q1 := (nat_eq c1).1; have HR := Lib.hid (show isPartM s = false by rw [HE2.out, if_pos c1]); clear c1 HE2; go_wp2_with fail; refine (h1.out _).mono ?_; rintro e w5 ⟨rfl, k5⟩; have K5 := Lib.hid (HK.out.trans k5); clear k5; go_wp2_with fail; (try rw [Exit.noGoto_ret]); go_ret; exact ⟨ret_bool HR.out.symm, K5.out⟩
    · have q1 := (nat_ne c1).1; by_cases c2 : wd = []
      · have q2 : wd.isEmpty = true := by simp [c2]
        have HR := Lib.hid (show isPartM s = true by rw [HE2.out, if_neg c1, if_pos c2]); clear c1 c2 HE2; go_wp2_with fail; refine (h1.out _).mono ?_; rintro e w5 ⟨rfl, k5⟩; have K5 := Lib.hid (HK.out.trans k5); clear k5; go_wp2_with fail; (try rw [Exit.noGoto_ret]); go_ret; exact ⟨ret_bool HR.out.symm, K5.out⟩
      · have q2 : wd.isEmpty = false := by simp [c2]
        have i0 : (0 : Int) ≤ (wd.length : Int) - (nx.length : Int) := by omega
        have i1 : (wd.length : Int) - (nx.length : Int) ≤ (wd.length : Int) := by omega
        have hlt : nx.length < gk := by omega
        cases hsp : isSepM sp with
        | false =>
          have HR := Lib.hid (show isPartM s = false by rw [HE2.out, if_neg c1, if_neg c2, hsp]; rfl); rw [hsp] at HSp; clear c1 c2 HE2 hsp; go_wp2_with fail; refine (h1.out _).mono ?_; rintro e w5 ⟨rfl, k5⟩; have K5 := Lib.hid (HK.out.trans k5); clear k5; go_wp2_with fail; refine (h2.out _).mono ?_; rintro e w6 ⟨rfl, k6⟩; have K6 := Lib.hid (K5.out.trans k6); clear k6; go_wp2_with fail; refine (HSp.out _).mono ?_; rintro e w7 ⟨rfl, k7⟩; have K7 := Lib.hid (K6.out.trans k7); clear k7; go_wp2_with fail; (try rw [Exit.noGoto_ret]); go_ret; exact ⟨ret_bool HR.out.symm, K7.out⟩
        | true =>
          have HR := Lib.hid (show isPartM s = partM gk nx by rw [HE2.out, if_neg c1, if_neg c2, hsp]; rfl); rw [hsp] at HSp; clear c1 c2 HE2 hsp; go_wp2_with fail; refine (h1.out _).mono ?_; rintro e w5 ⟨rfl, k5⟩; have K5 := Lib.hid (HK.out.trans k5); clear k5; go_wp2_with fail; refine (h2.out _).mono ?_; rintro e w6 ⟨rfl, k6⟩; have K6 := Lib.hid (K5.out.trans k6); clear k6; go_wp2_with fail; refine (HSp.out _).mono ?_; rintro e w7 ⟨rfl, k7⟩; have K7 := Lib.hid (K6.out.trans k7); clear k7; go_wp2_with fail
          go_roundg (gk - 1)
          case measure => omega
          case rel => exact ⟨nx, rfl, by omega, by omega, Lib.hid (by rw [HR.out]; congr 1; omega), K7⟩
theorem tag_neg {b : UInt8} : tagsB.contains b = true ↔ ¬ Lib.indexByte tagsB b < 0 := by
  rw [Lib.contains_iff_indexByte]; simp
set_option maxRecDepth 100000 in
set_option maxHeartbeats 2000000 in
theorem place_IsTag (s : List UInt8) (w : World) (hs : s.length ≤ maxLen) :
    Calls Tryz.prog 56 #[.string (S s)] w fun e w' => e = .returned (.bool (isTagM s)) ∧ Keep [] w w' := by
  have hs' : s.length ≤ 9223372036854775807 := hs; have hcv := conv_run w (S s); have hcell : Hid (∀ (k : Nat) (c : UInt8), s[k]? = some c → _) := fun k c h => conv_at w 5 h
  have hkp := conv_keep w 5 (S s); generalize Lib.bytesWorld w 5 (S s) = wb at hcv hcell hkp; have hsz := S_size s; have hte := S_toList s; have HM := Lib.hid (show isTagM s = (!s.isEmpty && decide (s.length ≤ 128) && (s.headD 0 != 46) && (s.headD 0 != 45) && s.all tagsB.contains) from rfl); clear hs
  cases hem : s.isEmpty with
  | true =>
    have HR := Lib.hid (show isTagM s = false by rw [HM.out, hem]; rfl); clear HM; go_enter Tryz.func56, Tryz.ntmps56; go_wp2_with fail; go_ret; exact ⟨ret_bool HR.out.symm, Keep.refl _ _⟩
  | false =>
    by_cases hl : 128 < s.length
    · have q2 : decide ((s.length : Int) > 128) = true := by simp; omega
      have HR := Lib.hid (show isTagM s = false by rw [HM.out, hem, decide_eq_false (by omega)]; rfl); clear HM hl; go_enter Tryz.func56, Tryz.ntmps56; go_wp2_with fail; go_ret; exact ⟨ret_bool HR.out.symm, Keep.refl _ _⟩
    · have q2 : decide ((s.length : Int) > 128) = false := by simp; omega
      obtain ⟨x, hx⟩ : ∃ x, s[0]? = some x := ⟨_, List.getElem?_eq_getElem (by cases s with
        | nil => simp at hem
        | cons a r => simp)⟩
      have hhd : s.headD 0 = x := by cases s with
        | nil => simp at hem
        | cons a r => simpa using hx
      have hlen : 0 < s.length := (List.getElem?_eq_some_iff.1 hx).1; have hget := S_get hx; have hx8 := u8_nat x; by_cases h46 : x = 46
      · have q3 := (int_eq (show (x.toNat : Int) = 46 by rw [h46]; rfl)).1; have HR := Lib.hid (show isTagM s = false by rw [HM.out, hhd, h46]; simp); clear HM hl h46 hhd hx; go_enter Tryz.func56, Tryz.ntmps56; go_wp2_with fail; go_ret; exact ⟨ret_bool HR.out.symm, Keep.refl _ _⟩
      · have q3 := (int_ne (show (x.toNat : Int) ≠ 46 from fun h => h46 (UInt8.toNat_inj.1 (by have h9 : (46 : UInt8).toNat = 46 := rfl; omega)))).1; by_cases h45 : x = 45
        · have q4 := (int_eq (show (x.toNat : Int) = 45 by rw [h45]; rfl)).1; have HR := Lib.hid (show isTagM s = false by rw [HM.out, hhd, h45]; simp); clear HM hl h46 h45 hhd hx; go_enter Tryz.func56, Tryz.ntmps56; go_wp2_with fail; go_ret; exact ⟨ret_bool HR.out.symm, Keep.refl _ _⟩
        · have q4 := (int_ne (show (x.toNat : Int) ≠ 45 from fun h => h45 (UInt8.toNat_inj.1 (by have h9 : (45 : UInt8).toNat = 45 := rfl; omega)))).1; have HR := Lib.hid (show isTagM s = s.all tagsB.contains by rw [HM.out, hem, hhd, decide_eq_true (by omega)]; simp [h46, h45]); clear HM hl h46 h45 hhd hx; go_enter Tryz.func56, Tryz.ntmps56; go_wp2_with fail
          go_loopg [25] s.length (fun g iv wx => ∃ k : Nat, iv = .int .i64 (k : Nat) ∧ k ≤ s.length ∧ g = s.length - k ∧ Hid ((s.take k).all tagsB.contains = true) ∧ wb = wx)
          case atStart => exact ⟨0, rfl, by omega, rfl, Lib.hid (by simp), rfl⟩
          case round =>
            obtain ⟨k, rfl, hk, hg, HA, rfl⟩ := hrel; by_cases hlt : k < s.length
            · obtain ⟨c, hc⟩ : ∃ c, s[k]? = some c := ⟨_, List.getElem?_eq_getElem hlt⟩
              have a0 := hcell.out k c hc; have c8 := u8_nat c; have hix := Tryz.strings_IndexByte (S tagsB) c.toNat; have ec : ((c.toNat : Int)).toNat.toUInt8 = c := by simp
              rw [ec, S_list] at hix; have HIX := Lib.hid hix; have HC := Lib.hid hc; have wk := IntWalk.i64_in ((k : Int) + 1) (by omega); clear hix hc ec
              cases htc : tagsB.contains c with
              | true =>
                have q5 : decide (Lib.indexByte tagsB c < 0) = false := by simpa using tag_neg.1 htc
                have HTC := Lib.hid htc; clear htc; generalize Lib.indexByte tagsB c = ix at *; go_wp2_with (go_at_call 97; refine (HIX.out _).mono ?_; rintro e w1 ⟨rfl, rfl⟩)
                go_roundg (s.length - (k + 1))
                case measure => omega
                case rel => exact ⟨k + 1, by go_num, by omega, rfl, Lib.hid (by rw [take_snoc HC.out, List.all_append, HA.out]; simp; simpa using HTC.out), rfl⟩
              | false =>
                have q5 : decide (Lib.indexByte tagsB c < 0) = true := by
                  have := (not_congr (tag_neg (b := c))).1 (by rw [htc]; simp); simpa using this
                have HF := Lib.hid (show isTagM s = false by
                  rw [HR.out, List.all_eq_false]; exact ⟨c, List.mem_of_getElem? HC.out, by rw [htc]; simp⟩)
                clear htc; generalize Lib.indexByte tagsB c = ix at *; go_wp2_with (go_at_call 97; refine (HIX.out _).mono ?_; rintro e w1 ⟨rfl, rfl⟩); go_ret; exact ⟨ret_bool HF.out.symm, hkp⟩
            · have hke : s.take k = s := List.take_of_length_le (by omega); have HF := Lib.hid (show isTagM s = true by rw [HR.out]; have := HA.out; rwa [hke] at this); clear hke; go_wp2_with fail; go_ret; exact ⟨ret_bool HF.out.symm, hkp⟩
theorem rt_zero : ZeroIs Tryz.prog 77 rt0.cells := fun w => by simp [go_sem]; rfl
theorem isRepo_ok (s : List UInt8) (w : World) (hs : s.length ≤ maxLen) : Calls Tryz.prog 55 #[.string (S s)] w fun e w' => e = .returned (.bool (isRepoM s)) ∧ Keep [] w w' :=
  place_IsRepo (fun l w h => place_isPart l w h) s w hs
theorem bd_dig0 : Tryz.prog.built 23 [] = some (digC zeroD).toArray := by kernel_rfl
theorem bd_rt1 : Tryz.prog.built 77 [(0, .int .i64 1)] = some rt1.cells.toArray := by kernel_rfl
theorem goodRt1 : goodRt rt1 := by unfold goodRt rt1 maxLen; simp
theorem isRepo_is {s : List UInt8} {v : Bool} (h : isRepoM s = v) (hs : s.length ≤ maxLen) (w : World) : Calls Tryz.prog 55 #[.string (S s)] w fun e w' => e = .returned (.bool v) ∧ Keep [] w w' := by
  subst h; exact isRepo_ok s w hs
theorem isTag_is {s : List UInt8} {v : Bool} (h : isTagM s = v) (hs : s.length ≤ maxLen) (w : World) : Calls Tryz.prog 56 #[.string (S s)] w fun e w' => e = .returned (.bool v) ∧ Keep [] w w' := by
  subst h; exact place_IsTag s w hs
set_option maxRecDepth 100000 in
set_option maxHeartbeats 2000000 in
theorem place_Good (r : Rt) (w : World) (hr : goodRt r) :
    Calls Tryz.prog 82 #[.agg r.cells.toArray] w fun e w' => e = .returned (.bool (goodRtM r)) ∧ Keep [] w w' := by
  have M0 := Lib.hid (Mem.nil w); have HGd : goodRtM r = (if r.kind = 1 then decide (r = rt1) else if r.kind = 2 then isRepoM r.repo && (isTagM r.tag && decide (r.dig = zeroD)) else if r.kind = 3 ∨ r.kind = 4 then isRepoM r.repo && r.tag.isEmpty else false) := rfl; by_cases k1 : r.kind = 1
  · rw [if_pos k1] at HGd; have q := (int_eq k1).1; have HE := Lib.hid HGd; have heq := fun w' => eqRt r rt1 hr goodRt1 w'
    have B1 := Lib.hid bd_rt1; clear HGd k1 hr; go_enter Tryz.func82, Tryz.ntmps82
    go_wp2_with (first | ((with_reducible refine gX 1 ?_); refine wpList_boxM rfl 77 (.tmp 0) rfl (r.cells) (by rfl) M0 ?_; intro b w1 M1 _ _; have c0 := M1.out.get 0 rfl 0 rfl; try simp only [Act.put, sqA, sqB, sqC]) | ((with_reducible refine gL 7 1 ?_); refine wpList_loadM (by rfl) 77 (.tmp 1) rfl M1 0 rfl (by rfl) _ Tryz.underlying77 rfl (rt_size r) ?_; try simp only [Act.put, sqA, sqB, sqC]) | ((with_reducible refine gB 8 ?_); refine wpList_buildM (by rfl) 77 _ rfl ([(0, .int .i64 1)]) (by simp [Act.eval]) (rt1.cells) B1 ?_; try simp only [Act.put, sqA, sqB, sqC]) | fail); go_ret; exact ⟨ret_bool HE.out.symm, M1.out.kp⟩
  · rw [if_neg k1] at HGd; have q := (int_ne k1).1; by_cases k2 : r.kind = 2
    · rw [if_pos k2] at HGd; have q2 := (int_eq k2).1
      cases hi : isRepoM r.repo with
      | false =>
        have HR := Lib.hid (isRepo_is hi hr.1); have HE := Lib.hid (show goodRtM r = false by rw [HGd, hi]; rfl); clear HGd k1 k2 hi hr; go_enter Tryz.func82, Tryz.ntmps82
        go_wp2_with (first | ((with_reducible refine gX 1 ?_); refine wpList_boxM rfl 77 (.tmp 0) rfl (r.cells) (by rfl) M0 ?_; intro b w1 M1 _ _; have c0 := M1.out.get 0 rfl 0 rfl; have c1 := M1.out.get 0 rfl 1 rfl; try simp only [Act.put, sqA, sqB, sqC]) | fail); refine (HR.out _).mono ?_; rintro e w2 ⟨rfl, k2⟩; have M2 := Lib.hid (M1.out.keep0 k2); clear k2; go_wp2_with fail; go_ret; exact ⟨ret_bool HE.out.symm, M2.out.kp⟩
      | true =>
        cases ht : isTagM r.tag with
        | false =>
          have HR := Lib.hid (isRepo_is hi hr.1); have HT := Lib.hid (isTag_is ht hr.2.1); have HE := Lib.hid (show goodRtM r = false by rw [HGd, hi, ht]; rfl); clear HGd k1 k2 hi ht hr; go_enter Tryz.func82, Tryz.ntmps82
          go_wp2_with (first | ((with_reducible refine gX 1 ?_); refine wpList_boxM rfl 77 (.tmp 0) rfl (r.cells) (by rfl) M0 ?_; intro b w1 M1 _ _; have c0 := M1.out.get 0 rfl 0 rfl; have c1 := M1.out.get 0 rfl 1 rfl; try simp only [Act.put, sqA, sqB, sqC]) | fail); refine (HR.out _).mono ?_; rintro e w2 ⟨rfl, k2⟩; have M2 := Lib.hid (M1.out.keep0 k2); have c2 := M2.out.get 0 rfl 2 rfl; clear k2; go_wp2_with fail; refine (HT.out _).mono ?_; rintro e w3 ⟨rfl, k3⟩; have M3 := Lib.hid (M2.out.keep0 k3); clear k3; go_wp2_with fail; go_ret; exact ⟨ret_bool HE.out.symm, M3.out.kp⟩
        | true =>
          have HR := Lib.hid (isRepo_is hi hr.1); have HT := Lib.hid (isTag_is ht hr.2.1); have HE := Lib.hid (show goodRtM r = decide (r.dig = zeroD) by rw [HGd, hi, ht]; rfl); have heq := fun w' => eqDg r.dig zeroD w'
          have BZ := Lib.hid bd_dig0; clear HGd k1 k2 hi ht hr; go_enter Tryz.func82, Tryz.ntmps82
          go_wp2_with (first | ((with_reducible refine gX 1 ?_); refine wpList_boxM rfl 77 (.tmp 0) rfl (r.cells) (by rfl) M0 ?_; intro b w1 M1 _ _; have c0 := M1.out.get 0 rfl 0 rfl; have c1 := M1.out.get 0 rfl 1 rfl; try simp only [Act.put, sqA, sqB, sqC]) | fail); refine (HR.out _).mono ?_; rintro e w2 ⟨rfl, k2⟩; have M2 := Lib.hid (M1.out.keep0 k2); have c2 := M2.out.get 0 rfl 2 rfl; clear k2; go_wp2_with fail; refine (HT.out _).mono ?_; rintro e w3 ⟨rfl, k3⟩; have M3 := Lib.hid (M2.out.keep0 k3); clear k3
          go_wp2_with (first | ((with_reducible refine gL 22 21 ?_); refine wpList_loadPart (by rfl) 23 (.tmp 21) rfl M3 0 rfl 3 (by rfl) (digC r.dig) r.at_dig _ Tryz.underlying23 rfl (dig_size _) ?_; try simp only [Act.put, sqA, sqB, sqC]) | ((with_reducible refine gB 23 ?_); refine wpList_buildM (by rfl) 23 _ rfl ([]) (by simp [Act.eval]) (digC zeroD) BZ ?_; try simp only [Act.put, sqA, sqB, sqC]) | fail); go_ret; exact ⟨ret_bool HE.out.symm, M3.out.kp⟩
    · rw [if_neg k2] at HGd; have q2 := (int_ne k2).1; by_cases k34 : r.kind = 3 ∨ r.kind = 4
      · rw [if_pos k34] at HGd; have HK := k34
        cases hi : isRepoM r.repo with
        | false =>
          have HR := Lib.hid (isRepo_is hi hr.1); have HE := Lib.hid (show goodRtM r = false by rw [HGd, hi]; rfl); rcases HK with h3 | h3
          · have q3 := (int_eq h3).1; clear HGd k1 k2 hi hr k34 h3; go_enter Tryz.func82, Tryz.ntmps82
            go_wp2_with (first | ((with_reducible refine gX 1 ?_); refine wpList_boxM rfl 77 (.tmp 0) rfl (r.cells) (by rfl) M0 ?_; intro b w1 M1 _ _; have c0 := M1.out.get 0 rfl 0 rfl; have c1 := M1.out.get 0 rfl 1 rfl; try simp only [Act.put, sqA, sqB, sqC]) | fail); refine (HR.out _).mono ?_; rintro e w2 ⟨rfl, k2⟩; have M2 := Lib.hid (M1.out.keep0 k2); clear k2; go_wp2_with fail; go_ret; exact ⟨ret_bool HE.out.symm, M2.out.kp⟩
          · have q3 := (int_eq h3).1; have q4 := (int_ne (show r.kind ≠ 3 by omega)).1; clear HGd k1 k2 hi hr k34 h3; go_enter Tryz.func82, Tryz.ntmps82
            go_wp2_with (first | ((with_reducible refine gX 1 ?_); refine wpList_boxM rfl 77 (.tmp 0) rfl (r.cells) (by rfl) M0 ?_; intro b w1 M1 _ _; have c0 := M1.out.get 0 rfl 0 rfl; have c1 := M1.out.get 0 rfl 1 rfl; try simp only [Act.put, sqA, sqB, sqC]) | fail); refine (HR.out _).mono ?_; rintro e w2 ⟨rfl, k2⟩; have M2 := Lib.hid (M1.out.keep0 k2); clear k2; go_wp2_with fail; go_ret; exact ⟨ret_bool HE.out.symm, M2.out.kp⟩
        | true =>
          have HR := Lib.hid (isRepo_is hi hr.1); have HE := Lib.hid (show goodRtM r = r.tag.isEmpty by rw [HGd, hi]; rfl); have st := S_toList r.tag; rcases HK with h3 | h3
          · have q3 := (int_eq h3).1; clear HGd k1 k2 hi hr k34 h3; go_enter Tryz.func82, Tryz.ntmps82
            go_wp2_with (first | ((with_reducible refine gX 1 ?_); refine wpList_boxM rfl 77 (.tmp 0) rfl (r.cells) (by rfl) M0 ?_; intro b w1 M1 _ _; have c0 := M1.out.get 0 rfl 0 rfl; have c1 := M1.out.get 0 rfl 1 rfl; try simp only [Act.put, sqA, sqB, sqC]) | fail); refine (HR.out _).mono ?_; rintro e w2 ⟨rfl, k2⟩; have M2 := Lib.hid (M1.out.keep0 k2); have c2 := M2.out.get 0 rfl 2 rfl; clear k2; go_wp2_with fail; go_ret; exact ⟨ret_bool HE.out.symm, M2.out.kp⟩
          · have q3 := (int_eq h3).1; have q4 := (int_ne (show r.kind ≠ 3 by omega)).1; clear HGd k1 k2 hi hr k34 h3; go_enter Tryz.func82, Tryz.ntmps82
            go_wp2_with (first | ((with_reducible refine gX 1 ?_); refine wpList_boxM rfl 77 (.tmp 0) rfl (r.cells) (by rfl) M0 ?_; intro b w1 M1 _ _; have c0 := M1.out.get 0 rfl 0 rfl; have c1 := M1.out.get 0 rfl 1 rfl; try simp only [Act.put, sqA, sqB, sqC]) | fail); refine (HR.out _).mono ?_; rintro e w2 ⟨rfl, k2⟩; have M2 := Lib.hid (M1.out.keep0 k2); have c2 := M2.out.get 0 rfl 2 rfl; clear k2; go_wp2_with fail; go_ret; exact ⟨ret_bool HE.out.symm, M2.out.kp⟩
      · rw [if_neg k34] at HGd; have q3 := (int_ne (show r.kind ≠ 3 from fun h => k34 (.inl h))).1; have q4 := (int_ne (show r.kind ≠ 4 from fun h => k34 (.inr h))).1; have HE := Lib.hid HGd; clear HGd k1 k2 hr k34; go_enter Tryz.func82, Tryz.ntmps82
        go_wp2_with (first | ((with_reducible refine gX 1 ?_); refine wpList_boxM rfl 77 (.tmp 0) rfl (r.cells) (by rfl) M0 ?_; intro b w1 M1 _ _; have c0 := M1.out.get 0 rfl 0 rfl; have c1 := M1.out.get 0 rfl 1 rfl; try simp only [Act.put, sqA, sqB, sqC]) | fail); go_ret; exact ⟨ret_bool HE.out.symm, M1.out.kp⟩
end Go.Proofs.YtlhnjkekjbbhcaaGreatDoor
