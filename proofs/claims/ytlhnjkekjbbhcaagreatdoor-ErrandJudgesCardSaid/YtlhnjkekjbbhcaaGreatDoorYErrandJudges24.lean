/- Parts of the proof of ErrandJudges, in order. No conditions but those that each theorem states. -/
import Derived.Test.YtlhnjkekjbbhcaaGreatDoorYErrandJudges0
import Derived.Lib.SlBytesConst
import Derived.Lib.LaidTab
import Derived.Lib.ItoaNum
import Derived.Lib.ItoaLen
import Derived.Sort.Grow
import Derived.DeepKeys4
import Derived.Test.YtlhnjkekjbbhcaaGreatDoorYErrandJudges23
namespace Go.Proofs.YtlhnjkekjbbhcaaGreatDoor
open Go.RowKit Go.Shelf
theorem cut_at {l : List UInt8} {c : UInt8} {k : Nat} (h : Lib.indexByte l c = (k : Nat)) : Lib.cut l [c] = (l.take k, l.drop (k + 1), true) := by
  unfold Lib.cut; rw [Lib.index_one, h, if_pos (by omega)]; simp
theorem cut_none {l : List UInt8} {c : UInt8} (h : Lib.indexByte l c = -1) : (Lib.cut l [c]).2.2 = false := by
  unfold Lib.cut; rw [Lib.index_one, h, if_neg (by decide)]
def lnBad : Ln := ⟨[], [], 0, 400⟩
theorem ln_k {l : List UInt8} (h : Lib.indexByte l 32 = -1) : lnM l = lnBad := ln_no (by rw [cut_none h]; rfl)
theorem ln_tok {l : List UInt8} {k : Nat} (h : Lib.indexByte l 32 = (k : Nat)) (ht : isTok (l.take k) = false) : lnM l = lnBad := ln_no (by rw [cut_at h]; simp [ht])
theorem ln_n {l : List UInt8} {k : Nat} (h : Lib.indexByte l 32 = (k : Nat)) (hn : Lib.indexByte (l.drop (k + 1)) 32 = -1) : lnM l = lnBad := ln_no (by rw [cut_at h]; simp [cut_none hn])
theorem ln_tgt {l : List UInt8} {k n : Nat} (h : Lib.indexByte l 32 = (k : Nat)) (hn : Lib.indexByte (l.drop (k + 1)) 32 = (n : Nat)) (ht : isTgt ((l.drop (k + 1)).take n) = false) : lnM l = lnBad := ln_no (by rw [cut_at h]; simp only; rw [cut_at hn]; simp [ht])
theorem ln_min {l : List UInt8} {k n : Nat} (h : Lib.indexByte l 32 = (k : Nat)) (hn : Lib.indexByte (l.drop (k + 1)) 32 = (n : Nat)) (hm : minS ((l.drop (k + 1)).drop (n + 1)) = 400) : lnM l = lnBad := by
  by_cases hb : (isTok (l.take k) && isTgt ((l.drop (k + 1)).take n)) = true
  · rw [ln_yes (by rw [cut_at h]; simp only; rw [cut_at hn]; simpa using hb)]; rw [cut_at h]; simp only; rw [cut_at hn]; simp only [hm]; rfl
  · exact ln_no (by rw [cut_at h]; simp only; rw [cut_at hn]; simpa using hb)
theorem ln_all {l : List UInt8} {k n : Nat} (h : Lib.indexByte l 32 = (k : Nat)) (hn : Lib.indexByte (l.drop (k + 1)) 32 = (n : Nat)) (ht : isTok (l.take k) = true) (hg : isTgt ((l.drop (k + 1)).take n) = true) :
    lnM l = if minS ((l.drop (k + 1)).drop (n + 1)) = 200 then ⟨l.take k, (l.drop (k + 1)).take n, minV ((l.drop (k + 1)).drop (n + 1)), 200⟩ else ⟨[], [], 0, minS ((l.drop (k + 1)).drop (n + 1))⟩ := by
  rw [ln_yes (by rw [cut_at h]; simp only; rw [cut_at hn]; simp [ht, hg])]; rw [cut_at h]; simp only; rw [cut_at hn]
theorem min_http {l : List UInt8} (h : l.take 5 ≠ httpB) : minS l = 400 := (ver_no (.inl (by rw [take5_prefix]; simp [h]))).1
theorem min_len {l : List UInt8} (h : l.length ≠ 8) : minS l = 400 := (ver_no (.inr h)).1
set_option maxRecDepth 100000 in
set_option maxHeartbeats 2000000 in
theorem ref12_Line (l : List UInt8) (w : World) (hl : l.length ≤ 1048576) :
    Calls Tryz.prog 88 #[.string (S l)] w fun e w' => e = .returned (lnM l).out ∧ Keep [] w w' := by
  have hsz := S_size l; have hF := Lib.hid (fun w1 => ref_Find l 32 w1 (show l.length ≤ 9223372036854775807 by omega)); have hge := Lib.indexByte_ge l 32; by_cases hk : Lib.indexByte l 32 = -1
  · have HX := Lib.hid (ln_k hk); rw [hk] at hF; clear hk hge; go_enter Tryz.func88, Tryz.ntmps88; go_wp2_with fail; refine (hF.out _).mono ?_; rintro e w1 ⟨rfl, rfl⟩; go_wp2_with fail; refine bodyPost_ret (res4 rfl _ _ _) rfl ⟨?_, Keep.refl _ _⟩; rw [HX.out]; rfl
  · obtain ⟨k, hk'⟩ : ∃ k : Nat, Lib.indexByte l 32 = k := ⟨(Lib.indexByte l 32).toNat, by omega⟩
    rw [hk'] at hF; have hkl : k < l.length := (List.getElem?_eq_some_iff.1 (Lib.indexByte_some hk').1).1; have hx1 : (S l).extract 0 k = S (l.take k) := by rw [S_extract]; simp
    have hx2 : (S l).extract (k + 1) l.length = S (l.drop (k + 1)) := by rw [S_extract, List.take_of_length_le (Nat.le_refl _)]
    have hT := Lib.hid (fun w1 => ref_IsToken (l.take k) w1 (by show _ ≤ 9223372036854775807; simp; omega))
    cases htk : isTok (l.take k) with
    | false =>
      rw [htk] at hT; have HX := Lib.hid (ln_tok hk' htk); clear hk hk' hge htk; go_enter Tryz.func88, Tryz.ntmps88; go_wp2_with fail; refine (hF.out _).mono ?_; rintro e w1 ⟨rfl, rfl⟩; go_wp2_with fail; refine (hT.out _).mono ?_; rintro e w1 ⟨rfl, rfl⟩; go_wp2_with fail; refine bodyPost_ret (res4 rfl _ _ _) rfl ⟨?_, Keep.refl _ _⟩; rw [HX.out]; rfl
    | true =>
      rw [htk] at hT; have hF2 := Lib.hid (fun w1 => ref_Find (l.drop (k + 1)) 32 w1 (by show _ ≤ 9223372036854775807; simp; omega)); have hge2 := Lib.indexByte_ge (l.drop (k + 1)) 32; have hrl : (l.drop (k + 1)).length ≤ 1048576 := by simp; omega
      by_cases hn : Lib.indexByte (l.drop (k + 1)) 32 = -1
      · have HX := Lib.hid (ln_n hk' hn); rw [hn] at hF2; have hsr := S_size (l.drop (k + 1)); generalize l.drop (k + 1) = r at *; clear hk hk' hge hge2 htk hn; go_enter Tryz.func88, Tryz.ntmps88; go_wp2_with fail; refine (hF.out _).mono ?_; rintro e w1 ⟨rfl, rfl⟩; go_wp2_with fail; refine (hT.out _).mono ?_; rintro e w1 ⟨rfl, rfl⟩; go_wp2_with fail; refine (hF2.out _).mono ?_; rintro e w1 ⟨rfl, rfl⟩; go_wp2_with fail; refine bodyPost_ret (res4 rfl _ _ _) rfl ⟨?_, Keep.refl _ _⟩; rw [HX.out]; rfl
      · obtain ⟨n, hn'⟩ : ∃ n : Nat, Lib.indexByte (l.drop (k + 1)) 32 = n := ⟨(Lib.indexByte (l.drop (k + 1)) 32).toNat, by omega⟩
        rw [hn'] at hF2; have hnl : n < (l.drop (k + 1)).length := (List.getElem?_eq_some_iff.1 (Lib.indexByte_some hn').1).1; by_cases hn0 : n = 0
        · have HX := Lib.hid (ln_tgt hk' hn' (by subst hn0; simp [isTgt])); have hn1 : decide ((n : Int) < 1) = true := by simp; omega
          have hsr := S_size (l.drop (k + 1)); generalize l.drop (k + 1) = r at *; clear hk hk' hge hge2 htk hn hn' hn0; go_enter Tryz.func88, Tryz.ntmps88; go_wp2_with fail; refine (hF.out _).mono ?_; rintro e w1 ⟨rfl, rfl⟩; go_wp2_with fail; refine (hT.out _).mono ?_; rintro e w1 ⟨rfl, rfl⟩; go_wp2_with fail; refine (hF2.out _).mono ?_; rintro e w1 ⟨rfl, rfl⟩; go_wp2_with fail; refine bodyPost_ret (res4 rfl _ _ _) rfl ⟨?_, Keep.refl _ _⟩; rw [HX.out]; rfl
        · have hn1 : decide ((n : Int) < 1) = false := by simp; omega
          have hlm := @ln_min l k n hk' hn'; have hlt := @ln_tgt l k n hk' hn'; have hla := @ln_all l k n hk' hn' htk; have hsr := S_size (l.drop (k + 1)); generalize lnM l = R at *; generalize l.take k = xm at *; generalize l.drop (k + 1) = r at *; clear hk hk' hge hge2 htk hn hn'; have hw0 := IntWalk.i64_in ((k : Int) + 1) (by omega); have hw1 := IntWalk.i64_in ((r.length : Int) - (n : Int)) (by omega); by_cases h9 : r.length - n = 9
          · have h9' : (r.length : Int) - (n : Int) = 9 := by omega
            have h9q := (int_eq h9').2
            have hx5 : (S r).extract (n + 1) (n + 6) = S ((r.drop (n + 1)).take 5) := by
              rw [S_extract, List.drop_take]; congr 2; omega
            by_cases h5 : (r.drop (n + 1)).take 5 = httpB
            · obtain ⟨a, p, c, hapc⟩ : ∃ a p c, r.drop (n + 1) = httpB ++ [a, p, c] := by
                have h8 : ((r.drop (n + 1)).drop 5).length = 3 := by simp; omega
                have e := List.take_append_drop 5 (r.drop (n + 1)); rw [h5] at e; generalize (r.drop (n + 1)).drop 5 = y at h8 e
                match y, h8 with
                | [a, p, c], _ => exact ⟨a, p, c, e.symm⟩
              have ga : r[n + 6]? = some a := by
                have : (r.drop (n + 1))[5]? = some a := by rw [hapc]; rfl
                rw [List.getElem?_drop] at this; exact this
              have gp : r[n + 7]? = some p := by
                have : (r.drop (n + 1))[6]? = some p := by rw [hapc]; rfl
                rw [List.getElem?_drop] at this; exact this
              have gc : r[n + 8]? = some c := by
                have : (r.drop (n + 1))[7]? = some c := by rw [hapc]; rfl
                rw [List.getElem?_drop] at this; exact this
              obtain ⟨hms, hmv⟩ := ver_of a p c; rw [← hapc] at hms hmv; have q5 : ((r.drop (n + 1)).take 5 == [72, 84, 84, 80, 47]) = true := by rw [h5]; rfl
              generalize minS (r.drop (n + 1)) = ms at *; generalize minV (r.drop (n + 1)) = mv at *; generalize (r.drop (n + 1)).take 5 = x5 at *; have hs5 := S_toList x5; have ia := S_get ga; have ip := S_get gp; have ic := S_get gc; have ca := u8_nat a; have cp := u8_nat p; have cc := u8_nat c; have hw2 := IntWalk.i64_in ((n : Int) + 1) (by omega); have hw3 := IntWalk.i64_in ((n : Int) + 6) (by omega); have hw4 := IntWalk.i64_in ((n : Int) + 7) (by omega); have hw5 := IntWalk.i64_in ((n : Int) + 8) (by omega); have b1 : (n : Int) + 6 ≤ (r.length : Int) := by omega
              have b2 : (0 : Int) ≤ (n : Int) + 1 := by omega
              have b3 : (n : Int) + 1 ≤ (n : Int) + 6 := by omega
              have b0 : (0 : Int) ≤ (n : Int) + 6 := by omega
              have b4 : (n : Int) + 6 < (r.length : Int) := by omega
              have b5 : (n : Int) + 7 < (r.length : Int) := by omega
              have b6 : (n : Int) + 8 < (r.length : Int) := by omega
              have b7 : (0 : Int) ≤ (n : Int) + 7 := by omega
              have b8 : (0 : Int) ≤ (n : Int) + 8 := by omega
              clear hapc h9 h9' h5 ga gp gc; by_cases hp : p = 46
              · have hpb : (p == 46) = true := by simp [hp]
                have hpn : ((p.toNat : Nat) : Int) = 46 := by rw [hp]; rfl
                have hpq := (int_eq hpn).2; rw [hpb, Bool.and_true] at hms hmv; have HMS := Lib.hid (And.intro hms hmv); have HLT := Lib.hid hlt; have HLA := Lib.hid hla; clear hp hpb hpn hms hmv hlm hlt hla; go_enter Tryz.func88, Tryz.ntmps88; go_wp2_with fail; refine (hF.out _).mono ?_; rintro e w1 ⟨rfl, rfl⟩; go_wp2_with fail; refine (hT.out _).mono ?_; rintro e w1 ⟨rfl, rfl⟩; go_wp2_with fail; refine (hF2.out _).mono ?_; rintro e w1 ⟨rfl, rfl⟩; go_wp2_with fail; clear hx5 hs5 q5 ip hpq cp
                go_loopg [9] n (fun g i wr => ∃ j : Nat, i = .int .i64 j ∧ j ≤ n ∧ g = n - j ∧ w = wr ∧ Hid ((r.take j).all tgtB = true))
                case atStart => exact ⟨0, rfl, Nat.zero_le _, by omega, rfl, by simp [Hid]⟩
                case round =>
                  obtain ⟨j, rfl, hj, hgj, rfl, hall⟩ := hrel; by_cases hlt : j < n
                  · obtain ⟨d, hd⟩ : ∃ d, r[j]? = some d := ⟨_, List.getElem?_eq_getElem (by omega)⟩
                    have id := S_get hd; have cd := u8_nat d; have j0 : (0 : Int) ≤ (j : Int) := by omega
                    have j1 : (j : Int) < (r.length : Int) := by omega
                    have HD := Lib.hid hd; clear hd; by_cases ht : tgtB d = true
                    · have h1 : 33 ≤ d.toNat ∧ d.toNat ≤ 126 := by simpa [tgtB] using ht
                      have h2 : ¬ d.toNat < 33 := by omega
                      have h3 : ¬ 126 < d.toNat := by omega
                      have HT := Lib.hid ht; have hkw := IntWalk.i64_in ((j : Int) + 1) (by omega); clear ht h1; go_wp2_with fail
                      go_roundg (n - (j + 1))
                      case measure => omega
                      case rel => exact ⟨j + 1, by go_num, by omega, rfl, rfl, by rw [Hid, take_snoc HD.out, List.all_append, hall.out]; simp [HT.out]⟩
                    · have hbad : isTgt (r.take n) = false := by
                        unfold isTgt; rw [show (r.take n).all tgtB = false from by rw [List.all_eq_false]; exact ⟨d, List.mem_of_getElem? (i := j) (by rw [List.getElem?_take_of_lt hlt]; exact HD.out), ht⟩]; rfl
                      have HX := Lib.hid (HLT.out hbad); by_cases h2 : d.toNat < 33
                      · clear ht hbad; go_wp2_with fail; refine bodyPost_ret (res4 rfl _ _ _) rfl ⟨?_, Keep.refl _ _⟩; rw [HX.out]; rfl
                      · have h3 : 126 < d.toNat := by
                          simp [tgtB] at ht; omega
                        clear ht hbad; go_wp2_with fail; refine bodyPost_ret (res4 rfl _ _ _) rfl ⟨?_, Keep.refl _ _⟩; rw [HX.out]; rfl
                  · have hjn : j = n := by omega
                    have hgt : isTgt (r.take n) = true := by
                      unfold isTgt; rw [← hjn, hall.out]
                      have : r.take j ≠ [] := by
                        intro e; have := congrArg List.length e; rw [List.length_take, List.length_nil] at this; omega
                      cases hq : r.take j with
                      | nil => exact absurd hq this
                      | cons _ _ => rfl
                    have hR := HLA.out hgt; have hge : ¬ (j : Int) < (n : Int) := by omega
                    clear hgt hjn hall hgj; have hx3 : (S r).extract 0 n = S (r.take n) := by rw [S_extract]; simp
                    generalize r.take n = xt at *; obtain ⟨hms, hmv⟩ := HMS.out; by_cases a1 : a.toNat < 48
                    · have hda : digB a = false := by simp [digB]; omega
                      rw [hda] at hms; have HX := Lib.hid (show R = lnBad by rw [hR, hms]; rfl); clear hda; clear hR hms hmv; go_wp2_with fail; refine bodyPost_ret (res4 rfl _ _ _) rfl ⟨?_, Keep.refl _ _⟩; rw [HX.out]; rfl
                    · by_cases a2 : 57 < a.toNat
                      · have hda : digB a = false := by simp [digB]; omega
                        rw [hda] at hms; have HX := Lib.hid (show R = lnBad by rw [hR, hms]; rfl); clear hda; clear hR hms hmv; go_wp2_with fail; refine bodyPost_ret (res4 rfl _ _ _) rfl ⟨?_, Keep.refl _ _⟩; rw [HX.out]; rfl
                      · have hda : digB a = true := by simp [digB]; omega
                        rw [hda] at hms hmv; by_cases c1 : c.toNat < 48
                        · have hdc : digB c = false := by simp [digB]; omega
                          rw [hdc] at hms; have HX := Lib.hid (show R = lnBad by rw [hR, hms]; rfl); clear hda hdc; clear hR hms hmv; go_wp2_with fail; refine bodyPost_ret (res4 rfl _ _ _) rfl ⟨?_, Keep.refl _ _⟩; rw [HX.out]; rfl
                        · by_cases c2 : 57 < c.toNat
                          · have hdc : digB c = false := by simp [digB]; omega
                            rw [hdc] at hms; have HX := Lib.hid (show R = lnBad by rw [hR, hms]; rfl); clear hda hdc; clear hR hms hmv; go_wp2_with fail; refine bodyPost_ret (res4 rfl _ _ _) rfl ⟨?_, Keep.refl _ _⟩; rw [HX.out]; rfl
                          · have hdc : digB c = true := by simp [digB]; omega
                            rw [hdc] at hms hmv; simp only [Bool.and_self, if_true] at hms hmv; by_cases ha : a = 49
                            · have han : ((a.toNat : Nat) : Int) = 49 := by rw [ha]; rfl
                              have haq := (int_eq han).2; by_cases hc : c.toNat ≤ 49
                              · rw [if_pos ⟨ha, hc⟩] at hms hmv; have hcq : decide (((c.toNat : Nat) : Int) > 49) = false := by simp; omega
                                have hwr := IntWalk.u8_in ((c.toNat : Int) - 48) (by omega); have hwi := IntWalk.i64_in ((c.toNat : Int) - 48) (by omega); have k0 : (0 : Int) ≤ (k : Int) := by omega
                                have k1 : (k : Int) ≤ (l.length : Int) := by omega
                                have n0 : (0 : Int) ≤ (n : Int) := by omega
                                have n1 : (n : Int) ≤ (r.length : Int) := by omega
                                have HX := Lib.hid (show R = ⟨xm, xt, (c.toNat : Int) - 48, 200⟩ by rw [hR, hms, if_pos rfl, hmv]); clear hda hdc ha han hR hms hmv; go_wp2_with fail; refine wp_region_quiet_lit (by kernel_rfl) (by kernel_rfl) ?_
                                repeat (go_big_quiet_step (fail))
                                refine wpQuiet_nil ?_; intro _ hw'; obtain ⟨nq, hw''⟩ := hw'; subst hw''; go_wp2_with fail; refine bodyPost_ret (res4 rfl _ _ _) rfl ⟨?_, (Keep.refl _ _).drewN _⟩; rw [HX.out]; rfl
                              · rw [if_neg (fun h => hc h.2)] at hms; have hcq : decide (((c.toNat : Nat) : Int) > 49) = true := by simp; omega
                                have HX := Lib.hid (show R = ⟨[], [], 0, 505⟩ by rw [hR, hms]; rfl); clear hda hdc ha han; clear hR hms hmv; go_wp2_with fail; refine bodyPost_ret (res4 rfl _ _ _) rfl ⟨?_, Keep.refl _ _⟩; rw [HX.out]; rfl
                            · rw [if_neg (fun h => ha h.1)] at hms; have han : ((a.toNat : Nat) : Int) ≠ 49 := fun e => ha (UInt8.toNat_inj.1 (by show a.toNat = 49; omega))
                              have haq := (int_ne han).2; have HX := Lib.hid (show R = ⟨[], [], 0, 505⟩ by rw [hR, hms]; rfl); clear hda hdc ha han; clear hR hms hmv; go_wp2_with fail; refine bodyPost_ret (res4 rfl _ _ _) rfl ⟨?_, Keep.refl _ _⟩; rw [HX.out]; rfl
              · have hpb : (p == 46) = false := by simp [hp]
                have hpn : ((p.toNat : Nat) : Int) ≠ 46 := fun e => hp (UInt8.toNat_inj.1 (by show p.toNat = 46; omega))
                have hpq := (int_ne hpn).2; rw [hpb, Bool.and_false] at hms; have HX := Lib.hid (hlm (hms.trans (by simp))); clear hlm hlt hla hp hpb hpn hms hmv; go_enter Tryz.func88, Tryz.ntmps88; go_wp2_with fail; refine (hF.out _).mono ?_; rintro e w1 ⟨rfl, rfl⟩; go_wp2_with fail; refine (hT.out _).mono ?_; rintro e w1 ⟨rfl, rfl⟩; go_wp2_with fail; refine (hF2.out _).mono ?_; rintro e w1 ⟨rfl, rfl⟩; go_wp2_with fail; refine bodyPost_ret (res4 rfl _ _ _) rfl ⟨?_, Keep.refl _ _⟩; rw [HX.out]; rfl
            · have HX := Lib.hid (hlm (min_http h5)); have q5 : ((r.drop (n + 1)).take 5 == [72, 84, 84, 80, 47]) = false := by rw [beq_eq_false_iff_ne]; exact h5
              generalize (r.drop (n + 1)).take 5 = x5 at *; have hs5 := S_toList x5; have hw2 := IntWalk.i64_in ((n : Int) + 1) (by omega); have hw3 := IntWalk.i64_in ((n : Int) + 6) (by omega); have b1 : (n : Int) + 6 ≤ (r.length : Int) := by omega
              have b2 : (0 : Int) ≤ (n : Int) + 1 := by omega
              have b3 : (n : Int) + 1 ≤ (n : Int) + 6 := by omega
              have b0 : (0 : Int) ≤ (n : Int) + 6 := by omega
              clear hlm hlt hla h9 h9'; go_enter Tryz.func88, Tryz.ntmps88; go_wp2_with fail; refine (hF.out _).mono ?_; rintro e w1 ⟨rfl, rfl⟩; go_wp2_with fail; refine (hT.out _).mono ?_; rintro e w1 ⟨rfl, rfl⟩; go_wp2_with fail; refine (hF2.out _).mono ?_; rintro e w1 ⟨rfl, rfl⟩; go_wp2_with fail; refine bodyPost_ret (res4 rfl _ _ _) rfl ⟨?_, Keep.refl _ _⟩; rw [HX.out]; rfl
          · have h9' : (r.length : Int) - (n : Int) ≠ 9 := by omega
            have h9q := (int_ne h9').2; have HX := Lib.hid (hlm (min_len (by simp; omega))); clear hlm hlt hla h9 h9'; go_enter Tryz.func88, Tryz.ntmps88; go_wp2_with fail; refine (hF.out _).mono ?_; rintro e w1 ⟨rfl, rfl⟩; go_wp2_with fail; refine (hT.out _).mono ?_; rintro e w1 ⟨rfl, rfl⟩; go_wp2_with fail; refine (hF2.out _).mono ?_; rintro e w1 ⟨rfl, rfl⟩; go_wp2_with fail; refine bodyPost_ret (res4 rfl _ _ _) rfl ⟨?_, Keep.refl _ _⟩; rw [HX.out]; rfl
def spProt : List UInt8 := [32, 72, 84, 84, 80, 47, 49, 46, 49]
set_option maxRecDepth 100000 in
set_option maxHeartbeats 1000000 in
theorem ref13_Ask (m t : List UInt8) (va : Value) (L : List Fld) (w : World) (hl : m.length + t.length ≤ 1048000) (ha : Sl Fld.cells 2 w va L) (hg : L.length ≤ 32 → ∀ x ∈ L, x.name.length + x.value.length ≤ 1048576) :
    Calls Tryz.prog 50 #[.string (S m), .string (S t), va] w fun e w' => e = .returned (fin (askS m t L) (askE m t L)) ∧ Keep [] w w' := by
  have hst : askT m t = m ++ [32] ++ t ++ spProt := by unfold askT; rw [List.append_assoc]; rfl
  have hok : askOk m t = (decide ((lnM (askT m t)).s = 200) && decide ((askT m t).length ≤ 1024)) := rfl; have hno := ask_no (m := m) (t := t) (L := L); have hyes := ask_yes (m := m) (t := t) (L := L); have hlen : (askT m t).length = m.length + t.length + 10 := by rw [hst]; simp [spProt]; omega
  have HLi := Lib.hid (ref12_Line (askT m t) w (by omega)); have HL := Lib.hid (fun w' (k : Keep [] w w') => ref_laid (askT m t) va L w' (ha.keep0 Fld.cells_length (by omega) k) hg (by omega)); generalize askE m t L = ae at *; generalize askS m t L = av at *; generalize askOk m t = ok at *; generalize askT m t = st at *; have q1 : S m ++ (⟨#[32]⟩ : ByteArray) = S (m ++ [32]) := S_append _ [32]; have q2 : S (m ++ [32]) ++ S t = S (m ++ [32] ++ t) := S_append _ _; have q4 : S (m ++ [32] ++ t) ++ (⟨#[32, 72, 84, 84, 80, 47, 49, 46, 49]⟩ : ByteArray) = S st := by rw [hst]; exact S_append _ spProt
  have t1 : (m ++ [32]).length = m.length + 1 := by simp
  have t2 : (m ++ [32] ++ t).length = m.length + t.length + 1 := by simp; omega
  generalize m ++ [32] ++ t = x2 at *; generalize m ++ [32] = x1 at *; have s0 := S_size m; have s1 := S_size t; have s2 := S_size x1; have s3 := S_size x2; have s5 := S_size st; generalize lnM st = R at *; obtain ⟨rm, rt, rv, rs⟩ := R; dsimp only at hok; unfold Ln.out at HLi; dsimp only at HLi; clear ha hg hst; by_cases h2 : rs = 200
  · have h2' := (int_eq h2).2; by_cases h3 : st.length ≤ 1024
    · have h3' : decide (((st.length : Nat) : Int) > 1024) = false := by simp; omega
      have HX := Lib.hid (hyes (by rw [hok]; simp [h2, h3])); clear hok hno hyes h2 h3 hlen; go_enter Tryz.func50, Tryz.ntmps50; go_wp2_with fail; refine HLi.out.mono ?_; rintro e w1 ⟨rfl, k1⟩; go_wp2_with fail; refine (HL.out _ k1).mono ?_; rintro e w3 ⟨rfl, k3⟩; unfold fin; go_wp2_with fail; go_ret2; exact ⟨by rw [HX.out.1, HX.out.2]; rfl, k1.trans k3⟩
    · have h3' : decide (((st.length : Nat) : Int) > 1024) = true := by simp; omega
      have HX := Lib.hid (hno (by rw [hok]; simp [h3])); clear hok hno hyes h2 h3 hlen; go_enter Tryz.func50, Tryz.ntmps50; go_wp2_with fail; refine HLi.out.mono ?_; rintro e w1 ⟨rfl, k1⟩; go_wp2_with fail; go_ret2; exact ⟨by rw [HX.out.1, HX.out.2]; rfl, k1⟩
  · have h2' := (int_ne h2).2; have HX := Lib.hid (hno (by rw [hok]; simp [h2])); clear hok hno hyes h2 hlen; go_enter Tryz.func50, Tryz.ntmps50; go_wp2_with fail; refine HLi.out.mono ?_; rintro e w1 ⟨rfl, k1⟩; go_wp2_with fail; go_ret2; exact ⟨by rw [HX.out.1, HX.out.2]; rfl, k1⟩
end Go.Proofs.YtlhnjkekjbbhcaaGreatDoor
