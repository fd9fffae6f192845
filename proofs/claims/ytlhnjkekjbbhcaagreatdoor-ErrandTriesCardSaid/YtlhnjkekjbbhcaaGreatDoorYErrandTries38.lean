/- Parts of the proof of ErrandTries, in order. No conditions but those that each theorem states. -/
import Derived.Test.YtlhnjkekjbbhcaaGreatDoorYErrandTries0
import Derived.Lib.SlBytesConst
import Derived.Lib.LaidTab
import Derived.Lib.ItoaNum
import Derived.Lib.ItoaLen
import Derived.Sort.Grow
import Derived.DeepKeys4
import Derived.Deep.MidRow
import Derived.Test.YtlhnjkekjbbhcaaGreatDoorYErrandTries37
set_option linter.unusedSimpArgs false
set_option linter.unusedVariables false
namespace Go.Proofs.YtlhnjkekjbbhcaaGreatDoor
open Go.RowKit Go.Shelf
section
variable {w0 w w' : World} {b n : Nat} {rp va : Value} {X X' L : List Nat} {E E' : ErS}
def EtFin (w0 w : World) (b : Nat) (rp : Value) (X : List Nat) (E' : ErS) (n : Nat) (L : List Nat) (w' : World) : Prop := ∃ va' X', Et w0 w' b rp va' X' E' n L ∧ Keep (b :: X) w w' ∧ ∀ x ∈ X', x ∈ X ∨ w.heap.size ≤ x
theorem EtFin.same (h : Et w0 w b rp va X E n L) : EtFin w0 w b rp X E n L w := ⟨va, X, h, Keep.refl _ _, fun _ hx => .inl hx⟩
theorem EtFin.step {wr : World} {X1 : List Nat} {w2 : World} {va1 : Value} (k : Keep (b :: X) w wr) (hs : ∀ x ∈ X1, x ∈ X ∨ w.heap.size ≤ x) (h : Et w0 w2 b rp va X' E' n L) (k2 : Keep (b :: X1) wr w2) (hs2 : ∀ x ∈ X', x ∈ X1 ∨ wr.heap.size ≤ x) : va1 = va1 → EtFin w0 w b rp X E' n L w2 := fun _ => by
  refine ⟨va, X', h, k.trans' k2 (fun x hx hlt => ?_), fun x hx => ?_⟩
  · rcases List.mem_cons.1 hx with rfl | hx
    · simp
    · rcases hs x hx with h1 | h1
      · simp [h1]
      · omega
  · rcases hs2 x hx with h1 | h1
    · exact hs x h1
    · exact .inr (Nat.le_trans k.size h1)
theorem etake_stop {g : Nat} {E R : ErS} {now : Int} (h : E.state ≠ 2) (hE : erTake g E now = some R) : E = R := by
  cases g with
  | zero => simp [erTake] at hE
  | succ g => unfold erTake at hE; rw [if_pos h] at hE; exact Option.some.inj hE
theorem etake_more {g : Nat} {E R : ErS} {now : Int} (h : E.state = 2) (hE : erTake g E now = some R) : ∃ m P, g = m + 1 ∧ E.rep = some P ∧ (1 ≤ (nextR P).k ∧ (nextR P).k ≤ 4 → erTake m (erOne E (nextR P) now) now = some R) ∧ (¬ (1 ≤ (nextR P).k ∧ (nextR P).k ≤ 4) → erOne E (nextR P) now = R) := by
  cases g with
  | zero => simp [erTake] at hE
  | succ m =>
    unfold erTake at hE; rw [if_neg (by simp [h])] at hE
    cases hP : E.rep with
    | none => rw [hP] at hE; cases hE
    | some P =>
      rw [hP] at hE; simp only at hE; refine ⟨m, P, rfl, rfl, fun hk => ?_, fun hk => ?_⟩
      · rw [if_pos hk] at hE; exact hE
      · rw [if_neg hk] at hE; exact Option.some.inj hE
theorem one_1 {E : ErS} {r : NrR} {now : Int} (h : r.k = 1) : erOne E r now = erHead E r.p r.a now := by unfold erOne; rw [if_pos h]
theorem one_2 {E : ErS} {r : NrR} {now : Int} (h : r.k = 2) : erOne E r now = { E with rep := some r.p, data := E.data ++ r.s, size := E.size + (r.s.length : Nat) } := by
  have h1 : ¬ r.k = 1 := by omega
  unfold erOne; rw [if_neg h1, if_pos h]
theorem one_3 {E : ErS} {r : NrR} {now : Int} (h : r.k = 3) : erOne E r now = erEnd E r.p := by
  have h1 : ¬ r.k = 1 := by omega
  have h2 : ¬ r.k = 2 := by omega
  unfold erOne; rw [if_neg h1, if_neg h2, if_pos h]
theorem one_4 {E : ErS} {r : NrR} {now : Int} (h : r.k = 4) : erOne E r now = erMiss { E with rep := some r.p, silent := E.silent + 1 } 502 now := by
  have h1 : ¬ r.k = 1 := by omega
  have h2 : ¬ r.k = 2 := by omega
  have h3 : ¬ r.k = 3 := by omega
  unfold erOne; rw [if_neg h1, if_neg h2, if_neg h3, if_pos h]
theorem one_0 {E : ErS} {r : NrR} {now : Int} (h : ¬ (1 ≤ r.k ∧ r.k ≤ 4)) : erOne E r now = { E with rep := some r.p } := by
  have h1 : ¬ r.k = 1 := by omega
  have h2 : ¬ r.k = 2 := by omega
  have h3 : ¬ r.k = 3 := by omega
  have h4 : ¬ r.k = 4 := by omega
  unfold erOne; rw [if_neg h1, if_neg h2, if_neg h3, if_neg h4]
set_option maxRecDepth 100000 in
set_option maxHeartbeats 8000000 in
theorem er_take {N c : Nat} {R : ErS} (h : Et w0 w b rp va X E n L) (hm : ML w0) (hn : n ≤ 400000) (now : Int) (hnow : 0 ≤ now ∧ now ≤ 1152921504606846976) (hE : erTake N E now = some R) (hc : E.cnt c) (hcN : c + N ≤ 1000000) (ht : E.told) :
    Calls Tryz.prog 62 #[.pointer (some ⟨b, 0, Option.none⟩), .int .i64 now] w fun e w' => e = .returned (.tuple #[]) ∧ EtFin w0 w b rp X R n L w' := by
  have H := Lib.hid h; have HE := Lib.hid hE; have HC := Lib.hid hc; have HT := Lib.hid ht; have HML := Lib.hid hm; have HN := Lib.hid hcN; have Hn := Lib.hid hn; have Hnow := Lib.hid hnow; have hNN := hcN; clear h hE hc ht hm hcN hn hnow; go_enter Tryz.func62, Tryz.ntmps62; go_step3; go_wp2_with fail; go_step3; go_wp2_with fail
  go_loopg [] N (fun g wr => ∃ (E1 : ErS) (va1 : Value) (X1 : List Nat) (c1 : Nat), Hid (Et w0 wr b rp va1 X1 E1 n L) ∧ Hid (Keep (b :: X) w wr) ∧ Hid (∀ x ∈ X1, x ∈ X ∨ w.heap.size ≤ x) ∧ Hid (erTake g E1 now = some R) ∧ Hid (E1.cnt c1) ∧ Hid (c1 + g ≤ 1000000) ∧ Hid E1.told)
  case atStart => exact ⟨E, va, X, c, H, Lib.hid (Keep.refl _ _), Lib.hid (fun x hx => .inl hx), HE, HC, HN, HT⟩
  case round =>
    obtain ⟨E1, va1, X1, c1, H1, K1, S1, T1, C1, B1, D1⟩ := hrel; clear H HE HC HT HN; have c100 := H1.out.blk.get (g_state _ _ _); by_cases h2 : E1.state = 2
    · obtain ⟨m, P, rfl, hP, hgo, hend⟩ := etake_more h2 T1.out; have HP := Lib.hid hP; have HGO := Lib.hid hgo; have HEND := Lib.hid hend; have e2 := (int_eq h2).1; obtain ⟨p, hrp, hR⟩ := H1.out.reply hP; have hsm := next_small hR.ok (D1.out P hP); have hss := next_s hR.ok; have hone := one_cnt C1.out (nextR P) (Nat.le_trans hss Hn.out) now; have htold := one_told E1 P now; obtain ⟨⟨P2, k2, ⟨st2, F2, len2, ch2, cl2⟩, s2⟩, hr⟩ : ∃ r, nextR P = r := ⟨_, rfl⟩
      have HX := Lib.hid (rp_next hR HML.out Hn.out hr); unfold NpOut at HX; rw [hr] at hsm hss hone htold; dsimp only at HX hsm hss; have HSM := Lib.hid hsm; have HSS := Lib.hid hss; have HON := Lib.hid hone; have HTO := Lib.hid htold; rw [hr] at HGO HEND; have c0 := H1.out.blk.get (g_rep _ _ _); rw [hrp] at c0; have HRP := Lib.hid hrp; clear h2 hP hgo hend hR hsm hss hone htold hr hrp T1; go_wp2_with fail; refine HX.out.mono ?_; rintro e w1 ⟨sa1, sl1, sc1, X2, rfl, hR1, kX, hsub, hown, hfresh⟩; have H2 := Lib.hid (H1.out.called HP.out HRP.out hR1 kX); have M1 : Hid (MemK w1 [] w0 w1 [(b, 106, ({ E1 with rep := some P2 } : ErS).cells rp va1)]) := Lib.hid (MemK.of H2.out.mem.1 []); have HO := Lib.hid (ansC_one st2 (v := .slice sa1 sl1 sc1) len2 ch2 cl2 rfl); have KX := Lib.hid kX; have HSub := Lib.hid hsub; have HOwn := Lib.hid hown; have HFr := Lib.hid hfresh; clear hR1 kX hsub hown hfresh c0 c100 HX e2
      go_upto_region 2 with (first | ((with_reducible refine gA 5 ?_); refine wpList_allocK rfl 30 rfl (ansZ) (Lib.hid an_zero) M1 ?_; intro c w2 M2 hnewc; try simp only [Act.put, sqA, sqB, sqC]) | ((with_reducible refine gS 5 20 ?_); refine wpList_storeK rfl 30 (.tmp 5) (.tmp 20) rfl M2 0 rfl (by rfl) (ansC st2 (.slice sa1 sl1 sc1) len2 ch2 cl2) (by rfl) ans_size rfl HO.out (fun hlt => absurd hnewc.out (by omega)) ?_; intro w3 M3; try simp only [Act.put]) | fail)
      have H3 := Lib.hid (H2.out.keep0 M3.out.2); have K3 : Hid (Keep (b :: X1) wr w3) := Lib.hid ((KX.out.mono (S' := b :: X1) (fun x hx _ => List.mem_cons_of_mem _ hx)).trans' M3.out.2 (by simp)); clear M1 M2 HO; by_cases hk1 : k2 = 1
      · subst hk1; have HR := Lib.hid (one_1 (E := E1) (r := ⟨P2, 1, ⟨st2, F2, len2, ch2, cl2⟩, s2⟩) (now := now) rfl); have HG := Lib.hid (HGO.out ⟨show (1 : Int) ≤ 1 by decide, show (1 : Int) ≤ 4 by decide⟩); have hcc : cntOf E1.misses E1.silent E1.heard E1.data.length E1.size E1.cfg.bo c1 := C1.out; have HHd := Lib.hid (er_headed H3.out HML.out Hn.out rfl ⟨st2, F2, len2, ch2, cl2⟩ (HOwn.out.keep0 M3.out.2) (fun f hf => ⟨Nat.le_trans (HSM.out.2 f hf).1 (by have := Hn.out; omega), Nat.le_trans (HSM.out.2 f hf).2 (by have := Hn.out; omega)⟩) (fun g hg => ⟨fun hh => by have h5 := (HFr.out g hg).1; have h6 := H1.out.lt; omega, (HFr.out g hg).2, fun hh => by have h5 := (HFr.out g hg).1; have h6 := (H1.out.ap g hh).2.2; omega⟩) now ⟨⟨hcc.1.1, (show E1.misses ≤ 1152921504606846976 by have := hcc.1.2; have := B1.out; omega)⟩, Hnow.out, hcc.2.2.2.2.2⟩ ⟨hcc.2.2.1.1, (show E1.heard ≤ 1152921504606846976 by have := hcc.2.2.1.2; have := B1.out; omega)⟩); clear hcc
        go_wp2_with (first | ((with_reducible refine gL 26 5 ?_); refine wpList_loadK (by rfl) 30 (.tmp 5) rfl M3 0 rfl (by rfl) _ Tryz.underlying30 rfl (an_size _ _ _ _ _) ?_; try simp only [Act.put, sqA, sqB, sqC]) | fail); refine HHd.out.mono ?_; rintro e w4 ⟨rfl, X3, h4, k4, s4⟩; have H4 := Lib.hid h4; have K4 := Lib.hid k4; have S4 := Lib.hid s4; clear h4 k4 s4 HHd; go_wp2_with fail
        go_roundg m
        case rel =>
          rw [HR.out] at HG HON HTO
          obtain ⟨va5, X5, h5, k5, s5⟩ := EtFin.step (va1 := va1) K1.out S1.out H4.out (K3.out.trans' K4.out (fun x hx _ => by
            rcases List.mem_cons.1 hx with rfl | hx
            · simp
            · rcases HSub.out x hx with h6 | h6
              · simp [h6]
              · exact absurd h6 (by omega))) (fun x hx => by
            rcases S4.out x hx with h6 | h6
            · exact HSub.out x h6
            · exact .inr (Nat.le_trans K3.out.size h6)) rfl
          exact ⟨_, va5, X5, c1 + 1, Lib.hid h5, Lib.hid k5, Lib.hid s5, HG, HON, Lib.hid (by have := B1.out; omega), HTO⟩
        case measure => omega
      · by_cases hk2 : k2 = 2
        · subst hk2; have HR := Lib.hid (one_2 (E := E1) (r := ⟨P2, 2, ⟨st2, F2, len2, ch2, cl2⟩, s2⟩) (now := now) rfl); have HG := Lib.hid (HGO.out ⟨show (1 : Int) ≤ 2 by decide, show (2 : Int) ≤ 4 by decide⟩); have hcc : cntOf E1.misses E1.silent E1.heard E1.data.length E1.size E1.cfg.bo c1 := C1.out; have hdl : E1.data.length ≤ 400000000000 := by have := hcc.2.2.2.1; have := B1.out; omega
          have hzl : 0 ≤ E1.size ∧ E1.size ≤ 400000000000 := ⟨hcc.2.2.2.2.1.1, by have := hcc.2.2.2.2.1.2; have := B1.out; omega⟩
          have hsl : s2.length ≤ 400000 := Nat.le_trans HSS.out Hn.out; have hcat : (S E1.data) ++ (S s2) = S (E1.data ++ s2) := S_append _ _; have hsz2 : (S s2).size = s2.length := rfl; have hsz1 : (S E1.data).size = E1.data.length := rfl; clear hcc; have M3 : Hid (MemK w3 [b] w0 w3 [(b, 106, ({ E1 with rep := some P2 } : ErS).cells rp va1)]) := Lib.hid (MemK.of H3.out.mem.1 [b]); have c9 := M3.out.get 0 rfl 9 (g_data { E1 with rep := some P2 } rp va1); have hh9 : ({ E1 with rep := some P2 } : ErS).data = E1.data := rfl; rw [hh9] at c9; clear hh9
          go_wp2_with (first | ((with_reducible refine gT 40 ?_); refine wpList_store1K rfl 9 (.tmp 40) _ rfl M3 0 rfl 9 (by rfl) (.string (S (E1.data ++ s2))) (by rfl) rfl rfl (by kernel_rfl) (by rw [ErS.len]; omega) (fun _ => by simp) ?_; intro w4 M4; have hR := M4.out; simp only [sqC, s_data] at hR; clear M4; have M4 := Lib.hid hR; clear hR; clear c9; have c11 : w4.cell? ⟨b, 11, Option.none⟩ = some (.int .i64 E1.size) := M4.out.get 0 rfl 11 (g_size _ _ _); try simp only [Act.put]) | ((with_reducible refine gT 51 ?_); refine wpList_store1K rfl 3 (.tmp 51) _ rfl M4 0 rfl 11 (by rfl) (.int .i64 (E1.size + (s2.length : Nat))) (by rfl) rfl rfl (by kernel_rfl) (by rw [ErS.len]; omega) (fun _ => by simp) ?_; intro w5 M5; have hR := M5.out; simp only [sqC, s_size] at hR; clear M5; have M5 := Lib.hid hR; clear hR; try simp only [Act.put]) | fail); have H4 : Hid (Et w0 w5 b rp va1 X2 { E1 with rep := some P2, data := E1.data ++ s2, size := E1.size + (s2.length : Nat) } n L) := Lib.hid (H3.out.own M5.out.2 (M5.out.1.blk 0 rfl) rfl rfl); have K4 := Lib.hid M5.out.2
          go_roundg m
          case rel =>
            rw [HR.out] at HG HON HTO
            obtain ⟨va5, X5, h5, k5, s5⟩ := EtFin.step (va1 := va1) K1.out S1.out H4.out (K3.out.trans' K4.out (fun x hx _ => by
              have h9 : x = b := (by simpa using hx)
              simp [h9])) (fun x hx => by
              rcases HSub.out x hx with h6 | h6
              · exact .inl h6
              · exact .inr h6) rfl
            exact ⟨_, va5, X5, c1 + 1, Lib.hid h5, Lib.hid k5, Lib.hid s5, HG, HON, Lib.hid (by have := B1.out; omega), HTO⟩
          case measure => omega
        · by_cases hk3 : k2 = 3
          · subst hk3; have HR := Lib.hid (one_3 (E := E1) (r := ⟨P2, 3, ⟨st2, F2, len2, ch2, cl2⟩, s2⟩) (now := now) rfl); have HG := Lib.hid (HGO.out ⟨show (1 : Int) ≤ 3 by decide, show (3 : Int) ≤ 4 by decide⟩); have hcc : cntOf E1.misses E1.silent E1.heard E1.data.length E1.size E1.cfg.bo c1 := C1.out; have HHd := Lib.hid (er_ended H3.out HML.out rfl ⟨hcc.2.2.1.1, (show E1.heard ≤ 1152921504606846976 by have := hcc.2.2.1.2; have := B1.out; omega)⟩); clear hcc; go_wp2_with fail; refine HHd.out.mono ?_; rintro e w4 ⟨rfl, h4, k4⟩; have H4 := Lib.hid h4; have K4 := Lib.hid k4; clear h4 k4 HHd; go_wp2_with fail
            go_roundg m
            case rel =>
              rw [HR.out] at HG HON HTO
              obtain ⟨va5, X5, h5, k5, s5⟩ := EtFin.step (va1 := va1) K1.out S1.out H4.out (K3.out.trans' K4.out (fun x hx _ => by
                have h9 : x = b := (by simpa using hx)
                simp [h9])) (fun x hx => by
                rcases HSub.out x hx with h6 | h6
                · exact .inl h6
                · exact .inr h6) rfl
              exact ⟨_, va5, X5, c1 + 1, Lib.hid h5, Lib.hid k5, Lib.hid s5, HG, HON, Lib.hid (by have := B1.out; omega), HTO⟩
            case measure => omega
          · by_cases hk4 : k2 = 4
            · subst hk4; have HR := Lib.hid (one_4 (E := E1) (r := ⟨P2, 4, ⟨st2, F2, len2, ch2, cl2⟩, s2⟩) (now := now) rfl); have HG := Lib.hid (HGO.out ⟨show (1 : Int) ≤ 4 by decide, show (4 : Int) ≤ 4 by decide⟩); have hcc : cntOf E1.misses E1.silent E1.heard E1.data.length E1.size E1.cfg.bo c1 := C1.out; have hsi : 0 ≤ E1.silent ∧ E1.silent ≤ 1000000 := ⟨hcc.2.1.1, by have := hcc.2.1.2; have := B1.out; omega⟩
              have HSE := Lib.hid (show smallE { E1 with rep := some P2, silent := E1.silent + 1 } now from ⟨⟨hcc.1.1, (show E1.misses ≤ 1152921504606846976 by have := hcc.1.2; have := B1.out; omega)⟩, Hnow.out, hcc.2.2.2.2.2⟩); clear hcc; have M3 : Hid (MemK w3 [b] w0 w3 [(b, 106, ({ E1 with rep := some P2 } : ErS).cells rp va1)]) := Lib.hid (MemK.of H3.out.mem.1 [b]); have c140 : w3.cell? ⟨b, 140, Option.none⟩ = some (.int .i64 E1.silent) := M3.out.get 0 rfl 140 (g_silent _ rp va1)
              go_wp2_with (first | ((with_reducible refine gT 64 ?_); refine wpList_store1K rfl 3 (.tmp 64) _ rfl M3 0 rfl 140 (by rfl) (.int .i64 (E1.silent + 1)) (by rfl) rfl rfl (by kernel_rfl) (by rw [ErS.len]; omega) (fun _ => by simp) ?_; intro w4 M4; have hR := M4.out; simp only [sqC, s_silent] at hR; clear M4; have M4 := Lib.hid hR; clear hR; clear c140; try simp only [Act.put]) | fail); have H4' : Hid (Et w0 w4 b rp va1 X2 { E1 with rep := some P2, silent := E1.silent + 1 } n L) := Lib.hid (H3.out.own M4.out.2 (M4.out.1.blk 0 rfl) rfl rfl); refine (er_miss H4'.out 502 now HSE.out).mono ?_; rintro e w5 ⟨rfl, h4, k4⟩; have H4 := Lib.hid h4; have K4 := Lib.hid (M4.out.2.trans k4); clear h4 k4 H4'; go_wp2_with fail
              go_roundg m
              case rel =>
                rw [HR.out] at HG HON HTO
                obtain ⟨va5, X5, h5, k5, s5⟩ := EtFin.step (va1 := va1) K1.out S1.out H4.out (K3.out.trans' K4.out (fun x hx _ => by
                  have h9 : x = b := (by simpa using hx)
                  simp [h9])) (fun x hx => by
                  rcases HSub.out x hx with h6 | h6
                  · exact .inl h6
                  · exact .inr h6) rfl
                exact ⟨_, va5, X5, c1 + 1, Lib.hid h5, Lib.hid k5, Lib.hid s5, HG, HON, Lib.hid (by have := B1.out; omega), HTO⟩
              case measure => omega
            · have hk0 : ¬ (1 ≤ k2 ∧ k2 ≤ 4) := by omega
              have HR := Lib.hid (one_0 (E := E1) (r := ⟨P2, k2, ⟨st2, F2, len2, ch2, cl2⟩, s2⟩) (now := now) hk0); have HG := Lib.hid (HEND.out hk0); have f1 := (int_ne hk1).1; have f2 := (int_ne hk2).1; have f3 := (int_ne hk3).1; have f4 := (int_ne hk4).1; clear hk0 hk1 hk2 hk3 hk4; go_wp2_with fail; try first | rw [Exit.noGoto_ret] | rw [Exit.noGoto_normal] | (unfold Exit.noGoto; dsimp only)
              first | go_end0 | refine bodyPost_ret (results_none rfl _ _ _) rfl ?_
              rw [HR.out] at HG; refine ⟨rfl, ?_⟩; rw [← HG.out]; exact EtFin.step (va1 := va1) K1.out S1.out H3.out K3.out HSub.out rfl
    · have HG := Lib.hid (etake_stop h2 T1.out); have e2 := (int_ne h2).1; clear h2; go_wp2_with fail; try first | rw [Exit.noGoto_ret] | rw [Exit.noGoto_normal] | (unfold Exit.noGoto; dsimp only)
      first | go_end0 | refine bodyPost_ret (results_none rfl _ _ _) rfl ?_
      refine ⟨rfl, ?_⟩; rw [← HG.out]; exact ⟨va1, X1, H1.out, K1.out, S1.out⟩
end
end Go.Proofs.YtlhnjkekjbbhcaaGreatDoor
namespace Go.Proofs.YtlhnjkekjbbhcaaGreatDoor
open Go.RowKit Go.Shelf
set_option maxHeartbeats 1000000 in
set_option maxRecDepth 100000 in
theorem reply_Shut {B p : Nat} {X R : List Nat} {P : ReS} {w : World} (h : Re B w p X R P) :
    Calls Tryz.prog 63 #[.pointer (some ⟨p, 0, Option.none⟩)] w fun e w' => e = .returned (.tuple #[]) ∧ Re B w' p X R (reShut P) ∧ Keep [p] w w' := by
  obtain ⟨c0, c1, c2, c3, c4, c5, c6, c7, c10, c11⟩ := h.at_; have f10 := h.free 10; have H := Lib.hid h; clear h; go_enter Tryz.func63, Tryz.ntmps63; go_wp2_with fail
  first | go_end0 | refine bodyPost_ret (results_none rfl _ _ _) rfl ?_
  exact ⟨rfl, H.out.set 10 (.bool true) (fun _ _ => rfl) rfl rfl, (Keep.refl _ _).setCell _ _ (by simp)⟩
theorem rp_shut {w0 w : World} {p n : Nat} {X L : List Nat} {P : ReS} (h : Rp w0 w p X P n L) :
    Calls Tryz.prog 63 #[.pointer (some ⟨p, 0, Option.none⟩)] w fun e w' => e = .returned (.tuple #[]) ∧ Rp w0 w' p X (reShut P) n L ∧ Keep X w w' := by
  refine (reply_Shut h.re).mono ?_; rintro e w' ⟨rfl, h1, h2⟩; exact ⟨rfl, ⟨h1, ⟨h.ok.wt, h.ok.big, h.ok.size, h.ok.left, h.ok.st, h.ok.head, h.ok.chk⟩, h.kp.above h2 (fun x hx => by have h9 : x = p := (by simpa using hx); rw [h9]; exact h.re.base), fun l hl => ⟨(h.ap l hl).1, Nat.lt_of_lt_of_le (h.ap l hl).2 h2.size⟩⟩, h.re.keepX h2⟩
end Go.Proofs.YtlhnjkekjbbhcaaGreatDoor
