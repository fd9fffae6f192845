/- Parts of the proof of ErrandJudges, in order. No conditions but those that each theorem states. -/
import Derived.Test.YtlhnjkekjbbhcaaGreatDoorYErrandJudges0
import Derived.Lib.SlBytesConst
import Derived.Lib.LaidTab
import Derived.Lib.ItoaNum
import Derived.Lib.ItoaLen
import Derived.Sort.Grow
import Derived.Deep.MidRow
import Derived.DeepKeys4
import Derived.Test.YtlhnjkekjbbhcaaGreatDoorYErrandJudges21
namespace Go.Proofs.YtlhnjkekjbbhcaaGreatDoor
open Go.RowKit
theorem ereFrame_F (P : ReS) (a : Ans) : (reFrame P a).a.F = a.F := by
  unfold reFrame
  split
  · rfl
  · split
    · rfl
    · split
      · rfl
      · split <;> rfl
theorem readHead_ans {P : ReS} {n : Nat} (hi : P.inp.length ≤ n) (ha : P.ans = none) : ∀ a, (readHeadR P).1.ans = some a → Small n a.F := by
  have hs := (split_small P.inp).1; have hs' : Small n (splitM P.inp).F := ⟨hs.1, fun x hx => ⟨Nat.le_trans (hs.2 x hx).1 hi, Nat.le_trans (hs.2 x hx).2 hi⟩⟩
  intro a; unfold readHeadR
  split
  · intro h; rw [ha] at h; cases h
  · split
    · intro h; simp only [reFail] at h; rw [ha] at h; cases h
    · split
      · split
        · intro h; simp only [reFail, headP] at h; rw [ha] at h; cases h
        · intro h; simp only [headP] at h; rw [ha] at h; cases h
      · split
        · intro h; simp only [Option.some.injEq] at h; subst h; rw [ereFrame_F]; exact hs'
        · intro h; simp only [reFail, headP] at h; rw [ha] at h; cases h
theorem eread_ans {P : ReS} {n : Nat} (h : P.ok n) (ha : P.ans = none) : ∀ a, (readR P).1.ans = some a → Small n a.F := by
  have hw := h.wt; unfold ReS.wt at hw; unfold readR
  split
  · exact readHead_ans (by omega) ha
  · split
    · unfold readChunksR
      split
      · intro a hh; rw [ha] at hh; cases hh
      · split
        · intro a hh; rw [ha] at hh; cases hh
        · split
          · intro a hh; simp only [reFail] at hh; rw [ha] at hh; cases hh
          · split
            · intro a hh; simp only at hh; rw [ha] at hh; cases hh
            · intro a hh; simp only at hh; rw [ha] at hh; cases hh
    · split
      · unfold readLengthR
        split
        · intro a hh; simp only at hh; rw [ha] at hh; cases hh
        · intro a hh; simp only at hh; rw [ha] at hh; cases hh
      · split
        · unfold readCloseR
          split
          · intro a hh; simp only [reFail, closeP] at hh; rw [ha] at hh; cases hh
          · split
            · intro a hh; simp only [closeP] at hh; rw [ha] at hh; cases hh
            · intro a hh; simp only [closeP] at hh; rw [ha] at hh; cases hh
        · intro a hh; rw [ha] at hh; cases hh
theorem loop_ans {n : Nat} : ∀ (i : Nat) (P : ReS), P.ok n → P.ans = none → ∀ a, (reLoop i P).ans = some a → Small n a.F
  | 0, P, _, ha, a, h => by unfold reLoop at h; rw [ha] at h; cases h
  | i + 1, P, hP, ha, a, h => by
    unfold reLoop at h; rw [if_neg (by simp [ha])] at h
    split at h
    · cases hx : (readR P).1.ans with
      | none => exact loop_ans i _ (read_ok hP).1 hx a h
      | some y =>
        have hl : reLoop i (readR P).1 = (readR P).1 := by
          cases i with
          | zero => rfl
          | succ i => unfold reLoop; rw [if_pos (by simp [hx])]
        rw [hl] at h; exact eread_ans hP ha a h
    · exact eread_ans hP ha a h
theorem next_small {P : ReS} {n : Nat} (h : P.ok n) (ha : P.ans = none) : Small n (nextR P).a.F := by
  have hl := loop_ans (P.inp.length + 2) P h ha; rw [nextR_eq]; unfold reEnd
  split
  · rename_i a hh; exact hl a hh
  · split
    · exact ⟨Nat.zero_le _, fun x hx => by cases hx⟩
    · exact ⟨Nat.zero_le _, fun x hx => by cases hx⟩
theorem next_ans (P : ReS) : (nextR P).p.ans = none := by
  rw [nextR_eq]
  split
  · rfl
  · rename_i hh
    split
    · exact hh
    · unfold reFinish
      split
      · exact hh
      · split
        · exact hh
        · exact hh
theorem next_s {Q : ReS} {n : Nat} (h : Q.ok n) : (nextR Q).s.length ≤ n := by
  have hE := (reEnd_ok h).wt; have h2 : (reEnd Q).dat.length ≤ n := by unfold ReS.wt at hE; omega
  rw [nextR_eq]
  split
  · simp
  · split
    · exact h2
    · simp
def ErS.told (E : ErS) : Prop := ∀ P, E.rep = some P → P.ans = none
def cntOf (m s h : Int) (d : Nat) (z : Int) (b c : Nat) : Prop := (0 ≤ m ∧ m ≤ c) ∧ (0 ≤ s ∧ s ≤ c) ∧ (0 ≤ h ∧ h ≤ c) ∧ d ≤ c * 400000 ∧ (0 ≤ z ∧ z ≤ c * 400000) ∧ b < 18446744073709551616
theorem cntOf.up {m s h m' s' h' : Int} {d d' : Nat} {z z' : Int} {b c : Nat} (H : cntOf m s h d z b c) (hm : m ≤ m' ∧ m' ≤ m + 1) (hs : s ≤ s' ∧ s' ≤ s + 1) (hh : h ≤ h' ∧ h' ≤ h + 1) (hd : d' ≤ d + 400000) (hz : z ≤ z' ∧ z' ≤ z + 400000) : cntOf m' s' h' d' z' b (c + 1) := by
  obtain ⟨h1, h2, h3, h4, h5, h6⟩ := H; refine ⟨⟨?_, ?_⟩, ⟨?_, ?_⟩, ⟨?_, ?_⟩, ?_, ⟨?_, ?_⟩, h6⟩ <;> omega
def ErS.cnt (E : ErS) (c : Nat) : Prop := cntOf E.misses E.silent E.heard E.data.length E.size E.cfg.bo c
theorem cntOf.mono1 {m s h : Int} {d : Nat} {z : Int} {b c : Nat} (H : cntOf m s h d z b c) : cntOf m s h d z b (c + 1) :=
  H.up ⟨Int.le_refl _, by omega⟩ ⟨Int.le_refl _, by omega⟩ ⟨Int.le_refl _, by omega⟩ (by omega) ⟨Int.le_refl _, by omega⟩
theorem cntOf.mono {m s h : Int} {d : Nat} {z : Int} {b c : Nat} (H : cntOf m s h d z b c) : ∀ k : Nat, cntOf m s h d z b (c + k)
  | 0 => H
  | k + 1 => (H.mono k).mono1
theorem ErS.cnt.mono {E : ErS} {c d : Nat} (h : E.cnt c) (hd : c ≤ d) : E.cnt d := by
  obtain ⟨k, rfl⟩ := Nat.exists_eq_add_of_le hd; exact cntOf.mono h k
theorem miss_cnt {E : ErS} {m s h : Int} {d : Nat} {z : Int} {c : Nat} (H : cntOf m s h d z E.cfg.bo c) (hm : E.misses = m) (hs : s ≤ E.silent ∧ E.silent ≤ s + 1) (hh : h ≤ E.heard ∧ E.heard ≤ h + 1) (hd : E.data.length = d) (hz : E.size = z) (st now : Int) : (erMiss E st now).cnt (c + 1) := by
  have key : cntOf (E.misses + 1) E.silent E.heard E.data.length E.size E.cfg.bo (c + 1) := by
    rw [hm, hd, hz]; exact H.up ⟨by omega, Int.le_refl _⟩ hs hh (by omega) ⟨Int.le_refl _, by omega⟩
  unfold erMiss
  split <;> exact key
theorem miss_rep (E : ErS) (s now : Int) : (erMiss E s now).rep = E.rep := by unfold erMiss; split <;> rfl
theorem one_cnt {E : ErS} {c : Nat} (h : E.cnt c) (r : NrR) (hr : r.s.length ≤ 400000) (now : Int) : (erOne E r now).cnt (c + 1) := by
  have H : cntOf E.misses E.silent E.heard E.data.length E.size E.cfg.bo c := h; have same : ∀ x : Int, x ≤ x ∧ x ≤ x + 1 := fun x => ⟨Int.le_refl _, by omega⟩
  have more : ∀ x : Int, x ≤ x + 1 ∧ x + 1 ≤ x + 1 := fun x => ⟨by omega, Int.le_refl _⟩
  have samez : ∀ x : Int, x ≤ x ∧ x ≤ x + 400000 := fun x => ⟨Int.le_refl _, by omega⟩
  have k0 : cntOf E.misses E.silent E.heard E.data.length E.size E.cfg.bo (c + 1) := H.up (same _) (same _) (same _) (by omega) (samez _); have k1 : cntOf E.misses E.silent (E.heard + 1) E.data.length E.size E.cfg.bo (c + 1) := H.up (same _) (same _) (more _) (by omega) (samez _); unfold erOne
  split
  · unfold erHead
    split
    · exact k0
    · split
      · exact miss_cnt (E := { E with rep := some r.p, head := r.a, heard := E.heard + 1 }) H rfl (same _) (more _) rfl rfl _ _
      · split
        · exact k1
        · exact k1
  · split
    · have k2 : cntOf E.misses E.silent E.heard (E.data ++ r.s).length (E.size + (r.s.length : Nat)) E.cfg.bo (c + 1) := H.up (same _) (same _) (same _) (by rw [List.length_append]; omega) ⟨by omega, by omega⟩; exact k2
    · split
      · exact k1
      · split
        · exact miss_cnt (E := { E with rep := some r.p, silent := E.silent + 1 }) H rfl (more _) (same _) rfl rfl _ _
        · exact k0
theorem one_told (E : ErS) (P : ReS) (now : Int) : (erOne E (nextR P) now).told := by
  have hp := next_ans P; intro Q hQ; unfold erOne at hQ
  split at hQ
  · unfold erHead at hQ
    split at hQ
    · cases hQ; exact hp
    · split at hQ
      · rw [miss_rep] at hQ; cases hQ; exact hp
      · split at hQ
        · cases hQ; exact next_ans _
        · cases hQ; exact hp
  · split at hQ
    · cases hQ; exact hp
    · split at hQ
      · cases hQ; exact hp
      · split at hQ
        · rw [miss_rep] at hQ; cases hQ; exact hp
        · cases hQ; exact hp
end Go.Proofs.YtlhnjkekjbbhcaaGreatDoor
namespace Go.Proofs.YtlhnjkekjbbhcaaGreatDoor
open Go.RowKit Go.Shelf
section
variable {w0 w w' : World} {b n : Nat} {rp va : Value} {X X' L : List Nat} {E E' : ErS}
def EtFin (w0 w : World) (b : Nat) (rp : Value) (X : List Nat) (E' : ErS) (n : Nat) (L : List Nat) (w' : World) : Prop := ∃ va' X', Et w0 w' b rp va' X' E' n L ∧ Keep (b :: X) w w' ∧ ∀ x ∈ X', x ∈ X ∨ w.heap.size ≤ x
theorem EtFin.same (h : Et w0 w b rp va X E n L) : EtFin w0 w b rp X E n L w := ⟨va, X, h, Keep.refl _ _, fun _ hx => .inl hx⟩
theorem EtFin.step {wr : World} {X1 : List Nat} {w2 : World} {va1 : Value} (k : Keep (b :: X) w wr) (hs : ∀ x ∈ X1, x ∈ X ∨ w.heap.size ≤ x) (h : Et w0 w2 b rp va X' E' n L) (k2 : Keep (b :: X1) wr w2) (hs2 : ∀ x ∈ X', x ∈ X1 ∨ wr.heap.size ≤ x) : va1 = va1 → EtFin w0 w b rp X E' n L w2 := fun _ => by
  refine ⟨va, X', h, k.trans' k2 (fun x hx hlt => ?_), fun x hx => ?_⟩
  · rcases List.mem_cons.1 hx with rfl | hx
    · simp
    · rcases hs x hx with h1 | h1
      · simp [h1]
      · omega
  · rcases hs2 x hx with h1 | h1
    · exact hs x h1
    · exact .inr (Nat.le_trans k.size h1)
theorem etake_stop {g : Nat} {E R : ErS} {now : Int} (h : E.state ≠ 2) (hE : erTake g E now = some R) : E = R := by
  cases g with
  | zero => simp [erTake] at hE
  | succ g => unfold erTake at hE; rw [if_pos h] at hE; exact Option.some.inj hE
theorem etake_more {g : Nat} {E R : ErS} {now : Int} (h : E.state = 2) (hE : erTake g E now = some R) : ∃ m P, g = m + 1 ∧ E.rep = some P ∧ (1 ≤ (nextR P).k ∧ (nextR P).k ≤ 4 → erTake m (erOne E (nextR P) now) now = some R) ∧ (¬ (1 ≤ (nextR P).k ∧ (nextR P).k ≤ 4) → erOne E (nextR P) now = R) := by
  cases g with
  | zero => simp [erTake] at hE
  | succ m =>
    unfold erTake at hE; rw [if_neg (by simp [h])] at hE
    cases hP : E.rep with
    | none => rw [hP] at hE; cases hE
    | some P =>
      rw [hP] at hE; simp only at hE; refine ⟨m, P, rfl, rfl, fun hk => ?_, fun hk => ?_⟩
      · rw [if_pos hk] at hE; exact hE
      · rw [if_neg hk] at hE; exact Option.some.inj hE
theorem one_1 {E : ErS} {r : NrR} {now : Int} (h : r.k = 1) : erOne E r now = erHead E r.p r.a now := by unfold erOne; rw [if_pos h]
theorem one_2 {E : ErS} {r : NrR} {now : Int} (h : r.k = 2) : erOne E r now = { E with rep := some r.p, data := E.data ++ r.s, size := E.size + (r.s.length : Nat) } := by
  have h1 : ¬ r.k = 1 := by omega
  unfold erOne; rw [if_neg h1, if_pos h]
theorem one_3 {E : ErS} {r : NrR} {now : Int} (h : r.k = 3) : erOne E r now = erEnd E r.p := by
  have h1 : ¬ r.k = 1 := by omega
  have h2 : ¬ r.k = 2 := by omega
  unfold erOne; rw [if_neg h1, if_neg h2, if_pos h]
theorem one_4 {E : ErS} {r : NrR} {now : Int} (h : r.k = 4) : erOne E r now = erMiss { E with rep := some r.p, silent := E.silent + 1 } 502 now := by
  have h1 : ¬ r.k = 1 := by omega
  have h2 : ¬ r.k = 2 := by omega
  have h3 : ¬ r.k = 3 := by omega
  unfold erOne; rw [if_neg h1, if_neg h2, if_neg h3, if_pos h]
theorem one_0 {E : ErS} {r : NrR} {now : Int} (h : ¬ (1 ≤ r.k ∧ r.k ≤ 4)) : erOne E r now = { E with rep := some r.p } := by
  have h1 : ¬ r.k = 1 := by omega
  have h2 : ¬ r.k = 2 := by omega
  have h3 : ¬ r.k = 3 := by omega
  have h4 : ¬ r.k = 4 := by omega
  unfold erOne; rw [if_neg h1, if_neg h2, if_neg h3, if_neg h4]
set_option maxRecDepth 100000 in
set_option maxHeartbeats 8000000 in
theorem er_take {N c : Nat} {R : ErS} (h : Et w0 w b rp va X E n L) (hm : ML w0) (hn : n ≤ 400000) (now : Int) (hnow : 0 ≤ now ∧ now ≤ 1152921504606846976) (hE : erTake N E now = some R) (hc : E.cnt c) (hcN : c + N ≤ 1000000) (ht : E.told) :
    Calls Tryz.prog 62 #[.pointer (some ⟨b, 0, Option.none⟩), .int .i64 now] w fun e w' => e = .returned (.tuple #[]) ∧ EtFin w0 w b rp X R n L w' := by
  have H := Lib.hid h; have HE := Lib.hid hE; have HC := Lib.hid hc; have HT := Lib.hid ht; have HML := Lib.hid hm; have HN := Lib.hid hcN; have Hn := Lib.hid hn; have Hnow := Lib.hid hnow; have hNN := hcN; clear h hE hc ht hm hcN hn hnow; go_enter Tryz.func62, Tryz.ntmps62; go_step3; go_wp2_with fail; go_step3; go_wp2_with fail
  go_loopg [] N (fun g wr => ∃ (E1 : ErS) (va1 : Value) (X1 : List Nat) (c1 : Nat), Hid (Et w0 wr b rp va1 X1 E1 n L) ∧ Hid (Keep (b :: X) w wr) ∧ Hid (∀ x ∈ X1, x ∈ X ∨ w.heap.size ≤ x) ∧ Hid (erTake g E1 now = some R) ∧ Hid (E1.cnt c1) ∧ Hid (c1 + g ≤ 1000000) ∧ Hid E1.told)
  case atStart => exact ⟨E, va, X, c, H, Lib.hid (Keep.refl _ _), Lib.hid (fun x hx => .inl hx), HE, HC, HN, HT⟩
  case round =>
    obtain ⟨E1, va1, X1, c1, H1, K1, S1, T1, C1, B1, D1⟩ := hrel; clear H HE HC HT HN; have c100 := H1.out.blk.get (g_state _ _ _); by_cases h2 : E1.state = 2
    · obtain ⟨m, P, rfl, hP, hgo, hend⟩ := etake_more h2 T1.out; have HP := Lib.hid hP; have HGO := Lib.hid hgo; have HEND := Lib.hid hend; have e2 := (int_eq h2).1; obtain ⟨p, hrp, hR⟩ := H1.out.reply hP; have hsm := next_small hR.ok (D1.out P hP); have hss := next_s hR.ok; have hone := one_cnt C1.out (nextR P) (Nat.le_trans hss Hn.out) now; have htold := one_told E1 P now; obtain ⟨⟨P2, k2, ⟨st2, F2, len2, ch2, cl2⟩, s2⟩, hr⟩ : ∃ r, nextR P = r := ⟨_, rfl⟩
      have HX := Lib.hid (rp_next hR HML.out Hn.out hr); unfold NpOut at HX; rw [hr] at hsm hss hone htold; dsimp only at HX hsm hss; have HSM := Lib.hid hsm; have HSS := Lib.hid hss; have HON := Lib.hid hone; have HTO := Lib.hid htold; rw [hr] at HGO HEND; have c0 := H1.out.blk.get (g_rep _ _ _); rw [hrp] at c0; have HRP := Lib.hid hrp; clear h2 hP hgo hend hR hsm hss hone htold hr hrp T1; go_wp2_with fail; refine HX.out.mono ?_; rintro e w1 ⟨sa1, sl1, sc1, X2, rfl, hR1, kX, hsub, hown, hfresh⟩; have H2 := Lib.hid (H1.out.called HP.out HRP.out hR1 kX); have M1 : Hid (MemK w1 [] w0 w1 [(b, 106, ({ E1 with rep := some P2 } : ErS).cells rp va1)]) := Lib.hid (MemK.of H2.out.mem.1 []); have HO := Lib.hid (ansC_one st2 (v := .slice sa1 sl1 sc1) len2 ch2 cl2 rfl); have KX := Lib.hid kX; have HSub := Lib.hid hsub; have HOwn := Lib.hid hown; have HFr := Lib.hid hfresh; clear hR1 kX hsub hown hfresh c0 c100 HX e2
      go_upto_region 2 with (first | ((with_reducible refine gA 5 ?_); refine wpList_allocK rfl 30 rfl (ansZ) (Lib.hid an_zero) M1 ?_; intro c w2 M2 hnewc; try simp only [Act.put, sqA, sqB, sqC]) | ((with_reducible refine gS 5 20 ?_); refine wpList_storeK rfl 30 (.tmp 5) (.tmp 20) rfl M2 0 rfl (by rfl) (ansC st2 (.slice sa1 sl1 sc1) len2 ch2 cl2) (by rfl) ans_size rfl HO.out (fun hlt => absurd hnewc.out (by omega)) ?_; intro w3 M3; try simp only [Act.put]) | fail)
      have H3 := Lib.hid (H2.out.keep0 M3.out.2); have K3 : Hid (Keep (b :: X1) wr w3) := Lib.hid ((KX.out.mono (S' := b :: X1) (fun x hx _ => List.mem_cons_of_mem _ hx)).trans' M3.out.2 (by simp)); clear M1 M2 HO; by_cases hk1 : k2 = 1
      · subst hk1; have HR := Lib.hid (one_1 (E := E1) (r := ⟨P2, 1, ⟨st2, F2, len2, ch2, cl2⟩, s2⟩) (now := now) rfl); have HG := Lib.hid (HGO.out ⟨show (1 : Int) ≤ 1 by decide, show (1 : Int) ≤ 4 by decide⟩); have hcc : cntOf E1.misses E1.silent E1.heard E1.data.length E1.size E1.cfg.bo c1 := C1.out; have HHd := Lib.hid (er_headed H3.out HML.out Hn.out rfl ⟨st2, F2, len2, ch2, cl2⟩ (HOwn.out.keep0 M3.out.2) (fun f hf => ⟨Nat.le_trans (HSM.out.2 f hf).1 (by have := Hn.out; omega), Nat.le_trans (HSM.out.2 f hf).2 (by have := Hn.out; omega)⟩) (fun g hg => ⟨fun hh => by have h5 := (HFr.out g hg).1; have h6 := H1.out.lt; omega, (HFr.out g hg).2, fun hh => by have h5 := (HFr.out g hg).1; have h6 := (H1.out.ap g hh).2.2; omega⟩) now ⟨⟨hcc.1.1, (show E1.misses ≤ 1152921504606846976 by have := hcc.1.2; have := B1.out; omega)⟩, Hnow.out, hcc.2.2.2.2.2⟩ ⟨hcc.2.2.1.1, (show E1.heard ≤ 1152921504606846976 by have := hcc.2.2.1.2; have := B1.out; omega)⟩); clear hcc
        go_wp2_with (first | ((with_reducible refine gL 26 5 ?_); refine wpList_loadK (by rfl) 30 (.tmp 5) rfl M3 0 rfl (by rfl) _ Tryz.underlying30 rfl (an_size _ _ _ _ _) ?_; try simp only [Act.put, sqA, sqB, sqC]) | fail); refine HHd.out.mono ?_; rintro e w4 ⟨rfl, X3, h4, k4, s4⟩; have H4 := Lib.hid h4; have K4 := Lib.hid k4; have S4 := Lib.hid s4; clear h4 k4 s4 HHd; go_wp2_with fail
        go_roundg m
        case rel =>
          rw [HR.out] at HG HON HTO
          obtain ⟨va5, X5, h5, k5, s5⟩ := EtFin.step (va1 := va1) K1.out S1.out H4.out (K3.out.trans' K4.out (fun x hx _ => by
            rcases List.mem_cons.1 hx with rfl | hx
            · simp
            · rcases HSub.out x hx with h6 | h6
              · simp [h6]
              · exact absurd h6 (by omega))) (fun x hx => by
            rcases S4.out x hx with h6 | h6
            · exact HSub.out x h6
            · exact .inr (Nat.le_trans K3.out.size h6)) rfl
          exact ⟨_, va5, X5, c1 + 1, Lib.hid h5, Lib.hid k5, Lib.hid s5, HG, HON, Lib.hid (by have := B1.out; omega), HTO⟩
        case measure => omega
      · by_cases hk2 : k2 = 2
        · subst hk2; have HR := Lib.hid (one_2 (E := E1) (r := ⟨P2, 2, ⟨st2, F2, len2, ch2, cl2⟩, s2⟩) (now := now) rfl); have HG := Lib.hid (HGO.out ⟨show (1 : Int) ≤ 2 by decide, show (2 : Int) ≤ 4 by decide⟩); have hcc : cntOf E1.misses E1.silent E1.heard E1.data.length E1.size E1.cfg.bo c1 := C1.out; have hdl : E1.data.length ≤ 400000000000 := by have := hcc.2.2.2.1; have := B1.out; omega
          have hzl : 0 ≤ E1.size ∧ E1.size ≤ 400000000000 := ⟨hcc.2.2.2.2.1.1, by have := hcc.2.2.2.2.1.2; have := B1.out; omega⟩
          have hsl : s2.length ≤ 400000 := Nat.le_trans HSS.out Hn.out; have hcat : (S E1.data) ++ (S s2) = S (E1.data ++ s2) := S_append _ _; have hsz2 : (S s2).size = s2.length := rfl; have hsz1 : (S E1.data).size = E1.data.length := rfl; clear hcc; have M3 : Hid (MemK w3 [b] w0 w3 [(b, 106, ({ E1 with rep := some P2 } : ErS).cells rp va1)]) := Lib.hid (MemK.of H3.out.mem.1 [b]); have c9 := M3.out.get 0 rfl 9 (g_data { E1 with rep := some P2 } rp va1); have hh9 : ({ E1 with rep := some P2 } : ErS).data = E1.data := rfl; rw [hh9] at c9; clear hh9
          go_wp2_with (first | ((with_reducible refine gT 40 ?_); refine wpList_store1K rfl 9 (.tmp 40) _ rfl M3 0 rfl 9 (by rfl) (.string (S (E1.data ++ s2))) (by rfl) rfl rfl (by kernel_rfl) (by rw [ErS.len]; omega) (fun _ => by simp) ?_; intro w4 M4; have hR := M4.out; simp only [sqC, s_data] at hR; clear M4; have M4 := Lib.hid hR; clear hR; clear c9; have c11 : w4.cell? ⟨b, 11, Option.none⟩ = some (.int .i64 E1.size) := M4.out.get 0 rfl 11 (g_size _ _ _); try simp only [Act.put]) | ((with_reducible refine gT 51 ?_); refine wpList_store1K rfl 3 (.tmp 51) _ rfl M4 0 rfl 11 (by rfl) (.int .i64 (E1.size + (s2.length : Nat))) (by rfl) rfl rfl (by kernel_rfl) (by rw [ErS.len]; omega) (fun _ => by simp) ?_; intro w5 M5; have hR := M5.out; simp only [sqC, s_size] at hR; clear M5; have M5 := Lib.hid hR; clear hR; try simp only [Act.put]) | fail); have H4 : Hid (Et w0 w5 b rp va1 X2 { E1 with rep := some P2, data := E1.data ++ s2, size := E1.size + (s2.length : Nat) } n L) := Lib.hid (H3.out.own M5.out.2 (M5.out.1.blk 0 rfl) rfl rfl); have K4 := Lib.hid M5.out.2
          go_roundg m
          case rel =>
            rw [HR.out] at HG HON HTO
            obtain ⟨va5, X5, h5, k5, s5⟩ := EtFin.step (va1 := va1) K1.out S1.out H4.out (K3.out.trans' K4.out (fun x hx _ => by
              have h9 : x = b := (by simpa using hx)
              simp [h9])) (fun x hx => by
              rcases HSub.out x hx with h6 | h6
              · exact .inl h6
              · exact .inr h6) rfl
            exact ⟨_, va5, X5, c1 + 1, Lib.hid h5, Lib.hid k5, Lib.hid s5, HG, HON, Lib.hid (by have := B1.out; omega), HTO⟩
          case measure => omega
        · by_cases hk3 : k2 = 3
          · subst hk3; have HR := Lib.hid (one_3 (E := E1) (r := ⟨P2, 3, ⟨st2, F2, len2, ch2, cl2⟩, s2⟩) (now := now) rfl); have HG := Lib.hid (HGO.out ⟨show (1 : Int) ≤ 3 by decide, show (3 : Int) ≤ 4 by decide⟩); have hcc : cntOf E1.misses E1.silent E1.heard E1.data.length E1.size E1.cfg.bo c1 := C1.out; have HHd := Lib.hid (er_ended H3.out HML.out rfl ⟨hcc.2.2.1.1, (show E1.heard ≤ 1152921504606846976 by have := hcc.2.2.1.2; have := B1.out; omega)⟩); clear hcc; go_wp2_with fail; refine HHd.out.mono ?_; rintro e w4 ⟨rfl, h4, k4⟩; have H4 := Lib.hid h4; have K4 := Lib.hid k4; clear h4 k4 HHd; go_wp2_with fail
            go_roundg m
            case rel =>
              rw [HR.out] at HG HON HTO
              obtain ⟨va5, X5, h5, k5, s5⟩ := EtFin.step (va1 := va1) K1.out S1.out H4.out (K3.out.trans' K4.out (fun x hx _ => by
                have h9 : x = b := (by simpa using hx)
                simp [h9])) (fun x hx => by
                rcases HSub.out x hx with h6 | h6
                · exact .inl h6
                · exact .inr h6) rfl
              exact ⟨_, va5, X5, c1 + 1, Lib.hid h5, Lib.hid k5, Lib.hid s5, HG, HON, Lib.hid (by have := B1.out; omega), HTO⟩
            case measure => omega
          · by_cases hk4 : k2 = 4
            · subst hk4; have HR := Lib.hid (one_4 (E := E1) (r := ⟨P2, 4, ⟨st2, F2, len2, ch2, cl2⟩, s2⟩) (now := now) rfl); have HG := Lib.hid (HGO.out ⟨show (1 : Int) ≤ 4 by decide, show (4 : Int) ≤ 4 by decide⟩); have hcc : cntOf E1.misses E1.silent E1.heard E1.data.length E1.size E1.cfg.bo c1 := C1.out; have hsi : 0 ≤ E1.silent ∧ E1.silent ≤ 1000000 := ⟨hcc.2.1.1, by have := hcc.2.1.2; have := B1.out; omega⟩
              have HSE := Lib.hid (show smallE { E1 with rep := some P2, silent := E1.silent + 1 } now from ⟨⟨hcc.1.1, (show E1.misses ≤ 1152921504606846976 by have := hcc.1.2; have := B1.out; omega)⟩, Hnow.out, hcc.2.2.2.2.2⟩); clear hcc; have M3 : Hid (MemK w3 [b] w0 w3 [(b, 106, ({ E1 with rep := some P2 } : ErS).cells rp va1)]) := Lib.hid (MemK.of H3.out.mem.1 [b]); have c140 : w3.cell? ⟨b, 140, Option.none⟩ = some (.int .i64 E1.silent) := M3.out.get 0 rfl 140 (g_silent _ rp va1)
              go_wp2_with (first | ((with_reducible refine gT 64 ?_); refine wpList_store1K rfl 3 (.tmp 64) _ rfl M3 0 rfl 140 (by rfl) (.int .i64 (E1.silent + 1)) (by rfl) rfl rfl (by kernel_rfl) (by rw [ErS.len]; omega) (fun _ => by simp) ?_; intro w4 M4; have hR := M4.out; simp only [sqC, s_silent] at hR; clear M4; have M4 := Lib.hid hR; clear hR; clear c140; try simp only [Act.put]) | fail); have H4' : Hid (Et w0 w4 b rp va1 X2 { E1 with rep := some P2, silent := E1.silent + 1 } n L) := Lib.hid (H3.out.own M4.out.2 (M4.out.1.blk 0 rfl) rfl rfl); refine (er_miss H4'.out 502 now HSE.out).mono ?_; rintro e w5 ⟨rfl, h4, k4⟩; have H4 := Lib.hid h4; have K4 := Lib.hid (M4.out.2.trans k4); clear h4 k4 H4'; go_wp2_with fail
              go_roundg m
              case rel =>
                rw [HR.out] at HG HON HTO
                obtain ⟨va5, X5, h5, k5, s5⟩ := EtFin.step (va1 := va1) K1.out S1.out H4.out (K3.out.trans' K4.out (fun x hx _ => by
                  have h9 : x = b := (by simpa using hx)
                  simp [h9])) (fun x hx => by
                  rcases HSub.out x hx with h6 | h6
                  · exact .inl h6
                  · exact .inr h6) rfl
                exact ⟨_, va5, X5, c1 + 1, Lib.hid h5, Lib.hid k5, Lib.hid s5, HG, HON, Lib.hid (by have := B1.out; omega), HTO⟩
              case measure => omega
            · have hk0 : ¬ (1 ≤ k2 ∧ k2 ≤ 4) := by omega
              have HR := Lib.hid (one_0 (E := E1) (r := ⟨P2, k2, ⟨st2, F2, len2, ch2, cl2⟩, s2⟩) (now := now) hk0); have HG := Lib.hid (HEND.out hk0); have f1 := (int_ne hk1).1; have f2 := (int_ne hk2).1; have f3 := (int_ne hk3).1; have f4 := (int_ne hk4).1; clear hk0 hk1 hk2 hk3 hk4; go_wp2_with fail; try first | rw [Exit.noGoto_ret] | rw [Exit.noGoto_normal] | (unfold Exit.noGoto; dsimp only)
              first | go_end0 | refine bodyPost_ret (results_none rfl _ _ _) rfl ?_
              rw [HR.out] at HG; refine ⟨rfl, ?_⟩; rw [← HG.out]; exact EtFin.step (va1 := va1) K1.out S1.out H3.out K3.out HSub.out rfl
    · have HG := Lib.hid (etake_stop h2 T1.out); have e2 := (int_ne h2).1; clear h2; go_wp2_with fail; try first | rw [Exit.noGoto_ret] | rw [Exit.noGoto_normal] | (unfold Exit.noGoto; dsimp only)
      first | go_end0 | refine bodyPost_ret (results_none rfl _ _ _) rfl ?_
      refine ⟨rfl, ?_⟩; rw [← HG.out]; exact ⟨va1, X1, H1.out, K1.out, S1.out⟩
end
end Go.Proofs.YtlhnjkekjbbhcaaGreatDoor
namespace Go.Proofs.YtlhnjkekjbbhcaaGreatDoor
open Go.RowKit
def ErS.okR (E : ErS) (n : Nat) : Prop := ∀ P, E.rep = some P → P.ok n
theorem one_okR {E : ErS} {P : ReS} {n : Nat} (h : P.ok n) (now : Int) : (erOne E (nextR P) now).okR n := by
  have hp := nextR_ok h; intro Q hQ; unfold erOne at hQ
  split at hQ
  · unfold erHead at hQ
    split at hQ
    · cases hQ; exact hp
    · split at hQ
      · rw [miss_rep] at hQ; cases hQ; exact hp
      · split at hQ
        · cases hQ; exact nextR_ok hp
        · cases hQ; exact hp
  · split at hQ
    · cases hQ; exact hp
    · split at hQ
      · cases hQ; exact hp
      · split at hQ
        · rw [miss_rep] at hQ; cases hQ; exact hp
        · cases hQ; exact hp
theorem took {n : Nat} (hn : n ≤ 400000) (now : Int) : ∀ (N c : Nat) (E R : ErS), erTake N E now = some R → E.okR n → E.told → E.cnt c → R.okR n ∧ R.told ∧ R.cnt (c + N)
  | 0, c, E, R, h, _, _, _ => by simp [erTake] at h
  | N + 1, c, E, R, h, ho, ht, hc => by
    unfold erTake at h
    split at h
    · cases h; exact ⟨ho, ht, hc.mono (by omega)⟩
    · cases hP : E.rep with
      | none => rw [hP] at h; cases h
      | some P =>
        rw [hP] at h; simp only at h; have h1 := one_okR (E := E) (ho P hP) now; have h2 := one_told E P now; have h3 := one_cnt hc (nextR P) (Nat.le_trans (next_s (ho P hP)) hn) now
        split at h
        · have h4 := took hn now N (c + 1) _ R h h1 h2 h3; exact ⟨h4.1, h4.2.1, h4.2.2.mono (by omega)⟩
        · cases h; exact ⟨h1, h2, h3.mono (by omega)⟩
theorem hear_no {E R : ErS} {s : List UInt8} {cut : Bool} {now : Int} (h : E.state ≠ 2) (hE : erHear E s cut now = some R) : E = R := by
  unfold erHear at hE; rw [if_pos h] at hE; exact Option.some.inj hE
def erHeard (E : ErS) (s : List UInt8) (now : Int) : ErS := { E with last := if s = [] then E.last else now }
theorem hear_yes {E R : ErS} {s : List UInt8} {cut : Bool} {now : Int} (h : E.state = 2) (hE : erHear E s cut now = some R) : ∃ F t G, erHearL (s.length + 1) (erHeard E s now) s now = some (F, t) ∧ erShut F now cut = some G ∧ R = { G with reuse := G.reuse && decide (t = []) } := by
  unfold erHear at hE; rw [if_neg (by simp [h])] at hE; unfold erHeard
  cases hL : erHearL (s.length + 1) { E with last := if s = [] then E.last else now } s now with
  | none => rw [hL] at hE; cases hE
  | some x =>
    obtain ⟨F, t⟩ := x; rw [hL] at hE; simp only at hE
    cases hS : erShut F now cut with
    | none => rw [hS] at hE; cases hE
    | some G =>
      rw [hS] at hE; simp only at hE; exact ⟨F, t, G, rfl, hS, (Option.some.inj hE).symm⟩
theorem hearL_stop {N : Nat} {E F : ErS} {s t : List UInt8} {now : Int} (h : s = [] ∨ E.state ≠ 2) (hE : erHearL N E s now = some (F, t)) : E = F ∧ s = t := by
  cases N with
  | zero => simp [erHearL] at hE
  | succ N =>
    unfold erHearL at hE; rw [if_pos h] at hE; have := Option.some.inj hE; exact ⟨congrArg Prod.fst this, congrArg Prod.snd this⟩
theorem hearL_more {N : Nat} {E F : ErS} {s t : List UInt8} {now : Int} (hs : s ≠ []) (h : E.state = 2) (hE : erHearL N E s now = some (F, t)) : ∃ m P G, N = m + 1 ∧ E.rep = some P ∧ erTake 5 { E with rep := some (reAdd P (s.take 4096)).1 } now = some G ∧ erHearL m G (s.drop 4096) now = some (F, t) := by
  cases N with
  | zero => simp [erHearL] at hE
  | succ N =>
    unfold erHearL at hE; rw [if_neg (by rintro (h1 | h1); exact hs h1; exact h1 h)] at hE
    cases hP : E.rep with
    | none => rw [hP] at hE; cases hE
    | some P =>
      rw [hP] at hE; simp only at hE
      cases hT : erTake 5 { E with rep := some (reAdd P (s.take 4096)).1 } now with
      | none => rw [hT] at hE; cases hE
      | some G =>
        rw [hT] at hE; exact ⟨N, P, G, rfl, rfl, hT, hE⟩
theorem shut_no {F G : ErS} {now : Int} {cut : Bool} (h : ¬ (cut = true ∧ F.state = 2)) (hS : erShut F now cut = some G) : F = G := by
  unfold erShut at hS; rw [if_neg h] at hS; exact Option.some.inj hS
theorem shut_yes {F G : ErS} {now : Int} {cut : Bool} (h : cut = true ∧ F.state = 2) (hS : erShut F now cut = some G) : ∃ P, F.rep = some P ∧ erTake 5 { F with rep := some (reShut P) } now = some G := by
  unfold erShut at hS; rw [if_pos h] at hS
  cases hP : F.rep with
  | none => rw [hP] at hS; cases hS
  | some P => rw [hP] at hS; exact ⟨P, rfl, hS⟩
theorem take_min (s : List UInt8) : s.take (min s.length 4096) = s.take 4096 ∧ s.drop (min s.length 4096) = s.drop 4096 := by
  rcases Nat.le_total s.length 4096 with h | h
  · rw [Nat.min_eq_left h, List.take_length, List.drop_length, List.take_of_length_le h, List.drop_of_length_le h]; exact ⟨rfl, rfl⟩
  · rw [Nat.min_eq_right h]; exact ⟨rfl, rfl⟩
end Go.Proofs.YtlhnjkekjbbhcaaGreatDoor
namespace Go.Proofs.YtlhnjkekjbbhcaaGreatDoor
open Go.RowKit Go.Shelf
set_option maxHeartbeats 1000000 in
set_option maxRecDepth 100000 in
theorem reply_Shut {B p : Nat} {X R : List Nat} {P : ReS} {w : World} (h : Re B w p X R P) :
    Calls Tryz.prog 63 #[.pointer (some ⟨p, 0, Option.none⟩)] w fun e w' => e = .returned (.tuple #[]) ∧ Re B w' p X R (reShut P) ∧ Keep [p] w w' := by
  obtain ⟨c0, c1, c2, c3, c4, c5, c6, c7, c10, c11⟩ := h.at_; have f10 := h.free 10; have H := Lib.hid h; clear h; go_enter Tryz.func63, Tryz.ntmps63; go_wp2_with fail
  first | go_end0 | refine bodyPost_ret (results_none rfl _ _ _) rfl ?_
  exact ⟨rfl, H.out.set 10 (.bool true) (fun _ _ => rfl) rfl rfl, (Keep.refl _ _).setCell _ _ (by simp)⟩
theorem rp_shut {w0 w : World} {p n : Nat} {X L : List Nat} {P : ReS} (h : Rp w0 w p X P n L) :
    Calls Tryz.prog 63 #[.pointer (some ⟨p, 0, Option.none⟩)] w fun e w' => e = .returned (.tuple #[]) ∧ Rp w0 w' p X (reShut P) n L ∧ Keep X w w' := by
  refine (reply_Shut h.re).mono ?_; rintro e w' ⟨rfl, h1, h2⟩; exact ⟨rfl, ⟨h1, ⟨h.ok.wt, h.ok.big, h.ok.size, h.ok.left, h.ok.st, h.ok.head, h.ok.chk⟩, h.kp.above h2 (fun x hx => by have h9 : x = p := (by simpa using hx); rw [h9]; exact h.re.base), fun l hl => ⟨(h.ap l hl).1, Nat.lt_of_lt_of_le (h.ap l hl).2 h2.size⟩⟩, h.re.keepX h2⟩
section
variable {w0 w w' : World} {b n : Nat} {rp va : Value} {X X' L : List Nat} {E E' : ErS}
theorem Et.mono {n' : Nat} (h : Et w0 w b rp va X E n L) (hn : n ≤ n') : Et w0 w b rp va X E n' L := by
  refine ⟨h.blk, ?_, h.hd, h.sm, h.kp, h.lo, h.ne, h.ap⟩; have hr := h.rep
  cases hP : E.rep with
  | none => rw [hP] at hr; exact hr
  | some P =>
    obtain ⟨p, hp, hR⟩ := h.reply hP; exact ⟨p, hp, hR.re, ok_mono hR.ok hn, hR.kp, hR.ap⟩
theorem reAdd_ans {P : ReS} (h : P.ans = none) (s : List UInt8) : (reAdd P s).1.ans = none := by
  unfold reAdd
  split
  · exact h
  · split
    · exact h
    · exact h
theorem Et.okR (h : Et w0 w b rp va X E n L) : E.okR n := fun P hP => by
  obtain ⟨p, hp, hR⟩ := h.reply hP; exact hR.ok
set_option maxRecDepth 100000 in
set_option maxHeartbeats 8000000 in
theorem er_Hear {c : Nat} {R : ErS} (h : Et w0 w b rp va X E n L) (hm : ML w0) (s : List UInt8) (cut : Bool) (now : Int) (hnow : 0 ≤ now ∧ now ≤ 1152921504606846976) (hn : n + 2 * s.length ≤ 400000) (hE : erHear E s cut now = some R) (hc : E.cnt c) (hcN : c + 5 * (s.length + 1) + 5 ≤ 1000000) (ht : E.told) :
    Calls Tryz.prog 23 #[.pointer (some ⟨b, 0, Option.none⟩), .string (S s), .bool cut, .int .i64 now] w fun e w' => e = .returned (.tuple #[]) ∧ EtFin w0 w b rp X R (n + 2 * s.length) L w' := by
  have HS := er_State h; by_cases h2 : E.state = 2
  rotate_left
  · have HR := Lib.hid (hear_no h2 hE); have H := Lib.hid (h.mono (n' := n + 2 * s.length) (by omega)); have e1 := (int_ne h2).2; generalize E.state = st at *; clear h hm hE hc ht h2 hnow; go_enter Tryz.func23, Tryz.ntmps23; go_wp2_with (first | (go_at_call 18; refine HS.mono ?_; rintro e w' ⟨rfl, rfl⟩) | fail)
    first | go_end0 | refine bodyPost_ret (results_none rfl _ _ _) rfl ?_
    rw [← HR.out]; exact ⟨rfl, EtFin.same H.out⟩
  obtain ⟨F, t, G, hL, hS, rfl⟩ := hear_yes h2 hE; rw [h2] at HS; have HL := Lib.hid hL; have HSh := Lib.hid hS; have H := Lib.hid h; have HML := Lib.hid hm; have HC := Lib.hid hc; have HT := Lib.hid ht; have HN := Lib.hid hn; have HCN := Lib.hid hcN; have Hnow := Lib.hid hnow; have M0 : Hid (MemK w [b] w0 w [(b, 106, E.cells rp va)]) := Lib.hid (MemK.of h.mem.1 [b]); have hstate := h2; clear h hm hE hc ht hL hS h2 hnow hn hcN; have HST := Lib.hid hstate; clear hstate; go_enter Tryz.func23, Tryz.ntmps23
  go_upto_region 1 with (first | (go_at_call 18; refine HS.mono ?_; rintro e w' ⟨rfl, rfl⟩) | fail)
  go_upto_if 17 with fail
  go_cut [] (fun wx => Hid (MemK w [b] w0 wx [(b, 106, (erHeard E s now).cells rp va)]))
  case first =>
    by_cases hs0 : s = []
    · have te : (S s).toList.isEmpty = true := by rw [S_toList, hs0]; rfl
      have hE0 : erHeard E s now = E := by unfold erHeard; rw [if_pos hs0]
      have HE0 := Lib.hid hE0; clear hE0 hs0; simp only [te, Bool.not_true]; go_wp2_with fail; go_meet; rw [HE0.out]; exact M0
    · have te : (S s).toList.isEmpty = false := by rw [S_toList]; simpa [List.isEmpty_iff] using hs0
      have hE0 : erHeard E s now = { E with last := now } := by unfold erHeard; rw [if_neg hs0]
      have HE0 := Lib.hid hE0; clear hE0 hs0; simp only [te, Bool.not_false]
      go_wp2_with (first | ((with_reducible refine gT 22 ?_); refine wpList_store1K rfl 3 (.tmp 22) _ rfl M0 0 rfl 2 (by rfl) (.int .i64 now) (by rfl) rfl rfl (by kernel_rfl) (by rw [ErS.len]; omega) (fun _ => by simp) ?_; intro w1 M1; have hR := M1.out; simp only [sqC, s_last] at hR; clear M1; have M1 := Lib.hid hR; clear hR; try simp only [Act.put]) | fail); go_meet; rw [HE0.out]; exact M1
  have M1 := hcut; clear hcut M0; have H1 : Hid (Et w0 wc b rp va X (erHeard E s now) n L) := Lib.hid (H.out.own M1.out.2 (M1.out.1.blk 0 rfl) rfl rfl); have C1 : Hid ((erHeard E s now).cnt c) := Lib.hid HC.out; have T1 : Hid (erHeard E s now).told := Lib.hid HT.out; have K1 : Hid (Keep (b :: X) w wc) := Lib.hid (M1.out.2.mono (by simp)); clear M1 H HC HT
  go_upto_block 0 with fail
  go_cut [1] (fun sv wx => sv = .string (S t) ∧ ∃ va1 X1, Hid (Et w0 wx b rp va1 X1 F (n + 2 * s.length) L) ∧ Hid (Keep (b :: X) w wx) ∧ Hid (∀ x ∈ X1, x ∈ X ∨ w.heap.size ≤ x) ∧ Hid (F.cnt (c + 5 * (s.length + 1))) ∧ Hid F.told)
  case first =>
    go_wp2_with fail
    go_loopg [1] (s.length + 1) (fun g sv wr => ∃ (E1 : ErS) (va1 : Value) (X1 : List Nat) (s1 : List UInt8) (n1 c1 : Nat), sv = .string (S s1) ∧ Hid (Et w0 wr b rp va1 X1 E1 n1 L) ∧ Hid (Keep (b :: X) w wr) ∧ Hid (∀ x ∈ X1, x ∈ X ∨ w.heap.size ≤ x) ∧ Hid (erHearL g E1 s1 now = some (F, t)) ∧ Hid (E1.cnt c1) ∧ Hid (c1 + 5 * g ≤ c + 5 * (s.length + 1)) ∧ Hid E1.told ∧ Hid (n1 + 2 * s1.length ≤ n + 2 * s.length))
    case atStart => exact ⟨_, va, X, s, n, c, rfl, H1, K1, Lib.hid (fun x hx => .inl hx), HL, C1, Lib.hid (Nat.le_refl _), T1, Lib.hid (Nat.le_refl _)⟩
    case round =>
      obtain ⟨E1, va1, X1, s1, n1, c1, rfl, H2, K2, S2, L2, C2, B2, D2, N2⟩ := hrel; clear H1 C1 T1 K1 HL; by_cases hs0 : s1 = []
      · have te : (S s1).toList.isEmpty = true := by rw [S_toList, hs0]; rfl
        have hst := Lib.hid (hearL_stop (.inl hs0) L2.out); clear hs0; go_wp2_with fail; go_meet; obtain ⟨rfl, rfl⟩ := hst.out; exact ⟨rfl, va1, X1, Lib.hid (H2.out.mono (by have := N2.out; omega)), K2, S2, Lib.hid (C2.out.mono (by have := B2.out; omega)), D2⟩
      have te : (S s1).toList.isEmpty = false := by rw [S_toList]; simpa [List.isEmpty_iff] using hs0
      have c100 := H2.out.blk.get (g_state _ _ _); by_cases h2 : E1.state = 2
      rotate_left
      · have e2 := (int_ne h2).1; have hst := Lib.hid (hearL_stop (.inr h2) L2.out); generalize E1.state = st at *; clear hs0 h2; go_wp2_with fail; go_meet; obtain ⟨rfl, rfl⟩ := hst.out; exact ⟨rfl, va1, X1, Lib.hid (H2.out.mono (by have := N2.out; omega)), K2, S2, Lib.hid (C2.out.mono (by have := B2.out; omega)), D2⟩
      obtain ⟨m, P, G1, rfl, hP, hT, hmore⟩ := hearL_more hs0 h2 L2.out; have e2 := (int_eq h2).1; have HP := Lib.hid hP; have HTk := Lib.hid hT; have HMo := Lib.hid hmore; obtain ⟨k, hk⟩ : ∃ k, min s1.length 4096 = k := ⟨_, rfl⟩
      have hmin : min (s1.length : Int) 4096 = (k : Int) := by omega
      have hkl : k ≤ s1.length := by omega
      have hsz : (S s1).size = s1.length := rfl; have hx1 : (S s1).extract 0 k = S (s1.take 4096) := by rw [S_extract, List.drop_zero, ← hk, (take_min s1).1]
      have hx2 : (S s1).extract k s1.length = S (s1.drop 4096) := by rw [S_extract, List.take_length, ← hk, (take_min s1).2]
      have HX1 := Lib.hid hx1; have hpos := Lib.hid (List.length_pos_iff.2 hs0); have HK := Lib.hid hk; have htl : (s1.take 4096).length = k := by rw [← hk, ← (take_min s1).1, List.length_take]; omega
      obtain ⟨p, hrp, hR⟩ := H2.out.reply hP; have hle := N2.out; have hn := HN.out; have hAd := fun w' (kk : Keep [] wr w') => rp_add (s1.take 4096) (hR.keep0 kk) (by omega) (by rw [htl]; omega)
      rw [htl] at hAd; have HAd := Lib.hid hAd; clear hAd; have HRP := Lib.hid hrp; have M2 : Hid (MemK wr [] w0 wr [(b, 106, E1.cells rp va1)]) := Lib.hid (MemK.of H2.out.mem.1 []); have hlen : s1.length ≤ 4611686018427387904 := by omega
      clear hs0 h2 hP hT hmore hk hrp hR htl hle hn
      go_upto_region 5 with fail
      refine wp_region_noPanic ?_; refine wp_region_held_drew (S := fun w' => w'.cell? ⟨b, 0, Option.none⟩ = some rp) (by kernel_rfl) ((Lib.hid (M2.out.keep0 ((Keep.refl _ _).drew))).out.get 0 rfl 0 (g_rep _ _ _)) (fun hHeld => ?_); have M2d := Lib.hid (M2.out.keep0 ((Keep.refl _ _).drew)); refine gU 0 (oi := ⟨some 35, .move (.tmp 0), _, _, _, none⟩) (v := ?_) rfl (Or.inl ⟨by rfl, ?_⟩) (by assumption) ?_; rotate_left
      · (intro w' hSw; go_simp) <;> (with_reducible rfl)
      (try simp only [Act.put, sqA, sqC, sqB]); refine gU 1 (oi := ⟨some 36, .nilCheck (.tmp 35), _, _, _, none⟩) (v := ?_) rfl (Or.inl ⟨by rfl, ?_⟩) (by assumption) ?_; rotate_left
      · (intro w' hSw; go_simp) <;> (with_reducible rfl)
      (try simp only [Act.put, sqA, sqC, sqB]); refine gU 2 (oi := ⟨some 37, .fieldAddr _ (.tmp 36) 0, _, _, _, none⟩) (v := ?_) rfl (Or.inl ⟨by rfl, ?_⟩) (by assumption) ?_; rotate_left
      · (intro w' hSw; go_simp) <;> (with_reducible rfl)
      (try simp only [Act.put, sqA, sqC, sqB]); refine gU 3 (oi := ⟨some 38, .fieldAddr _ (.tmp 37) 0, _, _, _, none⟩) (v := ?_) rfl (Or.inl ⟨by rfl, ?_⟩) (by assumption) ?_; rotate_left
      · (intro w' hSw; go_simp) <;> (with_reducible rfl)
      (try simp only [Act.put, sqA, sqC, sqB]); refine gU 4 (oi := ⟨some 39, .load _ (.tmp 38), _, _, _, none⟩) (v := ?_) rfl (Or.inl ⟨by rfl, ?_⟩) (by assumption) ?_; rotate_left
      · (intro w' hSw; have hy0 := hSw; rw [HRP.out] at hy0; clear hSw; go_simp) <;> (with_reducible rfl)
      (try simp only [Act.put, sqA, sqC, sqB]); refine gU 5 (oi := ⟨some 40, .move (.tmp 1), _, _, _, none⟩) (v := ?_) rfl (Or.inl ⟨by rfl, ?_⟩) (by assumption) ?_; rotate_left
      · (intro w' hSw; go_simp) <;> (with_reducible rfl)
      (try simp only [Act.put, sqA, sqC, sqB]); refine gU 6 (oi := ⟨some 41, .move (.tmp 8), _, _, _, none⟩) (v := ?_) rfl (Or.inl ⟨by rfl, ?_⟩) (by assumption) ?_; rotate_left
      · (intro w' hSw; go_simp) <;> (with_reducible rfl)
      (try simp only [Act.put, sqA, sqC, sqB]); refine gU 7 (oi := ⟨some 42, _, _, _, _, none⟩) (v := ?_) rfl (Or.inl ⟨by rfl, ?_⟩) (by assumption) ?_; rotate_left
      · (intro w' hSw; go_simp) <;> (with_reducible rfl)
      (try simp only [Act.put, sqA, sqC, sqB]); refine gR 8 rfl (fun K hK => ?_); go_simp; refine (HAd.out _ M2d.out.2).mono ?_; rintro e wr1 ⟨rfl, hR1, kA⟩; have H3' := (H2.out.keep0 M2d.out.2).called HP.out HRP.out hR1 (kA.mono (fun x hx _ => by have h9 : x = p := (by simpa using hx); rw [h9]; exact hR1.re.mem)); have H3 := Lib.hid H3'; have KA : Hid (Keep (b :: X1) wr wr1) := Lib.hid ((M2d.out.2.mono (S' := b :: X1) (by simp)).trans' kA (fun x hx _ => by have h9 : x = p := (by simpa using hx); rw [h9]; exact List.mem_cons_of_mem _ hR1.re.mem)); have MR1 : Hid (MemK wr1 [] w0 wr1 [(b, 106, E1.cells rp va1)]) := Lib.hid (MemK.of H3'.mem.1 []); clear hR1 kA H3'; (try go_simp); refine hK.out _ _ (MR1.out.get 0 rfl 0 (g_rep _ _ _)) (fun hHeld => ?_); clear hK K; (try simp only [Act.put, sqA, sqC, sqB]); refine wpAnyH_done (by kernel_rfl) ?_ _; refine NoPanic.normal ?_; clear c100; have HTA := Lib.hid (er_take H3.out HML.out (by have := HN.out; have := N2.out; have := HK.out; omega) now Hnow.out HTk.out C2.out (by have := HCN.out; have := B2.out; omega) (fun Q hQ => by cases hQ; exact reAdd_ans (D2.out P HP.out) _)); go_wp2_with (first | (go_at_call 62; refine HTA.out.mono ?_; rintro e w6 ⟨rfl, h6⟩; have H6 := Lib.hid h6; clear h6) | fail)
      go_roundg m
      case rel =>
        obtain ⟨va6, X6, h6, k6, s6⟩ := H6.out; obtain ⟨r1, r2, r3⟩ := took (by have := HN.out; have := N2.out; have := HK.out; omega) now 5 c1 _ _ HTk.out (H3.out.okR) (fun Q hQ => by cases hQ; exact reAdd_ans (D2.out P HP.out) _) C2.out; obtain ⟨va7, X7, h7, k7, s7⟩ := EtFin.step (va1 := va1) K2.out S2.out h6 (KA.out.trans k6) (fun x hx => (s6 x hx).imp id (fun hh => Nat.le_trans KA.out.size hh)) rfl; exact ⟨G1, va7, X7, s1.drop 4096, _, c1 + 5, rfl, Lib.hid h7, Lib.hid k7, Lib.hid s7, HMo, Lib.hid r3, Lib.hid (by have := B2.out; omega), Lib.hid r2, Lib.hid (by have := HN.out; have := N2.out; have := HK.out; rw [List.length_drop]; omega)⟩
      case measure => omega
  obtain ⟨rfl, va1, X1, H2, K2, S2, C2, D2⟩ := hcut; clear H1 C1 T1 K1 HL; have c100 := H2.out.blk.get (g_state _ _ _); by_cases hsh : cut = true ∧ F.state = 2
  rotate_left
  · have hFG := shut_no hsh HSh.out; subst hFG; have H3 := H2
    cases cut with
    | false =>
      clear hsh c100; have c12 := H3.out.blk.get (g_reuse _ _ _); have M5 := Lib.hid (MemK.of H3.out.mem.1 [b]); obtain ⟨v, hv⟩ : ∃ v, (F.reuse && t.isEmpty) = v := ⟨_, rfl⟩
      have HV : Hid ((F.reuse && decide (t = [])) = v) := Lib.hid (by rw [clean_str]; exact hv)
      cases hgr : F.reuse with
      | false =>
        rw [hgr] at c12 hv; obtain rfl : false = v := by simpa using hv
        clear hv hgr; go_wp2_with (first | ((with_reducible refine gT 79 ?_); refine wpList_store1K rfl 4 (.tmp 79) _ rfl M5 0 rfl 12 (by rfl) (.bool false) (by rfl) rfl rfl (by kernel_rfl) (by rw [ErS.len]; omega) (fun _ => by simp) ?_; intro w8 M8; have hR := M8.out; simp only [sqC, s_reuse] at hR; clear M8; have M8 := Lib.hid hR; clear hR; try simp only [Act.put]) | fail)
        first | go_end0 | refine bodyPost_ret (results_none rfl _ _ _) rfl ?_
        rw [HV.out]; exact ⟨rfl, EtFin.step (va1 := va) K2.out S2.out (H3.out.own M8.out.2 (M8.out.1.blk 0 rfl) rfl rfl) (M8.out.2.mono (by simp)) (fun x hx => .inl hx) rfl⟩
      | true =>
        rw [hgr] at c12 hv
        cases hte : t.isEmpty with
        | true =>
          have te : (S t).toList.isEmpty = true := by rw [S_toList]; exact hte
          obtain rfl : true = v := by simpa [hte] using hv
          clear hv hte hgr; go_wp2_with (first | ((with_reducible refine gT 79 ?_); refine wpList_store1K rfl 4 (.tmp 79) _ rfl M5 0 rfl 12 (by rfl) (.bool true) (by rfl) rfl rfl (by kernel_rfl) (by rw [ErS.len]; omega) (fun _ => by simp) ?_; intro w8 M8; have hR := M8.out; simp only [sqC, s_reuse] at hR; clear M8; have M8 := Lib.hid hR; clear hR; try simp only [Act.put]) | fail)
          first | go_end0 | refine bodyPost_ret (results_none rfl _ _ _) rfl ?_
          rw [HV.out]; exact ⟨rfl, EtFin.step (va1 := va) K2.out S2.out (H3.out.own M8.out.2 (M8.out.1.blk 0 rfl) rfl rfl) (M8.out.2.mono (by simp)) (fun x hx => .inl hx) rfl⟩
        | false =>
          have te : (S t).toList.isEmpty = false := by rw [S_toList]; exact hte
          obtain rfl : false = v := by simpa [hte] using hv
          clear hv hte hgr; go_wp2_with (first | ((with_reducible refine gT 79 ?_); refine wpList_store1K rfl 4 (.tmp 79) _ rfl M5 0 rfl 12 (by rfl) (.bool false) (by rfl) rfl rfl (by kernel_rfl) (by rw [ErS.len]; omega) (fun _ => by simp) ?_; intro w8 M8; have hR := M8.out; simp only [sqC, s_reuse] at hR; clear M8; have M8 := Lib.hid hR; clear hR; try simp only [Act.put]) | fail)
          first | go_end0 | refine bodyPost_ret (results_none rfl _ _ _) rfl ?_
          rw [HV.out]; exact ⟨rfl, EtFin.step (va1 := va) K2.out S2.out (H3.out.own M8.out.2 (M8.out.1.blk 0 rfl) rfl rfl) (M8.out.2.mono (by simp)) (fun x hx => .inl hx) rfl⟩
    | true =>
      have e2 := (int_ne (show F.state ≠ 2 from fun hh => hsh ⟨rfl, hh⟩)).1; generalize F.state = st at *; clear hsh; have c12 := H3.out.blk.get (g_reuse _ _ _); have M5 := Lib.hid (MemK.of H3.out.mem.1 [b]); obtain ⟨v, hv⟩ : ∃ v, (F.reuse && t.isEmpty) = v := ⟨_, rfl⟩
      have HV : Hid ((F.reuse && decide (t = [])) = v) := Lib.hid (by rw [clean_str]; exact hv)
      cases hgr : F.reuse with
      | false =>
        rw [hgr] at c12 hv; obtain rfl : false = v := by simpa using hv
        clear hv hgr; go_wp2_with (first | ((with_reducible refine gT 79 ?_); refine wpList_store1K rfl 4 (.tmp 79) _ rfl M5 0 rfl 12 (by rfl) (.bool false) (by rfl) rfl rfl (by kernel_rfl) (by rw [ErS.len]; omega) (fun _ => by simp) ?_; intro w8 M8; have hR := M8.out; simp only [sqC, s_reuse] at hR; clear M8; have M8 := Lib.hid hR; clear hR; try simp only [Act.put]) | fail)
        first | go_end0 | refine bodyPost_ret (results_none rfl _ _ _) rfl ?_
        rw [HV.out]; exact ⟨rfl, EtFin.step (va1 := va) K2.out S2.out (H3.out.own M8.out.2 (M8.out.1.blk 0 rfl) rfl rfl) (M8.out.2.mono (by simp)) (fun x hx => .inl hx) rfl⟩
      | true =>
        rw [hgr] at c12 hv
        cases hte : t.isEmpty with
        | true =>
          have te : (S t).toList.isEmpty = true := by rw [S_toList]; exact hte
          obtain rfl : true = v := by simpa [hte] using hv
          clear hv hte hgr; go_wp2_with (first | ((with_reducible refine gT 79 ?_); refine wpList_store1K rfl 4 (.tmp 79) _ rfl M5 0 rfl 12 (by rfl) (.bool true) (by rfl) rfl rfl (by kernel_rfl) (by rw [ErS.len]; omega) (fun _ => by simp) ?_; intro w8 M8; have hR := M8.out; simp only [sqC, s_reuse] at hR; clear M8; have M8 := Lib.hid hR; clear hR; try simp only [Act.put]) | fail)
          first | go_end0 | refine bodyPost_ret (results_none rfl _ _ _) rfl ?_
          rw [HV.out]; exact ⟨rfl, EtFin.step (va1 := va) K2.out S2.out (H3.out.own M8.out.2 (M8.out.1.blk 0 rfl) rfl rfl) (M8.out.2.mono (by simp)) (fun x hx => .inl hx) rfl⟩
        | false =>
          have te : (S t).toList.isEmpty = false := by rw [S_toList]; exact hte
          obtain rfl : false = v := by simpa [hte] using hv
          clear hv hte hgr; go_wp2_with (first | ((with_reducible refine gT 79 ?_); refine wpList_store1K rfl 4 (.tmp 79) _ rfl M5 0 rfl 12 (by rfl) (.bool false) (by rfl) rfl rfl (by kernel_rfl) (by rw [ErS.len]; omega) (fun _ => by simp) ?_; intro w8 M8; have hR := M8.out; simp only [sqC, s_reuse] at hR; clear M8; have M8 := Lib.hid hR; clear hR; try simp only [Act.put]) | fail)
          first | go_end0 | refine bodyPost_ret (results_none rfl _ _ _) rfl ?_
          rw [HV.out]; exact ⟨rfl, EtFin.step (va1 := va) K2.out S2.out (H3.out.own M8.out.2 (M8.out.1.blk 0 rfl) rfl rfl) (M8.out.2.mono (by simp)) (fun x hx => .inl hx) rfl⟩
  obtain ⟨P, hP, hT⟩ := shut_yes hsh HSh.out; obtain ⟨rfl, h2⟩ := hsh; have e2 := (int_eq h2).1; obtain ⟨p, hrp, hR⟩ := H2.out.reply hP; have HSS := Lib.hid (rp_shut hR); have c0 := H2.out.blk.get (g_rep _ _ _); rw [hrp] at c0; have HP := Lib.hid hP; have HRP := Lib.hid hrp; have HTk := Lib.hid hT; clear hP hrp hR hT h2; go_wp2_with fail; refine HSS.out.mono ?_; rintro e w5 ⟨rfl, hR5, k5⟩; have H4 := Lib.hid (H2.out.called HP.out HRP.out hR5 k5); have K4 : Hid (Keep (b :: X1) wc w5) := Lib.hid (k5.mono (fun x hx _ => List.mem_cons_of_mem _ hx)); have HTA := Lib.hid (er_take H4.out HML.out HN.out now Hnow.out HTk.out C2.out (by have := HCN.out; omega) (fun Q hQ => by cases hQ; exact D2.out P HP.out)); clear hR5 k5 c0 c100 HSS
  go_upto_region 11 with (first | (go_at_call 62; refine HTA.out.mono ?_; rintro e w6 ⟨rfl, h6⟩; have H6 := Lib.hid h6; clear h6) | fail)
  obtain ⟨va6, X6, h6, k6, s6⟩ := H6.out; obtain ⟨va7, X7, h7, k7, s7⟩ := EtFin.step (va1 := va1) K2.out S2.out h6 (K4.out.trans k6) (fun x hx => (s6 x hx).imp id (fun hh => Nat.le_trans K4.out.size hh)) rfl; have H7 := Lib.hid h7; have K7 := Lib.hid k7; have S7 := Lib.hid s7; clear h6 k6 s6 h7 k7 s7 H6; have c12 := H7.out.blk.get (g_reuse _ _ _); have M5 := Lib.hid (MemK.of H7.out.mem.1 [b]); obtain ⟨v, hv⟩ : ∃ v, (G.reuse && t.isEmpty) = v := ⟨_, rfl⟩
  have HV : Hid ((G.reuse && decide (t = [])) = v) := Lib.hid (by rw [clean_str]; exact hv)
  cases hgr : G.reuse with
  | false =>
    rw [hgr] at c12 hv; obtain rfl : false = v := by simpa using hv
    clear hv hgr; go_wp2_with (first | ((with_reducible refine gT 79 ?_); refine wpList_store1K rfl 4 (.tmp 79) _ rfl M5 0 rfl 12 (by rfl) (.bool false) (by rfl) rfl rfl (by kernel_rfl) (by rw [ErS.len]; omega) (fun _ => by simp) ?_; intro w8 M8; have hR := M8.out; simp only [sqC, s_reuse] at hR; clear M8; have M8 := Lib.hid hR; clear hR; try simp only [Act.put]) | fail)
    first | go_end0 | refine bodyPost_ret (results_none rfl _ _ _) rfl ?_
    rw [HV.out]; exact ⟨rfl, EtFin.step (va1 := va) K7.out S7.out (H7.out.own M8.out.2 (M8.out.1.blk 0 rfl) rfl rfl) (M8.out.2.mono (by simp)) (fun x hx => .inl hx) rfl⟩
  | true =>
    rw [hgr] at c12 hv
    cases hte : t.isEmpty with
    | true =>
      have te : (S t).toList.isEmpty = true := by rw [S_toList]; exact hte
      obtain rfl : true = v := by simpa [hte] using hv
      clear hv hte hgr; go_wp2_with (first | ((with_reducible refine gT 79 ?_); refine wpList_store1K rfl 4 (.tmp 79) _ rfl M5 0 rfl 12 (by rfl) (.bool true) (by rfl) rfl rfl (by kernel_rfl) (by rw [ErS.len]; omega) (fun _ => by simp) ?_; intro w8 M8; have hR := M8.out; simp only [sqC, s_reuse] at hR; clear M8; have M8 := Lib.hid hR; clear hR; try simp only [Act.put]) | fail)
      first | go_end0 | refine bodyPost_ret (results_none rfl _ _ _) rfl ?_
      rw [HV.out]; exact ⟨rfl, EtFin.step (va1 := va) K7.out S7.out (H7.out.own M8.out.2 (M8.out.1.blk 0 rfl) rfl rfl) (M8.out.2.mono (by simp)) (fun x hx => .inl hx) rfl⟩
    | false =>
      have te : (S t).toList.isEmpty = false := by rw [S_toList]; exact hte
      obtain rfl : false = v := by simpa [hte] using hv
      clear hv hte hgr; go_wp2_with (first | ((with_reducible refine gT 79 ?_); refine wpList_store1K rfl 4 (.tmp 79) _ rfl M5 0 rfl 12 (by rfl) (.bool false) (by rfl) rfl rfl (by kernel_rfl) (by rw [ErS.len]; omega) (fun _ => by simp) ?_; intro w8 M8; have hR := M8.out; simp only [sqC, s_reuse] at hR; clear M8; have M8 := Lib.hid hR; clear hR; try simp only [Act.put]) | fail)
      first | go_end0 | refine bodyPost_ret (results_none rfl _ _ _) rfl ?_
      rw [HV.out]; exact ⟨rfl, EtFin.step (va1 := va) K7.out S7.out (H7.out.own M8.out.2 (M8.out.1.blk 0 rfl) rfl rfl) (M8.out.2.mono (by simp)) (fun x hx => .inl hx) rfl⟩
end
end Go.Proofs.YtlhnjkekjbbhcaaGreatDoor
