/- Parts of the proof of ErrandAsks, in order. No conditions but those that each theorem states. -/
import Derived.Test.YtlhnjkekjbbhcaaGreatDoorYErrandAsks0
import Derived.Lib.SlBytesConst
import Derived.Lib.LaidTab
import Derived.Lib.ItoaNum
import Derived.Lib.ItoaLen
import Derived.Sort.Grow
import Derived.DeepKeys4
import Derived.Test.YtlhnjkekjbbhcaaGreatDoorYErrandAsks24
set_option linter.unusedSimpArgs false
set_option linter.unusedVariables false
namespace Go.Proofs.YtlhnjkekjbbhcaaGreatDoor
open Go.RowKit
theorem ereFrame_F (P : ReS) (a : Ans) : (reFrame P a).a.F = a.F := by
  unfold reFrame
  split
  · rfl
  · split
    · rfl
    · split
      · rfl
      · split <;> rfl
theorem readHead_ans {P : ReS} {n : Nat} (hi : P.inp.length ≤ n) (ha : P.ans = none) : ∀ a, (readHeadR P).1.ans = some a → Small n a.F := by
  have hs := (split_small P.inp).1; have hs' : Small n (splitM P.inp).F := ⟨hs.1, fun x hx => ⟨Nat.le_trans (hs.2 x hx).1 hi, Nat.le_trans (hs.2 x hx).2 hi⟩⟩
  intro a; unfold readHeadR
  split
  · intro h; rw [ha] at h; cases h
  · split
    · intro h; simp only [reFail] at h; rw [ha] at h; cases h
    · split
      · split
        · intro h; simp only [reFail, headP] at h; rw [ha] at h; cases h
        · intro h; simp only [headP] at h; rw [ha] at h; cases h
      · split
        · intro h; simp only [Option.some.injEq] at h; subst h; rw [ereFrame_F]; exact hs'
        · intro h; simp only [reFail, headP] at h; rw [ha] at h; cases h
theorem eread_ans {P : ReS} {n : Nat} (h : P.ok n) (ha : P.ans = none) : ∀ a, (readR P).1.ans = some a → Small n a.F := by
  have hw := h.wt; unfold ReS.wt at hw; unfold readR
  split
  · exact readHead_ans (by omega) ha
  · split
    · unfold readChunksR
      split
      · intro a hh; rw [ha] at hh; cases hh
      · split
        · intro a hh; rw [ha] at hh; cases hh
        · split
          · intro a hh; simp only [reFail] at hh; rw [ha] at hh; cases hh
          · split
            · intro a hh; simp only at hh; rw [ha] at hh; cases hh
            · intro a hh; simp only at hh; rw [ha] at hh; cases hh
    · split
      · unfold readLengthR
        split
        · intro a hh; simp only at hh; rw [ha] at hh; cases hh
        · intro a hh; simp only at hh; rw [ha] at hh; cases hh
      · split
        · unfold readCloseR
          split
          · intro a hh; simp only [reFail, closeP] at hh; rw [ha] at hh; cases hh
          · split
            · intro a hh; simp only [closeP] at hh; rw [ha] at hh; cases hh
            · intro a hh; simp only [closeP] at hh; rw [ha] at hh; cases hh
        · intro a hh; rw [ha] at hh; cases hh
theorem loop_ans {n : Nat} : ∀ (i : Nat) (P : ReS), P.ok n → P.ans = none → ∀ a, (reLoop i P).ans = some a → Small n a.F
  | 0, P, _, ha, a, h => by unfold reLoop at h; rw [ha] at h; cases h
  | i + 1, P, hP, ha, a, h => by
    unfold reLoop at h; rw [if_neg (by simp [ha])] at h
    split at h
    · cases hx : (readR P).1.ans with
      | none => exact loop_ans i _ (read_ok hP).1 hx a h
      | some y =>
        have hl : reLoop i (readR P).1 = (readR P).1 := by
          cases i with
          | zero => rfl
          | succ i => unfold reLoop; rw [if_pos (by simp [hx])]
        rw [hl] at h; exact eread_ans hP ha a h
    · exact eread_ans hP ha a h
theorem next_small {P : ReS} {n : Nat} (h : P.ok n) (ha : P.ans = none) : Small n (nextR P).a.F := by
  have hl := loop_ans (P.inp.length + 2) P h ha; rw [nextR_eq]; unfold reEnd
  split
  · rename_i a hh; exact hl a hh
  · split
    · exact ⟨Nat.zero_le _, fun x hx => by cases hx⟩
    · exact ⟨Nat.zero_le _, fun x hx => by cases hx⟩
theorem next_ans (P : ReS) : (nextR P).p.ans = none := by
  rw [nextR_eq]
  split
  · rfl
  · rename_i hh
    split
    · exact hh
    · unfold reFinish
      split
      · exact hh
      · split
        · exact hh
        · exact hh
theorem next_s {Q : ReS} {n : Nat} (h : Q.ok n) : (nextR Q).s.length ≤ n := by
  have hE := (reEnd_ok h).wt; have h2 : (reEnd Q).dat.length ≤ n := by unfold ReS.wt at hE; omega
  rw [nextR_eq]
  split
  · simp
  · split
    · exact h2
    · simp
def ErS.told (E : ErS) : Prop := ∀ P, E.rep = some P → P.ans = none
def cntOf (m s h : Int) (d : Nat) (z : Int) (b c : Nat) : Prop := (0 ≤ m ∧ m ≤ c) ∧ (0 ≤ s ∧ s ≤ c) ∧ (0 ≤ h ∧ h ≤ c) ∧ d ≤ c * 400000 ∧ (0 ≤ z ∧ z ≤ c * 400000) ∧ b < 18446744073709551616
theorem cntOf.up {m s h m' s' h' : Int} {d d' : Nat} {z z' : Int} {b c : Nat} (H : cntOf m s h d z b c) (hm : m ≤ m' ∧ m' ≤ m + 1) (hs : s ≤ s' ∧ s' ≤ s + 1) (hh : h ≤ h' ∧ h' ≤ h + 1) (hd : d' ≤ d + 400000) (hz : z ≤ z' ∧ z' ≤ z + 400000) : cntOf m' s' h' d' z' b (c + 1) := by
  obtain ⟨h1, h2, h3, h4, h5, h6⟩ := H; refine ⟨⟨?_, ?_⟩, ⟨?_, ?_⟩, ⟨?_, ?_⟩, ?_, ⟨?_, ?_⟩, h6⟩ <;> omega
def ErS.cnt (E : ErS) (c : Nat) : Prop := cntOf E.misses E.silent E.heard E.data.length E.size E.cfg.bo c
theorem cntOf.mono1 {m s h : Int} {d : Nat} {z : Int} {b c : Nat} (H : cntOf m s h d z b c) : cntOf m s h d z b (c + 1) :=
  H.up ⟨Int.le_refl _, by omega⟩ ⟨Int.le_refl _, by omega⟩ ⟨Int.le_refl _, by omega⟩ (by omega) ⟨Int.le_refl _, by omega⟩
theorem cntOf.mono {m s h : Int} {d : Nat} {z : Int} {b c : Nat} (H : cntOf m s h d z b c) : ∀ k : Nat, cntOf m s h d z b (c + k)
  | 0 => H
  | k + 1 => (H.mono k).mono1
theorem ErS.cnt.mono {E : ErS} {c d : Nat} (h : E.cnt c) (hd : c ≤ d) : E.cnt d := by
  obtain ⟨k, rfl⟩ := Nat.exists_eq_add_of_le hd; exact cntOf.mono h k
theorem miss_cnt {E : ErS} {m s h : Int} {d : Nat} {z : Int} {c : Nat} (H : cntOf m s h d z E.cfg.bo c) (hm : E.misses = m) (hs : s ≤ E.silent ∧ E.silent ≤ s + 1) (hh : h ≤ E.heard ∧ E.heard ≤ h + 1) (hd : E.data.length = d) (hz : E.size = z) (st now : Int) : (erMiss E st now).cnt (c + 1) := by
  have key : cntOf (E.misses + 1) E.silent E.heard E.data.length E.size E.cfg.bo (c + 1) := by
    rw [hm, hd, hz]; exact H.up ⟨by omega, Int.le_refl _⟩ hs hh (by omega) ⟨Int.le_refl _, by omega⟩
  unfold erMiss
  split <;> exact key
theorem miss_rep (E : ErS) (s now : Int) : (erMiss E s now).rep = E.rep := by unfold erMiss; split <;> rfl
theorem one_cnt {E : ErS} {c : Nat} (h : E.cnt c) (r : NrR) (hr : r.s.length ≤ 400000) (now : Int) : (erOne E r now).cnt (c + 1) := by
  have H : cntOf E.misses E.silent E.heard E.data.length E.size E.cfg.bo c := h; have same : ∀ x : Int, x ≤ x ∧ x ≤ x + 1 := fun x => ⟨Int.le_refl _, by omega⟩
  have more : ∀ x : Int, x ≤ x + 1 ∧ x + 1 ≤ x + 1 := fun x => ⟨by omega, Int.le_refl _⟩
  have samez : ∀ x : Int, x ≤ x ∧ x ≤ x + 400000 := fun x => ⟨Int.le_refl _, by omega⟩
  have k0 : cntOf E.misses E.silent E.heard E.data.length E.size E.cfg.bo (c + 1) := H.up (same _) (same _) (same _) (by omega) (samez _); have k1 : cntOf E.misses E.silent (E.heard + 1) E.data.length E.size E.cfg.bo (c + 1) := H.up (same _) (same _) (more _) (by omega) (samez _); unfold erOne
  split
  · unfold erHead
    split
    · exact k0
    · split
      · exact miss_cnt (E := { E with rep := some r.p, head := r.a, heard := E.heard + 1 }) H rfl (same _) (more _) rfl rfl _ _
      · split
        · exact k1
        · exact k1
  · split
    · have k2 : cntOf E.misses E.silent E.heard (E.data ++ r.s).length (E.size + (r.s.length : Nat)) E.cfg.bo (c + 1) := H.up (same _) (same _) (same _) (by rw [List.length_append]; omega) ⟨by omega, by omega⟩; exact k2
    · split
      · exact k1
      · split
        · exact miss_cnt (E := { E with rep := some r.p, silent := E.silent + 1 }) H rfl (more _) (same _) rfl rfl _ _
        · exact k0
theorem one_told (E : ErS) (P : ReS) (now : Int) : (erOne E (nextR P) now).told := by
  have hp := next_ans P; intro Q hQ; unfold erOne at hQ
  split at hQ
  · unfold erHead at hQ
    split at hQ
    · cases hQ; exact hp
    · split at hQ
      · rw [miss_rep] at hQ; cases hQ; exact hp
      · split at hQ
        · cases hQ; exact next_ans _
        · cases hQ; exact hp
  · split at hQ
    · cases hQ; exact hp
    · split at hQ
      · cases hQ; exact hp
      · split at hQ
        · rw [miss_rep] at hQ; cases hQ; exact hp
        · cases hQ; exact hp
def ErS.okR (E : ErS) (n : Nat) : Prop := ∀ P, E.rep = some P → P.ok n
theorem one_okR {E : ErS} {P : ReS} {n : Nat} (h : P.ok n) (now : Int) : (erOne E (nextR P) now).okR n := by
  have hp := nextR_ok h; intro Q hQ; unfold erOne at hQ
  split at hQ
  · unfold erHead at hQ
    split at hQ
    · cases hQ; exact hp
    · split at hQ
      · rw [miss_rep] at hQ; cases hQ; exact hp
      · split at hQ
        · cases hQ; exact nextR_ok hp
        · cases hQ; exact hp
  · split at hQ
    · cases hQ; exact hp
    · split at hQ
      · cases hQ; exact hp
      · split at hQ
        · rw [miss_rep] at hQ; cases hQ; exact hp
        · cases hQ; exact hp
theorem took {n : Nat} (hn : n ≤ 400000) (now : Int) : ∀ (N c : Nat) (E R : ErS), erTake N E now = some R → E.okR n → E.told → E.cnt c → R.okR n ∧ R.told ∧ R.cnt (c + N)
  | 0, c, E, R, h, _, _, _ => by simp [erTake] at h
  | N + 1, c, E, R, h, ho, ht, hc => by
    unfold erTake at h
    split at h
    · cases h; exact ⟨ho, ht, hc.mono (by omega)⟩
    · cases hP : E.rep with
      | none => rw [hP] at h; cases h
      | some P =>
        rw [hP] at h; simp only at h; have h1 := one_okR (E := E) (ho P hP) now; have h2 := one_told E P now; have h3 := one_cnt hc (nextR P) (Nat.le_trans (next_s (ho P hP)) hn) now
        split at h
        · have h4 := took hn now N (c + 1) _ R h h1 h2 h3; exact ⟨h4.1, h4.2.1, h4.2.2.mono (by omega)⟩
        · cases h; exact ⟨h1, h2, h3.mono (by omega)⟩
theorem hear_no {E R : ErS} {s : List UInt8} {cut : Bool} {now : Int} (h : E.state ≠ 2) (hE : erHear E s cut now = some R) : E = R := by
  unfold erHear at hE; rw [if_pos h] at hE; exact Option.some.inj hE
def erHeard (E : ErS) (s : List UInt8) (now : Int) : ErS := { E with last := if s = [] then E.last else now }
theorem hear_yes {E R : ErS} {s : List UInt8} {cut : Bool} {now : Int} (h : E.state = 2) (hE : erHear E s cut now = some R) : ∃ F t G, erHearL (s.length + 1) (erHeard E s now) s now = some (F, t) ∧ erShut F now cut = some G ∧ R = { G with reuse := G.reuse && decide (t = []) } := by
  unfold erHear at hE; rw [if_neg (by simp [h])] at hE; unfold erHeard
  cases hL : erHearL (s.length + 1) { E with last := if s = [] then E.last else now } s now with
  | none => rw [hL] at hE; cases hE
  | some x =>
    obtain ⟨F, t⟩ := x; rw [hL] at hE; simp only at hE
    cases hS : erShut F now cut with
    | none => rw [hS] at hE; cases hE
    | some G =>
      rw [hS] at hE; simp only at hE; exact ⟨F, t, G, rfl, hS, (Option.some.inj hE).symm⟩
theorem hearL_stop {N : Nat} {E F : ErS} {s t : List UInt8} {now : Int} (h : s = [] ∨ E.state ≠ 2) (hE : erHearL N E s now = some (F, t)) : E = F ∧ s = t := by
  cases N with
  | zero => simp [erHearL] at hE
  | succ N =>
    unfold erHearL at hE; rw [if_pos h] at hE; have := Option.some.inj hE; exact ⟨congrArg Prod.fst this, congrArg Prod.snd this⟩
theorem hearL_more {N : Nat} {E F : ErS} {s t : List UInt8} {now : Int} (hs : s ≠ []) (h : E.state = 2) (hE : erHearL N E s now = some (F, t)) : ∃ m P G, N = m + 1 ∧ E.rep = some P ∧ erTake 5 { E with rep := some (reAdd P (s.take 4096)).1 } now = some G ∧ erHearL m G (s.drop 4096) now = some (F, t) := by
  cases N with
  | zero => simp [erHearL] at hE
  | succ N =>
    unfold erHearL at hE; rw [if_neg (by rintro (h1 | h1); exact hs h1; exact h1 h)] at hE
    cases hP : E.rep with
    | none => rw [hP] at hE; cases hE
    | some P =>
      rw [hP] at hE; simp only at hE
      cases hT : erTake 5 { E with rep := some (reAdd P (s.take 4096)).1 } now with
      | none => rw [hT] at hE; cases hE
      | some G =>
        rw [hT] at hE; exact ⟨N, P, G, rfl, rfl, hT, hE⟩
theorem shut_no {F G : ErS} {now : Int} {cut : Bool} (h : ¬ (cut = true ∧ F.state = 2)) (hS : erShut F now cut = some G) : F = G := by
  unfold erShut at hS; rw [if_neg h] at hS; exact Option.some.inj hS
theorem shut_yes {F G : ErS} {now : Int} {cut : Bool} (h : cut = true ∧ F.state = 2) (hS : erShut F now cut = some G) : ∃ P, F.rep = some P ∧ erTake 5 { F with rep := some (reShut P) } now = some G := by
  unfold erShut at hS; rw [if_pos h] at hS
  cases hP : F.rep with
  | none => rw [hP] at hS; cases hS
  | some P => rw [hP] at hS; exact ⟨P, rfl, hS⟩
theorem take_min (s : List UInt8) : s.take (min s.length 4096) = s.take 4096 ∧ s.drop (min s.length 4096) = s.drop 4096 := by
  rcases Nat.le_total s.length 4096 with h | h
  · rw [Nat.min_eq_left h, List.take_length, List.drop_length, List.take_of_length_le h, List.drop_of_length_le h]; exact ⟨rfl, rfl⟩
  · rw [Nat.min_eq_right h]; exact ⟨rfl, rfl⟩
end Go.Proofs.YtlhnjkekjbbhcaaGreatDoor
namespace Go.Proofs.YtlhnjkekjbbhcaaGreatDoor
open Go.RowKit Go.Shelf
def q1 : List UInt8 := [98, 121, 116, 101, 115, 61, 50, 45, 52]
def q2 : List UInt8 := [98, 121, 116, 101, 115, 61, 45, 51]
def q3 : List UInt8 := [98, 121, 116, 101, 115, 61, 49, 48, 45]
def q4 : List UInt8 := [98, 121, 116, 101, 115, 61, 49, 45, 50, 44, 52, 45, 53]
end Go.Proofs.YtlhnjkekjbbhcaaGreatDoor
namespace Go.Proofs.YtlhnjkekjbbhcaaGreatDoor
open Go.RowKit
theorem inS_ext {a b : InS} (h1 : a.inp = b.inp) (h2 : a.held = b.held) (h3 : a.req = b.req) (h4 : a.skip = b.skip) (h5 : a.chk = b.chk) (h6 : a.st = b.st) : a = b := by
  cases a; cases b; simp only at h1 h2 h3 h4 h5 h6; subst h1 h2 h3 h4 h5 h6; rfl
theorem nxR_ext {a b : NxR} (h1 : a.p = b.p) (h2 : a.q = b.q) (h3 : a.s = b.s) : a = b := by
  cases a; cases b; simp only at h1 h2 h3; subst h1 h2 h3; rfl
theorem next_none {p : InS} (h0 : p.st = 0) (hq : p.req = none) : nextI p = if (headM p.inp).s ≠ 0 then ⟨{ p with st := (headM p.inp).s }, req0, (headM p.inp).s⟩ else if (headM p.inp).got then tailI (headed p (headM p.inp)) (headM p.inp).q else ⟨p, req0, 0⟩ := by
  unfold nextI; rw [if_neg (by simp [h0]), hq]
end Go.Proofs.YtlhnjkekjbbhcaaGreatDoor
namespace Go.Proofs.YtlhnjkekjbbhcaaGreatDoor
open Go.RowKit Go.Shelf
set_option maxRecDepth 100000 in
set_option maxHeartbeats 400000 in
theorem taste_low (l : List UInt8) (w : World) (hs : l.length ≤ maxLen) :
    Calls Tryz.prog 208 #[.string (S l)] w fun e w' => e = .returned (.string (S (lowW l))) ∧ Keep [] w w' := by
  have hs' : l.length ≤ 9223372036854775807 := hs; have hcv := conv_run w (S l); have hby := Bytes.conv w 5 l; have hkp := conv_keep w 5 (S l); have hsz := S_size l; generalize Lib.bytesWorld w 5 (S l) = wb at hcv hby hkp; generalize hX : w.heap.size = X at hcv hby; have HX := Lib.hid hX; clear hs hX; go_enter Tryz.func208, Tryz.ntmps208; go_wp2_with fail
  go_loopg [10] l.length (fun g i wr => ∃ k : Nat, i = .int .i64 k ∧ k ≤ l.length ∧ g = l.length - k ∧ Bytes wr X (lowTo l k) ∧ Keep [] w wr)
  case atStart => exact ⟨0, rfl, Nat.zero_le _, by omega, by simpa [lowTo] using hby, hkp⟩
  case round =>
    obtain ⟨k, rfl, hk, hgk, hbr, hkr⟩ := hrel; by_cases hlt : k < l.length
    · obtain ⟨c, hg⟩ : ∃ c, l[k]? = some c := ⟨_, List.getElem?_eq_getElem hlt⟩
      have hc := hbr.1 k c (lowTo_at hg); have hf := hbr.2 k (by rw [lowTo_length]; exact hlt); have hc8 := u8_nat c; have HG := Lib.hid hg; have HB := Lib.hid hbr; clear hg hbr hby hkp; by_cases ht : 65 ≤ c.toNat ∧ c.toNat ≤ 90
      · obtain ⟨h1, h2⟩ := ht
        have hl : (lowB c).toNat = c.toNat + 32 := by
          unfold lowB; rw [if_pos ⟨h1, h2⟩, UInt8.toNat_add]; have : (32 : UInt8).toNat = 32 := rfl; omega
        have HL := Lib.hid hl; clear hl; go_wp2_with fail
        go_roundg (l.length - (k + 1))
        case measure => omega
        case rel =>
          refine ⟨k + 1, by go_num, by omega, rfl, ?_, hkr.setCell _ _ (by have := HX.out; simp; omega)⟩; rw [lowTo_succ HG.out]; exact HB.out.set k (by rw [lowTo_length]; exact hlt) _ _ (by rw [HL.out]; omega)
      · have hl : lowB c = c := by unfold lowB; rw [if_neg ht]
        have HL := Lib.hid hl; have HT := Lib.hid ht
        have hend : Bytes wr X (lowTo l (k + 1)) := by
          rw [lowTo_succ HG.out, hl, list_set_self _ _ _ (lowTo_at HG.out)]; exact HB.out
        clear hl; by_cases h1 : 65 ≤ c.toNat
        · have h2 : 90 < c.toNat := by omega
          clear ht; go_wp2_with fail
          go_roundg (l.length - (k + 1))
          case measure => omega
          case rel => exact ⟨k + 1, by go_num, by omega, rfl, hend, hkr⟩
        · clear ht; go_wp2_with fail
          go_roundg (l.length - (k + 1))
          case measure => omega
          case rel => exact ⟨k + 1, by go_num, by omega, rfl, hend, hkr⟩
    · have hke : k = l.length := by omega
      rw [hke, lowTo_end] at hbr; have hback := hbr.back (P := Tryz.prog) 143 9 5 l.length (grownCap w l.length 0 5) (by simp [lowW]) Tryz.underlying143 Tryz.underlying5 Tryz.underlying9; have HKE := Lib.hid hke; clear hke hbr hby; go_wp2_with fail; go_ret; exact ⟨rfl, hkr⟩
def splO (l : List UInt8) : Ending := if isTypeM l then .returned (.tuple #[.string (S (lowW (typA l))), .string (S (lowW (typB l))), .bool true]) else .returned (.tuple #[.string (S []), .string (S []), .bool false])
theorem splO_no {l : List UInt8} (h : isTypeM l = false) : splO l = .returned (.tuple #[.string (S []), .string (S []), .bool false]) := by unfold splO; rw [h]; rfl
theorem splO_yes {l : List UInt8} (h : isTypeM l = true) : splO l = .returned (.tuple #[.string (S (lowW (typA l))), .string (S (lowW (typB l))), .bool true]) := by unfold splO; rw [h]; rfl
set_option maxRecDepth 100000 in
set_option maxHeartbeats 1000000 in
theorem taste_split (l : List UInt8) (w : World) (hm : ML w) (hl : l.length ≤ 1048576) :
    Calls Tryz.prog 172 #[.string (S l)] w fun e w' => e = splO l ∧ Keep [] w w' := by
  have HL := Lib.hid (taste_low l w (show l.length ≤ 9223372036854775807 by omega)); have HC := Lib.hid (fun w1 (k : Keep [] w w1) => strings_Cut (lowW l) ⟨#[47]⟩ w1 (hm.keep k (by simp)) (by rw [low_len]; omega)); have hsz := S_size l; have hT := isType_cut l; have hcv := low_cut l; have lA : (typA l).length ≤ l.length := by unfold typA; rw [List.length_take]; omega
  have lB : (typB l).length ≤ l.length := by unfold typB; rw [List.length_drop]; omega
  have hTA := fun w' => field_IsToken (lowW (typA l)) w' (show (lowW (typA l)).length ≤ 9223372036854775807 by rw [low_len]; omega)
  have hTB := fun w' => field_IsToken (lowW (typB l)) w' (show (lowW (typB l)).length ≤ 9223372036854775807 by rw [low_len]; omega)
  rw [hcv] at hT; by_cases hp : 0 ≤ Lib.indexByte l 47
  · rw [if_pos hp] at hT hcv; have HC2 := Lib.hid (fun w1 (k : Keep [] w w1) => show Calls Tryz.prog 130 #[.string (S (lowW l)), .string ⟨#[47]⟩] w1 fun e w' => e = .returned (.tuple #[.string (S (lowW (typA l))), .string (S (lowW (typB l))), .bool true]) ∧ Keep [] w1 w' by have := HC.out w1 k; simp only [hcv] at this; exact this); simp only [Bool.true_and] at hT; clear hcv hp HC lA lB; have hYES : isTypeM l = true → splO l = .returned (.tuple #[.string (S (lowW (typA l))), .string (S (lowW (typB l))), .bool true]) := splO_yes; generalize lowW (typA l) = a at *; generalize lowW (typB l) = b at *; have HY := Lib.hid hYES; clear hYES
    cases ha : isTok a with
    | false =>
      rw [ha] at hT hTA; have HR := Lib.hid (splO_no (show isTypeM l = false by rw [hT]; rfl)); have HTA := Lib.hid hTA; clear hT hTA hTB ha; go_enter Tryz.func172, Tryz.ntmps172; go_wp2_with fail; refine HL.out.mono ?_; rintro e w1 ⟨rfl, k1⟩; have K1 := Lib.hid k1; clear k1; go_wp2_with fail; refine (HC2.out _ K1.out).mono ?_; rintro e w2 ⟨rfl, k2⟩; have K2 := Lib.hid (K1.out.trans k2); clear k2; go_wp2_with fail; refine (HTA.out _).mono ?_; rintro e w3 ⟨rfl, k3⟩; have K3 := Lib.hid (K2.out.trans k3); clear k3; go_wp2_with fail; rw [HR.out]; refine bodyPost_ret (v := .tuple #[.string (S []), .string (S []), .bool false]) (by simp [results, Tryz.results172, go_sem, S]) rfl ⟨rfl, K3.out⟩
    | true =>
      rw [ha] at hT hTA; have HTA := Lib.hid hTA
      cases hb : isTok b with
      | false =>
        rw [hb] at hT hTB; have HR := Lib.hid (splO_no (show isTypeM l = false by rw [hT]; rfl)); have HTB := Lib.hid hTB; clear hT hTA hTB ha hb; go_enter Tryz.func172, Tryz.ntmps172; go_wp2_with fail; refine HL.out.mono ?_; rintro e w1 ⟨rfl, k1⟩; have K1 := Lib.hid k1; clear k1; go_wp2_with fail; refine (HC2.out _ K1.out).mono ?_; rintro e w2 ⟨rfl, k2⟩; have K2 := Lib.hid (K1.out.trans k2); clear k2; go_wp2_with fail; refine (HTA.out _).mono ?_; rintro e w3 ⟨rfl, k3⟩; have K3 := Lib.hid (K2.out.trans k3); clear k3; go_wp2_with fail; refine (HTB.out _).mono ?_; rintro e w4 ⟨rfl, k4⟩; have K4 := Lib.hid (K3.out.trans k4); clear k4; go_wp2_with fail; rw [HR.out]; refine bodyPost_ret (v := .tuple #[.string (S []), .string (S []), .bool false]) (by simp [results, Tryz.results172, go_sem, S]) rfl ⟨rfl, K4.out⟩
      | true =>
        rw [hb] at hT hTB; have HTB := Lib.hid hTB; by_cases h100 : l.length ≤ 100
        · have q : decide ((l.length : Int) > 100) = false := by simp; omega
          rw [decide_eq_true h100] at hT; have HR := Lib.hid (HY.out (show isTypeM l = true by rw [hT]; rfl)); clear hT hTA hTB ha hb; go_enter Tryz.func172, Tryz.ntmps172; go_wp2_with fail; refine HL.out.mono ?_; rintro e w1 ⟨rfl, k1⟩; have K1 := Lib.hid k1; clear k1; go_wp2_with fail; refine (HC2.out _ K1.out).mono ?_; rintro e w2 ⟨rfl, k2⟩; have K2 := Lib.hid (K1.out.trans k2); clear k2; go_wp2_with fail; refine (HTA.out _).mono ?_; rintro e w3 ⟨rfl, k3⟩; have K3 := Lib.hid (K2.out.trans k3); clear k3; go_wp2_with fail; refine (HTB.out _).mono ?_; rintro e w4 ⟨rfl, k4⟩; have K4 := Lib.hid (K3.out.trans k4); clear k4; go_wp2_with fail; rw [HR.out]; refine bodyPost_ret (v := .tuple #[.string (S a), .string (S b), .bool true]) (by simp [results, Tryz.results172, go_sem]) rfl ⟨rfl, K4.out⟩
        · have q : decide ((l.length : Int) > 100) = true := by simp; omega
          rw [decide_eq_false h100] at hT; have HR := Lib.hid (splO_no (show isTypeM l = false by rw [hT]; rfl)); clear hT hTA hTB ha hb; go_enter Tryz.func172, Tryz.ntmps172; go_wp2_with fail; refine HL.out.mono ?_; rintro e w1 ⟨rfl, k1⟩; have K1 := Lib.hid k1; clear k1; go_wp2_with fail; refine (HC2.out _ K1.out).mono ?_; rintro e w2 ⟨rfl, k2⟩; have K2 := Lib.hid (K1.out.trans k2); clear k2; go_wp2_with fail; refine (HTA.out _).mono ?_; rintro e w3 ⟨rfl, k3⟩; have K3 := Lib.hid (K2.out.trans k3); clear k3; go_wp2_with fail; refine (HTB.out _).mono ?_; rintro e w4 ⟨rfl, k4⟩; have K4 := Lib.hid (K3.out.trans k4); clear k4; go_wp2_with fail; rw [HR.out]; refine bodyPost_ret (v := .tuple #[.string (S []), .string (S []), .bool false]) (by simp [results, Tryz.results172, go_sem, S]) rfl ⟨rfl, K4.out⟩
  · rw [if_neg hp] at hT hcv; have HC2 := Lib.hid (fun w1 (k : Keep [] w w1) => show Calls Tryz.prog 130 #[.string (S (lowW l)), .string ⟨#[47]⟩] w1 fun e w' => e = .returned (.tuple #[.string (S (lowW l)), .string (S []), .bool false]) ∧ Keep [] w1 w' by have := HC.out w1 k; simp only [hcv] at this; exact this); have HR := Lib.hid (splO_no (show isTypeM l = false by rw [hT]; rfl)); clear hT hTA hTB hcv hp HC lA lB; go_enter Tryz.func172, Tryz.ntmps172; go_wp2_with fail; refine HL.out.mono ?_; rintro e w1 ⟨rfl, k1⟩; have K1 := Lib.hid k1; clear k1; go_wp2_with fail; refine (HC2.out _ K1.out).mono ?_; rintro e w2 ⟨rfl, k2⟩; have K2 := Lib.hid (K1.out.trans k2); clear k2; go_wp2_with fail; rw [HR.out]; refine bodyPost_ret (v := .tuple #[.string (S []), .string (S []), .bool false]) (by simp [results, Tryz.results172, go_sem, S]) rfl ⟨rfl, K2.out⟩
theorem isType_same {l : List UInt8} {v : Bool} (h : isTypeM l = v) : splO l = .returned (.tuple #[.string (S (if v then lowW (typA l) else [])), .string (S (if v then lowW (typB l) else [])), .bool v]) := by
  unfold splO; rw [h]; cases v <;> rfl
set_option maxRecDepth 100000 in
set_option maxHeartbeats 1000000 in
theorem taste_IsType (l : List UInt8) (w : World) (hm : ML w) (hl : l.length ≤ 1048576) :
    Calls Tryz.prog 128 #[.string (S l)] w fun e w' => e = .returned (.bool (isTypeM l)) ∧ Keep [] w w' := by
  have HS := Lib.hid (taste_split l w hm hl); have HE := Lib.hid (isType_same (l := l) rfl); generalize isTypeM l = v at *; cases v
  all_goals
    go_enter Tryz.func128, Tryz.ntmps128; go_wp2_with fail; refine HS.out.mono ?_; rw [HE.out]; rintro e w1 ⟨rfl, k1⟩; have K1 := Lib.hid k1; clear k1; go_wp2_with fail; go_ret; exact ⟨rfl, K1.out⟩
def tagM (d : Dig) : List UInt8 := [34] ++ stampM d.1 ++ [34]
theorem dig_sz (d : Dig) : (Tryz.prog.info? 23).map (·.size) = some (digC d).length := by rw [digC_length]; kernel_rfl
set_option maxRecDepth 100000 in
set_option maxHeartbeats 1000000 in
theorem taste_Tag (d : Dig) (w : World) :
    Calls Tryz.prog 46 #[.agg (digC d).toArray] w fun e w' => e = .returned (.string (S (tagM d))) ∧ Keep [] w w' := by
  have M0 := Lib.hid (Mem.nil w); have HS := Lib.hid (fun w' => stamp_Print d w'); have hl := stampM_len d; have HT := Lib.hid (show tagM d = [34] ++ stampM d.1 ++ [34] from rfl); generalize stampM d.1 = s at *; obtain ⟨t1, h1⟩ : ∃ t, [34] ++ s = t := ⟨_, rfl⟩
  obtain ⟨t2, h2⟩ : ∃ t, t1 ++ [34] = t := ⟨_, rfl⟩
  rw [h1, h2] at HT; have e1 : (⟨#[34]⟩ : ByteArray) ++ S s = S t1 := by rw [← h1]; exact S_append [34] _
  have e2 : S t1 ++ (⟨#[34]⟩ : ByteArray) = S t2 := by rw [← h2]; exact S_append _ [34]
  have z0 := S_size s; have z1 := S_size t1; have y1 : t1.length = 72 := by rw [← h1, List.length_append, hl]; rfl
  rw [y1] at z1; rw [hl] at z0; clear h1 h2 hl y1; go_enter Tryz.func46, Tryz.ntmps46
  go_wp2_with (first | ((with_reducible refine gX 1 ?_); refine wpList_boxM rfl 23 (.tmp 0) rfl (digC d) (by rfl) M0 ?_; intro b w1 M1 _ _; try simp only [Act.put, sqA, sqB, sqC]) | ((with_reducible refine gL 3 1 ?_); refine wpList_loadM (by rfl) 23 (.tmp 1) rfl M1 0 rfl (by rfl) _ Tryz.underlying23 rfl (dig_sz d) ?_; try simp only [Act.put, sqA, sqB, sqC]) | fail); refine (HS.out _).mono ?_; rintro e w2 ⟨rfl, k2⟩; have M2 := Lib.hid (M1.out.keep0 k2); clear k2; go_wp2_with fail; go_ret; exact ⟨by rw [HT.out]; rfl, M2.out.kp⟩
end Go.Proofs.YtlhnjkekjbbhcaaGreatDoor
