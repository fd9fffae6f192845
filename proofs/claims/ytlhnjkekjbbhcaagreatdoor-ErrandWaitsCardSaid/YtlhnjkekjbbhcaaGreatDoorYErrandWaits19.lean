/- Parts of the proof of ErrandWaits, in order. No conditions but those that each theorem states. -/
import Derived.Test.YtlhnjkekjbbhcaaGreatDoorYErrandWaits0
import Derived.Lib.SlBytesConst
import Derived.Lib.LaidTab
import Derived.Lib.ItoaNum
import Derived.Lib.ItoaLen
import Derived.Sort.Grow
import Derived.Great.Walk
import Derived.Test.YtlhnjkekjbbhcaaGreatDoorYErrandWaits18
namespace Go.Proofs.YtlhnjkekjbbhcaaGreatDoor
open Go.RowKit
theorem ereFrame_F (P : ReS) (a : Ans) : (reFrame P a).a.F = a.F := by
  unfold reFrame
  split
  · rfl
  · split
    · rfl
    · split
      · rfl
      · split <;> rfl
theorem readHead_ans {P : ReS} {n : Nat} (hi : P.inp.length ≤ n) (ha : P.ans = none) : ∀ a, (readHeadR P).1.ans = some a → Small n a.F := by
  have hs := (split_small P.inp).1; have hs' : Small n (splitM P.inp).F := ⟨hs.1, fun x hx => ⟨Nat.le_trans (hs.2 x hx).1 hi, Nat.le_trans (hs.2 x hx).2 hi⟩⟩
  intro a; unfold readHeadR
  split
  · intro h; rw [ha] at h; cases h
  · split
    · intro h; simp only [reFail] at h; rw [ha] at h; cases h
    · split
      · split
        · intro h; simp only [reFail, headP] at h; rw [ha] at h; cases h
        · intro h; simp only [headP] at h; rw [ha] at h; cases h
      · split
        · intro h; simp only [Option.some.injEq] at h; subst h; rw [ereFrame_F]; exact hs'
        · intro h; simp only [reFail, headP] at h; rw [ha] at h; cases h
theorem eread_ans {P : ReS} {n : Nat} (h : P.ok n) (ha : P.ans = none) : ∀ a, (readR P).1.ans = some a → Small n a.F := by
  have hw := h.wt; unfold ReS.wt at hw; unfold readR
  split
  · exact readHead_ans (by omega) ha
  · split
    · unfold readChunksR
      split
      · intro a hh; rw [ha] at hh; cases hh
      · split
        · intro a hh; rw [ha] at hh; cases hh
        · split
          · intro a hh; simp only [reFail] at hh; rw [ha] at hh; cases hh
          · split
            · intro a hh; simp only at hh; rw [ha] at hh; cases hh
            · intro a hh; simp only at hh; rw [ha] at hh; cases hh
    · split
      · unfold readLengthR
        split
        · intro a hh; simp only at hh; rw [ha] at hh; cases hh
        · intro a hh; simp only at hh; rw [ha] at hh; cases hh
      · split
        · unfold readCloseR
          split
          · intro a hh; simp only [reFail, closeP] at hh; rw [ha] at hh; cases hh
          · split
            · intro a hh; simp only [closeP] at hh; rw [ha] at hh; cases hh
            · intro a hh; simp only [closeP] at hh; rw [ha] at hh; cases hh
        · intro a hh; rw [ha] at hh; cases hh
theorem loop_ans {n : Nat} : ∀ (i : Nat) (P : ReS), P.ok n → P.ans = none → ∀ a, (reLoop i P).ans = some a → Small n a.F
  | 0, P, _, ha, a, h => by unfold reLoop at h; rw [ha] at h; cases h
  | i + 1, P, hP, ha, a, h => by
    unfold reLoop at h; rw [if_neg (by simp [ha])] at h
    split at h
    · cases hx : (readR P).1.ans with
      | none => exact loop_ans i _ (read_ok hP).1 hx a h
      | some y =>
        have hl : reLoop i (readR P).1 = (readR P).1 := by
          cases i with
          | zero => rfl
          | succ i => unfold reLoop; rw [if_pos (by simp [hx])]
        rw [hl] at h; exact eread_ans hP ha a h
    · exact eread_ans hP ha a h
theorem next_small {P : ReS} {n : Nat} (h : P.ok n) (ha : P.ans = none) : Small n (nextR P).a.F := by
  have hl := loop_ans (P.inp.length + 2) P h ha; rw [nextR_eq]; unfold reEnd
  split
  · rename_i a hh; exact hl a hh
  · split
    · exact ⟨Nat.zero_le _, fun x hx => by cases hx⟩
    · exact ⟨Nat.zero_le _, fun x hx => by cases hx⟩
theorem next_ans (P : ReS) : (nextR P).p.ans = none := by
  rw [nextR_eq]
  split
  · rfl
  · rename_i hh
    split
    · exact hh
    · unfold reFinish
      split
      · exact hh
      · split
        · exact hh
        · exact hh
theorem next_s {Q : ReS} {n : Nat} (h : Q.ok n) : (nextR Q).s.length ≤ n := by
  have hE := (reEnd_ok h).wt; have h2 : (reEnd Q).dat.length ≤ n := by unfold ReS.wt at hE; omega
  rw [nextR_eq]
  split
  · simp
  · split
    · exact h2
    · simp
def ErS.told (E : ErS) : Prop := ∀ P, E.rep = some P → P.ans = none
def cntOf (m s h : Int) (d : Nat) (z : Int) (b c : Nat) : Prop := (0 ≤ m ∧ m ≤ c) ∧ (0 ≤ s ∧ s ≤ c) ∧ (0 ≤ h ∧ h ≤ c) ∧ d ≤ c * 400000 ∧ (0 ≤ z ∧ z ≤ c * 400000) ∧ b < 18446744073709551616
theorem cntOf.up {m s h m' s' h' : Int} {d d' : Nat} {z z' : Int} {b c : Nat} (H : cntOf m s h d z b c) (hm : m ≤ m' ∧ m' ≤ m + 1) (hs : s ≤ s' ∧ s' ≤ s + 1) (hh : h ≤ h' ∧ h' ≤ h + 1) (hd : d' ≤ d + 400000) (hz : z ≤ z' ∧ z' ≤ z + 400000) : cntOf m' s' h' d' z' b (c + 1) := by
  obtain ⟨h1, h2, h3, h4, h5, h6⟩ := H; refine ⟨⟨?_, ?_⟩, ⟨?_, ?_⟩, ⟨?_, ?_⟩, ?_, ⟨?_, ?_⟩, h6⟩ <;> omega
def ErS.cnt (E : ErS) (c : Nat) : Prop := cntOf E.misses E.silent E.heard E.data.length E.size E.cfg.bo c
theorem cntOf.mono1 {m s h : Int} {d : Nat} {z : Int} {b c : Nat} (H : cntOf m s h d z b c) : cntOf m s h d z b (c + 1) :=
  H.up ⟨Int.le_refl _, by omega⟩ ⟨Int.le_refl _, by omega⟩ ⟨Int.le_refl _, by omega⟩ (by omega) ⟨Int.le_refl _, by omega⟩
theorem cntOf.mono {m s h : Int} {d : Nat} {z : Int} {b c : Nat} (H : cntOf m s h d z b c) : ∀ k : Nat, cntOf m s h d z b (c + k)
  | 0 => H
  | k + 1 => (H.mono k).mono1
theorem ErS.cnt.mono {E : ErS} {c d : Nat} (h : E.cnt c) (hd : c ≤ d) : E.cnt d := by
  obtain ⟨k, rfl⟩ := Nat.exists_eq_add_of_le hd; exact cntOf.mono h k
theorem miss_cnt {E : ErS} {m s h : Int} {d : Nat} {z : Int} {c : Nat} (H : cntOf m s h d z E.cfg.bo c) (hm : E.misses = m) (hs : s ≤ E.silent ∧ E.silent ≤ s + 1) (hh : h ≤ E.heard ∧ E.heard ≤ h + 1) (hd : E.data.length = d) (hz : E.size = z) (st now : Int) : (erMiss E st now).cnt (c + 1) := by
  have key : cntOf (E.misses + 1) E.silent E.heard E.data.length E.size E.cfg.bo (c + 1) := by
    rw [hm, hd, hz]; exact H.up ⟨by omega, Int.le_refl _⟩ hs hh (by omega) ⟨Int.le_refl _, by omega⟩
  unfold erMiss
  split <;> exact key
theorem miss_rep (E : ErS) (s now : Int) : (erMiss E s now).rep = E.rep := by unfold erMiss; split <;> rfl
theorem one_cnt {E : ErS} {c : Nat} (h : E.cnt c) (r : NrR) (hr : r.s.length ≤ 400000) (now : Int) : (erOne E r now).cnt (c + 1) := by
  have H : cntOf E.misses E.silent E.heard E.data.length E.size E.cfg.bo c := h; have same : ∀ x : Int, x ≤ x ∧ x ≤ x + 1 := fun x => ⟨Int.le_refl _, by omega⟩
  have more : ∀ x : Int, x ≤ x + 1 ∧ x + 1 ≤ x + 1 := fun x => ⟨by omega, Int.le_refl _⟩
  have samez : ∀ x : Int, x ≤ x ∧ x ≤ x + 400000 := fun x => ⟨Int.le_refl _, by omega⟩
  have k0 : cntOf E.misses E.silent E.heard E.data.length E.size E.cfg.bo (c + 1) := H.up (same _) (same _) (same _) (by omega) (samez _); have k1 : cntOf E.misses E.silent (E.heard + 1) E.data.length E.size E.cfg.bo (c + 1) := H.up (same _) (same _) (more _) (by omega) (samez _); unfold erOne
  split
  · unfold erHead
    split
    · exact k0
    · split
      · exact miss_cnt (E := { E with rep := some r.p, head := r.a, heard := E.heard + 1 }) H rfl (same _) (more _) rfl rfl _ _
      · split
        · exact k1
        · exact k1
  · split
    · have k2 : cntOf E.misses E.silent E.heard (E.data ++ r.s).length (E.size + (r.s.length : Nat)) E.cfg.bo (c + 1) := H.up (same _) (same _) (same _) (by rw [List.length_append]; omega) ⟨by omega, by omega⟩; exact k2
    · split
      · exact k1
      · split
        · exact miss_cnt (E := { E with rep := some r.p, silent := E.silent + 1 }) H rfl (more _) (same _) rfl rfl _ _
        · exact k0
theorem one_told (E : ErS) (P : ReS) (now : Int) : (erOne E (nextR P) now).told := by
  have hp := next_ans P; intro Q hQ; unfold erOne at hQ
  split at hQ
  · unfold erHead at hQ
    split at hQ
    · cases hQ; exact hp
    · split at hQ
      · rw [miss_rep] at hQ; cases hQ; exact hp
      · split at hQ
        · cases hQ; exact next_ans _
        · cases hQ; exact hp
  · split at hQ
    · cases hQ; exact hp
    · split at hQ
      · cases hQ; exact hp
      · split at hQ
        · rw [miss_rep] at hQ; cases hQ; exact hp
        · cases hQ; exact hp
def ErS.okR (E : ErS) (n : Nat) : Prop := ∀ P, E.rep = some P → P.ok n
theorem one_okR {E : ErS} {P : ReS} {n : Nat} (h : P.ok n) (now : Int) : (erOne E (nextR P) now).okR n := by
  have hp := nextR_ok h; intro Q hQ; unfold erOne at hQ
  split at hQ
  · unfold erHead at hQ
    split at hQ
    · cases hQ; exact hp
    · split at hQ
      · rw [miss_rep] at hQ; cases hQ; exact hp
      · split at hQ
        · cases hQ; exact nextR_ok hp
        · cases hQ; exact hp
  · split at hQ
    · cases hQ; exact hp
    · split at hQ
      · cases hQ; exact hp
      · split at hQ
        · rw [miss_rep] at hQ; cases hQ; exact hp
        · cases hQ; exact hp
theorem took {n : Nat} (hn : n ≤ 400000) (now : Int) : ∀ (N c : Nat) (E R : ErS), erTake N E now = some R → E.okR n → E.told → E.cnt c → R.okR n ∧ R.told ∧ R.cnt (c + N)
  | 0, c, E, R, h, _, _, _ => by simp [erTake] at h
  | N + 1, c, E, R, h, ho, ht, hc => by
    unfold erTake at h
    split at h
    · cases h; exact ⟨ho, ht, hc.mono (by omega)⟩
    · cases hP : E.rep with
      | none => rw [hP] at h; cases h
      | some P =>
        rw [hP] at h; simp only at h; have h1 := one_okR (E := E) (ho P hP) now; have h2 := one_told E P now; have h3 := one_cnt hc (nextR P) (Nat.le_trans (next_s (ho P hP)) hn) now
        split at h
        · have h4 := took hn now N (c + 1) _ R h h1 h2 h3; exact ⟨h4.1, h4.2.1, h4.2.2.mono (by omega)⟩
        · cases h; exact ⟨h1, h2, h3.mono (by omega)⟩
theorem hear_no {E R : ErS} {s : List UInt8} {cut : Bool} {now : Int} (h : E.state ≠ 2) (hE : erHear E s cut now = some R) : E = R := by
  unfold erHear at hE; rw [if_pos h] at hE; exact Option.some.inj hE
def erHeard (E : ErS) (s : List UInt8) (now : Int) : ErS := { E with last := if s = [] then E.last else now }
theorem hear_yes {E R : ErS} {s : List UInt8} {cut : Bool} {now : Int} (h : E.state = 2) (hE : erHear E s cut now = some R) : ∃ F t G, erHearL (s.length + 1) (erHeard E s now) s now = some (F, t) ∧ erShut F now cut = some G ∧ R = { G with reuse := G.reuse && decide (t = []) } := by
  unfold erHear at hE; rw [if_neg (by simp [h])] at hE; unfold erHeard
  cases hL : erHearL (s.length + 1) { E with last := if s = [] then E.last else now } s now with
  | none => rw [hL] at hE; cases hE
  | some x =>
    obtain ⟨F, t⟩ := x; rw [hL] at hE; simp only at hE
    cases hS : erShut F now cut with
    | none => rw [hS] at hE; cases hE
    | some G =>
      rw [hS] at hE; simp only at hE; exact ⟨F, t, G, rfl, hS, (Option.some.inj hE).symm⟩
theorem hearL_stop {N : Nat} {E F : ErS} {s t : List UInt8} {now : Int} (h : s = [] ∨ E.state ≠ 2) (hE : erHearL N E s now = some (F, t)) : E = F ∧ s = t := by
  cases N with
  | zero => simp [erHearL] at hE
  | succ N =>
    unfold erHearL at hE; rw [if_pos h] at hE; have := Option.some.inj hE; exact ⟨congrArg Prod.fst this, congrArg Prod.snd this⟩
theorem hearL_more {N : Nat} {E F : ErS} {s t : List UInt8} {now : Int} (hs : s ≠ []) (h : E.state = 2) (hE : erHearL N E s now = some (F, t)) : ∃ m P G, N = m + 1 ∧ E.rep = some P ∧ erTake 5 { E with rep := some (reAdd P (s.take 4096)).1 } now = some G ∧ erHearL m G (s.drop 4096) now = some (F, t) := by
  cases N with
  | zero => simp [erHearL] at hE
  | succ N =>
    unfold erHearL at hE; rw [if_neg (by rintro (h1 | h1); exact hs h1; exact h1 h)] at hE
    cases hP : E.rep with
    | none => rw [hP] at hE; cases hE
    | some P =>
      rw [hP] at hE; simp only at hE
      cases hT : erTake 5 { E with rep := some (reAdd P (s.take 4096)).1 } now with
      | none => rw [hT] at hE; cases hE
      | some G =>
        rw [hT] at hE; exact ⟨N, P, G, rfl, rfl, hT, hE⟩
theorem shut_no {F G : ErS} {now : Int} {cut : Bool} (h : ¬ (cut = true ∧ F.state = 2)) (hS : erShut F now cut = some G) : F = G := by
  unfold erShut at hS; rw [if_neg h] at hS; exact Option.some.inj hS
theorem shut_yes {F G : ErS} {now : Int} {cut : Bool} (h : cut = true ∧ F.state = 2) (hS : erShut F now cut = some G) : ∃ P, F.rep = some P ∧ erTake 5 { F with rep := some (reShut P) } now = some G := by
  unfold erShut at hS; rw [if_pos h] at hS
  cases hP : F.rep with
  | none => rw [hP] at hS; cases hS
  | some P => rw [hP] at hS; exact ⟨P, rfl, hS⟩
theorem take_min (s : List UInt8) : s.take (min s.length 4096) = s.take 4096 ∧ s.drop (min s.length 4096) = s.drop 4096 := by
  rcases Nat.le_total s.length 4096 with h | h
  · rw [Nat.min_eq_left h, List.take_length, List.drop_length, List.take_of_length_le h, List.drop_of_length_le h]; exact ⟨rfl, rfl⟩
  · rw [Nat.min_eq_right h]; exact ⟨rfl, rfl⟩
end Go.Proofs.YtlhnjkekjbbhcaaGreatDoor
namespace Go.Proofs.YtlhnjkekjbbhcaaGreatDoor
open Go.RowKit Go.Shelf
def q1 : List UInt8 := [98, 121, 116, 101, 115, 61, 50, 45, 52]
def q2 : List UInt8 := [98, 121, 116, 101, 115, 61, 45, 51]
def q3 : List UInt8 := [98, 121, 116, 101, 115, 61, 49, 48, 45]
def q4 : List UInt8 := [98, 121, 116, 101, 115, 61, 49, 45, 50, 44, 52, 45, 53]
end Go.Proofs.YtlhnjkekjbbhcaaGreatDoor
namespace Go.Proofs.YtlhnjkekjbbhcaaGreatDoor
open Go.RowKit
def Mem (w0 w : World) (L : List (Nat × TypeId × List Value)) : Prop :=
  Keep [] w0 w ∧ (∀ (i j : Nat) (x y : Nat × TypeId × List Value), L[i]? = some x → L[j]? = some y → x.1 = y.1 → i = j) ∧ ∀ x ∈ L, w0.heap.size ≤ x.1 ∧ Blk w x.1 x.2.1 x.2.2
section
variable {w0 w w' : World} {L : List (Nat × TypeId × List Value)}
theorem Mem.nil (w : World) : Mem w w [] := ⟨Keep.refl _ _, fun i j x y h => by simp at h, fun x h => by simp at h⟩
theorem Mem.of (k : Keep [] w0 w) : Mem w0 w [] := ⟨k, fun i j x y h => by simp at h, fun x h => by simp at h⟩
theorem Mem.kp (h : Mem w0 w L) : Keep [] w0 w := h.1
theorem Mem.blk (h : Mem w0 w L) (i : Nat) {b : Nat} {T : TypeId} {cs : List Value} (hi : L[i]? = some (b, T, cs)) : Blk w b T cs := (h.2.2 _ (List.mem_of_getElem? hi)).2
theorem Mem.lo (h : Mem w0 w L) (i : Nat) {b : Nat} {T : TypeId} {cs : List Value} (hi : L[i]? = some (b, T, cs)) : w0.heap.size ≤ b := (h.2.2 _ (List.mem_of_getElem? hi)).1
theorem Mem.get (h : Mem w0 w L) (i : Nat) {b : Nat} {T : TypeId} {cs : List Value} (hi : L[i]? = some (b, T, cs)) (k : Nat) {v : Value} (hk : cs[k]? = some v) : w.cell? ⟨b, k, none⟩ = some v := (h.blk i hi).get hk
theorem Mem.fz (h : Mem w0 w L) (i : Nat) {b : Nat} {T : TypeId} {cs : List Value} (hi : L[i]? = some (b, T, cs)) (k : Nat) : w.frozen? ⟨b, k, none⟩ = false := (h.blk i hi).frozen k
theorem Mem.keep (h : Mem w0 w L) {S : List Nat} (k : Keep S w w') (hS : ∀ x ∈ S, w0.heap.size ≤ x ∧ ∀ y ∈ L, y.1 ≠ x) : Mem w0 w' L :=
  ⟨h.1.trans' k fun x hx hlt => absurd (hS x hx).1 (by omega), h.2.1, fun x hx => ⟨(h.2.2 x hx).1, k.blk (h.2.2 x hx).2 fun hh => (hS _ hh).2 x hx rfl⟩⟩
theorem Mem.keep0 (h : Mem w0 w L) (k : Keep [] w w') : Mem w0 w' L := h.keep k (by simp)
theorem Mem.cons (h : Mem w0 w L) (k : Keep [] w w') {b : Nat} {T : TypeId} {cs : List Value} (hb : w.heap.size ≤ b) (hB : Blk w' b T cs) : Mem w0 w' ((b, T, cs) :: L) := by
  have h' := h.keep0 k; have hne : ∀ x ∈ L, x.1 < w.heap.size := fun x hx => (h.2.2 x hx).2.lt
  refine ⟨h'.1, fun i j x y hi hj he => ?_, fun x hx => ?_⟩
  · cases i with
    | zero =>
      cases j with
      | zero => rfl
      | succ j =>
        simp at hi hj; subst hi; have := hne _ (List.mem_of_getElem? hj); simp at he; omega
    | succ i =>
      cases j with
      | zero =>
        simp at hi hj; subst hj; have := hne _ (List.mem_of_getElem? hi); simp at he; omega
      | succ j =>
        simp at hi hj; rw [h.2.1 i j x y hi hj he]
  · rcases List.mem_cons.1 hx with rfl | hx
    · exact ⟨Nat.le_trans h.1.size hb, hB⟩
    · exact h'.2.2 x hx
theorem Mem.alloc (h : Mem w0 w L) (Z : List Value) (T : TypeId) : Mem w0 (w.alloc (.cells Z.toArray T)) ((w.heap.size, T, Z) :: L) := h.cons ((Keep.refl _ _).alloc _) (Nat.le_refl _) (Blk.new w Z T)
theorem Mem.allocA (h : Mem w0 w L) (Z : List Value) (A : Array Value) (hA : A = Z.toArray) (T : TypeId) : Mem w0 (w.alloc (.cells A T)) ((w.heap.size, T, Z) :: L) := by subst hA; exact h.alloc Z T
theorem Mem.tail {x : Nat × TypeId × List Value} (h : Mem w0 w (x :: L)) : Mem w0 w L := ⟨h.1, fun i j x y hi hj he => by have := h.2.1 (i + 1) (j + 1) x y (by simpa using hi) (by simpa using hj) he; omega, fun y hy => h.2.2 y (List.mem_cons_of_mem _ hy)⟩
theorem Mem.upd (h : Mem w0 w L) (i : Nat) {b : Nat} {T : TypeId} {cs ds : List Value} (hi : L[i]? = some (b, T, cs)) (k : Keep [b] w w') (hB : Blk w' b T ds) : Mem w0 w' (L.set i (b, T, ds)) := by
  have hlt : i < L.length := (List.getElem?_eq_some_iff.1 hi).1; refine ⟨h.1.trans' k fun x hx hlt => ?_, fun p q x y hp hq he => ?_, fun x hx => ?_⟩
  · have := h.lo i hi; have h1 : x = b := (by simpa using hx)
    omega
  · have back : ∀ (p : Nat) x, (L.set i (b, T, ds))[p]? = some x → ∃ z, L[p]? = some z ∧ z.1 = x.1 := fun p x hp => by
      rw [List.getElem?_set] at hp
      split at hp
      · rename_i hh; subst hh; cases hp; exact ⟨_, hi, rfl⟩
      · exact ⟨x, hp, rfl⟩
    obtain ⟨x', hp', e1⟩ := back p x hp; obtain ⟨y', hq', e2⟩ := back q y hq; exact h.2.1 p q x' y' hp' hq' (by rw [e1, e2]; exact he)
  · obtain ⟨p, hp⟩ := List.mem_iff_getElem?.1 hx; rw [List.getElem?_set] at hp
    split at hp
    · rename_i hh; subst hh; cases hp; exact ⟨h.lo _ hi, hB⟩
    · rename_i hh; refine ⟨(h.2.2 x (List.mem_of_getElem? hp)).1, k.blk (h.2.2 x (List.mem_of_getElem? hp)).2 fun hm => hh ?_⟩; have h1 : x.1 = b := (by simpa using hm)
      exact h.2.1 i p _ x hi hp h1.symm
theorem Mem.setCell (h : Mem w0 w L) (i : Nat) {b : Nat} {T : TypeId} {cs : List Value} (hi : L[i]? = some (b, T, cs)) (o : Nat) (v : Value) : Mem w0 (w.setCell ⟨b, o, none⟩ v) (L.set i (b, T, cs.set o v)) :=
  h.upd i hi ((Keep.refl _ _).setCell _ _ fun _ => by simp) ((h.blk i hi).set o v)
theorem blk_overN {b : Nat} {T : TypeId} : ∀ (vs : List Value) {w : World} {pre xs : List Value}, xs.length = vs.length → Blk w b T (pre ++ xs) → Blk (w.setCells b pre.length vs) b T (pre ++ vs)
  | [], w, pre, xs, hl, h => by
    have : xs = [] := List.length_eq_zero_iff.1 (by simpa using hl); subst this; exact h
  | v :: r, w, pre, x :: xs, hl, h => by
    have h1 := h.set pre.length v; rw [List.set_append_right _ _ (Nat.le_refl _), Nat.sub_self, sqC] at h1; have h2 := blk_overN r (pre := pre ++ [v]) (xs := xs) (by simpa using hl) (by simpa using h1); simpa [World.setCells] using h2
theorem blk_overMid {b : Nat} {T : TypeId} : ∀ (vs : List Value) {w : World} {pre xs suf : List Value}, xs.length = vs.length → Blk w b T (pre ++ xs ++ suf) → Blk (w.setCells b pre.length vs) b T (pre ++ vs ++ suf)
  | [], w, pre, xs, suf, hl, h => by
    have : xs = [] := List.length_eq_zero_iff.1 (by simpa using hl); subst this; exact h
  | v :: r, w, pre, x :: xs, suf, hl, h => by
    have h1 := h.set pre.length v; rw [List.append_assoc, List.set_append_right _ _ (Nat.le_refl _), Nat.sub_self, List.cons_append, sqC] at h1; have h2 := blk_overMid r (pre := pre ++ [v]) (xs := xs) (suf := suf) (by simpa using hl) (by simpa using h1); simpa [World.setCells] using h2
theorem Mem.setAll (h : Mem w0 w L) (i : Nat) {b : Nat} {T : TypeId} {cs : List Value} (hi : L[i]? = some (b, T, cs)) (vs : List Value) (hl : cs.length = vs.length) : Mem w0 (w.setCells b 0 vs) (L.set i (b, T, vs)) :=
  h.upd i hi (Keep.setCells' b (fun _ => by simp) vs 0 w (Keep.refl _ _)) (blk_overN vs (pre := []) hl (h.blk i hi))
theorem Mem.setMid (h : Mem w0 w L) (i : Nat) {b : Nat} {T : TypeId} {cs : List Value} (hi : L[i]? = some (b, T, cs)) (pre xs suf vs : List Value) (hc : cs = pre ++ xs ++ suf) (hl : xs.length = vs.length) (o : Nat) (ho : o = pre.length) : Mem w0 (w.setCells b o vs) (L.set i (b, T, pre ++ vs ++ suf)) := by
  subst hc ho; exact h.upd i hi (Keep.setCells' b (fun _ => by simp) vs _ w (Keep.refl _ _)) (blk_overMid vs hl (h.blk i hi))
end
section
variable {P : Program} {ops : Array Oper} {rest : List Oper} {o : Oper} {a : Act} {w w0 : World} {Q : Exit → Act → World → Prop} {L : List (Nat × TypeId × List Value)}
def ZeroIs (P : Program) (ty : TypeId) (Z : List Value) : Prop := ∀ w : World, (Instr.alloc ty true (.tuple #[])).run P w = .ok (.pointer (some ⟨w.heap.size, 0, none⟩)) (w.alloc (.cells Z.toArray ty))
theorem wpList_allocM (hgd : o.guard = none) (ty : TypeId) (ho : o.op = .alloc ty) (Z : List Value) (HZ : Hid (ZeroIs P ty Z)) (HM : Hid (Mem w0 w L))
    (h : ∀ b w', Hid (Mem w0 w' ((b, ty, Z) :: L)) → Hid (Keep [] w w') → Hid (b = w.heap.size) → wpList P ops Q rest (a.put o.dst (.pointer (some ⟨b, 0, none⟩))) w') : wpList P ops Q (o :: rest) a w :=
  wpList_plain hgd fun _ hK => by
    unfold Oper.wp execOp; simp only [ho]; have hz := HZ.out w; simp only [Sem.run_bind, hz, Result.andThen_ok, Sem.run_pure]; exact hK _ _ (h _ _ (Lib.hid (HM.out.alloc Z ty)) (Lib.hid ((Keep.refl _ _).alloc _)) (Lib.hid rfl))
theorem wpList_boxM (hgd : o.guard = none) (ty : TypeId) (x : Operand) (ho : o.op = .box ty x) (cs : List Value) (hx : (a.eval x).cells = cs.toArray) (HM : Hid (Mem w0 w L))
    (h : ∀ b w', Hid (Mem w0 w' ((b, ty, cs) :: L)) → Hid (Keep [] w w') → Hid (b = w.heap.size) → wpList P ops Q rest (a.put o.dst (.pointer (some ⟨b, 0, none⟩))) w') : wpList P ops Q (o :: rest) a w :=
  Great.wpList_boxTo hgd ty x ho o.dst rfl w.heap.size rfl cs.toArray hx (h _ _ (Lib.hid (HM.out.alloc cs ty)) (Lib.hid ((Keep.refl _ _).alloc _)) (Lib.hid rfl))
theorem wpList_loadM (hw : Region.wanted o (yielded ops a.tmps) = true) (ty : TypeId) (x : Operand) (ho : o.op = .load ty x) (HM : Hid (Mem w0 w L)) (i : Nat) {b : Nat} {T : TypeId} {cs : List Value} (hi : L[i]? = some (b, T, cs)) (hx : a.eval x = .pointer (some ⟨b, 0, none⟩))
    (d : TypeDesc) (hu : P.underlying ty = some d) (hd : d.isRow = true) (hs : (P.info? ty).map (·.size) = some cs.length)
    (h : wpList P ops Q rest (a.put o.dst (.agg cs.toArray)) w) : wpList P ops Q (o :: rest) a w :=
  wpList_step fun K hK => by
    rw [if_pos hw]; exact wp_load_mid ty x ho b 0 hx cs d (HM.out.blk i hi).range' hu hd hs (hK _ _ h)
theorem wpList_loadPart (hw : Region.wanted o (yielded ops a.tmps) = true) (ty : TypeId) (x : Operand) (ho : o.op = .load ty x) (HM : Hid (Mem w0 w L)) (i : Nat) {b : Nat} {T : TypeId} {cs : List Value} (hi : L[i]? = some (b, T, cs)) (off : Nat) (hx : a.eval x = .pointer (some ⟨b, off, none⟩))
    (vs : List Value) (hv : ∀ j v, vs[j]? = some v → cs[off + j]? = some v) (d : TypeDesc) (hu : P.underlying ty = some d) (hd : d.isRow = true) (hs : (P.info? ty).map (·.size) = some vs.length)
    (h : wpList P ops Q rest (a.put o.dst (.agg vs.toArray)) w) : wpList P ops Q (o :: rest) a w :=
  wpList_step fun K hK => by
    rw [if_pos hw]; exact wp_load_mid ty x ho b off hx vs d (fun j v hj => (HM.out.blk i hi).get (hv j v hj)) hu hd hs (hK _ _ h)
theorem wpList_storeM (hgd : o.guard = none) (ty : TypeId) (x y : Operand) (ho : o.op = .store ty x y) (HM : Hid (Mem w0 w L)) (i : Nat) {b : Nat} {T : TypeId} {cs : List Value} (hi : L[i]? = some (b, T, cs)) (hx : a.eval x = .pointer (some ⟨b, 0, none⟩)) (vs : List Value) (hy : a.eval y = .agg vs.toArray)
    (hs : (P.info? ty).map (·.size) = some vs.length) (hl : cs.length = vs.length) (h1 : ∀ v ∈ vs, v.oneCell' = true)
    (h : ∀ w', Hid (Mem w0 w' (L.set i (b, T, vs))) → Hid (Keep [b] w w') → wpList P ops Q rest (a.put o.dst undef) w') : wpList P ops Q (o :: rest) a w :=
  wpList_store_mid hgd ty x y ho b 0 vs.toArray hx hy ((HM.out.blk i hi).there' 0 _ (by simp [hl])) (by simpa using hs) (all_oneCell_toArray h1)
    (h _ (Lib.hid (HM.out.setAll i hi vs hl)) (Lib.hid (Keep.setCells' b (fun _ => by simp) vs 0 w (Keep.refl _ _))))
theorem wpList_storePart (hgd : o.guard = none) (ty : TypeId) (x y : Operand) (ho : o.op = .store ty x y) (HM : Hid (Mem w0 w L)) (i : Nat) {b : Nat} {T : TypeId} {cs : List Value} (hi : L[i]? = some (b, T, cs)) (off : Nat) (hx : a.eval x = .pointer (some ⟨b, off, none⟩)) (vs : List Value) (hy : a.eval y = .agg vs.toArray)
    (hs : (P.info? ty).map (·.size) = some vs.length) (pre xs suf : List Value) (hc : cs = pre ++ xs ++ suf) (hl : xs.length = vs.length) (ho2 : off = pre.length) (h1 : ∀ v ∈ vs, v.oneCell' = true)
    (h : ∀ w', Hid (Mem w0 w' (L.set i (b, T, pre ++ vs ++ suf))) → Hid (Keep [b] w w') → wpList P ops Q rest (a.put o.dst undef) w') : wpList P ops Q (o :: rest) a w :=
  wpList_store_mid hgd ty x y ho b off vs.toArray hx hy ((HM.out.blk i hi).there' off _ (by subst hc ho2; simp [hl])) (by simpa using hs) (all_oneCell_toArray h1)
    (h _ (Lib.hid (HM.out.setMid i hi pre xs suf vs hc hl off ho2)) (Lib.hid (Keep.setCells' b (fun _ => by simp) vs off w (Keep.refl _ _))))
theorem wpList_buildM (hw : Region.wanted o (yielded ops a.tmps) = true) (ty : TypeId) (ps : Array (Nat × Operand)) (ho : o.op = .build ty ps) (us : List (Nat × Value)) (hps : (ps.map fun (i, x) => (i, a.eval x)).toList = us) (cs : List Value) (HB : Hid (P.built ty us = some cs.toArray))
    (h : wpList P ops Q rest (a.put o.dst (.agg cs.toArray)) w) : wpList P ops Q (o :: rest) a w :=
  wpList_step fun K hK => by
    rw [if_pos hw]; subst hps; refine wp_build ty ps ho (by rw [HB.out]; rfl) (hK _ _ ?_); rw [HB.out]; exact h
end
end Go.Proofs.YtlhnjkekjbbhcaaGreatDoor
