/- Parts of the proof of StockReplays, in order. No conditions but those that each theorem states. -/
import Derived.Test.YtkghgaopcgcheaaGreatDoorYStockReplays0
import Derived.Deep.RegionHeld3
import Derived.Deep.Cut
import Derived.Deep.DeepCutAuto
import Derived.Deep.LoopGhost
import Derived.Test.YtkghgaopcgcheaaGreatDoorYStockReplays21
set_option maxRecDepth 100000
set_option maxHeartbeats 16000000
set_option linter.unusedSimpArgs false
set_option linter.unusedVariables false
namespace Go.Proofs.YtkghgaopcgcheaaGreatDoor
open Go.RowKit Go.Shelf
theorem slashF_end {k : Nat} {r : List UInt8} (h : ∀ j : Nat, r[j]? ≠ some (47 : UInt8)) : slashF k r = [r] := by
  have hi : Lib.indexByte r 47 = -1 := by
    have hge := Lib.indexByte_ge r 47; by_cases h1 : Lib.indexByte r 47 = -1
    · exact h1
    · obtain ⟨i, hi⟩ : ∃ i : Nat, Lib.indexByte r 47 = i := ⟨(Lib.indexByte r 47).toNat, by omega⟩
      exact absurd (Lib.indexByte_some hi).1 (h i)
  cases k with
  | zero => rfl
  | succ k => show (if _ then _ else _) = _; rw [if_pos hi]
theorem slashF_more {k i : Nat} {r : List UInt8} (h : r[i]? = some (47 : UInt8)) (hf : ∀ j : Nat, j < i → r[j]? ≠ some (47 : UInt8)) (hk : r.length ≤ k) : slashF k r = r.take i :: slashF (k - 1) (r.drop (i + 1)) := by
  have hlt := (List.getElem?_eq_some_iff.1 h).1; have hi : Lib.indexByte r 47 = (i : Nat) := indexByte_at h hf
  cases k with
  | zero => omega
  | succ k =>
    show (if _ then _ else _) = _; rw [if_neg (by rw [hi]; omega), hi]; simp
theorem slash_last (P : List UInt8 → Bool) : ∀ (k : Nat) (r : List UInt8) (q : Nat), r.length ≤ k → r[q]? = some (47 : UInt8) → (∀ j : Nat, q < j → r[j]? ≠ some (47 : UInt8)) → (slashF k r).all P = ((slashF k (r.take q)).all P && P (r.drop (q + 1)))
  | 0, r, q, hk, hq, _ => by
    have := (List.getElem?_eq_some_iff.1 hq).1; omega
  | k + 1, r, q, hk, hq, hl => by
    have hqlt := (List.getElem?_eq_some_iff.1 hq).1
    obtain ⟨i, hi, hf⟩ : ∃ i, r[i]? = some (47 : UInt8) ∧ ∀ j : Nat, j < i → r[j]? ≠ some (47 : UInt8) := by
      have hge := Lib.indexByte_ge r 47; by_cases h1 : Lib.indexByte r 47 = -1
      · exact absurd hq (Lib.indexByte_none h1 q)
      · obtain ⟨i, hi⟩ : ∃ i : Nat, Lib.indexByte r 47 = i := ⟨(Lib.indexByte r 47).toNat, by omega⟩
        exact ⟨i, (Lib.indexByte_some hi).1, (Lib.indexByte_some hi).2⟩
    have hiq : i ≤ q := by
      rcases Nat.lt_or_ge q i with h | h
      · exact absurd hq (hf q h)
      · exact h
    rw [slashF_more hi hf hk, Nat.add_sub_cancel]; rcases Nat.lt_or_ge i q with hlt | hge
    · have hi2 : (r.take q)[i]? = some (47 : UInt8) := by rw [List.getElem?_take, if_pos hlt]; exact hi
      have hf2 : ∀ j : Nat, j < i → (r.take q)[j]? ≠ some (47 : UInt8) := fun j hj => by rw [List.getElem?_take, if_pos (by omega)]; exact hf j hj
      rw [slashF_more (k := k + 1) hi2 hf2 (by rw [List.length_take]; omega), Nat.add_sub_cancel]; have ih := slash_last P k (r.drop (i + 1)) (q - i - 1) (by rw [List.length_drop]; omega) (by rw [List.getElem?_drop, show i + 1 + (q - i - 1) = q by omega]; exact hq) (fun j hj => by rw [List.getElem?_drop]; exact hl _ (by omega)); have e1 : (r.drop (i + 1)).take (q - i - 1) = (r.take q).drop (i + 1) := by rw [List.drop_take, Nat.sub_sub]
      have e2 : (r.drop (i + 1)).drop (q - i - 1 + 1) = r.drop (q + 1) := by rw [List.drop_drop]; congr 1; omega
      have e3 : (r.take q).take i = r.take i := by rw [List.take_take]; congr 1; omega
      rw [e1, e2] at ih; rw [e3, List.all_cons, List.all_cons, ih, Bool.and_assoc]
    · have : i = q := by omega
      subst this
      rw [slashF_end (r := r.take i) (fun j h => by
        rw [List.getElem?_take] at h
        split at h
        · rename_i hj; exact hf j hj h
        · cases h)]
      rw [slashF_end (r := r.drop (i + 1)) (fun j h => by rw [List.getElem?_drop] at h; exact hl _ (by omega) h)]; simp
def LastIs (s : List UInt8) (k : Int) : Prop := (k = -1 ∧ ∀ j : Nat, s[j]? ≠ some (47 : UInt8)) ∨ ∃ q : Nat, k = q ∧ s[q]? = some (47 : UInt8) ∧ ∀ j : Nat, q < j → s[j]? ≠ some (47 : UInt8)
theorem ref15_Last (s : List UInt8) (w : World) (hs : s.length ≤ 1048576) :
    Calls Tryz.prog 162 #[.string (S s)] w fun e w' => (∃ k, e = .returned (.int .i64 k) ∧ LastIs s k) ∧ w = w' := by
  have hsz := S_size s; have wl := IntWalk.i64_in ((s.length : Int) - 1) (by omega); go_enter Tryz.func162, Tryz.ntmps162; go_wp2_with fail
  go_loopg [3] s.length (fun g iv wr => ∃ i : Int, iv = .int .i64 i ∧ i = (g : Int) - 1 ∧ g ≤ s.length ∧ Hid (∀ j : Nat, g ≤ j → s[j]? ≠ some (47 : UInt8)) ∧ w = wr)
  case atStart => exact ⟨_, rfl, by omega, Nat.le_refl _, Lib.hid (fun j hj h => by have := (List.getElem?_eq_some_iff.1 h).1; omega), rfl⟩
  case round =>
    obtain ⟨i, rfl, hi, hg, HN, rfl⟩ := hrel; by_cases hge : 0 ≤ i
    · obtain ⟨m, hm⟩ : ∃ m : Nat, i = m := ⟨i.toNat, by omega⟩
      subst hm; obtain ⟨c, hc⟩ : ∃ c, s[m]? = some c := ⟨_, List.getElem?_eq_getElem (by omega)⟩
      have hget := S_get hc; have c8 := u8_nat c; have i3 : (m : Int) < (s.length : Int) := by omega
      have wk := IntWalk.i64_in ((m : Int) - 1) (by omega); by_cases h47 : c = 47
      · have q1 := (int_eq (show (c.toNat : Int) = 47 by rw [h47]; rfl)).1; have HR := Lib.hid (show LastIs s (m : Int) from Or.inr ⟨m, rfl, by rw [hc, h47], fun j hj => HN.out j (by omega)⟩); clear h47 hc hi; go_wp2_with fail; go_ret; exact ⟨⟨_, rfl, HR.out⟩, rfl⟩
      · have q1 := (int_ne (show (c.toNat : Int) ≠ 47 from fun h => h47 (UInt8.toNat_inj.1 (by have h9 : (47 : UInt8).toNat = 47 := rfl; omega)))).1
        have HN2 := Lib.hid (fun (j : Nat) (hj : m ≤ j) => show s[j]? ≠ some (47 : UInt8) from fun h => by
          rcases Nat.lt_or_ge m j with h1 | h1
          · exact HN.out j (by omega) h
          · have : j = m := by omega
            subst this; rw [hc] at h; exact h47 (by simpa using h))
        have HG := Lib.hid hi; clear h47 hc hi; go_wp2_with fail
        go_roundg m
        case measure => have := HG.out; omega
        case rel => exact ⟨_, rfl, by omega, by omega, Lib.hid (fun j hj => HN2.out j hj), rfl⟩
    · have HR := Lib.hid (show LastIs s (-1) from Or.inl ⟨rfl, fun j => HN.out j (by omega)⟩); clear hi; go_wp2_with fail; go_ret; exact ⟨⟨_, rfl, HR.out⟩, rfl⟩
theorem ref15_IsRepo (HP : ∀ (l : List UInt8) (w : World), l.length ≤ 128 → Calls Tryz.prog 163 #[.string (S l)] w fun e w' => e = .returned (.bool (isPartM l)) ∧ Keep [] w w')
    (s : List UInt8) (w : World) (hs : s.length ≤ maxLen) :
    Calls Tryz.prog 115 #[.string (S s)] w fun e w' => e = .returned (.bool (isRepoM s)) ∧ Keep [] w w' := by
  have hs' : s.length ≤ 9223372036854775807 := hs; have sS := S_size s; have HPh := Lib.hid HP; clear HP hs; by_cases hl : 128 < s.length
  · have q : decide ((s.length : Int) > 128) = true := by simp; omega
    have HR := Lib.hid (show isRepoM s = false by unfold isRepoM; rw [decide_eq_false (by omega)]; rfl); clear hl; go_enter Tryz.func115, Tryz.ntmps115; go_wp2_with fail; go_ret; exact ⟨ret_bool HR.out.symm, Keep.refl _ _⟩
  · have q : decide ((s.length : Int) > 128) = false := by simp; omega
    have HR := Lib.hid (show isRepoM s = (slashF s.length s).all isPartM by unfold isRepoM; rw [decide_eq_true (by omega)]; rfl); have hl2 : s.length ≤ 128 := by omega
    clear hl; go_enter Tryz.func115, Tryz.ntmps115; go_wp2_with fail
    go_loopg [0] s.length (fun g sv wr => ∃ l : List UInt8, sv = .string (S l) ∧ l.length ≤ g ∧ l.length ≤ s.length ∧ Hid (isRepoM s = (slashF s.length l).all isPartM) ∧ Hid (Keep [] w wr))
    case atStart => exact ⟨s, rfl, Nat.le_refl _, Nat.le_refl _, HR, Lib.hid (Keep.refl _ _)⟩
    case round =>
      obtain ⟨l, rfl, hg, hll, HE, HK⟩ := hrel; have sL := S_size l; have HL := Lib.hid (ref15_Last l wr (by omega)); go_wp2_with fail; refine HL.out.mono ?_; rintro e w5 ⟨⟨kk, rfl, hk⟩, rfl⟩; rcases hk with ⟨rfl, hno⟩ | ⟨q1, rfl, hq, hlast⟩
      · have HPl := Lib.hid (HPh.out l wr (by omega)); have HF := Lib.hid (show isRepoM s = isPartM l by rw [HE.out, slashF_end hno]; simp); clear hno; go_wp2_with fail; refine HPl.out.mono ?_; rintro e w6 ⟨rfl, k6⟩; have K6 := Lib.hid (HK.out.trans k6); clear k6; go_wp2_with fail; go_ret; exact ⟨ret_bool HF.out.symm, K6.out⟩
      · have hqlt := (List.getElem?_eq_some_iff.1 hq).1; have HF := Lib.hid (show isRepoM s = ((slashF s.length (l.take q1)).all isPartM && isPartM (l.drop (q1 + 1))) by rw [HE.out, slash_last isPartM s.length l q1 hll hq hlast]); have HPl := Lib.hid (HPh.out (l.drop (q1 + 1)) wr (by rw [List.length_drop]; omega)); have wk := IntWalk.i64_in ((q1 : Int) + 1) (by omega); have n1 : ((q1 : Int) + 1).toNat = q1 + 1 := by omega
        have i0 : (0 : Int) ≤ (q1 : Int) := by omega
        have i1 : (q1 : Int) ≤ (l.length : Int) := by omega
        have i2 : (q1 : Int) + 1 ≤ (l.length : Int) := by omega
        have i3 : (0 : Int) ≤ (q1 : Int) + 1 := by omega
        have i4 : ¬ (q1 : Int) < 0 := by omega
        have x1 : (S l).extract (q1 + 1) l.length = S (l.drop (q1 + 1)) := by rw [S_extract, List.take_length]
        have x2 : (S l).extract 0 q1 = S (l.take q1) := by rw [S_extract]; simp
        clear hq hlast
        cases hpm : isPartM (l.drop (q1 + 1)) with
        | false =>
          rw [hpm] at HPl HF; have HF2 := Lib.hid (show isRepoM s = false by rw [HF.out, Bool.and_false]); clear hpm; go_wp2_with fail; refine HPl.out.mono ?_; rintro e w6 ⟨rfl, k6⟩; have K6 := Lib.hid (HK.out.trans k6); clear k6; go_wp2_with fail; go_ret; exact ⟨ret_bool HF2.out.symm, K6.out⟩
        | true =>
          rw [hpm] at HPl HF; have HF2 := Lib.hid (show isRepoM s = (slashF s.length (l.take q1)).all isPartM by rw [HF.out, Bool.and_true]); clear hpm; go_wp2_with fail; refine HPl.out.mono ?_; rintro e w6 ⟨rfl, k6⟩; have K6 := Lib.hid (HK.out.trans k6); clear k6; go_wp2_with fail
          go_roundg q1
          case measure => omega
          case rel => exact ⟨l.take q1, rfl, by rw [List.length_take]; omega, by rw [List.length_take]; omega, HF2, K6⟩
end Go.Proofs.YtkghgaopcgcheaaGreatDoor
namespace Go.Proofs.YtkghgaopcgcheaaGreatDoor
open Go.RowKit
def sepN (w : List UInt8) : Nat := match w with
  | [] => 0
  | b :: r => if b = 47 then 0 else ((b :: r).takeWhile (· == b)).length
def sepOk (w : List UInt8) : Bool := match w with
  | [] => false
  | b :: _ => decide (b = 46 ∧ sepN w = 1) || decide (b = 95 ∧ (sepN w = 1 ∨ sepN w = 2)) || decide (b = 45 ∧ 1 ≤ sepN w)
def partD : Nat → List UInt8 → Bool
  | 0, _ => false
  | k + 1, s => if (wordR s).length = s.length then false else if wordR s = [] then true
    else if sepOk (wordR s) then partD k ((wordR s).drop (sepN (wordR s))) else false
def lowD (b : UInt8) : Bool := decide (97 ≤ b.toNat ∧ b.toNat ≤ 122) || decide (48 ≤ b.toNat ∧ b.toNat ≤ 57)
theorem low_letters (b : UInt8) : lettersB.contains b = lowD b := by
  refine all_u8 (p := fun b => lettersB.contains b = lowD b) ?_ b; decide +kernel
theorem partM_stuck {k : Nat} {s : List UInt8} (h : ∀ c, s[0]? = some c → lettersB.contains c = false) : partM k s = false ∧ partD k s = false := by
  have hw : wordR s = s := by
    unfold wordR Lib.trimLeftS
    cases s with
    | nil => rfl
    | cons c r => rw [List.dropWhile_cons, if_neg (by rw [h c rfl]; simp)]
  cases k with
  | zero => exact ⟨rfl, rfl⟩
  | succ k =>
    unfold partM partD; rw [hw, if_pos rfl, if_pos rfl]; exact ⟨rfl, rfl⟩
theorem takeWhile_len {p : UInt8 → Bool} : ∀ (w : List UInt8) (n : Nat), n ≤ w.length → (∀ j c, j < n → w[j]? = some c → p c = true) → (∀ c, w[n]? = some c → p c = false) → (w.takeWhile p).length = n
  | [], n, hn, _, _ => by simp at hn; simp [hn]
  | b :: r, 0, _, _, h2 => by rw [List.takeWhile_cons, if_neg (by rw [h2 b rfl]; simp)]; rfl
  | b :: r, n + 1, hn, h1, h2 => by
    rw [List.takeWhile_cons, if_pos (h1 0 b (by omega) rfl), List.length_cons, takeWhile_len r n (by simpa using hn) (fun j c hj hc => h1 (j + 1) c (by omega) (by simpa using hc)) (fun c hc => h2 c (by simpa using hc))]
theorem takeWhile_facts (p : UInt8 → Bool) : ∀ w : List UInt8, (∀ (j : Nat) b, j < (w.takeWhile p).length → w[j]? = some b → p b = true) ∧ (∀ b, w[(w.takeWhile p).length]? = some b → p b = false)
  | [] => ⟨fun j b h _ => by simp at h, fun b h => by simp at h⟩
  | x :: r => by
    have ih := takeWhile_facts p r; rw [List.takeWhile_cons]
    split
    · rename_i hx; refine ⟨fun j b hj hb => ?_, fun b hb => ih.2 b (by simpa using hb)⟩
      cases j with
      | zero => simp at hb; subst hb; exact hx
      | succ j => exact ih.1 j b (by simpa using hj) (by simpa using hb)
    · rename_i hx; exact ⟨fun j b hj _ => by simp at hj, fun b hb => by simp at hb; subst hb; simpa using hx⟩
theorem seps_split (w : List UInt8) : ∃ n, n ≤ w.length ∧ (∀ (j : Nat) c, j < n → w[j]? = some c → sepsB.contains c = true) ∧ (∀ c, w[n]? = some c → sepsB.contains c = false) ∧ sepR w = w.drop n ∧ w.take (w.length - (sepR w).length) = w.take n := by
  have hf := takeWhile_facts sepsB.contains w; have hle : (w.takeWhile sepsB.contains).length ≤ w.length := (List.takeWhile_sublist _).length_le; have h := Lib.trimLeftS_drop w sepsB (w.takeWhile sepsB.contains).length hle hf.1 hf.2; refine ⟨(w.takeWhile sepsB.contains).length, hle, hf.1, hf.2, h, ?_⟩; unfold sepR; rw [h, List.length_drop]; congr 1; omega
theorem dropWhile_nil_iff {p : UInt8 → Bool} : ∀ l : List UInt8, l.dropWhile p = [] ↔ ∀ c ∈ l, p c = true
  | [] => by simp
  | x :: r => by
    rw [List.dropWhile_cons]
    split
    · rename_i h; rw [dropWhile_nil_iff r]; simp [h]
    · rename_i h; simp [h]
theorem all_eq_rep {l : List UInt8} {b : UInt8} (h : ∀ c ∈ l, c = b) : l = List.replicate l.length b := List.eq_replicate_iff.2 ⟨rfl, h⟩
theorem trim_dashes {l : List UInt8} : (Lib.trimS l [45]).isEmpty = l.all (· == 45) := by
  rw [Bool.eq_iff_iff, List.isEmpty_iff]; constructor
  · intro h; have h0 : Lib.trimRightS l [45] = [] ∨ True := Or.inr trivial; rw [List.all_eq_true]; intro c hc; unfold Lib.trimS Lib.trimLeftS at h; have h1 := (dropWhile_nil_iff _).1 h
    have h2 : Lib.trimRightS l [45] = [] := by
      unfold Lib.trimRightS at h1 ⊢
      cases hd : l.reverse.dropWhile ([45].contains ·) with
      | nil => rfl
      | cons x r =>
        have h3 := List.head?_dropWhile_not ([45].contains ·) l.reverse; rw [hd] at h3; have h4 := h1 x (by rw [hd]; simp); simp at h3 h4; exact absurd h4 h3
    unfold Lib.trimRightS at h2; have h5 := (dropWhile_nil_iff _).1 (List.reverse_eq_nil_iff.1 h2) c (by simpa using hc); simpa using h5
  · intro h; rw [List.all_eq_true] at h
    have h1 : Lib.trimRightS l [45] = [] := by
      unfold Lib.trimRightS; rw [(dropWhile_nil_iff _).2 (fun c hc => by have := h c (by simpa using hc); simpa using this)]; rfl
    unfold Lib.trimS; rw [h1]; rfl
theorem sep_one (l : List UInt8) : isSepM l = true ↔ ∃ b n, l = List.replicate n b ∧ (b = 46 ∧ n = 1 ∨ b = 95 ∧ (n = 1 ∨ n = 2) ∨ b = 45 ∧ 1 ≤ n) := by
  unfold isSepM; rw [trim_dashes]; constructor
  · intro h; simp only [Bool.or_eq_true, Bool.and_eq_true, beq_iff_eq, Bool.not_eq_true', List.isEmpty_eq_false_iff, List.all_eq_true] at h; rcases h with ((h | h) | h) | ⟨h1, h2⟩
    · exact ⟨46, 1, h, .inl ⟨rfl, rfl⟩⟩
    · exact ⟨95, 1, h, .inr (.inl ⟨rfl, .inl rfl⟩)⟩
    · exact ⟨95, 2, h, .inr (.inl ⟨rfl, .inr rfl⟩)⟩
    · exact ⟨45, l.length, all_eq_rep h2, .inr (.inr ⟨rfl, List.length_pos_iff.2 h1⟩)⟩
  · rintro ⟨b, n, rfl, ⟨rfl, rfl⟩ | ⟨rfl, rfl | rfl⟩ | ⟨rfl, hn⟩⟩
    · rfl
    · rfl
    · rfl
    · have : (List.replicate n (45 : UInt8)).all (· == 45) = true := by simp
      rw [this]
      cases n with
      | zero => omega
      | succ n => simp
theorem sepN_at {w : List UInt8} {b : UInt8} (hb : w[0]? = some b) {n : Nat} (hn : n ≤ w.length) (h1 : ∀ (j : Nat) c, j < n → w[j]? = some c → c = b) (h2 : ∀ c, w[n]? = some c → c ≠ b ∨ b = 47) (h3 : b = 47 → n = 0) : sepN w = n := by
  cases w with
  | nil => simp at hb
  | cons x r =>
    simp at hb; subst hb; show (if x = 47 then 0 else _) = n; by_cases h47 : x = 47
    · rw [if_pos h47, h3 h47]
    · rw [if_neg h47]
      exact takeWhile_len _ _ hn (fun j c hj hc => by simp [h1 j c hj hc]) (fun c hc => by
        rcases h2 c hc with h | h
        · simpa using h
        · exact absurd h h47)
theorem sep_seps {b : UInt8} (h : b = 46 ∨ b = 95 ∨ b = 45) : sepsB.contains b = true ∧ b ≠ 47 ∧ lettersB.contains b = false := by
  rcases h with rfl | rfl | rfl <;> decide
theorem seps_low {b : UInt8} (h : sepsB.contains b = true) : lettersB.contains b = false := by
  have : b = 46 ∨ b = 95 ∨ b = 45 := by simpa [sepsB] using h
  exact (sep_seps this).2.2
theorem part_same : ∀ (k : Nat) (s : List UInt8), partD k s = partM k s
  | 0, _ => rfl
  | k + 1, s => by
    unfold partD partM; by_cases h1 : (wordR s).length = s.length
    · rw [if_pos h1, if_pos h1]
    rw [if_neg h1, if_neg h1]; by_cases h2 : wordR s = []
    · rw [if_pos h2, if_pos h2]
    rw [if_neg h2, if_neg h2]; generalize hw : wordR s = w at *; obtain ⟨n, hn, hs1, hs2, hd, ht⟩ := seps_split w; rw [ht, hd]
    obtain ⟨b, hb⟩ : ∃ b, w[0]? = some b := by
      cases w with
      | nil => exact absurd rfl h2
      | cons x r => exact ⟨x, rfl⟩
    cases hsp : isSepM (w.take n) with
    | true =>
      obtain ⟨c, m, he, hc⟩ := (sep_one _).1 hsp
      have hm : m = n := by
        have := congrArg List.length he; rw [List.length_take, List.length_replicate] at this; omega
      subst hm
      have hm1 : 1 ≤ m := by
        rcases hc with ⟨_, h⟩ | ⟨_, h⟩ | ⟨_, h⟩ <;> omega
      have hcb : c = b := by
        have h3 : (w.take m)[0]? = some b := by rw [List.getElem?_take, if_pos (by omega)]; exact hb
        rw [he, List.getElem?_replicate, if_pos (by omega)] at h3; simpa using h3
      subst hcb
      have hc3 : c = 46 ∨ c = 95 ∨ c = 45 := by
        rcases hc with h | h | h
        · exact .inl h.1
        · exact .inr (.inl h.1)
        · exact .inr (.inr h.1)
      have hN : sepN w = m := sepN_at hb hn (fun j d hj hd => by
        have h3 : (w.take m)[j]? = some d := by rw [List.getElem?_take, if_pos hj]; exact hd
        rw [he, List.getElem?_replicate, if_pos hj] at h3
        simpa using h3.symm) (fun d hd => Or.inl (fun h => by
          subst h; have := hs2 d hd; rw [(sep_seps hc3).1] at this; cases this)) (fun h => absurd h (sep_seps hc3).2.1)
      have hok : sepOk w = true := by
        cases w with
        | nil => simp at hb
        | cons x r =>
          simp at hb; subst hb; unfold sepOk; rw [hN]; simp only [Bool.or_eq_true, decide_eq_true_eq]; rcases hc with h | h | h
          · exact .inl (.inl h)
          · exact .inl (.inr h)
          · exact .inr h
      rw [if_pos hok, if_pos rfl, hN]; exact part_same k _
    | false =>
      by_cases hok : sepOk w = true
      · rw [if_pos hok]; show _ = false
        -- a part of the separators: the next round finds no word
        have hNle : sepN w ≤ w.length ∧ (∀ (j : Nat) c, j < sepN w → w[j]? = some c → c = b) ∧ (b = 46 ∧ sepN w = 1 ∨ b = 95 ∧ (sepN w = 1 ∨ sepN w = 2) ∨ b = 45 ∧ 1 ≤ sepN w) := by
          cases w with
          | nil => simp at hb
          | cons x r =>
            simp at hb; subst hb; unfold sepOk at hok; simp only [Bool.or_eq_true, decide_eq_true_eq] at hok; have h47 : x ≠ 47 := by rintro rfl; rcases hok with (h | h) | h <;> exact absurd h.1 (by decide)
            have hN : sepN (x :: r) = ((x :: r).takeWhile (· == x)).length := by show (if x = 47 then 0 else _) = _; rw [if_neg h47]
            refine ⟨?_, ?_, by rcases hok with (h | h) | h; exact .inl h; exact .inr (.inl h); exact .inr (.inr h)⟩
            · rw [hN]; exact (List.takeWhile_sublist _).length_le
            · intro j c hj hc; rw [hN] at hj; have := (takeWhile_facts (· == x) (x :: r)).1 j c hj hc; simpa using this
        obtain ⟨hle, hsame, hkind⟩ := hNle
        have hb3 : b = 46 ∨ b = 95 ∨ b = 45 := by
          rcases hkind with h | h | h
          · exact .inl h.1
          · exact .inr (.inl h.1)
          · exact .inr (.inr h.1)
        have hNn : sepN w ≤ n := by
          rcases Nat.lt_or_ge n (sepN w) with h | h
          · exfalso; obtain ⟨c, hc⟩ : ∃ c, w[n]? = some c := ⟨_, List.getElem?_eq_getElem (by omega)⟩
            have h4 := hs2 c hc; rw [hsame n c h hc, (sep_seps hb3).1] at h4; cases h4
          · exact h
        have hlt : sepN w < n := by
          rcases Nat.lt_or_ge (sepN w) n with h | h
          · exact h
          · exfalso; have he : sepN w = n := by omega
            rw [he] at hsame hkind
            have h5 : isSepM (w.take n) = true := (sep_one _).2 ⟨b, n, by
              have h6 := all_eq_rep (l := w.take n) (b := b) (fun c hc => by
                obtain ⟨j, hj⟩ := List.mem_iff_getElem?.1 hc; rw [List.getElem?_take] at hj
                split at hj
                · rename_i hjn; exact hsame j c hjn hj
                · cases hj)
              rw [List.length_take, Nat.min_eq_left hn] at h6
              exact h6, hkind⟩
            rw [hsp] at h5; cases h5
        exact (partM_stuck (fun c hc => by
          rw [List.getElem?_drop, Nat.add_zero] at hc
          exact seps_low (hs1 _ c hlt hc))).2
      · rw [if_neg hok]; rfl
end Go.Proofs.YtkghgaopcgcheaaGreatDoor
namespace Go.Proofs.YtkghgaopcgcheaaGreatDoor
open Go.RowKit Go.Shelf
theorem ref15_low (b : UInt8) (w : World) :
    Calls Tryz.prog 164 #[.int .u8 (b.toNat : Nat)] w fun e w' => e = .returned (.bool (lettersB.contains b)) ∧ w' = w := by
  rw [low_letters]; have HD := Lib.hid (show lowD b = (decide (97 ≤ b.toNat ∧ b.toNat ≤ 122) || decide (48 ≤ b.toNat ∧ b.toNat ≤ 57)) from rfl); have b8 := u8_nat b; by_cases h1 : 97 ≤ b.toNat
  · by_cases h2 : b.toNat ≤ 122
    · have HR := Lib.hid (show lowD b = true by rw [HD.out]; simp; omega); go_enter Tryz.func164, Tryz.ntmps164; have i1 : (97 : Int) ≤ (b.toNat : Int) := by omega
      have i2 : (b.toNat : Int) ≤ 122 := by omega
      clear h1 h2; go_wp2_with fail; go_ret; exact ⟨ret_bool HR.out.symm, rfl⟩
    · have HR := Lib.hid (show lowD b = false by rw [HD.out]; simp; omega); go_enter Tryz.func164, Tryz.ntmps164; have i1 : (97 : Int) ≤ (b.toNat : Int) := by omega
      have i2 : ¬ (b.toNat : Int) ≤ 122 := by omega
      have i3 : (48 : Int) ≤ (b.toNat : Int) := by omega
      have i4 : ¬ (b.toNat : Int) ≤ 57 := by omega
      clear h1 h2; go_wp2_with fail; go_ret; exact ⟨ret_bool HR.out.symm, rfl⟩
  · by_cases h3 : 48 ≤ b.toNat
    · by_cases h4 : b.toNat ≤ 57
      · have HR := Lib.hid (show lowD b = true by rw [HD.out]; simp; omega); go_enter Tryz.func164, Tryz.ntmps164; have i1 : ¬ (97 : Int) ≤ (b.toNat : Int) := by omega
        have i3 : (48 : Int) ≤ (b.toNat : Int) := by omega
        have i4 : (b.toNat : Int) ≤ 57 := by omega
        clear h1 h3 h4; go_wp2_with fail; go_ret; exact ⟨ret_bool HR.out.symm, rfl⟩
      · have HR := Lib.hid (show lowD b = false by rw [HD.out]; simp; omega); go_enter Tryz.func164, Tryz.ntmps164; have i1 : ¬ (97 : Int) ≤ (b.toNat : Int) := by omega
        have i3 : (48 : Int) ≤ (b.toNat : Int) := by omega
        have i4 : ¬ (b.toNat : Int) ≤ 57 := by omega
        clear h1 h3 h4; go_wp2_with fail; go_ret; exact ⟨ret_bool HR.out.symm, rfl⟩
    · have HR := Lib.hid (show lowD b = false by rw [HD.out]; simp; omega); go_enter Tryz.func164, Tryz.ntmps164; have i1 : ¬ (97 : Int) ≤ (b.toNat : Int) := by omega
      have i3 : ¬ (48 : Int) ≤ (b.toNat : Int) := by omega
      clear h1 h3; go_wp2_with fail; go_ret; exact ⟨ret_bool HR.out.symm, rfl⟩
theorem wordR_step {s : List UInt8} {i : Nat} {c : UInt8} (hc : s[i]? = some c) (hl : lettersB.contains c = true) : wordR (s.drop i) = wordR (s.drop (i + 1)) := by
  have hlt := (List.getElem?_eq_some_iff.1 hc).1; have hci := (List.getElem?_eq_some_iff.1 hc).2; rw [List.drop_eq_getElem_cons hlt, hci]; unfold wordR Lib.trimLeftS; rw [List.dropWhile_cons, if_pos hl]
theorem wordR_stop {s : List UInt8} {i : Nat} (h : ∀ c, s[i]? = some c → lettersB.contains c = false) : wordR (s.drop i) = s.drop i := by
  unfold wordR Lib.trimLeftS; rcases Nat.lt_or_ge i s.length with hlt | hge
  · have := h _ (List.getElem?_eq_getElem hlt); rw [List.drop_eq_getElem_cons hlt, List.dropWhile_cons, if_neg (by rw [this]; simp)]
  · rw [List.drop_eq_nil_of_le hge]; rfl
theorem b_ne {b : UInt8} {n : Nat} (hn : n < 256) (h : b ≠ UInt8.ofNat n) : b.toNat ≠ n := fun h9 => h (UInt8.toNat_inj.1 (by rw [h9, UInt8.toNat_ofNat']; omega))
theorem sepOk_at {w : List UInt8} {b : UInt8} (hb : w[0]? = some b) : sepOk w = (decide (b = 46 ∧ sepN w = 1) || decide (b = 95 ∧ (sepN w = 1 ∨ sepN w = 2)) || decide (b = 45 ∧ 1 ≤ sepN w)) := by
  cases w with
  | nil => simp at hb
  | cons x r => simp at hb; subst hb; rfl
theorem wordR_len {s : List UInt8} {i m : Nat} (hi : i ≤ s.length) (_him : i ≤ m) (hm : m ≤ s.length) (h : wordR (s.drop i) = s.drop m) : (wordR (s.drop i)).length = (s.drop i).length ↔ m = i := by
  rw [h, List.length_drop, List.length_drop]; omega
theorem ref15_part (s : List UInt8) (w : World) (hs : s.length ≤ 128) :
    Calls Tryz.prog 163 #[.string (S s)] w fun e w' => e = .returned (.bool (isPartM s)) ∧ Keep [] w w' := by
  have HM := Lib.hid (show isPartM s = partD (s.length + 1) s by rw [part_same]; rfl); have HLo := Lib.hid (fun (b : UInt8) w' => ref15_low b w'); have sS := S_size s; go_enter Tryz.func163, Tryz.ntmps163; go_wp2_with fail
  go_loopg [3] s.length (fun g iv wr => ∃ i : Nat, iv = .int .i64 (i : Nat) ∧ i ≤ s.length ∧ s.length - i ≤ g ∧ Hid (isPartM s = partD (g + 1) (s.drop i)) ∧ Hid (Keep [] w wr))
  case atStart => exact ⟨0, rfl, by omega, by omega, Lib.hid (by rw [HM.out]; rfl), Lib.hid (Keep.refl _ _)⟩
  case round =>
    obtain ⟨i, rfl, hi, hg, HE, HK⟩ := hrel; generalize hwr : wr = wi at *; clear hwr; obtain ⟨go, hgo⟩ : ∃ go, go = gk := ⟨_, rfl⟩
    have HE2 := Lib.hid (show isPartM s = (if (wordR (s.drop i)).length = (s.drop i).length then false else if wordR (s.drop i) = [] then true
      else if sepOk (wordR (s.drop i)) then partD go ((wordR (s.drop i)).drop (sepN (wordR (s.drop i)))) else false) by rw [hgo]; exact HE.out)
    clear HE; have hgL : s.length - i ≤ go := by omega
    go_wp2_with fail
    go_loopg [3] (s.length - i) (fun g iv wr => ∃ m : Nat, iv = .int .i64 (m : Nat) ∧ i ≤ m ∧ m ≤ s.length ∧ g = s.length - m ∧ Hid (wordR (s.drop i) = wordR (s.drop m)) ∧ wi = wr)
    case atStart => exact ⟨i, rfl, by omega, hi, rfl, Lib.hid rfl, rfl⟩
    case round =>
      obtain ⟨m, rfl, him, hm, hgm, HW, rfl⟩ := hrel; by_cases hml : m < s.length
      · obtain ⟨b, hb⟩ : ∃ b, s[m]? = some b := ⟨_, List.getElem?_eq_getElem hml⟩
        have HB := Lib.hid hb; have hget := S_get hb; have b8 := u8_nat b; have wk := IntWalk.i64_in ((m : Int) + 1) (by omega); have mlt : (m : Int) < (s.length : Int) := by omega
        clear hb
        cases hlo : lettersB.contains b with
        | true =>
          have HL2 := Lib.hid (fun w' => show Calls Tryz.prog 164 #[.int .u8 (b.toNat : Nat)] w' fun e w1 => e = .returned (.bool true) ∧ w1 = w' by have := HLo.out b w'; rwa [hlo] at this); have HLB := Lib.hid hlo; clear hlo; go_wp2_with (go_at_call 164; refine (HL2.out _).mono ?_; rintro e w1 ⟨rfl, rfl⟩)
          go_roundg (s.length - (m + 1))
          case measure => omega
          case rel => exact ⟨m + 1, by go_num, by omega, by omega, rfl, Lib.hid (by rw [HW.out, wordR_step HB.out HLB.out]), rfl⟩
        | false =>
          have HL2 := Lib.hid (fun w' => show Calls Tryz.prog 164 #[.int .u8 (b.toNat : Nat)] w' fun e w1 => e = .returned (.bool false) ∧ w1 = w' by have := HLo.out b w'; rwa [hlo] at this); have HW2 := Lib.hid (show wordR (s.drop i) = s.drop m by rw [HW.out]; exact wordR_stop (fun c hc => by rw [HB.out] at hc; cases hc; exact hlo)); have HLB := Lib.hid hlo; clear hlo; by_cases hmi : m = i
          · have q1 := (nat_eq hmi).1; have HR := Lib.hid (show isPartM s = false by rw [HE2.out, if_pos ((wordR_len hi him hm HW2.out).2 hmi)]); clear hmi; go_wp2_with (go_at_call 164; refine (HL2.out _).mono ?_; rintro e w1 ⟨rfl, rfl⟩); go_ret; exact ⟨ret_bool HR.out.symm, HK.out⟩
          · have q1 := (nat_ne hmi).1; have q2 := (nat_ne (show m ≠ s.length by omega)).1
            have HR := Lib.hid (show isPartM s = (if sepOk (s.drop m) then partD go ((s.drop m).drop (sepN (s.drop m))) else false) by
              rw [HE2.out, if_neg (fun h => hmi ((wordR_len hi him hm HW2.out).1 h)), HW2.out, if_neg (fun h => by have := congrArg List.length h; rw [List.length_drop] at this; simp at this; omega)])
            have hb0 : (s.drop m)[0]? = some b := by rw [List.getElem?_drop, Nat.add_zero]; exact HB.out
            have HB0 := Lib.hid hb0; clear HE2 HW hb0
            go_upto_block 4 with (go_at_call 164; refine (HL2.out _).mono ?_; rintro e w1 ⟨rfl, rfl⟩)
            go_cut [3] from 28 to 55 (fun jv wx => ∃ j : Nat, jv = .int .i64 (j : Nat) ∧ m ≤ j ∧ j ≤ s.length ∧ Hid (sepN (s.drop m) = j - m) ∧ Hid (Keep [] w wx))
            case first =>
              go_wp2_with fail
              go_loopg [3] (s.length - m) (fun g iv wr => ∃ j : Nat, iv = .int .i64 (j : Nat) ∧ m ≤ j ∧ j ≤ s.length ∧ g = s.length - j ∧ Hid (∀ (x : Nat) c, x < j - m → (s.drop m)[x]? = some c → c = b) ∧ Hid (m < j → b ≠ 47) ∧ Hid (Keep [] w wr))
              case atStart => exact ⟨m, rfl, by omega, hm, rfl, Lib.hid (fun x c h => by omega), Lib.hid (fun h => by omega), HK⟩
              case round =>
                obtain ⟨j, rfl, hmj, hj, hgj, HA, H47, HK2⟩ := hrel; by_cases hgoes : ∃ c, s[j]? = some c ∧ c = b ∧ b ≠ 47
                · obtain ⟨c, hc, rfl, h47⟩ := hgoes; have hget2 := S_get hc; have hjl := (List.getElem?_eq_some_iff.1 hc).1; have jlt : (j : Int) < (s.length : Int) := by omega
                  have wk2 := IntWalk.i64_in ((j : Int) + 1) (by omega); have q3 := (int_ne (show (c.toNat : Int) ≠ 47 by have := b_ne (by decide) (show c ≠ UInt8.ofNat 47 from h47); omega)).2; have HC := Lib.hid hc; have HN := Lib.hid h47; clear hc h47; go_wp2_with fail; go_quiet ((go_at_call 164; exact Calls.quiet_of_same (HL2.out _))); go_wp2_with fail
                  go_roundg (s.length - (j + 1))
                  case measure => omega
                  case rel => exact ⟨j + 1, by go_num, by omega, by omega, rfl, Lib.hid (fun x d hx hd => by
                    rcases Nat.lt_or_ge x (j - m) with h | h
                    · exact HA.out x d h hd
                    · have : x = j - m := by omega
                      subst this; rw [List.getElem?_drop, show m + (j - m) = j by omega, HC.out] at hd
                      exact (Option.some.inj hd).symm), Lib.hid (fun _ => HN.out), Lib.hid (HK2.out.drewN _)⟩
                · have hstop : ∀ c, (s.drop m)[j - m]? = some c → c ≠ b ∨ b = 47 := fun c hc => by
                    rw [List.getElem?_drop, show m + (j - m) = j by omega] at hc; rcases Decidable.em (b = 47) with h | h
                    · exact .inr h
                    · exact .inl (fun h2 => hgoes ⟨c, hc, h2, h⟩)
                  have HN := Lib.hid (show sepN (s.drop m) = j - m from sepN_at HB0.out (by rw [List.length_drop]; omega) HA.out hstop (fun h => by
                    rcases Nat.lt_or_ge m j with h1 | h1
                    · exact absurd h (H47.out h1)
                    · omega))
                  have HS := Lib.hid hstop; clear hgoes hstop; by_cases hjl : j < s.length
                  · obtain ⟨c, hc⟩ : ∃ c, s[j]? = some c := ⟨_, List.getElem?_eq_getElem hjl⟩
                    have hget2 := S_get hc; have c8 := u8_nat c; have jlt : (j : Int) < (s.length : Int) := by omega
                    have hcs := HS.out c (by rw [List.getElem?_drop, show m + (j - m) = j by omega]; exact hc); by_cases hcb : c = b
                    · have h47 : b = 47 := by
                        rcases hcs with h | h
                        · exact absurd hcb h
                        · exact h
                      subst hcb; have q3 := (int_eq (show (c.toNat : Int) = 47 by rw [h47]; rfl)).2; have q4 := (int_eq (show (c.toNat : Int) = (c.toNat : Int) from rfl)).1; clear hc hcs h47; go_wp2_with fail; go_quiet (fail); go_wp2_with fail; go_meet; exact ⟨j, rfl, hmj, hj, HN, Lib.hid (HK2.out.drewN _)⟩
                    · have q3 := (nat_ne (show c.toNat ≠ b.toNat from fun h => hcb (UInt8.toNat_inj.1 h))).1; clear hc hcs hcb; go_wp2_with fail; go_quiet (fail); go_wp2_with fail; go_meet; exact ⟨j, rfl, hmj, hj, HN, Lib.hid (HK2.out.drewN _)⟩
                  · have jlt : ¬ (j : Int) < (s.length : Int) := by omega
                    go_wp2_with fail; go_quiet (fail); go_wp2_with fail; go_meet; exact ⟨j, rfl, hmj, hj, HN, Lib.hid (HK2.out.drewN _)⟩
            case rest =>
            obtain ⟨j, rfl, hmj, hj, HN, HK2⟩ := hcut; have HOk := Lib.hid (show sepOk (s.drop m) = (decide (b = 46 ∧ j - m = 1) || decide (b = 95 ∧ (j - m = 1 ∨ j - m = 2)) || decide (b = 45 ∧ 1 ≤ j - m)) by rw [sepOk_at HB0.out, HN.out]); have HR2 := Lib.hid (show isPartM s = (if sepOk (s.drop m) then partD go (s.drop j) else false) by rw [HR.out, HN.out, List.drop_drop, show m + (j - m) = j by omega]); obtain ⟨n, hn⟩ : ∃ n : Nat, j = m + n := ⟨j - m, by omega⟩
            subst hn; have wk2 := IntWalk.i64_in (((m + n : Nat) : Int) - (m : Int)) (by omega); have en : (((m + n : Nat) : Int) - (m : Int)) = (n : Int) := by omega
            rw [en] at wk2; have en2 : (m : Int) + (n : Int) - (m : Int) = (n : Int) := by omega
            rw [Nat.add_sub_cancel_left] at HOk; have hn8 : n ≤ 128 := by omega
            have HI := Lib.hid him; clear HR HN; have hbN : ∀ n : Nat, n < 256 → b ≠ UInt8.ofNat n → (b.toNat : Int) ≠ (n : Nat) := fun n hn h => by have := b_ne hn h; omega
            by_cases h46 : b = 46
            · have q3 := (int_eq (show (b.toNat : Int) = 46 by rw [h46]; rfl)).1; by_cases hn1 : n = 1
              · have q4 := (int_eq (show (n : Int) = 1 by omega)).1; have HF := Lib.hid (show isPartM s = partD go (s.drop (m + n)) by rw [HR2.out, HOk.out, if_pos (by simp [h46, hn1])]); clear HR2 HOk h46 hbN; go_wp2_with fail
                go_roundg (go - 1)
                case measure => omega
                case rel => exact ⟨m + n, by go_num, by omega, by omega, Lib.hid (by rw [HF.out]; congr 1; omega), HK2⟩
              · have q4 := (int_ne (show (n : Int) ≠ 1 by omega)).1; have q5 := (int_ne (show (46 : Int) ≠ 95 by decide)).1; have q7 := (int_ne (show (46 : Int) ≠ 45 by decide)).1; have e46 : (b.toNat : Int) = 46 := by rw [h46]; rfl
                rw [← e46] at q5 q7; have HF := Lib.hid (show isPartM s = false by rw [HR2.out, HOk.out, if_neg (by simp [h46, hn1])]); clear HR2 HOk h46 hbN e46; go_wp2_with fail; go_ret; exact ⟨ret_bool HF.out.symm, HK2.out⟩
            · have q3 := (int_ne (show (b.toNat : Int) ≠ 46 from hbN 46 (by decide) h46)).1; by_cases h95 : b = 95
              · have q5 := (int_eq (show (b.toNat : Int) = 95 by rw [h95]; rfl)).1; by_cases hn1 : n = 1
                · have q4 := (int_eq (show (n : Int) = 1 by omega)).1; have HF := Lib.hid (show isPartM s = partD go (s.drop (m + n)) by rw [HR2.out, HOk.out, if_pos (by simp [h95, hn1])]); clear HR2 HOk h46 h95 hbN; go_wp2_with fail
                  go_roundg (go - 1)
                  case measure => omega
                  case rel => exact ⟨m + n, by go_num, by omega, by omega, Lib.hid (by rw [HF.out]; congr 1; omega), HK2⟩
                · have q4 := (int_ne (show (n : Int) ≠ 1 by omega)).1; by_cases hn2 : n = 2
                  · have q6 := (int_eq (show (n : Int) = 2 by omega)).1; have HF := Lib.hid (show isPartM s = partD go (s.drop (m + n)) by rw [HR2.out, HOk.out, if_pos (by simp [h95, hn2])]); clear HR2 HOk h46 h95 hbN; go_wp2_with fail
                    go_roundg (go - 1)
                    case measure => omega
                    case rel => exact ⟨m + n, by go_num, by omega, by omega, Lib.hid (by rw [HF.out]; congr 1; omega), HK2⟩
                  · have q6 := (int_ne (show (n : Int) ≠ 2 by omega)).1; have q7 := (int_ne (show (95 : Int) ≠ 45 by decide)).1; have e95 : (b.toNat : Int) = 95 := by rw [h95]; rfl
                    rw [← e95] at q7; have HF := Lib.hid (show isPartM s = false by rw [HR2.out, HOk.out, if_neg (by simp [h95, hn1, hn2])]); clear HR2 HOk h46 h95 hbN e95; go_wp2_with fail; go_ret; exact ⟨ret_bool HF.out.symm, HK2.out⟩
              · have q5 := (int_ne (show (b.toNat : Int) ≠ 95 from hbN 95 (by decide) h95)).1; by_cases h45 : b = 45
                · have q7 := (int_eq (show (b.toNat : Int) = 45 by rw [h45]; rfl)).1; by_cases hn1 : 1 ≤ n
                  · have q8 : (1 : Int) ≤ (n : Int) := by omega
                    have HF := Lib.hid (show isPartM s = partD go (s.drop (m + n)) by rw [HR2.out, HOk.out, if_pos (by simp [h45]; omega)]); clear HR2 HOk h46 h95 h45 hbN; go_wp2_with fail
                    go_roundg (go - 1)
                    case measure => omega
                    case rel => exact ⟨m + n, by go_num, by omega, by omega, Lib.hid (by rw [HF.out]; congr 1; omega), HK2⟩
                  · have q8 : ¬ (1 : Int) ≤ (n : Int) := by omega
                    have HF := Lib.hid (show isPartM s = false by rw [HR2.out, HOk.out, if_neg (by simp [h45]; omega)]); clear HR2 HOk h46 h95 h45 hbN; go_wp2_with fail; go_ret; exact ⟨ret_bool HF.out.symm, HK2.out⟩
                · have q7 := (int_ne (show (b.toNat : Int) ≠ 45 from hbN 45 (by decide) h45)).1; have HF := Lib.hid (show isPartM s = false by rw [HR2.out, HOk.out, if_neg (by simp [h46, h95, h45])]); clear HR2 HOk h46 h95 h45 hbN; go_wp2_with fail; go_ret; exact ⟨ret_bool HF.out.symm, HK2.out⟩
      · have hme : m = s.length := by omega
        have mlt : ¬ (m : Int) < (s.length : Int) := by omega
        have HW2 := Lib.hid (show wordR (s.drop i) = s.drop m by rw [HW.out]; exact wordR_stop (fun c hc => by rw [hme, List.getElem?_eq_none (Nat.le_refl _)] at hc; cases hc)); by_cases hmi : m = i
        · have q1 := (nat_eq hmi).1; have HR := Lib.hid (show isPartM s = false by rw [HE2.out, if_pos ((wordR_len hi him hm HW2.out).2 hmi)]); clear hmi hml hme; go_wp2_with fail; go_ret; exact ⟨ret_bool HR.out.symm, HK.out⟩
        · have q1 := (nat_ne hmi).1; have q2 := (nat_eq hme).1
          have HR := Lib.hid (show isPartM s = true by
            rw [HE2.out, if_neg (fun h => hmi ((wordR_len hi him hm HW2.out).1 h)), HW2.out, if_pos (by rw [hme, List.drop_length])])
          clear hmi hml hme; go_wp2_with fail; go_ret; exact ⟨ret_bool HR.out.symm, HK.out⟩
end Go.Proofs.YtkghgaopcgcheaaGreatDoor
