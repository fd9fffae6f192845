/- Parts of the proof of ErrandTries, in order. No conditions but those that each theorem states. -/
import Derived.Test.YtlhnjkekjbbhcaaGreatDoorYErrandTries0
import Derived.Laws.BitsAllLaws
import Derived.Lib.SlBytesConst
import Derived.Lib.LaidTab
import Derived.Lib.ItoaNum
import Derived.Lib.ItoaLen
import Derived.Sort.Grow
import Derived.Test.YtlhnjkekjbbhcaaGreatDoorYErrandTries16
set_option linter.unusedSimpArgs false
set_option linter.unusedVariables false
namespace Go.Proofs.YtlhnjkekjbbhcaaGreatDoor
open Go.RowKit
def fNan (b : Nat) : Bool := FloatKind.f64.format.order b b != some .eq
def fInfN (b : Nat) : Bool := FloatKind.f64.format.order (Op.negFloat .f64 b) 9218868437227405311 == some .gt
def fInfP (b : Nat) : Bool := FloatKind.f64.format.order b 9218868437227405311 == some .gt
def fNeg (b : Nat) : Bool := FloatKind.f64.format.order b 0 == some .lt
def fPos (b : Nat) : Bool := FloatKind.f64.format.order b 0 == some .gt
def fZero (b : Nat) : Bool := FloatKind.f64.format.order b 0 == some .eq
def fSign (b : Nat) : Bool := decide (wrap64 (b : Int) < 0)
def fAbs (b : Nat) : Nat := (bits BinOp.andNot IntKind.u64 (b : Int) 9223372036854775808).toNat
def fInf0 (b : Nat) : Bool := FloatKind.f64.format.order (fAbs b) 9218868437227405311 == some .gt
def fCopy (a s : Nat) : Nat := (bits BinOp.or IntKind.u64 (bits BinOp.andNot IntKind.u64 (a : Int) 9223372036854775808) (bits BinOp.and IntKind.u64 (s : Int) 9223372036854775808)).toNat
def fMul (a b : Nat) : Nat := (FloatKind.f64.format.mul a b).getD 0
def fTiny (b : Nat) : Bool := FloatKind.f64.format.order (fAbs b) 4503599627370496 == some .lt
def clsM (b : Nat) : Int := if fNan b then 1 else if fInfN b then 2 else if fInfP b then 7 else if fNeg b then 3 else if fPos b then 6 else if fSign b then 4 else 5
def goodSp (b : Nat) : Bool := decide (4 ≤ clsM b)
def fLess (a b : Nat) : Bool := if clsM a = clsM b then FloatKind.f64.format.order a b == some .lt else decide (clsM a < clsM b)
def withinM (age : Int) (b : Nat) : Bool := goodSp b && (decide (0 ≤ age) && (FloatKind.f64.format.order (floatOfInt .f64 age) b == some .lt))
def expM (f : Nat) (n k : Int) : Int := wrap64 (n + k + wrap64 (bits BinOp.and IntKind.i64 (wrap64 ((f : Int) / 4503599627370496)) 2047 - 1023))
def pieceM (f : Nat) (y : Int) : Nat := (bits BinOp.or IntKind.u64 (bits BinOp.andNot IntKind.u64 (f : Int) 9218868437227405312) ((y + 1023) * 4503599627370496)).toNat
def normM (b : Nat) : Nat := if fTiny b then fMul b 4841369599423283200 else b
def normK (b : Nat) : Int := if fTiny b then -52 else 0
def ldexpM (b : Nat) (n : Int) : Nat :=
  if fInf0 b then b
  else if expM (normM b) n (normK b) < -1075 then fCopy 0 (normM b)
  else if 1023 < expM (normM b) n (normK b) then (if fNeg (normM b) then 18442240474082181120 else 9218868437227405312)
  else if expM (normM b) n (normK b) < -1022 then fMul 4368491638549381120 (pieceM (normM b) (expM (normM b) n (normK b) + 53))
  else fMul 4607182418800017408 (pieceM (normM b) (expM (normM b) n (normK b)))
def clampM (y : Nat) : Nat := if fLess y 0 then 0 else if fLess 4697254411347427328 y then 4697254411347427328 else y
def ceilM (z : Nat) : Nat := FloatKind.f64.encode ((FloatKind.f64.decode z).integral .up)
def intM (z : Nat) : Int := (floatToIntVal .f64 z .i64).getD 0
def waitM (b : Nat) (try_ : Int) : Int := if goodSp b = false ∨ try_ < 1 ∨ fZero b = true then 0 else intM (ceilM (clampM (ldexpM b (min try_ 60 - 1))))
def isNum (b : Nat) : Prop := ∃ s m p, FloatKind.f64.format.read b = .number s m p
theorem nan_of_read {b : Nat} {s : Bool} {t : Nat} (h : FloatKind.f64.format.read b = .nan s t) : fNan b = true := by
  unfold fNan Ieee.Format.order; rw [h]; rfl
theorem cmp_self (a : Int) : compare a a = .eq := by simp [compare, compareOfLessAndEq]
theorem nan_of_num {b : Nat} (h : isNum b) : fNan b = false := by
  obtain ⟨s, m, p, h⟩ := h; unfold fNan Ieee.Format.order; rw [h]; simp only [Ieee.Datum.order, cmp_self]; rfl
theorem nan_of_inf {b : Nat} {s : Bool} (h : FloatKind.f64.format.read b = .infinity s) : fNan b = false := by
  unfold fNan Ieee.Format.order; rw [h]; cases s <;> rfl
theorem sW : FloatKind.f64.format.signWeight = 9223372036854775808 := rfl
theorem bN : FloatKind.f64.format.binade = 4503599627370496 := rfl
theorem iR : FloatKind.f64.format.infRung = 9218868437227405312 := rfl
theorem lP : FloatKind.f64.format.leastPlace = -1074 := rfl
theorem read_eq (b : Nat) : FloatKind.f64.format.read b = (if b % 9223372036854775808 < 4503599627370496 then .number (b / 9223372036854775808 % 2 == 1) (b % 9223372036854775808) (-1074)
    else if b % 9223372036854775808 < 9218868437227405312 then .number (b / 9223372036854775808 % 2 == 1) (4503599627370496 + b % 9223372036854775808 % 4503599627370496) (-1074 + (b % 9223372036854775808 / 4503599627370496 - 1 : Nat))
    else if b % 9223372036854775808 = 9218868437227405312 then .infinity (b / 9223372036854775808 % 2 == 1) else .nan (b / 9223372036854775808 % 2 == 1) (b % 9223372036854775808 - 9218868437227405312)) := rfl
theorem num_of_lt {b : Nat} (h : b % 9223372036854775808 < 9218868437227405312) : isNum b := by
  unfold isNum; rw [read_eq]; by_cases h1 : b % 9223372036854775808 < 4503599627370496
  · rw [if_pos h1]; exact ⟨_, _, _, rfl⟩
  · rw [if_neg h1, if_pos h]; exact ⟨_, _, _, rfl⟩
theorem notNan_iff (b : Nat) : fNan b = false ↔ b % 9223372036854775808 ≤ 9218868437227405312 := by
  constructor
  · intro h; have hr := read_eq b
    split at hr
    · omega
    · split at hr
      · omega
      · split at hr
        · omega
        · rw [nan_of_read hr] at h; cases h
  · intro h; by_cases h1 : b % 9223372036854775808 < 9218868437227405312
    · exact nan_of_num (num_of_lt h1)
    · have hr := read_eq b; rw [if_neg (by omega), if_neg h1, if_pos (by omega)] at hr; exact nan_of_inf hr
theorem word_notNan (s : Bool) {r : Nat} (h : r ≤ 9218868437227405312) : fNan (FloatKind.f64.format.word s r) = false := by
  rw [notNan_iff]; unfold Ieee.Format.word; rw [sW]; cases s <;> simp <;> omega
theorem nearest_notNan (s : Bool) (m : Nat) (p : Int) : fNan (FloatKind.f64.format.nearest s m p) = false := by
  unfold Ieee.Format.nearest
  split
  · exact word_notNan s (by omega)
  · exact word_notNan s (by rw [iR]; omega)
theorem mul_num {a b : Nat} (ha : isNum a) (hb : isNum b) : FloatKind.f64.format.mul a b = some (fMul a b) ∧ fNan (fMul a b) = false ∧ fMul a b < 18446744073709551616 := by
  obtain ⟨s, m, p, ha⟩ := ha; obtain ⟨t, n, q, hb⟩ := hb
  have h : FloatKind.f64.format.mul a b = some (FloatKind.f64.format.nearest (s ^^ t) (m * n) (p + q)) := by
    unfold Ieee.Format.mul; rw [ha, hb]; rfl
  have hl := Ieee.Format.mul_lt _ h; unfold fMul; rw [h]; exact ⟨rfl, nearest_notNan _ _ _, hl⟩
theorem and_not (a : Nat) (ha : a < 18446744073709551616) : bits BinOp.andNot IntKind.u64 (a : Int) 9223372036854775808 = ((a % 9223372036854775808 : Nat) : Int) := by
  have := u64_andNot_nat a 9223372036854775808 ha (by omega); rw [show ((9223372036854775808 : Nat) : Int) = 9223372036854775808 from rfl] at this; rw [this]; congr 1; exact Nat.and_two_pow_sub_one_eq_mod a 63
theorem fAbs_eq {b : Nat} (h : b < 18446744073709551616) : fAbs b = b % 9223372036854775808 := by unfold fAbs; rw [and_not b h]; exact Int.toNat_natCast _
theorem num_of {b : Nat} (hb : b < 18446744073709551616) (h1 : fNan b = false) (h2 : fInf0 b = false) : isNum b := by
  have hle := (notNan_iff b).1 h1; by_cases he : b % 9223372036854775808 = 9218868437227405312
  · exfalso; unfold fInf0 at h2; rw [fAbs_eq hb, he] at h2; exact absurd h2 (by decide)
  · exact num_of_lt (by omega)
theorem piece_num {f : Nat} (hf : f < 18446744073709551616) {y : Int} (h1 : 1 ≤ y + 1023) (h2 : y + 1023 ≤ 2046) : isNum (pieceM f y) := by
  obtain ⟨e, he⟩ : ∃ e : Nat, y + 1023 = e := ⟨(y + 1023).toNat, by omega⟩
  have hA := u64_andNot_nat f 9218868437227405312 hf (by omega); have hA2 : f &&& (18446744073709551615 - 9218868437227405312) < 18446744073709551616 := Nat.lt_of_le_of_lt Nat.and_le_left hf; have hO := u64_or_nat (f &&& (18446744073709551615 - 9218868437227405312)) (e * 4503599627370496) hA2 (by omega)
  have hp : pieceM f y = (f &&& (18446744073709551615 - 9218868437227405312)) ||| e * 4503599627370496 := by
    unfold pieceM; rw [he]; rw [show ((9218868437227405312 : Nat) : Int) = 9218868437227405312 from rfl] at hA; rw [hA, show (e : Int) * 4503599627370496 = ((e * 4503599627370496 : Nat) : Int) by omega, hO]; exact Int.toNat_natCast _
  apply num_of_lt; rw [hp]
  have hq : ((f &&& (18446744073709551615 - 9218868437227405312)) ||| e * 4503599627370496) / 4503599627370496 % 2048 = e := by
    rw [show (4503599627370496 : Nat) = 2 ^ 52 from rfl, show (2048 : Nat) = 2 ^ 11 from rfl, ← Nat.shiftRight_eq_div_pow]; apply Nat.eq_of_testBit_eq; intro i; rw [Nat.testBit_mod_two_pow, Nat.testBit_shiftRight, Nat.testBit_or, Nat.testBit_and, Nat.testBit_mul_two_pow]; by_cases hi : i < 11
    · have hm : (18446744073709551615 - 9218868437227405312).testBit (52 + i) = false := by
        have : ∀ j : Fin 11, (18446744073709551615 - 9218868437227405312).testBit (52 + j.val) = false := by decide +kernel
        exact this ⟨i, hi⟩
      rw [hm]; simp [hi]
    · have : e.testBit i = false := Nat.testBit_lt_two_pow (Nat.lt_of_lt_of_le (show e < 2 ^ 11 by omega) (Nat.pow_le_pow_right (by omega) (by omega))); rw [this]; simp [hi]
  omega
theorem sq_pow (L d : Nat) (h : L + d = 52) : (2 : Nat) ^ d * 2 ^ L = 4503599627370496 := by
  rw [← Nat.pow_add, show d + L = 52 by omega]
theorem near_a {c : Nat} (h0 : 0 < c) (h : c ≤ 1048576) : c.log2 ≤ 20 ∧ 4503599627370496 ≤ c * 2 ^ (52 - c.log2) ∧ c * 2 ^ (52 - c.log2) < 9007199254740992 := by
  have hl1 := Nat.log2_self_le (show c ≠ 0 by omega); have hl2 := @Nat.lt_log2_self c
  have hL : c.log2 ≤ 20 := by
    have : c < 2 ^ 21 := by omega
    have := (Nat.log2_lt (show c ≠ 0 by omega)).2 this; omega
  have hs := sq_pow c.log2 (52 - c.log2) (by omega); refine ⟨hL, ?_, ?_⟩
  · rw [← hs, Nat.mul_comm]; exact Nat.mul_le_mul_right _ hl1
  · have h3 : c * 2 ^ (52 - c.log2) < 2 ^ (c.log2 + 1) * 2 ^ (52 - c.log2) := Nat.mul_lt_mul_of_pos_right hl2 (Nat.pow_pos (by omega))
    have e : 2 ^ (c.log2 + 1) * 2 ^ (52 - c.log2) = 9007199254740992 := by
      rw [Nat.pow_succ, Nat.mul_assoc, Nat.mul_comm 2, ← Nat.mul_assoc, Nat.mul_comm (2 ^ c.log2), hs]
    rw [e] at h3; exact h3
def nearF (c : Nat) : Nat := FloatKind.f64.format.nearest false c 0
theorem word_false (r : Nat) : FloatKind.f64.format.word false r = r := rfl
theorem near_b {c q : Nat} {L : Nat} (h0 : 0 < c) (hl : c.log2 = L) (hL : L ≤ 20) (hq : 2 ^ (52 - L) = q) (hhi : c * q < 9007199254740992) : nearF c = (L + 1022) * 4503599627370496 + c * q := by
  unfold nearF Ieee.Format.nearest; rw [if_neg (by omega)]; have hf : (FloatKind.f64.format.fractionBits : Int) = 52 := rfl; have hlast : max ((0 : Int) + (L : Nat) - 52) (-1074) = (L : Nat) - 52 := by omega
  rw [lP, bN, iR, hf, hl]; simp only [hlast]; have e1 : ((0 : Int) - ((L : Nat) - 52)).toNat = 52 - L := by omega
  have e2 : (((L : Nat) : Int) - 52 - 0).toNat = 0 := by omega
  have e3 : (((L : Nat) : Int) - 52 - -1074).toNat = L + 1022 := by omega
  rw [e1, e2, e3, Nat.shiftLeft_eq, hq, word_false]; unfold Ieee.Toward.cut; simp only [Nat.zero_min, Nat.shiftLeft_zero, Nat.div_one, Nat.mod_one, Nat.mul_zero, Nat.not_lt_zero, decide_false, Bool.false_or]; have h1 : ((1 : Nat) == 0 && c * q % 2 == 1) = false := by simp
  rw [h1]; have h2 : Bool.toNat false = 0 := rfl; rw [h2]; clear h1 h2 e1 e2 e3 hlast hf hq hl h0; generalize c * q = z at *; omega
theorem round_trip {c : Nat} (h : c ≤ 1048576) : floatToIntVal .f64 (FloatKind.f64.encode (.number false c 0)) .i64 = some ((c : Nat) : Int) := by
  by_cases h0 : c = 0
  · subst h0; rfl
  obtain ⟨hL, h1, h2⟩ := near_a (show 0 < c by omega) h; obtain ⟨L, hl⟩ : ∃ L, c.log2 = L := ⟨_, rfl⟩
  obtain ⟨q, hq⟩ : ∃ q, 2 ^ (52 - L) = q := ⟨_, rfl⟩
  rw [hl] at hL h1 h2; rw [hq] at h1 h2; have hn := near_b (show 0 < c by omega) hl hL hq h2; have hen : FloatKind.f64.encode (.number false c 0) = (L + 1022) * 4503599627370496 + c * q := hn
  have hr : FloatKind.f64.decode ((L + 1022) * 4503599627370496 + c * q) = .number false (c * q) (L - 52) := by
    show FloatKind.f64.format.read _ = _; rw [read_eq]; have e1 : ((L + 1022) * 4503599627370496 + c * q) % 9223372036854775808 = (L + 1022) * 4503599627370496 + c * q := Nat.mod_eq_of_lt (by omega); have e2 : ((L + 1022) * 4503599627370496 + c * q) / 9223372036854775808 = 0 := Nat.div_eq_of_lt (by omega); rw [e1, e2, if_neg (by omega), if_pos (by omega)]; have e3 : ((L + 1022) * 4503599627370496 + c * q) % 4503599627370496 = c * q - 4503599627370496 := by omega
    have e4 : ((L + 1022) * 4503599627370496 + c * q) / 4503599627370496 = L + 1023 := by omega
    rw [e3, e4, show 4503599627370496 + (c * q - 4503599627370496) = c * q by omega]; have e5 : (-1074 : Int) + (L + 1023 - 1 : Nat) = L - 52 := by omega
    rw [e5]; rfl
  have hi : (Ieee.Datum.number false (c * q) ((L : Int) - 52)).toInt .zero = some (c : Int) := by
    unfold Ieee.Datum.toInt Ieee.Datum.integral Ieee.Toward.cut; have e1 : ((L : Int) - 52).toNat = 0 := by omega
    have e2 : (-((L : Int) - 52)).toNat = 52 - L := by omega
    simp only [e1, e2, Nat.shiftLeft_zero]
    have hlg : 52 - L ≤ (c * q).log2 + 2 := by
      have : 52 ≤ (c * q).log2 := (Nat.le_log2 (by omega)).2 (by omega); omega
    rw [Nat.min_eq_left hlg, Nat.shiftLeft_eq, Nat.one_mul, hq]; have hq0 : 0 < q := by rw [← hq]; exact Nat.pow_pos (by omega)
    rw [Nat.mul_div_cancel _ hq0]; simp [Ieee.signed]
  unfold floatToIntVal; rw [hen, hr, hi]; simp only; rw [if_pos ⟨by show (-9223372036854775808 : Int) ≤ _; omega, by show _ ≤ (9223372036854775807 : Int); omega⟩]
theorem cut_up_le {n d K : Nat} (h : n ≤ K * 2 ^ d) (hK : 1 ≤ K) : Ieee.Toward.up.cut false n d ≤ K := by
  unfold Ieee.Toward.cut
  have key : ∀ g : Nat, 0 < g → n ≤ K * g → n / g + ((!false && n % g != 0).toNat) ≤ K := fun g hg hn => by
    have h1 : n / g ≤ K := Nat.div_le_of_le_mul (by rw [Nat.mul_comm]; exact hn); by_cases h2 : n % g = 0
    · simp [h2]; exact h1
    · have h3 : n / g < K := by
        rcases Nat.lt_or_ge (n / g) K with h4 | h4
        · exact h4
        · have h5 : n / g = K := by omega
          have h6 := Nat.div_add_mod n g; rw [h5, Nat.mul_comm] at h6; omega
      have h7 := Bool.toNat_le (!false && n % g != 0); omega
  have hmin : (1 <<< min d (n.log2 + 2)) = 2 ^ min d (n.log2 + 2) := by rw [Nat.shiftLeft_eq, Nat.one_mul]
  simp only [hmin]; refine key _ (Nat.pow_pos (by omega)) ?_; rcases Nat.le_total d (n.log2 + 2) with hd | hd
  · rw [Nat.min_eq_left hd]; exact h
  · rw [Nat.min_eq_right hd]; by_cases h0 : n = 0
    · omega
    · have h1 := @Nat.lt_log2_self n; have h2 : n < 2 ^ (n.log2 + 2) := Nat.lt_of_lt_of_le h1 (Nat.pow_le_pow_right (by omega) (by omega)); have h3 : 1 * 2 ^ (n.log2 + 2) ≤ K * 2 ^ (n.log2 + 2) := Nat.mul_le_mul_right _ hK; omega
def okZ (z : Nat) : Prop := ∃ m p, FloatKind.f64.format.read z = .number false m p ∧ m <<< p.toNat ≤ 1048576 * 2 ^ (-p).toNat
theorem okZ_ceil {z : Nat} (h : okZ z) : ∃ c : Nat, c ≤ 1048576 ∧ floatToIntVal .f64 (ceilM z) .i64 = some ((c : Nat) : Int) := by
  obtain ⟨m, p, hr, hle⟩ := h; refine ⟨Ieee.Toward.up.cut false (m <<< p.toNat) (-p).toNat, cut_up_le hle (by omega), ?_⟩
  have : ceilM z = FloatKind.f64.encode (.number false (Ieee.Toward.up.cut false (m <<< p.toNat) (-p).toNat) 0) := by
    unfold ceilM; rw [show FloatKind.f64.decode z = .number false m p from hr]; rfl
  rw [this]; exact round_trip (cut_up_le hle (by omega))
theorem cls_0 : clsM 0 = 5 := by decide +kernel
theorem cls_mx : clsM 4697254411347427328 = 6 := by decide +kernel
theorem cls_cases (y : Nat) : (clsM y = 1 ∧ fNan y = true) ∨ clsM y = 2 ∨ clsM y = 3 ∨ clsM y = 4 ∨ clsM y = 7 ∨ (clsM y = 6 ∧ fPos y = true) ∨ (clsM y = 5 ∧ fNeg y = false ∧ fPos y = false ∧ fSign y = false) := by
  unfold clsM; cases fNan y <;> cases fInfN y <;> cases fInfP y <;> cases fNeg y <;> cases fPos y <;> cases fSign y <;> simp
theorem read_0 : FloatKind.f64.format.read 0 = .number false 0 (-1074) := by decide +kernel
theorem read_mx : FloatKind.f64.format.read 4697254411347427328 = .number false 4503599627370496 (-32) := by decide +kernel
theorem sign_of {y : Nat} {s : Bool} {m : Nat} {p : Int} (hy : y < 18446744073709551616) (h : fSign y = false) (hr : FloatKind.f64.format.read y = .number s m p) : s = false := by
  have h1 : ¬ wrap64 (y : Int) < 0 := by simpa [fSign] using h
  have h2 : y < 9223372036854775808 := by
    rcases Nat.lt_or_ge y 9223372036854775808 with h3 | h3
    · exact h3
    · exfalso; apply h1; unfold wrap64; omega
  rw [read_eq] at hr; have hz : (y / 9223372036854775808 % 2 == 1) = false := by rw [Nat.div_eq_of_lt h2]; rfl
  rw [hz] at hr
  split at hr
  · cases hr; rfl
  · split at hr
    · cases hr; rfl
    · split at hr <;> cases hr
theorem clamp_ok {y : Nat} (hy : y < 18446744073709551616) (hn : fNan y = false) : okZ (clampM y) := by
  unfold clampM; by_cases h0 : fLess y 0 = true
  · rw [if_pos h0]; exact ⟨0, -1074, read_0, by rw [Nat.zero_shiftLeft]; exact Nat.zero_le _⟩
  · rw [if_neg h0]; by_cases h1 : fLess 4697254411347427328 y = true
    · rw [if_pos h1]; exact ⟨_, _, read_mx, by decide +kernel⟩
    · rw [if_neg h1]; unfold fLess at h0 h1; rw [cls_0] at h0; rw [cls_mx] at h1; rcases cls_cases y with ⟨_, h⟩ | h | h | h | h | ⟨h, hp⟩ | ⟨h, hg, hp, hs⟩
      · rw [hn] at h; cases h
      · rw [h] at h0; simp at h0
      · rw [h] at h0; simp at h0
      · rw [h] at h0; simp at h0
      · rw [h] at h1; simp at h1
      · rw [h, if_pos rfl] at h1; unfold fPos Ieee.Format.order at hp; unfold Ieee.Format.order at h1; rw [read_0] at hp; rw [read_mx] at h1
        cases hr : FloatKind.f64.format.read y with
        | nan s t => rw [nan_of_read hr] at hn; cases hn
        | infinity s =>
          rw [hr] at hp h1; cases s
          · simp [Ieee.Datum.order] at h1
          · simp [Ieee.Datum.order] at hp
        | number s m p =>
          rw [hr] at hp h1
          have hsf : s = false := by
            cases s
            · rfl
            · exfalso; simp only [Ieee.Datum.order, Ieee.signed, compare, compareOfLessAndEq, Nat.shiftLeft_eq] at hp; simp only [Bool.false_eq_true, if_false, if_true, Nat.zero_mul] at hp; generalize m * 2 ^ (p - min p (-1074)).toNat = q at hp; by_cases hz : q = 0
              · subst hz; simp at hp
              · rw [if_pos (by omega)] at hp; simp at hp
          subst hsf; refine ⟨m, p, hr, ?_⟩; simp only [Ieee.Datum.order, Ieee.signed, compare, compareOfLessAndEq, Nat.shiftLeft_eq] at h1
          have h2 : ¬ (4503599627370496 * 2 ^ (-32 - min (-32) p).toNat < m * 2 ^ (p - min (-32) p).toNat) := by
            intro h3; apply h1; simp only [Bool.false_eq_true, if_false]; rw [if_pos (by exact_mod_cast h3)]; rfl
          rw [Nat.shiftLeft_eq]; by_cases c1 : 0 ≤ p
          · have e1 : (-32 - min (-32) p).toNat = 0 := by omega
            have e2 : (p - min (-32) p).toNat = p.toNat + 32 := by omega
            have e3 : (-p).toNat = 0 := by omega
            rw [e1, e2, Nat.pow_add] at h2; rw [e3]; generalize 2 ^ p.toNat = q at *; rw [← Nat.mul_assoc] at h2; generalize m * q = z at *; omega
          · have e0 : p.toNat = 0 := by omega
            rw [e0, Nat.pow_zero, Nat.mul_one]; by_cases c2 : -32 ≤ p
            · have e1 : (-32 - min (-32) p).toNat = 0 := by omega
              obtain ⟨d, hd⟩ : ∃ d, (-p).toNat = d := ⟨_, rfl⟩
              have e2 : (p - min (-32) p).toNat = 32 - d := by omega
              rw [e1, e2] at h2; rw [hd]; have e4 : (2 : Nat) ^ d * 2 ^ (32 - d) = 4294967296 := by rw [← Nat.pow_add, show d + (32 - d) = 32 by omega]
              have h5 : m * 2 ^ (32 - d) ≤ 1048576 * 2 ^ d * 2 ^ (32 - d) := by rw [Nat.mul_assoc, e4]; omega
              exact Nat.le_of_mul_le_mul_right h5 (Nat.pow_pos (by omega))
            · obtain ⟨d, hd⟩ : ∃ d, (-32 - min (-32) p).toNat = d := ⟨_, rfl⟩
              have e2 : (p - min (-32) p).toNat = 0 := by omega
              have e3 : (-p).toNat = 32 + d := by omega
              rw [hd, e2] at h2; rw [e3, Nat.pow_add]; generalize 2 ^ d = q at *; omega
      · cases hr : FloatKind.f64.format.read y with
        | nan s t => rw [nan_of_read hr] at hn; cases hn
        | infinity s =>
          unfold fPos Ieee.Format.order at hp; unfold fNeg Ieee.Format.order at hg; rw [read_0, hr] at hp hg; cases s
          · simp [Ieee.Datum.order] at hp
          · simp [Ieee.Datum.order] at hg
        | number s m p =>
          have hsf := sign_of hy hs hr; subst hsf; unfold fPos Ieee.Format.order at hp; rw [read_0, hr] at hp
          have hm : m = 0 := by
            simp only [Ieee.Datum.order, Ieee.signed, compare, compareOfLessAndEq, Nat.shiftLeft_eq] at hp; simp only [Bool.false_eq_true, if_false, Nat.zero_mul] at hp; by_cases hz : m = 0
            · exact hz
            · exfalso; have hpow : 0 < m * 2 ^ (p - min p (-1074)).toNat := Nat.mul_pos (by omega) (Nat.pow_pos (by omega)); rw [if_neg (by omega), if_neg (by omega)] at hp; simp at hp
          subst hm; exact ⟨0, p, hr, by rw [Nat.zero_shiftLeft]; exact Nat.zero_le _⟩
theorem norm_lt {b : Nat} (hb : b < 18446744073709551616) (hn : isNum b) : normM b < 18446744073709551616 := by
  unfold normM
  split
  · exact (mul_num hn (num_of_lt (by decide))).2.2
  · exact hb
theorem copy_0 {f : Nat} (hf : f < 18446744073709551616) : fNan (fCopy 0 f) = false ∧ fCopy 0 f < 18446744073709551616 := by
  have hA := u64_and_nat f 9223372036854775808 hf (by omega); have hle : f &&& 9223372036854775808 ≤ 9223372036854775808 := Nat.and_le_right; have hO := u64_or_nat 0 (f &&& 9223372036854775808) (by omega) (by omega); have h0 : bits BinOp.andNot IntKind.u64 ((0 : Nat) : Int) 9223372036854775808 = ((0 : Nat) : Int) := and_not 0 (by omega)
  have e : fCopy 0 f = f &&& 9223372036854775808 := by
    unfold fCopy; rw [h0]; rw [show ((9223372036854775808 : Nat) : Int) = 9223372036854775808 from rfl] at hA; rw [hA, hO, Nat.zero_or]; exact Int.toNat_natCast _
  have hm : (f &&& 9223372036854775808) % 9223372036854775808 = 0 := by
    rw [show (9223372036854775808 : Nat) = 2 ^ 63 from rfl]; apply Nat.eq_of_testBit_eq; intro i; rw [Nat.testBit_mod_two_pow, Nat.testBit_and, Nat.testBit_two_pow]; simp; omega
  rw [e]; exact ⟨(notNan_iff _).2 (by omega), by omega⟩
theorem ldexp_ok {b : Nat} (hb : b < 18446744073709551616) (hn : fNan b = false) (n : Int) : fNan (ldexpM b n) = false ∧ ldexpM b n < 18446744073709551616 := by
  unfold ldexpM
  split
  · exact ⟨hn, hb⟩
  · rename_i hi; have hN := num_of hb hn (by simpa using hi); have hf := norm_lt hb hN
    split
    · exact copy_0 hf
    · split
      · split <;> exact ⟨by decide +kernel, by decide⟩
      · split
        · have := mul_num (a := 4368491638549381120) (num_of_lt (by decide)) (piece_num hf (y := expM (normM b) n (normK b) + 53) (by omega) (by omega)); exact this.2
        · have := mul_num (a := 4607182418800017408) (num_of_lt (by decide)) (piece_num hf (y := expM (normM b) n (normK b)) (by omega) (by omega)); exact this.2
theorem good_notNan {b : Nat} (h : goodSp b = true) : fNan b = false := by
  cases hn : fNan b
  · rfl
  · unfold goodSp clsM at h; rw [hn] at h; simp at h
theorem wait_int {b : Nat} {n : Int} (hb : b < 18446744073709551616) (hn : fNan b = false) : floatToIntVal .f64 (ceilM (clampM (ldexpM b n))) .i64 = some (intM (ceilM (clampM (ldexpM b n)))) ∧ 0 ≤ intM (ceilM (clampM (ldexpM b n))) ∧ intM (ceilM (clampM (ldexpM b n))) ≤ 1048576 := by
  obtain ⟨h1, h2⟩ := ldexp_ok hb hn n; obtain ⟨c, hc, he⟩ := okZ_ceil (clamp_ok h2 h1); unfold intM; rw [he]; exact ⟨rfl, by simp; omega⟩
theorem wait_ok {b : Nat} {t : Int} (hb : b < 18446744073709551616) : 0 ≤ waitM b t ∧ waitM b t ≤ 1048576 := by
  unfold waitM
  split
  · omega
  · rename_i h
    have hg : goodSp b = true := by
      cases hh : goodSp b
      · exact absurd (.inl hh) h
      · rfl
    exact (wait_int hb (good_notNan hg)).2
structure Cf where
  host : List UInt8
  gu : Int
  ca : Int
  fl : Int
  bu : Int
  re : Int
  st : Int
  ttl : Nat
  mt : Nat
  ms : Nat
  tm : Nat
  bo : Nat
  pr : Nat
structure ErS where
  rep : Option ReS
  began : Int
  last : Int
  head : Ans
  body : Bool
  data : List UInt8
  taken : Int
  size : Int
  reuse : Bool
  key : Ky
  cfg : Cf
  known : Tk
  state : Int
  unt : Int
  res : Rs
  tries : Int
  misses : Int
  silent : Int
  heard : Int
def erNew (k : Ky) (c : Cf) (t : Tk) : ErS := ⟨none, 0, 0, ans0, false, [], 0, 0, false, k, c, t, 1, 0, rs0, 0, 0, 0, 0⟩
def rsOf (s : Int) : Rs := ⟨s, zeroD, [], 0, 0⟩
def erBegin (E : ErS) (now : Int) : ErS := { E with rep := some (reNew (decide (E.key.kind ≠ 2)) 1048576), began := now, last := now, head := ans0, body := false, data := [], taken := 0, size := 0, reuse := false, state := 2, tries := E.tries + 1 }
def erFin (E : ErS) (r : Rs) : ErS := { E with state := 3, res := r }
def erMiss (E : ErS) (s now : Int) : ErS :=
  if E.cfg.re < E.tries then erFin { E with misses := E.misses + 1 } (rsOf s)
  else { E with misses := E.misses + 1, state := 1, unt := now + waitM E.cfg.bo E.tries }
def erClean (E : ErS) (P : ReS) : Bool := decide ((nextR P).k = 3) && (decide (reRest (nextR P).p = []) && !E.head.cl)
def erHead (E : ErS) (P : ReS) (a : Ans) (now : Int) : ErS :=
  if judgeV E.key a = 3 then { E with rep := some P, head := a, body := true }
  else if judgeV E.key a = 2 then erMiss { E with rep := some P, head := a, heard := E.heard + 1 } 502 now
  else if noBody a.st (decide (E.key.kind ≠ 2)) = true then erFin { E with rep := some (nextR P).p, head := a, heard := E.heard + 1, reuse := erClean { E with head := a } P } (judgeR E.key E.known a E.began)
  else erFin { E with rep := some P, head := a, heard := E.heard + 1, reuse := false } (judgeR E.key E.known a E.began)
def erEnd (E : ErS) (P : ReS) : ErS :=
  erFin { E with rep := some P, heard := E.heard + 1, reuse := decide (reRest P = []) && !E.head.cl } ⟨200, E.key.dig, typM E.head.F, E.size, E.began⟩
def erOne (E : ErS) (r : NrR) (now : Int) : ErS :=
  if r.k = 1 then erHead E r.p r.a now
  else if r.k = 2 then { E with rep := some r.p, data := E.data ++ r.s, size := E.size + (r.s.length : Nat) }
  else if r.k = 3 then erEnd E r.p
  else if r.k = 4 then erMiss { E with rep := some r.p, silent := E.silent + 1 } 502 now
  else { E with rep := some r.p }
def erTake : Nat → ErS → Int → Option ErS
  | 0, _, _ => none
  | n + 1, E, now =>
    if E.state ≠ 2 then some E else
    match E.rep with
    | none => none
    | some P => if 1 ≤ (nextR P).k ∧ (nextR P).k ≤ 4 then erTake n (erOne E (nextR P) now) now else some (erOne E (nextR P) now)
def erHearL : Nat → ErS → List UInt8 → Int → Option (ErS × List UInt8)
  | 0, _, _, _ => none
  | n + 1, E, s, now =>
    if s = [] ∨ E.state ≠ 2 then some (E, s) else
    match E.rep with
    | none => none
    | some P => match erTake 5 { E with rep := some (reAdd P (s.take 4096)).1 } now with
      | none => none
      | some F => erHearL n F (s.drop 4096) now
def erShut (E : ErS) (now : Int) (cut : Bool) : Option ErS :=
  if cut = true ∧ E.state = 2 then (match E.rep with | none => none | some P => erTake 5 { E with rep := some (reShut P) } now) else some E
def erHear (E : ErS) (s : List UInt8) (cut : Bool) (now : Int) : Option ErS :=
  if E.state ≠ 2 then some E else
  match erHearL (s.length + 1) { E with last := if s = [] then E.last else now } s now with
  | none => none
  | some (F, t) => match erShut F now cut with
    | none => none
    | some G => some { G with reuse := G.reuse && decide (t = []) }
def erTick (E : ErS) (now : Int) : ErS := if E.state = 2 ∧ withinM (now - E.last) E.cfg.tm = false then erMiss { E with silent := E.silent + 1 } 504 now else E
def erTook (E : ErS) : ErS := { E with data := [], taken := E.taken + (E.data.length : Nat) }
end Go.Proofs.YtlhnjkekjbbhcaaGreatDoor
