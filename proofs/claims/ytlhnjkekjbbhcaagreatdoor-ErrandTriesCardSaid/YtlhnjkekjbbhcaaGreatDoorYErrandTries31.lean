/- Parts of the proof of ErrandTries, in order. No conditions but those that each theorem states. -/
import Derived.Test.YtlhnjkekjbbhcaaGreatDoorYErrandTries0
import Derived.Lib.SlBytesConst
import Derived.Lib.LaidTab
import Derived.Lib.ItoaNum
import Derived.Lib.ItoaLen
import Derived.Sort.Grow
import Derived.Deep.MidRow
import Derived.Laws.Externs
import Derived.Test.YtlhnjkekjbbhcaaGreatDoorYErrandTries17
import Derived.Test.YtlhnjkekjbbhcaaGreatDoorYErrandTries29
set_option linter.unusedSimpArgs false
set_option linter.unusedVariables false
namespace Go.Proofs.YtlhnjkekjbbhcaaGreatDoor
open Go.RowKit Go.Shelf
structure Rp (w0 w : World) (p : Nat) (X : List Nat) (P : ReS) (n : Nat) (L : List Nat) : Prop where
  re : Re w0.heap.size w p X [] P
  ok : P.ok n
  kp : Keep [] w0 w
  ap : ∀ l ∈ L, l ∉ X ∧ l < w.heap.size
theorem Rp.keep {w0 w w' : World} {p n : Nat} {X L S : List Nat} {P : ReS} (h : Rp w0 w p X P n L) (k : Keep S w w') (hS : ∀ x ∈ S, w0.heap.size ≤ x) (hX : ∀ x ∈ X, x ∉ S) : Rp w0 w' p X P n L :=
  ⟨h.re.keep k hX (by simp), h.ok, h.kp.above k hS, fun l hl => ⟨(h.ap l hl).1, Nat.lt_of_lt_of_le (h.ap l hl).2 k.size⟩⟩
theorem Rp.keep0 {w0 w w' : World} {p n : Nat} {X L : List Nat} {P : ReS} (h : Rp w0 w p X P n L) (k : Keep [] w w') : Rp w0 w' p X P n L := h.keep k (by simp) (by simp)
theorem Rp.less {w0 w : World} {p n : Nat} {X L L' : List Nat} {P : ReS} (h : Rp w0 w p X P n L) (hL : ∀ l ∈ L', l ∈ L) : Rp w0 w p X P n L' := ⟨h.re, h.ok, h.kp, fun l hl => h.ap l (hL l hl)⟩
theorem rp_new {w0 w : World} (hd : Bool) {most : Int} (hm : in64 most) (k : Keep [] w0 w) (L : List Nat) (hL : ∀ l ∈ L, l < w.heap.size) :
    Calls Tryz.prog 60 #[.bool hd, .int .i64 most] w fun e w' => ∃ p, e = .returned (.pointer (some ⟨p, 0, Option.none⟩)) ∧ w.heap.size ≤ p ∧ p < w'.heap.size ∧ Rp w0 w' p [p] (reNew hd most) 0 L ∧ Keep [] w w' := by
  refine (reply_New w0.heap.size hd most w k.size).mono ?_; rintro e w' ⟨p, rfl, hp, h1, h2⟩; exact ⟨p, rfl, hp, h1.lt, ⟨h1, reNew_ok hd hm, k.trans h2, fun l hl => ⟨by have := hL l hl; simp; omega, Nat.lt_of_lt_of_le (hL l hl) h2.size⟩⟩, h2⟩
theorem rp_add {w0 w : World} {p n : Nat} {X L : List Nat} {P : ReS} (s : List UInt8) (h : Rp w0 w p X P n L) (hn : n ≤ 400000) (hs : s.length ≤ 1048576) :
    Calls Tryz.prog 61 #[.pointer (some ⟨p, 0, Option.none⟩), .string (S s)] w fun e w' => e = .returned (.int .i64 (reAdd P s).2) ∧ Rp w0 w' p X (reAdd P s).1 (n + 2 * s.length) L ∧ Keep [p] w w' := by
  have hwt := h.ok.wt; have hlen : 2 * P.inp.length + P.dat.length ≤ n := by unfold ReS.wt at hwt; omega
  refine (reply_Add s h.re (by omega) hs).mono ?_; rintro e w' ⟨rfl, h1, h2⟩; exact ⟨rfl, ⟨h1, reAdd_ok h.ok s, h.kp.above h2 (fun x hx => by have h9 : x = p := (by simpa using hx); rw [h9]; exact h.re.base), fun l hl => ⟨(h.ap l hl).1, Nat.lt_of_lt_of_le (h.ap l hl).2 h2.size⟩⟩, h2⟩
def NpOut (w0 w : World) (p : Nat) (X : List Nat) (n : Nat) (L : List Nat) (r : NrR) (e : Ending) (w' : World) : Prop :=
  ∃ sa sl sc X', e = .returned (.tuple #[.int .i64 r.k, .agg (ansC r.a.st (.slice sa sl sc) r.a.len r.a.ch r.a.cl).toArray, .string (S r.s)]) ∧ Rp w0 w' p X' r.p n L ∧ Keep X w w' ∧ (∀ x ∈ X', x ∈ X ∨ w.heap.size ≤ x) ∧ Own Fld.cells 2 w0.heap.size 89 w' (.slice sa sl sc) r.a.F ∧ ∀ g, (Value.slice sa sl sc).ownBlock = some g → w.heap.size ≤ g ∧ g ∉ X'
theorem rp_next {w0 w : World} {p n : Nat} {X L : List Nat} {P : ReS} (h : Rp w0 w p X P n L) (hm : ML w0) (hn : n ≤ 400000) {r : NrR} (hr : nextR P = r) :
    Calls Tryz.prog 102 #[.pointer (some ⟨p, 0, Option.none⟩)] w (NpOut w0 w p X n L r) := by
  subst hr; refine (reply_Next h.re (hm.keep h.kp (by simp)) h.kp.size hm.lt h.ok hn).mono ?_; rintro e w' ⟨v, X', rfl, h1, h2, h3, h4, h5⟩; obtain ⟨sa, sc, rfl, _⟩ := h4.shape
  exact ⟨sa, _, sc, X', rfl, ⟨h1, nextR_ok h.ok, h.kp.above h2 (fun x hx => (h.re.lo x hx).1), fun l hl => ⟨fun hh => by
    rcases h3 l hh with h6 | h6
    · exact (h.ap l hl).1 h6
    · have := (h.ap l hl).2; omega, Nat.lt_of_lt_of_le (h.ap l hl).2 h2.size⟩⟩, h2, h3, h4, fun g hg => ⟨(h5 g hg).1.elim (fun hh => by cases hh) id, (h5 g hg).2⟩⟩
theorem rp_rest {w0 w : World} {p n : Nat} {X L : List Nat} {P : ReS} (h : Rp w0 w p X P n L) :
    Calls Tryz.prog 156 #[.pointer (some ⟨p, 0, Option.none⟩)] w fun e w' => e = .returned (.string (S (reRest P))) ∧ w = w' := reply_Rest h.re
end Go.Proofs.YtlhnjkekjbbhcaaGreatDoor
namespace Go.Proofs.YtlhnjkekjbbhcaaGreatDoor
open Go.RowKit
theorem ext_bits (b : Nat) (w : World) : (callFunc 159 #[.float .f64 b]).run Tryz.prog w = .ok (.value (.int .u64 b)) w := by
  rw [run_callFunc_extern Tryz.func159 (by kernel_rfl) (by kernel_rfl) (by kernel_rfl) (e := Extern.MathFloatBits.float64bits) (by kernel_rfl)]; rfl
theorem ext_frombits (n : Int) (w : World) : (callFunc 162 #[.int .u64 n]).run Tryz.prog w = .ok (.value (.float .f64 n.toNat)) w := by
  rw [run_callFunc_extern Tryz.func162 (by kernel_rfl) (by kernel_rfl) (by kernel_rfl) (e := Extern.MathFloatBits.float64frombits) (by kernel_rfl)]; rfl
theorem run_negF (b : Nat) (w : World) : (Op.unary UnOp.neg (Value.float FloatKind.f64 b)).run Tryz.prog w = .ok (.float .f64 (Op.negFloat .f64 b)) w := rfl
set_option maxRecDepth 100000 in
set_option maxHeartbeats 400000 in
theorem math_IsNaN (b : Nat) (w : World) :
    Calls Tryz.prog 149 #[.float .f64 b] w fun e w' => e = .returned (.bool (fNan b)) ∧ w = w' := by
  go_enter Tryz.func149, Tryz.ntmps149; go_wp2_with fail; go_ret; exact ⟨rfl, rfl⟩
set_option maxRecDepth 100000 in
set_option maxHeartbeats 400000 in
theorem math_Signbit (b : Nat) (w : World) :
    Calls Tryz.prog 151 #[.float .f64 b] w fun e w' => e = .returned (.bool (fSign b)) ∧ w = w' := by
  have h1 := ext_bits b; go_enter Tryz.func151, Tryz.ntmps151; go_wp2_with fail; go_ret; exact ⟨rfl, rfl⟩
set_option maxRecDepth 100000 in
set_option maxHeartbeats 400000 in
theorem math_Abs (b : Nat) (w : World) :
    Calls Tryz.prog 188 #[.float .f64 b] w fun e w' => e = .returned (.float .f64 (fAbs b)) ∧ w = w' := by
  have h1 := ext_bits b; have h2 := ext_frombits; go_enter Tryz.func188, Tryz.ntmps188; go_wp2_with fail; go_ret; exact ⟨rfl, rfl⟩
set_option maxRecDepth 100000 in
set_option maxHeartbeats 400000 in
theorem math_IsInfN (b : Nat) (w : World) :
    Calls Tryz.prog 150 #[.float .f64 b, .int .i64 (-1)] w fun e w' => e = .returned (.bool (fInfN b)) ∧ w = w' := by
  have h1 := run_negF b; go_enter Tryz.func150, Tryz.ntmps150; go_wp2_with fail; go_ret; exact ⟨rfl, rfl⟩
set_option maxRecDepth 100000 in
set_option maxHeartbeats 400000 in
theorem math_IsInfP (b : Nat) (w : World) :
    Calls Tryz.prog 150 #[.float .f64 b, .int .i64 1] w fun e w' => e = .returned (.bool (fInfP b)) ∧ w = w' := by
  go_enter Tryz.func150, Tryz.ntmps150; go_wp2_with fail; go_ret; exact ⟨rfl, rfl⟩
set_option maxRecDepth 100000 in
set_option maxHeartbeats 400000 in
theorem math_IsInf0 (b : Nat) (w : World) :
    Calls Tryz.prog 150 #[.float .f64 b, .int .i64 0] w fun e w' => e = .returned (.bool (fInf0 b)) ∧ w = w' := by
  go_enter Tryz.func150, Tryz.ntmps150; go_wp2_with (go_at_call 188; refine (math_Abs b _).mono ?_; rintro e w' ⟨rfl, rfl⟩); go_ret; exact ⟨rfl, rfl⟩
set_option maxRecDepth 100000 in
set_option maxHeartbeats 400000 in
theorem math_Copysign (b s : Nat) (w : World) :
    Calls Tryz.prog 160 #[.float .f64 b, .float .f64 s] w fun e w' => e = .returned (.float .f64 (fCopy b s)) ∧ w = w' := by
  have h1 := ext_bits; have h2 := ext_frombits; go_enter Tryz.func160, Tryz.ntmps160; go_wp2_with fail; go_ret; exact ⟨rfl, rfl⟩
set_option maxRecDepth 100000 in
set_option maxHeartbeats 400000 in
theorem math_Inf (n : Int) (w : World) :
    Calls Tryz.prog 161 #[.int .i64 n] w fun e w' => e = .returned (.float .f64 (if 0 ≤ n then 9218868437227405312 else 18442240474082181120)) ∧ w = w' := by
  have h2 := ext_frombits; by_cases h : 0 ≤ n
  all_goals
    go_enter Tryz.func161, Tryz.ntmps161; go_wp2_with fail; go_ret; exact ⟨rfl, rfl⟩
set_option maxRecDepth 100000 in
set_option maxHeartbeats 800000 in
theorem real_Class (b : Nat) (w : World) :
    Calls Tryz.prog 101 #[.float .f64 b] w fun e w' => e = .returned (.int .i64 (clsM b)) ∧ w = w' := by
  have H : Hid (clsM b = _) := Lib.hid (show clsM b = if fNan b then 1 else if fInfN b then 2 else if fInfP b then 7 else if fNeg b then 3 else if fPos b then 6 else if fSign b then 4 else 5 from rfl); have h1 := math_IsNaN b; have h2 := math_IsInfN b; have h3 := math_IsInfP b; have h4 := math_Signbit b; have e5 : (FloatKind.f64.format.order b 0 == some .lt) = fNeg b := rfl; have e6 : (FloatKind.f64.format.order b 0 == some .gt) = fPos b := rfl
  cases hn : fNan b with
  | true =>
    rw [hn] at H h1; go_enter Tryz.func101, Tryz.ntmps101; go_wp2_with (first | (go_at_call 149; refine (h1 _).mono ?_; rintro e w' ⟨rfl, rfl⟩)); go_ret; exact ⟨by rw [H.out]; rfl, rfl⟩
  | false =>
    rw [hn] at H h1
    cases hi : fInfN b with
    | true =>
      rw [hi] at H h2; go_enter Tryz.func101, Tryz.ntmps101; go_wp2_with (first | (go_at_call 149; refine (h1 _).mono ?_; rintro e w' ⟨rfl, rfl⟩) | (go_at_call 150; refine (h2 _).mono ?_; rintro e w' ⟨rfl, rfl⟩)); go_ret; exact ⟨by rw [H.out]; rfl, rfl⟩
    | false =>
      rw [hi] at H h2
      cases hp : fInfP b with
      | true =>
        rw [hp] at H h3; go_enter Tryz.func101, Tryz.ntmps101; go_wp2_with (first | (go_at_call 149; refine (h1 _).mono ?_; rintro e w' ⟨rfl, rfl⟩) | (go_at_call 150; with_reducible refine (h2 _).mono ?_; rintro e w' ⟨rfl, rfl⟩) | (go_at_call 150; with_reducible refine (h3 _).mono ?_; rintro e w' ⟨rfl, rfl⟩)); go_ret; exact ⟨by rw [H.out]; rfl, rfl⟩
      | false =>
        rw [hp] at H h3; cases hg : fNeg b <;> cases hq : fPos b <;> cases hs : fSign b
        all_goals
          rw [hg] at e5; rw [hq] at e6; rw [hs] at h4; rw [hg, hq, hs] at H; go_enter Tryz.func101, Tryz.ntmps101; go_wp2_with (first | (go_at_call 149; refine (h1 _).mono ?_; rintro e w' ⟨rfl, rfl⟩) | (go_at_call 150; with_reducible refine (h2 _).mono ?_; rintro e w' ⟨rfl, rfl⟩) | (go_at_call 150; with_reducible refine (h3 _).mono ?_; rintro e w' ⟨rfl, rfl⟩) | (go_at_call 151; refine (h4 _).mono ?_; rintro e w' ⟨rfl, rfl⟩)); go_ret; exact ⟨by rw [H.out]; rfl, rfl⟩
set_option maxRecDepth 100000 in
set_option maxHeartbeats 400000 in
theorem term_Good (b : Nat) (w : World) :
    Calls Tryz.prog 59 #[.float .f64 b] w fun e w' => e = .returned (.bool (goodSp b)) ∧ w = w' := by
  go_enter Tryz.func59, Tryz.ntmps59; go_wp2_with (go_at_call 101; refine (real_Class b _).mono ?_; rintro e w' ⟨rfl, rfl⟩); go_ret; exact ⟨rfl, rfl⟩
set_option maxRecDepth 100000 in
set_option maxHeartbeats 400000 in
theorem real_Less (a b : Nat) (w : World) :
    Calls Tryz.prog 110 #[.float .f64 a, .float .f64 b] w fun e w' => e = .returned (.bool (fLess a b)) ∧ w = w' := by
  by_cases h : clsM a = clsM b
  · have e1 := (int_eq (show clsM a = clsM b from h)).1; have e2 := (int_eq (show clsM a = clsM b from h)).2; have H : Hid (fLess a b = _) := Lib.hid (show fLess a b = (FloatKind.f64.format.order a b == some .lt) from if_pos h); have ha := real_Class a; have hb := real_Class b; generalize clsM a = x at *; generalize clsM b = y at *; subst h; go_enter Tryz.func110, Tryz.ntmps110; go_wp2_with (first | (go_at_call 101; with_reducible refine (ha _).mono ?_; rintro e w' ⟨rfl, rfl⟩) | (go_at_call 101; with_reducible refine (hb _).mono ?_; rintro e w' ⟨rfl, rfl⟩)); go_ret; exact ⟨by rw [H.out]; rfl, rfl⟩
  · have H : Hid (fLess a b = _) := Lib.hid (show fLess a b = decide (clsM a < clsM b) from if_neg h); have ha := real_Class a; have hb := real_Class b; generalize clsM a = x at *; generalize clsM b = y at *; have e1 := (int_ne (show x ≠ y from h)).1; have e2 := (int_ne (show x ≠ y from h)).2; clear h; go_enter Tryz.func110, Tryz.ntmps110; go_wp2_with (first | (go_at_call 101; with_reducible refine (ha _).mono ?_; rintro e w' ⟨rfl, rfl⟩) | (go_at_call 101; with_reducible refine (hb _).mono ?_; rintro e w' ⟨rfl, rfl⟩)); go_ret; exact ⟨by rw [H.out]; rfl, rfl⟩
set_option maxRecDepth 100000 in
set_option maxHeartbeats 400000 in
theorem term_Within (a : Int) (b : Nat) (w : World) :
    Calls Tryz.prog 64 #[.int .i64 a, .float .f64 b] w fun e w' => e = .returned (.bool (withinM a b)) ∧ w = w' := by
  have H : Hid (withinM a b = _) := Lib.hid (show withinM a b = (goodSp b && (decide (0 ≤ a) && (FloatKind.f64.format.order (floatOfInt .f64 a) b == some .lt))) from rfl); have hg := term_Good b
  cases hv : goodSp b with
  | false =>
    rw [hv] at H hg; go_enter Tryz.func64, Tryz.ntmps64; go_wp2_with (go_at_call 59; refine (hg _).mono ?_; rintro e w' ⟨rfl, rfl⟩); go_ret; exact ⟨by rw [H.out]; rfl, rfl⟩
  | true =>
    rw [hv] at H hg; by_cases h0 : 0 ≤ a
    · rw [decide_eq_true h0] at H; go_enter Tryz.func64, Tryz.ntmps64; go_wp2_with (go_at_call 59; refine (hg _).mono ?_; rintro e w' ⟨rfl, rfl⟩); go_ret; exact ⟨by rw [H.out]; rfl, rfl⟩
    · rw [decide_eq_false h0] at H; go_enter Tryz.func64, Tryz.ntmps64; go_wp2_with (go_at_call 59; refine (hg _).mono ?_; rintro e w' ⟨rfl, rfl⟩); go_ret; exact ⟨by rw [H.out]; rfl, rfl⟩
theorem floatMul {a b r : Nat} (h : FloatKind.f64.format.mul a b = some r) (t : TypeId) (w : World) : (binOp BinOp.mul t (Value.float FloatKind.f64 a) (Value.float FloatKind.f64 b)).run Tryz.prog w = .ok (Value.float FloatKind.f64 r) w := run_float_arith w BinOp.mul t FloatKind.f64 a b r h
set_option maxRecDepth 100000 in
set_option maxHeartbeats 400000 in
theorem math_normalize (b : Nat) (w : World) (hN : isNum b) :
    Calls Tryz.prog 158 #[.float .f64 b] w fun e w' => e = .returned (.tuple #[.float .f64 (normM b), .int .i64 (normK b)]) ∧ w = w' := by
  have hm := floatMul (mul_num hN (b := 4841369599423283200) (num_of_lt (by decide))).1; have H1 : Hid (normM b = _) := Lib.hid (show normM b = if fTiny b then fMul b 4841369599423283200 else b from rfl); have H2 : Hid (normK b = _) := Lib.hid (show normK b = if fTiny b then -52 else 0 from rfl); have e5 : (FloatKind.f64.format.order (fAbs b) 4503599627370496 == some .lt) = fTiny b := rfl; clear hN; cases ht : fTiny b
  all_goals
    rw [ht] at e5 H1 H2; go_enter Tryz.func158, Tryz.ntmps158; go_wp2_with (go_at_call 188; refine (math_Abs b _).mono ?_; rintro e w' ⟨rfl, rfl⟩); go_ret2; exact ⟨by rw [H1.out, H2.out]; rfl, rfl⟩
theorem normK_le (b : Nat) : -52 ≤ normK b ∧ normK b ≤ 0 := by unfold normK; split <;> omega
theorem ldexp_1 {b : Nat} {n : Int} (h : fInf0 b = true) : ldexpM b n = b := by unfold ldexpM; rw [h]; rfl
theorem ldexp_2 {b : Nat} {n : Int} (h : fInf0 b = false) {x : Int} (hx : expM (normM b) n (normK b) = x) (h1 : x < -1075) : ldexpM b n = fCopy 0 (normM b) := by
  unfold ldexpM; rw [h, hx, if_neg (by simp), if_pos h1]
theorem ldexp_3 {b : Nat} {n : Int} (h : fInf0 b = false) {x : Int} (hx : expM (normM b) n (normK b) = x) (h2 : 1023 < x) : ldexpM b n = (if fNeg (normM b) then 18442240474082181120 else 9218868437227405312) := by
  have h1 : ¬ x < -1075 := by omega
  unfold ldexpM; rw [h, hx, if_neg (by simp), if_neg h1, if_pos h2]
theorem ldexp_4 {b : Nat} {n : Int} (h : fInf0 b = false) {x : Int} (hx : expM (normM b) n (normK b) = x) (h1 : ¬ x < -1075) (h3 : x < -1022) : ldexpM b n = fMul 4368491638549381120 (pieceM (normM b) (x + 53)) := by
  have h2 : ¬ 1023 < x := by omega
  unfold ldexpM; rw [h, hx, if_neg (by simp), if_neg h1, if_neg h2, if_pos h3]
theorem ldexp_5 {b : Nat} {n : Int} (h : fInf0 b = false) {x : Int} (hx : expM (normM b) n (normK b) = x) (h3 : ¬ x < -1022) (h2 : ¬ 1023 < x) : ldexpM b n = fMul 4607182418800017408 (pieceM (normM b) x) := by
  have h1 : ¬ x < -1075 := by omega
  unfold ldexpM; rw [h, hx, if_neg (by simp), if_neg h1, if_neg h2, if_neg h3]
set_option maxRecDepth 100000 in
set_option maxHeartbeats 4000000 in
theorem math_ldexp (b : Nat) (n : Int) (w : World) (hn : 0 ≤ n ∧ n ≤ 60) (hb : b < 18446744073709551616) (hz : fZero b = false) (hq : fNan b = false) :
    Calls Tryz.prog 108 #[.float .f64 b, .int .i64 n] w fun e w' => e = .returned (.float .f64 (ldexpM b n)) ∧ w = w' := by
  have e1 : (FloatKind.f64.format.order b 0 == some .eq) = false := hz; have h3 := math_IsInf0 b; have h4 := math_IsNaN b
  cases hi : fInf0 b with
  | true =>
    have HR := Lib.hid (ldexp_1 (n := n) hi); rw [hi] at h3; clear hz hb hq hi; go_enter Tryz.func108, Tryz.ntmps108; go_wp2_with (first | (go_at_call 150; with_reducible refine (h3 _).mono ?_; rintro e w' ⟨rfl, rfl⟩)); go_ret; exact ⟨by rw [HR.out]; rfl, rfl⟩
  | false =>
    have hNum := num_of hb hq hi; have hlt := norm_lt hb hNum; have hN := fun w => math_normalize b w hNum
    have hk := normK_le b; have h1 := ext_bits; have h2 := ext_frombits; rw [hi] at h3; rw [hq] at h4; obtain ⟨x, hx⟩ : ∃ x, expM (normM b) n (normK b) = x := ⟨_, rfl⟩
    have HX : Hid (wrap64 (n + normK b + wrap64 (bits BinOp.and IntKind.i64 (wrap64 ((normM b : Int) / 4503599627370496)) 2047 - 1023)) = x) := Lib.hid hx; by_cases x1 : x < -1075
    · have HR := Lib.hid (ldexp_2 hi hx x1); clear hz hb hq hi hx; have hx := HX.out; clear hlt; generalize normM b = f at *; generalize normK b = k at *; go_enter Tryz.func108, Tryz.ntmps108; go_wp2_with (first | (go_at_call 150; with_reducible refine (h3 _).mono ?_; rintro e w' ⟨rfl, rfl⟩) | (go_at_call 149; with_reducible refine (h4 _).mono ?_; rintro e w' ⟨rfl, rfl⟩) | (go_at_call 158; with_reducible refine (hN _).mono ?_; rintro e w' ⟨rfl, rfl⟩) | (go_at_call 160; refine (math_Copysign 0 f _).mono ?_; rintro e w' ⟨rfl, rfl⟩)); go_ret; exact ⟨by rw [HR.out]; rfl, rfl⟩
    · by_cases x2 : 1023 < x
      · have HR := Lib.hid (ldexp_3 hi hx x2); clear hz hb hq hi hx x1; have x1 : ¬ x < -1075 := by omega
        have hx := HX.out; clear hlt; have e5 : (FloatKind.f64.format.order (normM b) 0 == some .lt) = fNeg (normM b) := rfl; generalize normM b = f at *; generalize normK b = k at *; cases hs : fNeg f
        all_goals
          rw [hs] at e5 HR; go_enter Tryz.func108, Tryz.ntmps108; go_wp2_with (first | (go_at_call 150; with_reducible refine (h3 _).mono ?_; rintro e w' ⟨rfl, rfl⟩) | (go_at_call 149; with_reducible refine (h4 _).mono ?_; rintro e w' ⟨rfl, rfl⟩) | (go_at_call 158; with_reducible refine (hN _).mono ?_; rintro e w' ⟨rfl, rfl⟩) | (go_at_call 161; refine (math_Inf _ _).mono ?_; rintro e w' ⟨rfl, rfl⟩)); go_ret; exact ⟨by rw [HR.out]; rfl, rfl⟩
      · by_cases x3 : x < -1022
        · have HR := Lib.hid (ldexp_4 hi hx x1 x3); have hm := floatMul (mul_num (a := 4368491638549381120) (num_of_lt (by decide)) (piece_num hlt (y := x + 53) (by omega) (by omega))).1; have HM : Hid (pieceM (normM b) (x + 53) = _) := Lib.hid (show pieceM (normM b) (x + 53) = (bits BinOp.or IntKind.u64 (bits BinOp.andNot IntKind.u64 (normM b : Int) 9218868437227405312) ((x + 53 + 1023) * 4503599627370496)).toNat from rfl); clear hz hb hq hi hx; have hx := HX.out; clear hlt; rw [HM.out] at hm; rw [HM.out] at HR; generalize fMul 4368491638549381120 _ = r at *; generalize normM b = f at *; generalize normK b = k at *; go_enter Tryz.func108, Tryz.ntmps108; go_wp2_with (first | (go_at_call 150; with_reducible refine (h3 _).mono ?_; rintro e w' ⟨rfl, rfl⟩) | (go_at_call 149; with_reducible refine (h4 _).mono ?_; rintro e w' ⟨rfl, rfl⟩) | (go_at_call 158; with_reducible refine (hN _).mono ?_; rintro e w' ⟨rfl, rfl⟩)); go_ret; exact ⟨by rw [HR.out]; rfl, rfl⟩
        · have HR := Lib.hid (ldexp_5 hi hx x3 x2); have hm := floatMul (mul_num (a := 4607182418800017408) (num_of_lt (by decide)) (piece_num hlt (y := x) (by omega) (by omega))).1; have HM : Hid (pieceM (normM b) x = _) := Lib.hid (show pieceM (normM b) x = (bits BinOp.or IntKind.u64 (bits BinOp.andNot IntKind.u64 (normM b : Int) 9218868437227405312) ((x + 1023) * 4503599627370496)).toNat from rfl); clear hz hb hq hi hx; have hx := HX.out; clear hlt; rw [HM.out] at hm; rw [HM.out] at HR; generalize fMul 4607182418800017408 _ = r at *; generalize normM b = f at *; generalize normK b = k at *; go_enter Tryz.func108, Tryz.ntmps108; go_wp2_with (first | (go_at_call 150; with_reducible refine (h3 _).mono ?_; rintro e w' ⟨rfl, rfl⟩) | (go_at_call 149; with_reducible refine (h4 _).mono ?_; rintro e w' ⟨rfl, rfl⟩) | (go_at_call 158; with_reducible refine (hN _).mono ?_; rintro e w' ⟨rfl, rfl⟩)); go_ret; exact ⟨by rw [HR.out]; rfl, rfl⟩
set_option maxRecDepth 100000 in
set_option maxHeartbeats 400000 in
theorem math_Ldexp (b : Nat) (n : Int) (w : World) (hn : 0 ≤ n ∧ n ≤ 60) (hb : b < 18446744073709551616) (hz : fZero b = false) (hq : fNan b = false) :
    Calls Tryz.prog 67 #[.float .f64 b, .int .i64 n] w fun e w' => e = .returned (.float .f64 (ldexpM b n)) ∧ w = w' := by
  have h1 := fun w => math_ldexp b n w hn hb hz hq
  clear hz hb hq; go_enter Tryz.func67, Tryz.ntmps67; go_wp2_with (go_at_call 108; refine (h1 _).mono ?_; rintro e w' ⟨rfl, rfl⟩); go_ret; exact ⟨rfl, rfl⟩
theorem toIntegral_eq (nm : String) (way : Ieee.Toward) (b : Nat) (h : ∀ s t, FloatKind.f64.decode b ≠ .nan s t) : Extern.MathFloor.toIntegral nm way #[.float .f64 b] = pure (.float .f64 (FloatKind.f64.encode ((FloatKind.f64.decode b).integral way))) := by
  unfold Extern.MathFloor.toIntegral; revert h; show _ → (match FloatKind.f64.decode b with | .nan s t => _ | d => _) = _; generalize FloatKind.f64.decode b = d; intro h
  cases d with
  | nan s t => exact absurd rfl (h s t)
  | infinity s => rfl
  | number s m p => rfl
theorem ext_ceil {b : Nat} (h : fNan b = false) (w : World) : (callFunc 105 #[.float .f64 b]).run Tryz.prog w = .ok (.value (.float .f64 (ceilM b))) w := by
  rw [run_callFunc_extern Tryz.func105 (by kernel_rfl) (by kernel_rfl) (by kernel_rfl) (e := Extern.MathFloor.toIntegral "math.archCeil" .up) (by kernel_rfl), toIntegral_eq _ _ _ (fun s t hr => by rw [nan_of_read hr] at h; cases h)]; rfl
set_option maxRecDepth 100000 in
set_option maxHeartbeats 400000 in
theorem math_Ceil (b : Nat) (h : fNan b = false) (w : World) :
    Calls Tryz.prog 66 #[.float .f64 b] w fun e w' => e = .returned (.float .f64 (ceilM b)) ∧ w = w' := by
  have h1 := ext_ceil h; clear h; go_enter Tryz.func66, Tryz.ntmps66; go_wp2_with fail; go_ret; exact ⟨rfl, rfl⟩
end Go.Proofs.YtlhnjkekjbbhcaaGreatDoor
