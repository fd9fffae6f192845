/- Parts of the proof of ErrandJudges, in order. No conditions but those that each theorem states. -/
import Derived.Test.YtlhnjkekjbbhcaaGreatDoorYErrandJudges0
import Derived.Lib.SlBytesConst
import Derived.Lib.LaidTab
import Derived.Lib.ItoaNum
import Derived.Lib.ItoaLen
import Derived.Sort.Grow
import Derived.Deep.MidRow
import Derived.Laws.Externs
import Derived.Test.YtlhnjkekjbbhcaaGreatDoorYErrandJudges17
namespace Go.Proofs.YtlhnjkekjbbhcaaGreatDoor
open Go.RowKit Go.Shelf
structure Rp (w0 w : World) (p : Nat) (X : List Nat) (P : ReS) (n : Nat) (L : List Nat) : Prop where
  re : Re w0.heap.size w p X [] P
  ok : P.ok n
  kp : Keep [] w0 w
  ap : ∀ l ∈ L, l ∉ X ∧ l < w.heap.size
theorem Rp.keep {w0 w w' : World} {p n : Nat} {X L S : List Nat} {P : ReS} (h : Rp w0 w p X P n L) (k : Keep S w w') (hS : ∀ x ∈ S, w0.heap.size ≤ x) (hX : ∀ x ∈ X, x ∉ S) : Rp w0 w' p X P n L :=
  ⟨h.re.keep k hX (by simp), h.ok, h.kp.above k hS, fun l hl => ⟨(h.ap l hl).1, Nat.lt_of_lt_of_le (h.ap l hl).2 k.size⟩⟩
theorem Rp.keep0 {w0 w w' : World} {p n : Nat} {X L : List Nat} {P : ReS} (h : Rp w0 w p X P n L) (k : Keep [] w w') : Rp w0 w' p X P n L := h.keep k (by simp) (by simp)
theorem rp_new {w0 w : World} (hd : Bool) {most : Int} (hm : in64 most) (k : Keep [] w0 w) (L : List Nat) (hL : ∀ l ∈ L, l < w.heap.size) :
    Calls Tryz.prog 60 #[.bool hd, .int .i64 most] w fun e w' => ∃ p, e = .returned (.pointer (some ⟨p, 0, Option.none⟩)) ∧ w.heap.size ≤ p ∧ p < w'.heap.size ∧ Rp w0 w' p [p] (reNew hd most) 0 L ∧ Keep [] w w' := by
  refine (reply_New w0.heap.size hd most w k.size).mono ?_; rintro e w' ⟨p, rfl, hp, h1, h2⟩; exact ⟨p, rfl, hp, h1.lt, ⟨h1, reNew_ok hd hm, k.trans h2, fun l hl => ⟨by have := hL l hl; simp; omega, Nat.lt_of_lt_of_le (hL l hl) h2.size⟩⟩, h2⟩
theorem rp_add {w0 w : World} {p n : Nat} {X L : List Nat} {P : ReS} (s : List UInt8) (h : Rp w0 w p X P n L) (hn : n ≤ 400000) (hs : s.length ≤ 1048576) :
    Calls Tryz.prog 61 #[.pointer (some ⟨p, 0, Option.none⟩), .string (S s)] w fun e w' => e = .returned (.int .i64 (reAdd P s).2) ∧ Rp w0 w' p X (reAdd P s).1 (n + 2 * s.length) L ∧ Keep [p] w w' := by
  have hwt := h.ok.wt; have hlen : 2 * P.inp.length + P.dat.length ≤ n := by unfold ReS.wt at hwt; omega
  refine (reply_Add s h.re (by omega) hs).mono ?_; rintro e w' ⟨rfl, h1, h2⟩; exact ⟨rfl, ⟨h1, reAdd_ok h.ok s, h.kp.above h2 (fun x hx => by have h9 : x = p := (by simpa using hx); rw [h9]; exact h.re.base), fun l hl => ⟨(h.ap l hl).1, Nat.lt_of_lt_of_le (h.ap l hl).2 h2.size⟩⟩, h2⟩
def NpOut (w0 w : World) (p : Nat) (X : List Nat) (n : Nat) (L : List Nat) (r : NrR) (e : Ending) (w' : World) : Prop :=
  ∃ sa sl sc X', e = .returned (.tuple #[.int .i64 r.k, .agg (ansC r.a.st (.slice sa sl sc) r.a.len r.a.ch r.a.cl).toArray, .string (S r.s)]) ∧ Rp w0 w' p X' r.p n L ∧ Keep X w w' ∧ (∀ x ∈ X', x ∈ X ∨ w.heap.size ≤ x) ∧ Own Fld.cells 2 w0.heap.size 89 w' (.slice sa sl sc) r.a.F ∧ ∀ g, (Value.slice sa sl sc).ownBlock = some g → w.heap.size ≤ g ∧ g ∉ X'
theorem rp_next {w0 w : World} {p n : Nat} {X L : List Nat} {P : ReS} (h : Rp w0 w p X P n L) (hm : ML w0) (hn : n ≤ 400000) {r : NrR} (hr : nextR P = r) :
    Calls Tryz.prog 102 #[.pointer (some ⟨p, 0, Option.none⟩)] w (NpOut w0 w p X n L r) := by
  subst hr; refine (reply_Next h.re (hm.keep h.kp (by simp)) h.kp.size hm.lt h.ok hn).mono ?_; rintro e w' ⟨v, X', rfl, h1, h2, h3, h4, h5⟩; obtain ⟨sa, sc, rfl, _⟩ := h4.shape
  exact ⟨sa, _, sc, X', rfl, ⟨h1, nextR_ok h.ok, h.kp.above h2 (fun x hx => (h.re.lo x hx).1), fun l hl => ⟨fun hh => by
    rcases h3 l hh with h6 | h6
    · exact (h.ap l hl).1 h6
    · have := (h.ap l hl).2; omega, Nat.lt_of_lt_of_le (h.ap l hl).2 h2.size⟩⟩, h2, h3, h4, fun g hg => ⟨(h5 g hg).1.elim (fun hh => by cases hh) id, (h5 g hg).2⟩⟩
theorem rp_rest {w0 w : World} {p n : Nat} {X L : List Nat} {P : ReS} (h : Rp w0 w p X P n L) :
    Calls Tryz.prog 156 #[.pointer (some ⟨p, 0, Option.none⟩)] w fun e w' => e = .returned (.string (S (reRest P))) ∧ w = w' := reply_Rest h.re
end Go.Proofs.YtlhnjkekjbbhcaaGreatDoor
namespace Go.Proofs.YtlhnjkekjbbhcaaGreatDoor
open Go.RowKit
theorem ext_bits (b : Nat) (w : World) : (callFunc 159 #[.float .f64 b]).run Tryz.prog w = .ok (.value (.int .u64 b)) w := by
  rw [run_callFunc_extern Tryz.func159 (by kernel_rfl) (by kernel_rfl) (by kernel_rfl) (e := Extern.MathFloatBits.float64bits) (by kernel_rfl)]; rfl
theorem ext_frombits (n : Int) (w : World) : (callFunc 162 #[.int .u64 n]).run Tryz.prog w = .ok (.value (.float .f64 n.toNat)) w := by
  rw [run_callFunc_extern Tryz.func162 (by kernel_rfl) (by kernel_rfl) (by kernel_rfl) (e := Extern.MathFloatBits.float64frombits) (by kernel_rfl)]; rfl
theorem run_negF (b : Nat) (w : World) : (Op.unary UnOp.neg (Value.float FloatKind.f64 b)).run Tryz.prog w = .ok (.float .f64 (Op.negFloat .f64 b)) w := rfl
set_option maxRecDepth 100000 in
set_option maxHeartbeats 400000 in
theorem math_IsNaN (b : Nat) (w : World) :
    Calls Tryz.prog 149 #[.float .f64 b] w fun e w' => e = .returned (.bool (fNan b)) ∧ w = w' := by
  go_enter Tryz.func149, Tryz.ntmps149; go_wp2_with fail; go_ret; exact ⟨rfl, rfl⟩
set_option maxRecDepth 100000 in
set_option maxHeartbeats 400000 in
theorem math_Signbit (b : Nat) (w : World) :
    Calls Tryz.prog 151 #[.float .f64 b] w fun e w' => e = .returned (.bool (fSign b)) ∧ w = w' := by
  have h1 := ext_bits b; go_enter Tryz.func151, Tryz.ntmps151; go_wp2_with fail; go_ret; exact ⟨rfl, rfl⟩
set_option maxRecDepth 100000 in
set_option maxHeartbeats 400000 in
theorem math_Abs (b : Nat) (w : World) :
    Calls Tryz.prog 188 #[.float .f64 b] w fun e w' => e = .returned (.float .f64 (fAbs b)) ∧ w = w' := by
  have h1 := ext_bits b; have h2 := ext_frombits; go_enter Tryz.func188, Tryz.ntmps188; go_wp2_with fail; go_ret; exact ⟨rfl, rfl⟩
set_option maxRecDepth 100000 in
set_option maxHeartbeats 400000 in
theorem math_IsInfN (b : Nat) (w : World) :
    Calls Tryz.prog 150 #[.float .f64 b, .int .i64 (-1)] w fun e w' => e = .returned (.bool (fInfN b)) ∧ w = w' := by
  have h1 := run_negF b; go_enter Tryz.func150, Tryz.ntmps150; go_wp2_with fail; go_ret; exact ⟨rfl, rfl⟩
set_option maxRecDepth 100000 in
set_option maxHeartbeats 400000 in
theorem math_IsInfP (b : Nat) (w : World) :
    Calls Tryz.prog 150 #[.float .f64 b, .int .i64 1] w fun e w' => e = .returned (.bool (fInfP b)) ∧ w = w' := by
  go_enter Tryz.func150, Tryz.ntmps150; go_wp2_with fail; go_ret; exact ⟨rfl, rfl⟩
set_option maxRecDepth 100000 in
set_option maxHeartbeats 400000 in
theorem math_IsInf0 (b : Nat) (w : World) :
    Calls Tryz.prog 150 #[.float .f64 b, .int .i64 0] w fun e w' => e = .returned (.bool (fInf0 b)) ∧ w = w' := by
  go_enter Tryz.func150, Tryz.ntmps150; go_wp2_with (go_at_call 188; refine (math_Abs b _).mono ?_; rintro e w' ⟨rfl, rfl⟩); go_ret; exact ⟨rfl, rfl⟩
set_option maxRecDepth 100000 in
set_option maxHeartbeats 400000 in
theorem math_Copysign (b s : Nat) (w : World) :
    Calls Tryz.prog 160 #[.float .f64 b, .float .f64 s] w fun e w' => e = .returned (.float .f64 (fCopy b s)) ∧ w = w' := by
  have h1 := ext_bits; have h2 := ext_frombits; go_enter Tryz.func160, Tryz.ntmps160; go_wp2_with fail; go_ret; exact ⟨rfl, rfl⟩
set_option maxRecDepth 100000 in
set_option maxHeartbeats 400000 in
theorem math_Inf (n : Int) (w : World) :
    Calls Tryz.prog 161 #[.int .i64 n] w fun e w' => e = .returned (.float .f64 (if 0 ≤ n then 9218868437227405312 else 18442240474082181120)) ∧ w = w' := by
  have h2 := ext_frombits; by_cases h : 0 ≤ n
  all_goals
    go_enter Tryz.func161, Tryz.ntmps161; go_wp2_with fail; go_ret; exact ⟨rfl, rfl⟩
set_option maxRecDepth 100000 in
set_option maxHeartbeats 800000 in
theorem real_Class (b : Nat) (w : World) :
    Calls Tryz.prog 101 #[.float .f64 b] w fun e w' => e = .returned (.int .i64 (clsM b)) ∧ w = w' := by
  have H : Hid (clsM b = _) := Lib.hid (show clsM b = if fNan b then 1 else if fInfN b then 2 else if fInfP b then 7 else if fNeg b then 3 else if fPos b then 6 else if fSign b then 4 else 5 from rfl); have h1 := math_IsNaN b; have h2 := math_IsInfN b; have h3 := math_IsInfP b; have h4 := math_Signbit b; have e5 : (FloatKind.f64.format.order b 0 == some .lt) = fNeg b := rfl; have e6 : (FloatKind.f64.format.order b 0 == some .gt) = fPos b := rfl
  cases hn : fNan b with
  | true =>
    rw [hn] at H h1; go_enter Tryz.func101, Tryz.ntmps101; go_wp2_with (first | (go_at_call 149; refine (h1 _).mono ?_; rintro e w' ⟨rfl, rfl⟩)); go_ret; exact ⟨by rw [H.out]; rfl, rfl⟩
  | false =>
    rw [hn] at H h1
    cases hi : fInfN b with
    | true =>
      rw [hi] at H h2; go_enter Tryz.func101, Tryz.ntmps101; go_wp2_with (first | (go_at_call 149; refine (h1 _).mono ?_; rintro e w' ⟨rfl, rfl⟩) | (go_at_call 150; refine (h2 _).mono ?_; rintro e w' ⟨rfl, rfl⟩)); go_ret; exact ⟨by rw [H.out]; rfl, rfl⟩
    | false =>
      rw [hi] at H h2
      cases hp : fInfP b with
      | true =>
        rw [hp] at H h3; go_enter Tryz.func101, Tryz.ntmps101; go_wp2_with (first | (go_at_call 149; refine (h1 _).mono ?_; rintro e w' ⟨rfl, rfl⟩) | (go_at_call 150; with_reducible refine (h2 _).mono ?_; rintro e w' ⟨rfl, rfl⟩) | (go_at_call 150; with_reducible refine (h3 _).mono ?_; rintro e w' ⟨rfl, rfl⟩)); go_ret; exact ⟨by rw [H.out]; rfl, rfl⟩
      | false =>
        rw [hp] at H h3; cases hg : fNeg b <;> cases hq : fPos b <;> cases hs : fSign b
        all_goals
          rw [hg] at e5; rw [hq] at e6; rw [hs] at h4; rw [hg, hq, hs] at H; go_enter Tryz.func101, Tryz.ntmps101; go_wp2_with (first | (go_at_call 149; refine (h1 _).mono ?_; rintro e w' ⟨rfl, rfl⟩) | (go_at_call 150; with_reducible refine (h2 _).mono ?_; rintro e w' ⟨rfl, rfl⟩) | (go_at_call 150; with_reducible refine (h3 _).mono ?_; rintro e w' ⟨rfl, rfl⟩) | (go_at_call 151; refine (h4 _).mono ?_; rintro e w' ⟨rfl, rfl⟩)); go_ret; exact ⟨by rw [H.out]; rfl, rfl⟩
set_option maxRecDepth 100000 in
set_option maxHeartbeats 400000 in
theorem term_Good (b : Nat) (w : World) :
    Calls Tryz.prog 59 #[.float .f64 b] w fun e w' => e = .returned (.bool (goodSp b)) ∧ w = w' := by
  go_enter Tryz.func59, Tryz.ntmps59; go_wp2_with (go_at_call 101; refine (real_Class b _).mono ?_; rintro e w' ⟨rfl, rfl⟩); go_ret; exact ⟨rfl, rfl⟩
set_option maxRecDepth 100000 in
set_option maxHeartbeats 400000 in
theorem real_Less (a b : Nat) (w : World) :
    Calls Tryz.prog 110 #[.float .f64 a, .float .f64 b] w fun e w' => e = .returned (.bool (fLess a b)) ∧ w = w' := by
  by_cases h : clsM a = clsM b
  · have e1 := (int_eq (show clsM a = clsM b from h)).1; have e2 := (int_eq (show clsM a = clsM b from h)).2; have H : Hid (fLess a b = _) := Lib.hid (show fLess a b = (FloatKind.f64.format.order a b == some .lt) from if_pos h); have ha := real_Class a; have hb := real_Class b; generalize clsM a = x at *; generalize clsM b = y at *; subst h; go_enter Tryz.func110, Tryz.ntmps110; go_wp2_with (first | (go_at_call 101; with_reducible refine (ha _).mono ?_; rintro e w' ⟨rfl, rfl⟩) | (go_at_call 101; with_reducible refine (hb _).mono ?_; rintro e w' ⟨rfl, rfl⟩)); go_ret; exact ⟨by rw [H.out]; rfl, rfl⟩
  · have H : Hid (fLess a b = _) := Lib.hid (show fLess a b = decide (clsM a < clsM b) from if_neg h); have ha := real_Class a; have hb := real_Class b; generalize clsM a = x at *; generalize clsM b = y at *; have e1 := (int_ne (show x ≠ y from h)).1; have e2 := (int_ne (show x ≠ y from h)).2; clear h; go_enter Tryz.func110, Tryz.ntmps110; go_wp2_with (first | (go_at_call 101; with_reducible refine (ha _).mono ?_; rintro e w' ⟨rfl, rfl⟩) | (go_at_call 101; with_reducible refine (hb _).mono ?_; rintro e w' ⟨rfl, rfl⟩)); go_ret; exact ⟨by rw [H.out]; rfl, rfl⟩
set_option maxRecDepth 100000 in
set_option maxHeartbeats 400000 in
theorem term_Within (a : Int) (b : Nat) (w : World) :
    Calls Tryz.prog 64 #[.int .i64 a, .float .f64 b] w fun e w' => e = .returned (.bool (withinM a b)) ∧ w = w' := by
  have H : Hid (withinM a b = _) := Lib.hid (show withinM a b = (goodSp b && (decide (0 ≤ a) && (FloatKind.f64.format.order (floatOfInt .f64 a) b == some .lt))) from rfl); have hg := term_Good b
  cases hv : goodSp b with
  | false =>
    rw [hv] at H hg; go_enter Tryz.func64, Tryz.ntmps64; go_wp2_with (go_at_call 59; refine (hg _).mono ?_; rintro e w' ⟨rfl, rfl⟩); go_ret; exact ⟨by rw [H.out]; rfl, rfl⟩
  | true =>
    rw [hv] at H hg; by_cases h0 : 0 ≤ a
    · rw [decide_eq_true h0] at H; go_enter Tryz.func64, Tryz.ntmps64; go_wp2_with (go_at_call 59; refine (hg _).mono ?_; rintro e w' ⟨rfl, rfl⟩); go_ret; exact ⟨by rw [H.out]; rfl, rfl⟩
    · rw [decide_eq_false h0] at H; go_enter Tryz.func64, Tryz.ntmps64; go_wp2_with (go_at_call 59; refine (hg _).mono ?_; rintro e w' ⟨rfl, rfl⟩); go_ret; exact ⟨by rw [H.out]; rfl, rfl⟩
theorem floatMul {a b r : Nat} (h : FloatKind.f64.format.mul a b = some r) (t : TypeId) (w : World) : (binOp BinOp.mul t (Value.float FloatKind.f64 a) (Value.float FloatKind.f64 b)).run Tryz.prog w = .ok (Value.float FloatKind.f64 r) w := run_float_arith w BinOp.mul t FloatKind.f64 a b r h
set_option maxRecDepth 100000 in
set_option maxHeartbeats 400000 in
theorem math_normalize (b : Nat) (w : World) (hN : isNum b) :
    Calls Tryz.prog 158 #[.float .f64 b] w fun e w' => e = .returned (.tuple #[.float .f64 (normM b), .int .i64 (normK b)]) ∧ w = w' := by
  have hm := floatMul (mul_num hN (b := 4841369599423283200) (num_of_lt (by decide))).1; have H1 : Hid (normM b = _) := Lib.hid (show normM b = if fTiny b then fMul b 4841369599423283200 else b from rfl); have H2 : Hid (normK b = _) := Lib.hid (show normK b = if fTiny b then -52 else 0 from rfl); have e5 : (FloatKind.f64.format.order (fAbs b) 4503599627370496 == some .lt) = fTiny b := rfl; clear hN; cases ht : fTiny b
  all_goals
    rw [ht] at e5 H1 H2; go_enter Tryz.func158, Tryz.ntmps158; go_wp2_with (go_at_call 188; refine (math_Abs b _).mono ?_; rintro e w' ⟨rfl, rfl⟩); go_ret2; exact ⟨by rw [H1.out, H2.out]; rfl, rfl⟩
theorem normK_le (b : Nat) : -52 ≤ normK b ∧ normK b ≤ 0 := by unfold normK; split <;> omega
theorem ldexp_1 {b : Nat} {n : Int} (h : fInf0 b = true) : ldexpM b n = b := by unfold ldexpM; rw [h]; rfl
theorem ldexp_2 {b : Nat} {n : Int} (h : fInf0 b = false) {x : Int} (hx : expM (normM b) n (normK b) = x) (h1 : x < -1075) : ldexpM b n = fCopy 0 (normM b) := by
  unfold ldexpM; rw [h, hx, if_neg (by simp), if_pos h1]
theorem ldexp_3 {b : Nat} {n : Int} (h : fInf0 b = false) {x : Int} (hx : expM (normM b) n (normK b) = x) (h2 : 1023 < x) : ldexpM b n = (if fNeg (normM b) then 18442240474082181120 else 9218868437227405312) := by
  have h1 : ¬ x < -1075 := by omega
  unfold ldexpM; rw [h, hx, if_neg (by simp), if_neg h1, if_pos h2]
theorem ldexp_4 {b : Nat} {n : Int} (h : fInf0 b = false) {x : Int} (hx : expM (normM b) n (normK b) = x) (h1 : ¬ x < -1075) (h3 : x < -1022) : ldexpM b n = fMul 4368491638549381120 (pieceM (normM b) (x + 53)) := by
  have h2 : ¬ 1023 < x := by omega
  unfold ldexpM; rw [h, hx, if_neg (by simp), if_neg h1, if_neg h2, if_pos h3]
theorem ldexp_5 {b : Nat} {n : Int} (h : fInf0 b = false) {x : Int} (hx : expM (normM b) n (normK b) = x) (h3 : ¬ x < -1022) (h2 : ¬ 1023 < x) : ldexpM b n = fMul 4607182418800017408 (pieceM (normM b) x) := by
  have h1 : ¬ x < -1075 := by omega
  unfold ldexpM; rw [h, hx, if_neg (by simp), if_neg h1, if_neg h2, if_neg h3]
set_option maxRecDepth 100000 in
set_option maxHeartbeats 4000000 in
theorem math_ldexp (b : Nat) (n : Int) (w : World) (hn : 0 ≤ n ∧ n ≤ 60) (hb : b < 18446744073709551616) (hz : fZero b = false) (hq : fNan b = false) :
    Calls Tryz.prog 108 #[.float .f64 b, .int .i64 n] w fun e w' => e = .returned (.float .f64 (ldexpM b n)) ∧ w = w' := by
  have e1 : (FloatKind.f64.format.order b 0 == some .eq) = false := hz; have h3 := math_IsInf0 b; have h4 := math_IsNaN b
  cases hi : fInf0 b with
  | true =>
    have HR := Lib.hid (ldexp_1 (n := n) hi); rw [hi] at h3; clear hz hb hq hi; go_enter Tryz.func108, Tryz.ntmps108; go_wp2_with (first | (go_at_call 150; with_reducible refine (h3 _).mono ?_; rintro e w' ⟨rfl, rfl⟩)); go_ret; exact ⟨by rw [HR.out]; rfl, rfl⟩
  | false =>
    have hNum := num_of hb hq hi; have hlt := norm_lt hb hNum; have hN := fun w => math_normalize b w hNum
    have hk := normK_le b; have h1 := ext_bits; have h2 := ext_frombits; rw [hi] at h3; rw [hq] at h4; obtain ⟨x, hx⟩ : ∃ x, expM (normM b) n (normK b) = x := ⟨_, rfl⟩
    have HX : Hid (wrap64 (n + normK b + wrap64 (bits BinOp.and IntKind.i64 (wrap64 ((normM b : Int) / 4503599627370496)) 2047 - 1023)) = x) := Lib.hid hx; by_cases x1 : x < -1075
    · have HR := Lib.hid (ldexp_2 hi hx x1); clear hz hb hq hi hx; have hx := HX.out; clear hlt; generalize normM b = f at *; generalize normK b = k at *; go_enter Tryz.func108, Tryz.ntmps108; go_wp2_with (first | (go_at_call 150; with_reducible refine (h3 _).mono ?_; rintro e w' ⟨rfl, rfl⟩) | (go_at_call 149; with_reducible refine (h4 _).mono ?_; rintro e w' ⟨rfl, rfl⟩) | (go_at_call 158; with_reducible refine (hN _).mono ?_; rintro e w' ⟨rfl, rfl⟩) | (go_at_call 160; refine (math_Copysign 0 f _).mono ?_; rintro e w' ⟨rfl, rfl⟩)); go_ret; exact ⟨by rw [HR.out]; rfl, rfl⟩
    · by_cases x2 : 1023 < x
      · have HR := Lib.hid (ldexp_3 hi hx x2); clear hz hb hq hi hx x1; have x1 : ¬ x < -1075 := by omega
        have hx := HX.out; clear hlt; have e5 : (FloatKind.f64.format.order (normM b) 0 == some .lt) = fNeg (normM b) := rfl; generalize normM b = f at *; generalize normK b = k at *; cases hs : fNeg f
        all_goals
          rw [hs] at e5 HR; go_enter Tryz.func108, Tryz.ntmps108; go_wp2_with (first | (go_at_call 150; with_reducible refine (h3 _).mono ?_; rintro e w' ⟨rfl, rfl⟩) | (go_at_call 149; with_reducible refine (h4 _).mono ?_; rintro e w' ⟨rfl, rfl⟩) | (go_at_call 158; with_reducible refine (hN _).mono ?_; rintro e w' ⟨rfl, rfl⟩) | (go_at_call 161; refine (math_Inf _ _).mono ?_; rintro e w' ⟨rfl, rfl⟩)); go_ret; exact ⟨by rw [HR.out]; rfl, rfl⟩
      · by_cases x3 : x < -1022
        · have HR := Lib.hid (ldexp_4 hi hx x1 x3); have hm := floatMul (mul_num (a := 4368491638549381120) (num_of_lt (by decide)) (piece_num hlt (y := x + 53) (by omega) (by omega))).1; have HM : Hid (pieceM (normM b) (x + 53) = _) := Lib.hid (show pieceM (normM b) (x + 53) = (bits BinOp.or IntKind.u64 (bits BinOp.andNot IntKind.u64 (normM b : Int) 9218868437227405312) ((x + 53 + 1023) * 4503599627370496)).toNat from rfl); clear hz hb hq hi hx; have hx := HX.out; clear hlt; rw [HM.out] at hm; rw [HM.out] at HR; generalize fMul 4368491638549381120 _ = r at *; generalize normM b = f at *; generalize normK b = k at *; go_enter Tryz.func108, Tryz.ntmps108; go_wp2_with (first | (go_at_call 150; with_reducible refine (h3 _).mono ?_; rintro e w' ⟨rfl, rfl⟩) | (go_at_call 149; with_reducible refine (h4 _).mono ?_; rintro e w' ⟨rfl, rfl⟩) | (go_at_call 158; with_reducible refine (hN _).mono ?_; rintro e w' ⟨rfl, rfl⟩)); go_ret; exact ⟨by rw [HR.out]; rfl, rfl⟩
        · have HR := Lib.hid (ldexp_5 hi hx x3 x2); have hm := floatMul (mul_num (a := 4607182418800017408) (num_of_lt (by decide)) (piece_num hlt (y := x) (by omega) (by omega))).1; have HM : Hid (pieceM (normM b) x = _) := Lib.hid (show pieceM (normM b) x = (bits BinOp.or IntKind.u64 (bits BinOp.andNot IntKind.u64 (normM b : Int) 9218868437227405312) ((x + 1023) * 4503599627370496)).toNat from rfl); clear hz hb hq hi hx; have hx := HX.out; clear hlt; rw [HM.out] at hm; rw [HM.out] at HR; generalize fMul 4607182418800017408 _ = r at *; generalize normM b = f at *; generalize normK b = k at *; go_enter Tryz.func108, Tryz.ntmps108; go_wp2_with (first | (go_at_call 150; with_reducible refine (h3 _).mono ?_; rintro e w' ⟨rfl, rfl⟩) | (go_at_call 149; with_reducible refine (h4 _).mono ?_; rintro e w' ⟨rfl, rfl⟩) | (go_at_call 158; with_reducible refine (hN _).mono ?_; rintro e w' ⟨rfl, rfl⟩)); go_ret; exact ⟨by rw [HR.out]; rfl, rfl⟩
set_option maxRecDepth 100000 in
set_option maxHeartbeats 400000 in
theorem math_Ldexp (b : Nat) (n : Int) (w : World) (hn : 0 ≤ n ∧ n ≤ 60) (hb : b < 18446744073709551616) (hz : fZero b = false) (hq : fNan b = false) :
    Calls Tryz.prog 67 #[.float .f64 b, .int .i64 n] w fun e w' => e = .returned (.float .f64 (ldexpM b n)) ∧ w = w' := by
  have h1 := fun w => math_ldexp b n w hn hb hz hq
  clear hz hb hq; go_enter Tryz.func67, Tryz.ntmps67; go_wp2_with (go_at_call 108; refine (h1 _).mono ?_; rintro e w' ⟨rfl, rfl⟩); go_ret; exact ⟨rfl, rfl⟩
theorem toIntegral_eq (nm : String) (way : Ieee.Toward) (b : Nat) (h : ∀ s t, FloatKind.f64.decode b ≠ .nan s t) : Extern.MathFloor.toIntegral nm way #[.float .f64 b] = pure (.float .f64 (FloatKind.f64.encode ((FloatKind.f64.decode b).integral way))) := by
  unfold Extern.MathFloor.toIntegral; revert h; show _ → (match FloatKind.f64.decode b with | .nan s t => _ | d => _) = _; generalize FloatKind.f64.decode b = d; intro h
  cases d with
  | nan s t => exact absurd rfl (h s t)
  | infinity s => rfl
  | number s m p => rfl
theorem ext_ceil {b : Nat} (h : fNan b = false) (w : World) : (callFunc 105 #[.float .f64 b]).run Tryz.prog w = .ok (.value (.float .f64 (ceilM b))) w := by
  rw [run_callFunc_extern Tryz.func105 (by kernel_rfl) (by kernel_rfl) (by kernel_rfl) (e := Extern.MathFloor.toIntegral "math.archCeil" .up) (by kernel_rfl), toIntegral_eq _ _ _ (fun s t hr => by rw [nan_of_read hr] at h; cases h)]; rfl
set_option maxRecDepth 100000 in
set_option maxHeartbeats 400000 in
theorem math_Ceil (b : Nat) (h : fNan b = false) (w : World) :
    Calls Tryz.prog 66 #[.float .f64 b] w fun e w' => e = .returned (.float .f64 (ceilM b)) ∧ w = w' := by
  have h1 := ext_ceil h; clear h; go_enter Tryz.func66, Tryz.ntmps66; go_wp2_with fail; go_ret; exact ⟨rfl, rfl⟩
def MemK (ws : World) (S : List Nat) (w0 w : World) (L : List (Nat × TypeId × List Value)) : Prop := Mem w0 w L ∧ Keep S ws w
section
variable {ws w0 w w' : World} {S : List Nat} {L : List (Nat × TypeId × List Value)}
theorem MemK.of (h : Mem w0 w L) (S : List Nat) : MemK w S w0 w L := ⟨h, Keep.refl _ _⟩
theorem MemK.keep0 (h : MemK ws S w0 w L) (k : Keep [] w w') : MemK ws S w0 w' L := ⟨h.1.keep0 k, h.2.trans' k (by simp)⟩
theorem MemK.tail {x : Nat × TypeId × List Value} (h : MemK ws S w0 w (x :: L)) : MemK ws S w0 w L := ⟨h.1.tail, h.2⟩
theorem MemK.get (h : MemK ws S w0 w L) (i : Nat) {b : Nat} {T : TypeId} {cs : List Value} (hi : L[i]? = some (b, T, cs)) (k : Nat) {v : Value} (hk : cs[k]? = some v) : w.cell? ⟨b, k, none⟩ = some v := h.1.get i hi k hk
theorem MemK.alloc (h : MemK ws S w0 w L) (Z : List Value) (T : TypeId) : MemK ws S w0 (w.alloc (.cells Z.toArray T)) ((w.heap.size, T, Z) :: L) := ⟨h.1.alloc Z T, h.2.alloc _⟩
theorem MemK.setCell (h : MemK ws S w0 w L) (i : Nat) {b : Nat} {T : TypeId} {cs : List Value} (hi : L[i]? = some (b, T, cs)) (o : Nat) (v : Value) (hb : b < ws.heap.size → b ∈ S) : MemK ws S w0 (w.setCell ⟨b, o, none⟩ v) (L.set i (b, T, cs.set o v)) := ⟨h.1.setCell i hi o v, h.2.setCell _ _ hb⟩
end
theorem storeVar_cells (ty : TypeId) (p : Addr) (v : Value) (hv : v.cells = #[v]) : storeVar ty p v = storeVar ty p (.agg #[v]) := by
  unfold storeVar; rw [hv]; rfl
section
variable {P : Program} {ops : Array Oper} {rest : List Oper} {o : Oper} {a : Act} {ws w w0 : World} {S : List Nat} {Q : Exit → Act → World → Prop} {L : List (Nat × TypeId × List Value)} {K : Act → World → Prop}
theorem wpList_allocK (hgd : o.guard = none) (ty : TypeId) (ho : o.op = .alloc ty) (Z : List Value) (HZ : Hid (ZeroIs P ty Z)) (HM : Hid (MemK ws S w0 w L))
    (h : ∀ b w', Hid (MemK ws S w0 w' ((b, ty, Z) :: L)) → Hid (ws.heap.size ≤ b) → wpList P ops Q rest (a.put o.dst (.pointer (some ⟨b, 0, none⟩))) w') : wpList P ops Q (o :: rest) a w :=
  wpList_allocM hgd ty ho Z HZ (Lib.hid HM.out.1) fun b w' hM hk hb => h b w' (Lib.hid ⟨hM.out, HM.out.2.trans' hk.out (by simp)⟩) (Lib.hid (by rw [hb.out]; exact HM.out.2.size))
theorem wpList_boxK (hgd : o.guard = none) (ty : TypeId) (x : Operand) (ho : o.op = .box ty x) (cs : List Value) (hx : (a.eval x).cells = cs.toArray) (HM : Hid (MemK ws S w0 w L))
    (h : ∀ b w', Hid (MemK ws S w0 w' ((b, ty, cs) :: L)) → Hid (ws.heap.size ≤ b) → wpList P ops Q rest (a.put o.dst (.pointer (some ⟨b, 0, none⟩))) w') : wpList P ops Q (o :: rest) a w :=
  wpList_boxM hgd ty x ho cs hx (Lib.hid HM.out.1) fun b w' hM hk hb => h b w' (Lib.hid ⟨hM.out, HM.out.2.trans' hk.out (by simp)⟩) (Lib.hid (by rw [hb.out]; exact HM.out.2.size))
theorem wpList_loadK (hw : Region.wanted o (yielded ops a.tmps) = true) (ty : TypeId) (x : Operand) (ho : o.op = .load ty x) (HM : Hid (MemK ws S w0 w L)) (i : Nat) {b : Nat} {T : TypeId} {cs : List Value} (hi : L[i]? = some (b, T, cs)) (hx : a.eval x = .pointer (some ⟨b, 0, none⟩))
    (d : TypeDesc) (hu : P.underlying ty = some d) (hd : d.isRow = true) (hs : (P.info? ty).map (·.size) = some cs.length)
    (h : wpList P ops Q rest (a.put o.dst (.agg cs.toArray)) w) : wpList P ops Q (o :: rest) a w := wpList_loadM hw ty x ho (Lib.hid HM.out.1) i hi hx d hu hd hs h
theorem wpList_loadPartK (hw : Region.wanted o (yielded ops a.tmps) = true) (ty : TypeId) (x : Operand) (ho : o.op = .load ty x) (HM : Hid (MemK ws S w0 w L)) (i : Nat) {b : Nat} {T : TypeId} {cs : List Value} (hi : L[i]? = some (b, T, cs)) (off : Nat) (hx : a.eval x = .pointer (some ⟨b, off, none⟩))
    (vs : List Value) (hv : ∀ j v, vs[j]? = some v → cs[off + j]? = some v) (d : TypeDesc) (hu : P.underlying ty = some d) (hd : d.isRow = true) (hs : (P.info? ty).map (·.size) = some vs.length)
    (h : wpList P ops Q rest (a.put o.dst (.agg vs.toArray)) w) : wpList P ops Q (o :: rest) a w := wpList_loadPart hw ty x ho (Lib.hid HM.out.1) i hi off hx vs hv d hu hd hs h
theorem wpList_storeK (hgd : o.guard = none) (ty : TypeId) (x y : Operand) (ho : o.op = .store ty x y) (HM : Hid (MemK ws S w0 w L)) (i : Nat) {b : Nat} {T : TypeId} {cs : List Value} (hi : L[i]? = some (b, T, cs)) (hx : a.eval x = .pointer (some ⟨b, 0, none⟩)) (vs : List Value) (hy : a.eval y = .agg vs.toArray)
    (hs : (P.info? ty).map (·.size) = some vs.length) (hl : cs.length = vs.length) (h1 : ∀ v ∈ vs, v.oneCell' = true) (hb : b < ws.heap.size → b ∈ S)
    (h : ∀ w', Hid (MemK ws S w0 w' (L.set i (b, T, vs))) → wpList P ops Q rest (a.put o.dst undef) w') : wpList P ops Q (o :: rest) a w :=
  wpList_storeM hgd ty x y ho (Lib.hid HM.out.1) i hi hx vs hy hs hl h1 fun w' hM hk => h w' (Lib.hid ⟨hM.out, HM.out.2.trans' hk.out (fun x hx hlt => by have h9 : x = b := (by simpa using hx); rw [h9] at hlt ⊢; exact hb hlt)⟩)
theorem wpList_storePartK (hgd : o.guard = none) (ty : TypeId) (x y : Operand) (ho : o.op = .store ty x y) (HM : Hid (MemK ws S w0 w L)) (i : Nat) {b : Nat} {T : TypeId} {cs : List Value} (hi : L[i]? = some (b, T, cs)) (off : Nat) (hx : a.eval x = .pointer (some ⟨b, off, none⟩)) (vs : List Value) (hy : a.eval y = .agg vs.toArray)
    (hs : (P.info? ty).map (·.size) = some vs.length) (pre xs suf : List Value) (hc : cs = pre ++ xs ++ suf) (hl : xs.length = vs.length) (ho2 : off = pre.length) (h1 : ∀ v ∈ vs, v.oneCell' = true) (hb : b < ws.heap.size → b ∈ S)
    (h : ∀ w', Hid (MemK ws S w0 w' (L.set i (b, T, pre ++ vs ++ suf))) → wpList P ops Q rest (a.put o.dst undef) w') : wpList P ops Q (o :: rest) a w :=
  wpList_storePart hgd ty x y ho (Lib.hid HM.out.1) i hi off hx vs hy hs pre xs suf hc hl ho2 h1 fun w' hM hk => h w' (Lib.hid ⟨hM.out, HM.out.2.trans' hk.out (fun x hx hlt => by have h9 : x = b := (by simpa using hx); rw [h9] at hlt ⊢; exact hb hlt)⟩)
theorem wp_store1K (ty : TypeId) (x y : Operand) (ho : o.op = .store ty x y) (HM : Hid (MemK ws S w0 w L)) (i : Nat) {b : Nat} {T : TypeId} {cs : List Value} (hi : L[i]? = some (b, T, cs)) (off : Nat) (hx : a.eval x = .pointer (some ⟨b, off, none⟩)) (v : Value) (hy : a.eval y = v) (hv : v.cells = #[v]) (h1 : v.oneCell' = true)
    (hs : (P.info? ty).map (·.size) = some 1) (hl : off < cs.length) (hb : b < ws.heap.size → b ∈ S)
    (h : ∀ w', Hid (MemK ws S w0 w' (L.set i (b, T, cs.set off v))) → K (a.put o.dst undef) w') : o.wp P a w K Q := by
  have hst := run_storeVar_mid (P := P) w b off ty #[v] ((HM.out.1.blk i hi).there' off 1 (by omega)) hs (by simp [h1]); unfold Oper.wp execOp; simp only [ho, hx, hy, Instr.storeAt, Instr.sureAddr, Sem.run_bind, Sem.run_pure, Result.andThen_ok, storeVar_cells ty _ v hv, hst]; exact h _ (Lib.hid (HM.out.setCell i hi off v hb))
theorem wpList_store1K (hgd : o.guard = none) (ty : TypeId) (x y : Operand) (ho : o.op = .store ty x y) (HM : Hid (MemK ws S w0 w L)) (i : Nat) {b : Nat} {T : TypeId} {cs : List Value} (hi : L[i]? = some (b, T, cs)) (off : Nat) (hx : a.eval x = .pointer (some ⟨b, off, none⟩)) (v : Value) (hy : a.eval y = v) (hv : v.cells = #[v]) (h1 : v.oneCell' = true)
    (hs : (P.info? ty).map (·.size) = some 1) (hl : off < cs.length) (hb : b < ws.heap.size → b ∈ S)
    (h : ∀ w', Hid (MemK ws S w0 w' (L.set i (b, T, cs.set off v))) → wpList P ops Q rest (a.put o.dst undef) w') : wpList P ops Q (o :: rest) a w :=
  wpList_plain hgd fun _ hK => wp_store1K ty x y ho HM i hi off hx v hy hv h1 hs hl hb fun w' hM => hK _ _ (h w' hM)
theorem wp_allocK (ty : TypeId) (ho : o.op = .alloc ty) (Z : List Value) (HZ : Hid (ZeroIs P ty Z)) (HM : Hid (MemK ws S w0 w L))
    (h : ∀ b w', Hid (MemK ws S w0 w' ((b, ty, Z) :: L)) → Hid (ws.heap.size ≤ b) → K (a.put o.dst (.pointer (some ⟨b, 0, none⟩))) w') : o.wp P a w K Q := by
  unfold Oper.wp execOp; simp only [ho]; have hz := HZ.out w; simp only [Sem.run_bind, hz, Result.andThen_ok, Sem.run_pure]; exact h _ _ (Lib.hid (HM.out.alloc Z ty)) (Lib.hid HM.out.2.size)
theorem wp_storeK (ty : TypeId) (x y : Operand) (ho : o.op = .store ty x y) (HM : Hid (MemK ws S w0 w L)) (i : Nat) {b : Nat} {T : TypeId} {cs : List Value} (hi : L[i]? = some (b, T, cs)) (hx : a.eval x = .pointer (some ⟨b, 0, none⟩)) (vs : List Value) (hy : a.eval y = .agg vs.toArray)
    (hs : (P.info? ty).map (·.size) = some vs.length) (hl : cs.length = vs.length) (h1 : ∀ v ∈ vs, v.oneCell' = true) (hb : b < ws.heap.size → b ∈ S)
    (h : ∀ w', Hid (MemK ws S w0 w' (L.set i (b, T, vs))) → K (a.put o.dst undef) w') : o.wp P a w K Q :=
  wp_store_mid ty x y ho b 0 vs.toArray hx hy ((HM.out.1.blk i hi).there' 0 _ (by simp [hl])) (by simpa using hs) (all_oneCell_toArray h1)
    (h _ (Lib.hid ⟨HM.out.1.setAll i hi vs hl, Keep.setCells' b hb vs 0 w HM.out.2⟩))
theorem wp_storePartK (ty : TypeId) (x y : Operand) (ho : o.op = .store ty x y) (HM : Hid (MemK ws S w0 w L)) (i : Nat) {b : Nat} {T : TypeId} {cs : List Value} (hi : L[i]? = some (b, T, cs)) (off : Nat) (hx : a.eval x = .pointer (some ⟨b, off, none⟩)) (vs : List Value) (hy : a.eval y = .agg vs.toArray)
    (hs : (P.info? ty).map (·.size) = some vs.length) (pre xs suf : List Value) (hc : cs = pre ++ xs ++ suf) (hl : xs.length = vs.length) (ho2 : off = pre.length) (h1 : ∀ v ∈ vs, v.oneCell' = true) (hb : b < ws.heap.size → b ∈ S)
    (h : ∀ w', Hid (MemK ws S w0 w' (L.set i (b, T, pre ++ vs ++ suf))) → K (a.put o.dst undef) w') : o.wp P a w K Q :=
  wp_store_mid ty x y ho b off vs.toArray hx hy ((HM.out.1.blk i hi).there' off _ (by subst hc ho2; simp [hl])) (by simpa using hs) (all_oneCell_toArray h1)
    (h _ (Lib.hid ⟨HM.out.1.setMid i hi pre xs suf vs hc hl off ho2, Keep.setCells' b hb vs off w HM.out.2⟩))
end
end Go.Proofs.YtlhnjkekjbbhcaaGreatDoor
namespace Go.Proofs.YtlhnjkekjbbhcaaGreatDoor
open Go.RowKit Go.Shelf
def Cf.cells (c : Cf) : List Value := [.string (S c.host), .int .i64 c.gu, .int .i64 c.ca, .int .i64 c.fl, .int .i64 c.bu, .int .i64 c.re, .int .i64 c.st, .float .f64 c.ttl, .float .f64 c.mt, .float .f64 c.ms, .float .f64 c.tm, .float .f64 c.bo, .float .f64 c.pr]
theorem Cf.len (c : Cf) : c.cells.length = 13 := rfl
theorem Cf.one (c : Cf) : ∀ v ∈ c.cells, v.oneCell' = true := by
  intro v hv; simp only [Cf.cells, List.mem_cons, List.not_mem_nil, or_false] at hv; rcases hv with rfl | rfl | rfl | rfl | rfl | rfl | rfl | rfl | rfl | rfl | rfl | rfl | rfl <;> rfl
theorem cf_size (c : Cf) : (Tryz.prog.info? 48).map (·.size) = some c.cells.length := by rw [c.len]; kernel_rfl
def ErS.top (E : ErS) (rp va : Value) : List Value := [rp, .int .i64 E.began, .int .i64 E.last, .int .i64 E.head.st, va, .int .i64 E.head.len, .bool E.head.ch, .bool E.head.cl, .bool E.body, .string (S E.data), .int .i64 E.taken, .int .i64 E.size, .bool E.reuse]
def ErS.mid (E : ErS) : List Value := [.int .i64 E.state, .int .i64 E.unt]
def ErS.low (E : ErS) : List Value := [.int .i64 E.tries, .int .i64 E.misses, .int .i64 E.silent, .int .i64 E.heard]
def ErS.cells (E : ErS) (rp va : Value) : List Value := E.top rp va ++ (E.key.cells ++ (E.cfg.cells ++ (E.known.cells ++ (E.mid ++ (E.res.cells ++ E.low)))))
theorem ErS.len (E : ErS) (rp va : Value) : (E.cells rp va).length = 142 := by
  simp only [ErS.cells, List.length_append, Ky.len, Cf.len, Tk.len, Rs.len]; rfl
theorem get_skip {l r : List Value} {n : Nat} (h : l.length = n) (i : Nat) : (l ++ r)[n + i]? = r[i]? := by
  rw [List.getElem?_append_right (by omega), h, Nat.add_sub_cancel_left]
theorem set_skip {l r : List Value} {n : Nat} (h : l.length = n) (i : Nat) (v : Value) : (l ++ r).set (n + i) v = l ++ r.set i v := by
  rw [List.set_append_right _ _ (by omega), h, Nat.add_sub_cancel_left]
theorem er_key (E : ErS) (rp va : Value) {i : Nat} (hi : i < 36) : (E.cells rp va)[13 + i]? = E.key.cells[i]? := by
  have h1 : (E.top rp va).length = 13 := rfl; unfold ErS.cells; rw [get_skip h1, List.getElem?_append_left (by rw [E.key.len]; exact hi)]
theorem er_cfg (E : ErS) (rp va : Value) {i : Nat} (hi : i < 13) : (E.cells rp va)[49 + i]? = E.cfg.cells[i]? := by
  have h1 : (E.top rp va).length = 13 := rfl; unfold ErS.cells; rw [show 49 + i = 13 + (36 + i) by omega, get_skip h1, get_skip E.key.len, List.getElem?_append_left (by rw [E.cfg.len]; exact hi)]
theorem er_known (E : ErS) (rp va : Value) {i : Nat} (hi : i < 38) : (E.cells rp va)[62 + i]? = E.known.cells[i]? := by
  have h1 : (E.top rp va).length = 13 := rfl; unfold ErS.cells; rw [show 62 + i = 13 + (36 + (13 + i)) by omega, get_skip h1, get_skip E.key.len, get_skip E.cfg.len, List.getElem?_append_left (by rw [E.known.len]; exact hi)]
theorem er_mid (E : ErS) (rp va : Value) {i : Nat} (hi : i < 2) : (E.cells rp va)[100 + i]? = E.mid[i]? := by
  have h1 : (E.top rp va).length = 13 := rfl; unfold ErS.cells; rw [show 100 + i = 13 + (36 + (13 + (38 + i))) by omega, get_skip h1, get_skip E.key.len, get_skip E.cfg.len, get_skip E.known.len, List.getElem?_append_left (by show i < 2; exact hi)]
theorem er_res (E : ErS) (rp va : Value) {i : Nat} (hi : i < 36) : (E.cells rp va)[102 + i]? = E.res.cells[i]? := by
  have h1 : (E.top rp va).length = 13 := rfl; have h2 : E.mid.length = 2 := rfl; unfold ErS.cells; rw [show 102 + i = 13 + (36 + (13 + (38 + (2 + i)))) by omega, get_skip h1, get_skip E.key.len, get_skip E.cfg.len, get_skip E.known.len, get_skip h2, List.getElem?_append_left (by rw [E.res.len]; exact hi)]
theorem er_low (E : ErS) (rp va : Value) (i : Nat) : (E.cells rp va)[138 + i]? = E.low[i]? := by
  have h1 : (E.top rp va).length = 13 := rfl; have h2 : E.mid.length = 2 := rfl; unfold ErS.cells; rw [show 138 + i = 13 + (36 + (13 + (38 + (2 + (36 + i))))) by omega, get_skip h1, get_skip E.key.len, get_skip E.cfg.len, get_skip E.known.len, get_skip h2, get_skip E.res.len]
theorem er_smid (E : ErS) (rp va : Value) {i : Nat} (hi : i < 2) (v : Value) : (E.cells rp va).set (100 + i) v = E.top rp va ++ (E.key.cells ++ (E.cfg.cells ++ (E.known.cells ++ (E.mid.set i v ++ (E.res.cells ++ E.low))))) := by
  have h1 : (E.top rp va).length = 13 := rfl; unfold ErS.cells; rw [show 100 + i = 13 + (36 + (13 + (38 + i))) by omega, set_skip h1, set_skip E.key.len, set_skip E.cfg.len, set_skip E.known.len, List.set_append_left _ _ (by show i < 2; exact hi)]
theorem er_slow (E : ErS) (rp va : Value) (i : Nat) (v : Value) : (E.cells rp va).set (138 + i) v = E.top rp va ++ (E.key.cells ++ (E.cfg.cells ++ (E.known.cells ++ (E.mid ++ (E.res.cells ++ E.low.set i v))))) := by
  have h1 : (E.top rp va).length = 13 := rfl; have h2 : E.mid.length = 2 := rfl; unfold ErS.cells; rw [show 138 + i = 13 + (36 + (13 + (38 + (2 + (36 + i))))) by omega, set_skip h1, set_skip E.key.len, set_skip E.cfg.len, set_skip E.known.len, set_skip h2, set_skip E.res.len]
structure Et (w0 w : World) (b : Nat) (rp va : Value) (X : List Nat) (E : ErS) (n : Nat) (L : List Nat) : Prop where
  blk : Blk w b 106 (E.cells rp va)
  rep : match E.rep with
    | none => rp = .pointer none ∧ X = []
    | some P => ∃ p, rp = .pointer (some ⟨p, 0, none⟩) ∧ Rp w0 w p X P n (b :: (va.ownBlock.toList ++ L))
  hd : Own Fld.cells 2 w0.heap.size 89 w va E.head.F
  sm : ∀ f ∈ E.head.F, f.name.length ≤ 1048576 ∧ f.value.length ≤ 1048576
  kp : Keep [] w0 w
  lo : w0.heap.size ≤ b
  ne : va.ownBlock ≠ some b
  ap : ∀ l ∈ L, l ≠ b ∧ va.ownBlock ≠ some l ∧ l < w.heap.size
theorem er_top (E : ErS) (rp va : Value) (i : Nat) (hi : i < 13) : (E.cells rp va)[i]? = (E.top rp va)[i]? := by
  unfold ErS.cells; exact List.getElem?_append_left hi
theorem er_stop (E : ErS) (rp va : Value) (i : Nat) (hi : i < 13) (v : Value) : (E.cells rp va).set i v = (E.top rp va).set i v ++ (E.key.cells ++ (E.cfg.cells ++ (E.known.cells ++ (E.mid ++ (E.res.cells ++ E.low))))) := by
  unfold ErS.cells; exact List.set_append_left _ _ hi
theorem g_rep (E : ErS) (rp va : Value) : (E.cells rp va)[0]? = some rp := er_top E rp va 0 (by omega)
theorem g_began (E : ErS) (rp va : Value) : (E.cells rp va)[1]? = some (.int .i64 E.began) := er_top E rp va 1 (by omega)
theorem g_last (E : ErS) (rp va : Value) : (E.cells rp va)[2]? = some (.int .i64 E.last) := er_top E rp va 2 (by omega)
theorem g_len (E : ErS) (rp va : Value) : (E.cells rp va)[5]? = some (.int .i64 E.head.len) := er_top E rp va 5 (by omega)
theorem g_cl (E : ErS) (rp va : Value) : (E.cells rp va)[7]? = some (.bool E.head.cl) := er_top E rp va 7 (by omega)
theorem g_body (E : ErS) (rp va : Value) : (E.cells rp va)[8]? = some (.bool E.body) := er_top E rp va 8 (by omega)
theorem g_data (E : ErS) (rp va : Value) : (E.cells rp va)[9]? = some (.string (S E.data)) := er_top E rp va 9 (by omega)
theorem g_taken (E : ErS) (rp va : Value) : (E.cells rp va)[10]? = some (.int .i64 E.taken) := er_top E rp va 10 (by omega)
theorem g_size (E : ErS) (rp va : Value) : (E.cells rp va)[11]? = some (.int .i64 E.size) := er_top E rp va 11 (by omega)
theorem g_reuse (E : ErS) (rp va : Value) : (E.cells rp va)[12]? = some (.bool E.reuse) := er_top E rp va 12 (by omega)
theorem g_kind (E : ErS) (rp va : Value) : (E.cells rp va)[13]? = some (.int .i64 E.key.kind) := er_key E rp va (i := 0) (by omega)
theorem g_host (E : ErS) (rp va : Value) : (E.cells rp va)[49]? = some (.string (S E.cfg.host)) := er_cfg E rp va (i := 0) (by omega)
theorem g_re (E : ErS) (rp va : Value) : (E.cells rp va)[54]? = some (.int .i64 E.cfg.re) := er_cfg E rp va (i := 5) (by omega)
theorem g_bo (E : ErS) (rp va : Value) : (E.cells rp va)[60]? = some (.float .f64 E.cfg.bo) := er_cfg E rp va (i := 11) (by omega)
theorem g_state (E : ErS) (rp va : Value) : (E.cells rp va)[100]? = some (.int .i64 E.state) := er_mid E rp va (i := 0) (by omega)
theorem g_unt (E : ErS) (rp va : Value) : (E.cells rp va)[101]? = some (.int .i64 E.unt) := er_mid E rp va (i := 1) (by omega)
theorem g_tries (E : ErS) (rp va : Value) : (E.cells rp va)[138]? = some (.int .i64 E.tries) := er_low E rp va 0
theorem g_misses (E : ErS) (rp va : Value) : (E.cells rp va)[139]? = some (.int .i64 E.misses) := er_low E rp va 1
theorem g_silent (E : ErS) (rp va : Value) : (E.cells rp va)[140]? = some (.int .i64 E.silent) := er_low E rp va 2
theorem g_heard (E : ErS) (rp va : Value) : (E.cells rp va)[141]? = some (.int .i64 E.heard) := er_low E rp va 3
theorem s_last (E : ErS) (rp va : Value) (x : Int) : (E.cells rp va).set 2 (.int .i64 x) = ({ E with last := x } : ErS).cells rp va := er_stop E rp va 2 (by omega) _
theorem s_body (E : ErS) (rp va : Value) (x : Bool) : (E.cells rp va).set 8 (.bool x) = ({ E with body := x } : ErS).cells rp va := er_stop E rp va 8 (by omega) _
theorem s_data (E : ErS) (rp va : Value) (x : List UInt8) : (E.cells rp va).set 9 (.string (S x)) = ({ E with data := x } : ErS).cells rp va := er_stop E rp va 9 (by omega) _
theorem s_taken (E : ErS) (rp va : Value) (x : Int) : (E.cells rp va).set 10 (.int .i64 x) = ({ E with taken := x } : ErS).cells rp va := er_stop E rp va 10 (by omega) _
theorem s_size (E : ErS) (rp va : Value) (x : Int) : (E.cells rp va).set 11 (.int .i64 x) = ({ E with size := x } : ErS).cells rp va := er_stop E rp va 11 (by omega) _
theorem s_reuse (E : ErS) (rp va : Value) (x : Bool) : (E.cells rp va).set 12 (.bool x) = ({ E with reuse := x } : ErS).cells rp va := er_stop E rp va 12 (by omega) _
theorem s_state (E : ErS) (rp va : Value) (x : Int) : (E.cells rp va).set 100 (.int .i64 x) = ({ E with state := x } : ErS).cells rp va := er_smid E rp va (i := 0) (by omega) _
theorem s_unt (E : ErS) (rp va : Value) (x : Int) : (E.cells rp va).set 101 (.int .i64 x) = ({ E with unt := x } : ErS).cells rp va := er_smid E rp va (i := 1) (by omega) _
theorem s_tries (E : ErS) (rp va : Value) (x : Int) : (E.cells rp va).set 138 (.int .i64 x) = ({ E with tries := x } : ErS).cells rp va := er_slow E rp va 0 _
theorem s_misses (E : ErS) (rp va : Value) (x : Int) : (E.cells rp va).set 139 (.int .i64 x) = ({ E with misses := x } : ErS).cells rp va := er_slow E rp va 1 _
theorem s_silent (E : ErS) (rp va : Value) (x : Int) : (E.cells rp va).set 140 (.int .i64 x) = ({ E with silent := x } : ErS).cells rp va := er_slow E rp va 2 _
theorem s_heard (E : ErS) (rp va : Value) (x : Int) : (E.cells rp va).set 141 (.int .i64 x) = ({ E with heard := x } : ErS).cells rp va := er_slow E rp va 3 _
def ErS.upto (E : ErS) (rp va : Value) : List Value := E.top rp va ++ (E.key.cells ++ (E.cfg.cells ++ (E.known.cells ++ E.mid)))
theorem ErS.upto_len (E : ErS) (rp va : Value) : (E.upto rp va).length = 102 := by
  simp only [ErS.upto, List.length_append, Ky.len, Cf.len, Tk.len]; rfl
theorem p_res (E : ErS) (rp va : Value) : E.cells rp va = E.upto rp va ++ E.res.cells ++ E.low := by
  simp only [ErS.cells, ErS.upto, List.append_assoc]
theorem p_res' (E : ErS) (rp va : Value) (r : Rs) : E.upto rp va ++ r.cells ++ E.low = ({ E with res := r } : ErS).cells rp va := by
  simp only [ErS.cells, ErS.upto, List.append_assoc]; rfl
def ErS.pre3 (E : ErS) (rp : Value) : List Value := [rp, .int .i64 E.began, .int .i64 E.last]
def ErS.post8 (E : ErS) : List Value := [.bool E.body, .string (S E.data), .int .i64 E.taken, .int .i64 E.size, .bool E.reuse] ++ (E.key.cells ++ (E.cfg.cells ++ (E.known.cells ++ (E.mid ++ (E.res.cells ++ E.low)))))
theorem p_head (E : ErS) (rp va : Value) : E.cells rp va = E.pre3 rp ++ ansC E.head.st va E.head.len E.head.ch E.head.cl ++ E.post8 := rfl
theorem p_head' (E : ErS) (rp va : Value) (a : Ans) : E.pre3 rp ++ ansC a.st va a.len a.ch a.cl ++ E.post8 = ({ E with head := a } : ErS).cells rp va := rfl
def ErS.past (E : ErS) : List Value := E.key.cells ++ (E.cfg.cells ++ (E.known.cells ++ (E.mid ++ (E.res.cells ++ E.low))))
theorem p_top (E : ErS) (rp va : Value) : E.cells rp va = [] ++ E.top rp va ++ E.past := rfl
def smallA (a : Ans) : Prop := ∀ f ∈ a.F, f.name.length ≤ 1048576 ∧ f.value.length ≤ 1048576
section
variable {w0 w w' : World} {b n : Nat} {rp va : Value} {X L : List Nat} {E E' : ErS}
theorem Et.lt (h : Et w0 w b rp va X E n L) : b < w.heap.size := h.blk.lt
theorem Et.an (h : Et w0 w b rp va X E n L) : AnIn w va E.head.F := ⟨h.hd.sl Fld.cells_length, fun f hf => (h.sm f hf).1, fun f hf => (h.sm f hf).2⟩
theorem Et.mem (h : Et w0 w b rp va X E n L) : MemK w (b :: X) w0 w [(b, 106, E.cells rp va)] := by
  refine ⟨⟨h.kp, fun i j x y hi hj _ => ?_, fun x hx => ?_⟩, Keep.refl _ _⟩
  · have h1 : i < 1 := (List.getElem?_eq_some_iff.1 hi).1; have h2 : j < 1 := (List.getElem?_eq_some_iff.1 hj).1; omega
  · simp only [List.mem_singleton] at hx; subst hx; exact ⟨h.lo, h.blk⟩
theorem Et.reply (h : Et w0 w b rp va X E n L) {P : ReS} (hP : E.rep = some P) : ∃ p, rp = .pointer (some ⟨p, 0, Option.none⟩) ∧ Rp w0 w p X P n (b :: (va.ownBlock.toList ++ L)) := by
  have := h.rep; rw [hP] at this; exact this
theorem Et.base (h : Et w0 w b rp va X E n L) : ∀ x ∈ b :: X, w0.heap.size ≤ x := by
  intro x hx; rcases List.mem_cons.1 hx with rfl | hx
  · exact h.lo
  · have hr := h.rep
    cases hP : E.rep with
    | none => rw [hP] at hr; rw [hr.2] at hx; cases hx
    | some P =>
      obtain ⟨p, _, hR⟩ := h.reply hP; exact (hR.re.lo x hx).1
theorem Et.xlt (h : Et w0 w b rp va X E n L) : ∀ x ∈ X, x < w.heap.size ∧ x ≠ b ∧ va.ownBlock ≠ some x ∧ x ∉ L := by
  intro x hx; have hr := h.rep
  cases hP : E.rep with
  | none => rw [hP] at hr; rw [hr.2] at hx; cases hx
  | some P =>
    obtain ⟨p, _, hR⟩ := h.reply hP; refine ⟨(hR.re.lo x hx).2, fun hh => ?_, fun hh => ?_, fun hh => ?_⟩
    · exact (hR.ap b (by simp)).1 (hh ▸ hx)
    · exact (hR.ap x (by rw [hh]; simp)).1 hx
    · exact (hR.ap x (by simp [hh])).1 hx
theorem Et.keep {T : List Nat} (h : Et w0 w b rp va X E n L) (k : Keep T w w') (hT : ∀ x ∈ T, w0.heap.size ≤ x) (hb : b ∉ T) (hX : ∀ x ∈ X, x ∉ T) (hv : ∀ g, va.ownBlock = some g → g ∉ T) : Et w0 w' b rp va X E n L := by
  refine ⟨k.blk h.blk hb, ?_, h.hd.keep k hv, h.sm, h.kp.above k hT, h.lo, h.ne, fun l hl => ⟨(h.ap l hl).1, (h.ap l hl).2.1, Nat.lt_of_lt_of_le (h.ap l hl).2.2 k.size⟩⟩; have hr := h.rep
  cases hP : E.rep with
  | none => rw [hP] at hr; exact hr
  | some P =>
    obtain ⟨p, hp, hR⟩ := h.reply hP; exact ⟨p, hp, hR.keep k hT hX⟩
theorem Et.keep0 (h : Et w0 w b rp va X E n L) (k : Keep [] w w') : Et w0 w' b rp va X E n L := h.keep k (by simp) (by simp) (by simp) (by simp)
theorem Et.own (h : Et w0 w b rp va X E n L) (k : Keep [b] w w') (hB : Blk w' b 106 (E'.cells rp va)) (hr : E'.rep = E.rep) (hh : E'.head.F = E.head.F) : Et w0 w' b rp va X E' n L := by
  have hx := h.xlt; refine ⟨hB, ?_, ?_, ?_, h.kp.above k (by simpa using h.lo), h.lo, h.ne, fun l hl => ⟨(h.ap l hl).1, (h.ap l hl).2.1, Nat.lt_of_lt_of_le (h.ap l hl).2.2 k.size⟩⟩
  · have hr' := h.rep; rw [hr]
    cases hP : E.rep with
    | none => rw [hP] at hr'; exact hr'
    | some P =>
      obtain ⟨p, hp, hR⟩ := h.reply hP; exact ⟨p, hp, hR.keep k (by simpa using h.lo) (fun x hx' => by simpa using (hx x hx').2.1)⟩
  · rw [hh]; exact h.hd.keep k (fun g hg => by simp only [List.mem_singleton]; rintro rfl; exact h.ne hg)
  · rw [hh]; exact h.sm
theorem Et.called {p n' : Nat} {X' : List Nat} {P P' : ReS} (h : Et w0 w b rp va X E n L) (_hP : E.rep = some P) (hp : rp = .pointer (some ⟨p, 0, Option.none⟩)) (hR : Rp w0 w' p X' P' n' (b :: (va.ownBlock.toList ++ L))) (k : Keep X w w') : Et w0 w' b rp va X' { E with rep := some P' } n' L := by
  have hx := h.xlt; have hb := h.base; refine ⟨k.blk h.blk (fun hh => (hx b hh).2.1 rfl), ⟨p, hp, hR⟩, h.hd.keep k (fun g hg hh => (hx g hh).2.2.1 hg), h.sm, h.kp.above k (fun x hx' => hb x (List.mem_cons_of_mem _ hx')), h.lo, h.ne, fun l hl => ⟨(h.ap l hl).1, (h.ap l hl).2.1, Nat.lt_of_lt_of_le (h.ap l hl).2.2 k.size⟩⟩
end
end Go.Proofs.YtlhnjkekjbbhcaaGreatDoor
namespace Go.Proofs.YtlhnjkekjbbhcaaGreatDoor
open Go.RowKit Go.Shelf
section
variable {w0 w : World} {b n : Nat} {rp va : Value} {X L : List Nat} {E : ErS}
set_option maxRecDepth 100000 in
set_option maxHeartbeats 400000 in
theorem er_State (h : Et w0 w b rp va X E n L) : Calls Tryz.prog 18 #[.pointer (some ⟨b, 0, Option.none⟩)] w fun e w' => e = .returned (.int .i64 E.state) ∧ w = w' := by
  have c := h.blk.get (g_state E rp va); clear h; go_enter Tryz.func18, Tryz.ntmps18; go_wp2_with fail; go_ret; exact ⟨rfl, rfl⟩
set_option maxRecDepth 100000 in
set_option maxHeartbeats 400000 in
theorem er_Tries (h : Et w0 w b rp va X E n L) : Calls Tryz.prog 20 #[.pointer (some ⟨b, 0, Option.none⟩)] w fun e w' => e = .returned (.int .i64 E.tries) ∧ w = w' := by
  have c := h.blk.get (g_tries E rp va); clear h; go_enter Tryz.func20, Tryz.ntmps20; go_wp2_with fail; go_ret; exact ⟨rfl, rfl⟩
set_option maxRecDepth 100000 in
set_option maxHeartbeats 400000 in
theorem er_Reuse (h : Et w0 w b rp va X E n L) : Calls Tryz.prog 42 #[.pointer (some ⟨b, 0, Option.none⟩)] w fun e w' => e = .returned (.bool E.reuse) ∧ w = w' := by
  have c := h.blk.get (g_reuse E rp va); clear h; go_enter Tryz.func42, Tryz.ntmps42; go_wp2_with fail; go_ret; exact ⟨rfl, rfl⟩
set_option maxRecDepth 100000 in
set_option maxHeartbeats 800000 in
theorem er_Wants (h : Et w0 w b rp va X E n L) (now : Int) : Calls Tryz.prog 21 #[.pointer (some ⟨b, 0, Option.none⟩), .int .i64 now] w fun e w' => e = .returned (.bool (decide (E.state = 1) && decide (E.unt ≤ now))) ∧ w = w' := by
  have c := h.blk.get (g_unt E rp va); have hs := er_State h; clear h; by_cases h1 : E.state = 1
  · have e1 := (int_eq h1).1; rw [decide_eq_true h1]; generalize E.state = x at *; clear h1; go_enter Tryz.func21, Tryz.ntmps21; go_wp2_with (go_at_call 18; refine hs.mono ?_; rintro e w' ⟨rfl, rfl⟩); go_ret; exact ⟨rfl, rfl⟩
  · have e1 := (int_ne h1).1; rw [decide_eq_false h1]; generalize E.state = x at *; clear h1; go_enter Tryz.func21, Tryz.ntmps21; go_wp2_with (go_at_call 18; refine hs.mono ?_; rintro e w' ⟨rfl, rfl⟩); go_ret; exact ⟨rfl, rfl⟩
set_option maxRecDepth 100000 in
set_option maxHeartbeats 800000 in
theorem er_Result (h : Et w0 w b rp va X E n L) : Calls Tryz.prog 19 #[.pointer (some ⟨b, 0, Option.none⟩)] w fun e w' => e = .returned (.agg E.res.cells.toArray) ∧ Keep [] w w' := by
  have M0 : Hid (MemK w [] w0 w [(b, 106, E.cells rp va)]) := Lib.hid (MemK.of h.mem.1 []); clear h; go_enter Tryz.func19, Tryz.ntmps19
  go_wp2_with (first | ((with_reducible refine gA 2 ?_); refine wpList_allocK rfl 39 rfl (rs0.cells) (Lib.hid rs_zero) M0 ?_; intro c w1 M1 hnewc; try simp only [Act.put, sqA, sqB, sqC]) | ((with_reducible refine gL 9 8 ?_); refine wpList_loadPartK (by rfl) 39 (.tmp 8) rfl M1 1 rfl 102 (by rfl) (E.res.cells) (fun j v hv => (er_res E rp va (by have := (List.getElem?_eq_some_iff.1 hv).1; rw [Rs.len] at this; exact this)).trans hv) _ Tryz.underlying39 rfl (rs_size _) ?_; try simp only [Act.put, sqA, sqB, sqC]) | ((with_reducible refine gS 2 9 ?_); refine wpList_storeK rfl 39 (.tmp 2) (.tmp 9) rfl M1 0 rfl (by rfl) (E.res.cells) (by rfl) (rs_size _) (by rw [Rs.len, Rs.len]) (Rs.one _) (fun hlt => absurd hnewc.out (by omega)) ?_; intro w2 M2; try simp only [Act.put]) | fail); have hload := rs_end M2.out.1 0 rfl; refine bodyPost_ret (v := .agg E.res.cells.toArray) (by simp [results, Tryz.results19, asAddr, hload]) rfl ⟨rfl, M2.out.2⟩
set_option maxRecDepth 100000 in
set_option maxHeartbeats 1600000 in
theorem er_Take (h : Et w0 w b rp va X E n L) (hd : E.data.length ≤ 70368744177664) (ht : 0 ≤ E.taken ∧ E.taken ≤ 70368744177664) : Calls Tryz.prog 25 #[.pointer (some ⟨b, 0, Option.none⟩)] w fun e w' => e = .returned (.tuple #[.string (S E.data), .int .i64 E.taken]) ∧ Et w0 w' b rp va X (erTook E) n L ∧ Keep [b] w w' := by
  have c9 := h.blk.get (g_data E rp va); have c10 := h.blk.get (g_taken E rp va); have M0 : Hid (MemK w [b] w0 w [(b, 106, E.cells rp va)]) := Lib.hid (MemK.of h.mem.1 [b]); have H := Lib.hid h; clear h; go_enter Tryz.func25, Tryz.ntmps25
  go_upto_region 3 with fail
  go_cut [4, 5] (fun x y wx => x = .string (S E.data) ∧ y = .int .i64 E.taken ∧ Hid (Keep [] w wx))
  case first =>
    go_quiet (fail); go_wp2_with fail; go_meet; exact ⟨rfl, rfl, Lib.hid ((Keep.refl _ _).drewN _)⟩
  obtain ⟨rfl, rfl, kq⟩ := hcut; have MQ := Lib.hid (M0.out.keep0 kq.out); have hsz : (S E.data).size = E.data.length := rfl; clear c9 c10 kq
  go_wp2_with (first | ((with_reducible refine gT 21 ?_); refine wpList_store1K rfl 9 (.tmp 21) _ rfl MQ 0 rfl 9 (by rfl) (.string (S [])) (by rfl) rfl rfl (by kernel_rfl) (by rw [ErS.len]; omega) (fun _ => by simp) ?_; intro w1 M1; have hR := M1.out; simp only [sqC, s_data] at hR; clear M1; have M1 := Lib.hid hR; clear hR; have c10 := M1.out.get 0 rfl 10 (g_taken _ _ _); try simp only [Act.put]) | ((with_reducible refine gT 32 ?_); refine wpList_store1K rfl 3 (.tmp 32) _ rfl M1 0 rfl 10 (by rfl) (.int .i64 (E.taken + (E.data.length : Nat))) (by rfl) rfl rfl (by kernel_rfl) (by rw [ErS.len]; omega) (fun _ => by simp) ?_; intro w2 M2; have hR := M2.out; simp only [sqC, s_taken] at hR; clear M2; have M2 := Lib.hid hR; clear hR; try simp only [Act.put]) | fail); go_ret2; exact ⟨rfl, H.out.own M2.out.2 (M2.out.1.blk 0 rfl) rfl rfl, M2.out.2⟩
end
end Go.Proofs.YtlhnjkekjbbhcaaGreatDoor
