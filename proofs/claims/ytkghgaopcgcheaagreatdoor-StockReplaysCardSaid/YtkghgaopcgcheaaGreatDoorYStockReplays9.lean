/- Parts of the proof of StockReplays, in order. No conditions but those that each theorem states. -/
import Derived.Test.YtkghgaopcgcheaaGreatDoorYStockReplays0
import Derived.Lib.LazyBuf
import Derived.Test.YtkghgaopcgcheaaGreatDoorYStockReplays8
set_option maxRecDepth 100000
set_option maxHeartbeats 16000000
set_option linter.unusedSimpArgs false
set_option linter.unusedVariables false
namespace Go.Proofs.YtkghgaopcgcheaaGreatDoor
open Go.RowKit
def doneT (x : Tik) (l : List Tik) : Bool := l.any (aheadT x)
def curT (x : Tik) (l : List Tik) : List Tik := if doneT x l = true then insT x l else l
theorem insT_no {x : Tik} : ∀ {l : List Tik}, doneT x l = false → insT x l = l ++ [x]
  | [], _ => rfl
  | y :: r, h => by
    simp only [doneT, List.any_cons, Bool.or_eq_false_iff] at h; unfold insT; rw [if_neg (by simp [h.1]), insT_no (l := r) h.2]; rfl
theorem insT_snoc {x y : Tik} : ∀ {l : List Tik}, doneT x l = true → insT x (l ++ [y]) = insT x l ++ [y]
  | [], h => by simp [doneT] at h
  | z :: r, h => by
    show (if aheadT x z then _ else _ : List Tik) = (if aheadT x z then _ else _ : List Tik) ++ [y]; by_cases hz : aheadT x z = true
    · rw [if_pos hz, if_pos hz]; rfl
    · rw [if_neg hz, if_neg hz]
      have hr : doneT x r = true := by
        simp only [doneT, List.any_cons, Bool.or_eq_true] at h; exact h.resolve_left hz
      show z :: insT x (r ++ [y]) = _; rw [insT_snoc hr]; rfl
theorem insT_here {x y : Tik} : ∀ {l : List Tik}, doneT x l = false → aheadT x y = true → insT x (l ++ [y]) = l ++ [x] ++ [y]
  | [], _, hy => by
    show (if aheadT x y then _ else _ : List Tik) = _; rw [if_pos hy]; rfl
  | z :: r, h, hy => by
    simp only [doneT, List.any_cons, Bool.or_eq_false_iff] at h; show (if aheadT x z then _ else _ : List Tik) = _; rw [if_neg (by simp [h.1])]; show z :: insT x (r ++ [y]) = _; rw [insT_here (l := r) h.2 hy]; rfl
theorem done_snoc (x y : Tik) (l : List Tik) : doneT x (l ++ [y]) = (doneT x l || aheadT x y) := by simp [doneT]
theorem cur_snoc (x y : Tik) (l : List Tik) : curT x (l ++ [y]) = (if !doneT x l && aheadT x y then curT x l ++ [x] else curT x l) ++ [y] := by
  unfold curT; rw [done_snoc]
  cases hd : doneT x l with
  | true => simp [insT_snoc hd]
  | false =>
    cases hy : aheadT x y with
    | true => simp [insT_here hd hy]
    | false => simp
theorem cur_all (x : Tik) (l : List Tik) : (if doneT x l then curT x l else curT x l ++ [x]) = insT x l := by
  unfold curT
  cases hd : doneT x l with
  | true => simp
  | false => simp [insT_no hd]
def oldP (o : Option Tik) (y : Tik) : Tik := match o with
  | none => y
  | some z => if y.tick < z.tick then y else z
theorem oldT_snoc (y : Tik) : ∀ (l : List Tik), oldT (l ++ [y]) = some (oldP (oldT l) y)
  | [] => rfl
  | z :: r => by
    rw [List.cons_append, oldT_cons, oldT_snoc y r, oldT_cons z r]
    cases oldT r with
    | none =>
      show (if y.tick < z.tick then some y else some z : Option Tik) = some (if y.tick < z.tick then y else z)
      split <;> rfl
    | some u =>
      show (if (if y.tick < u.tick then y else u : Tik).tick < z.tick then some (if y.tick < u.tick then y else u : Tik) else some z : Option Tik) = some (oldP (if u.tick < z.tick then some u else some z) y); by_cases h1 : u.tick < z.tick
      · rw [if_pos h1]; show _ = some (if y.tick < u.tick then y else u); by_cases h2 : y.tick < u.tick
        · simp only [if_pos h2]; rw [if_pos (by omega)]
        · simp only [if_neg h2]; rw [if_pos h1]
      · rw [if_neg h1]; show _ = some (if y.tick < z.tick then y else z); by_cases h2 : y.tick < u.tick
        · simp only [if_pos h2]
          split <;> rfl
        · simp only [if_neg h2]; rw [if_neg h1, if_neg (by omega)]
def oldAtT (L : List Tik) (i k : Nat) : Prop := (i = 0 ∧ k = 0) ∨ (k < i ∧ ∃ z, L[k]? = some z ∧ oldT (L.take i) = some z)
theorem oldAtT_step {L : List Tik} {i k : Nat} {y : Tik} (h : oldAtT L i k) (hy : L[i]? = some y) : ∃ z, L[k]? = some z ∧ oldAtT L (i + 1) (if y.tick < z.tick then i else k) := by
  have e : L.take (i + 1) = L.take i ++ [y] := by rw [List.take_add_one, hy]; rfl
  rcases h with ⟨rfl, rfl⟩ | ⟨hk, z, hz, ho⟩
  · refine ⟨y, hy, .inr ⟨by simp, y, by simpa using hy, ?_⟩⟩; rw [e]; rfl
  · refine ⟨z, hz, .inr ?_⟩; rw [e, oldT_snoc, ho]; by_cases hlt : y.tick < z.tick
    · rw [if_pos hlt]; exact ⟨by omega, y, hy, by simp [oldP, hlt]⟩
    · rw [if_neg hlt]; exact ⟨by omega, z, hz, by simp [oldP, hlt]⟩
theorem oldAtT_end {L : List Tik} {k : Nat} (h : oldAtT L L.length k) (h0 : L ≠ []) : ∃ z, L[k]? = some z ∧ oldT L = some z := by
  rcases h with ⟨h, _⟩ | ⟨_, z, hz, ho⟩
  · exact absurd (List.eq_nil_of_length_eq_zero h) h0
  · exact ⟨z, hz, by rwa [List.take_length] at ho⟩
theorem drop_snoc (r t : List UInt8) (l : List Tik) (y : Tik) : dropT r t (l ++ [y]) = if y.repo = r ∧ y.tag = t then dropT r t l else dropT r t l ++ [y] := by
  unfold dropT; rw [List.filter_append]; by_cases h : y.repo = r ∧ y.tag = t
  · rw [if_pos h]; simp [h.1, h.2]
  · rw [if_neg h]
    have : (y.repo == r && y.tag == t) = false := by
      rw [Bool.and_eq_false_iff]; simp only [beq_eq_false_iff_ne]; by_cases h1 : y.repo = r
      · exact .inr fun h2 => h ⟨h1, h2⟩
      · exact .inl h1
    rw [List.filter_cons_of_pos (by show (!(y.repo == r && y.tag == t)) = true; rw [this]; rfl)]; rfl
theorem or_nat {a b : Nat} (ha : a < 4294967296) (hb : b < 4294967296) : bits .or .u32 (a : Nat) (b : Nat) = ((a ||| b : Nat) : Int) := by
  have e1 : (BitVec.ofInt 32 (a : Int)).toNat = a := by simp [BitVec.toNat_ofInt]; omega
  have e2 : (BitVec.ofInt 32 (b : Int)).toNat = b := by simp [BitVec.toNat_ofInt]; omega
  show IntKind.u32.wrap ((BitVec.ofInt 32 (a : Int) ||| BitVec.ofInt 32 (b : Int)).toNat : Nat) = _; rw [BitVec.toNat_or, e1, e2]; have h : a ||| b < 4294967296 := Nat.or_lt_two_pow (n := 32) ha hb; simp [IntKind.wrap, IntKind.signed, IntKind.bits]; omega
theorem or_add (i q c : Nat) (hc : c < 2 ^ i) (h : 2 ^ i * q + c < 4294967296) : bits .or .u32 ((2 ^ i * q : Nat) : Int) (c : Nat) = ((2 ^ i * q + c : Nat) : Int) := by
  rw [or_nat (by omega) (by omega), Nat.two_pow_add_eq_or_of_lt hc]
theorem w32_nat {a : Nat} (h : a < 4294967296) : w32 ((a : Nat) : Int) = (a : Nat) := by rw [w32_mod]; omega
def word4 (a b c d : UInt8) : Int := ((16777216 * a.toNat + 65536 * b.toNat + 256 * c.toNat + d.toNat : Nat) : Int)
theorem shaPart_word {r : List UInt8} {k : Nat} {a b c d : UInt8} (h0 : r[4 * k]? = some a) (h1 : r[4 * k + 1]? = some b) (h2 : r[4 * k + 2]? = some c) (h3 : r[4 * k + 3]? = some d) : shaPart r k 4 = word4 a b c d := by
  have a8 := u8_nat a; have b8 := u8_nat b; have c8 := u8_nat c; have d8 := u8_nat d
  have s1 : shaPart r k 1 = ((a.toNat : Nat) : Int) := by
    rw [shaPart_succ (j := 0) h0]; show bits .or .u32 (w32 (0 * 256)) _ = _; rw [show w32 (0 * 256) = ((2 ^ 8 * 0 : Nat) : Int) by decide, or_add 8 0 _ (by omega) (by omega)]; omega
  have s2 : shaPart r k 2 = ((256 * a.toNat + b.toNat : Nat) : Int) := by
    rw [shaPart_succ (j := 1) h1, s1, show ((a.toNat : Nat) : Int) * 256 = ((2 ^ 8 * a.toNat : Nat) : Int) by omega, w32_nat (by omega), or_add 8 _ _ (by omega) (by omega)]
  have s3 : shaPart r k 3 = ((65536 * a.toNat + 256 * b.toNat + c.toNat : Nat) : Int) := by
    rw [shaPart_succ (j := 2) h2, s2, show ((256 * a.toNat + b.toNat : Nat) : Int) * 256 = ((2 ^ 8 * (256 * a.toNat + b.toNat) : Nat) : Int) by omega, w32_nat (by omega), or_add 8 _ _ (by omega) (by omega)]; omega
  rw [shaPart_succ (j := 3) h3, s3, show ((65536 * a.toNat + 256 * b.toNat + c.toNat : Nat) : Int) * 256 = ((2 ^ 8 * (65536 * a.toNat + 256 * b.toNat + c.toNat) : Nat) : Int) by omega, w32_nat (by omega), or_add 8 _ _ (by omega) (by omega), word4]; omega
theorem word4_or (a b c d : UInt8) : bits .or .u32 (bits .or .u32 (bits .or .u32 ((a.toNat : Nat) * 16777216) ((b.toNat : Nat) * 65536)) ((c.toNat : Nat) * 256)) (d.toNat : Nat) = word4 a b c d := by
  have a8 := u8_nat a; have b8 := u8_nat b; have c8 := u8_nat c; have d8 := u8_nat d; rw [show ((a.toNat : Nat) : Int) * 16777216 = ((2 ^ 24 * a.toNat : Nat) : Int) by omega, show ((b.toNat : Nat) : Int) * 65536 = ((65536 * b.toNat : Nat) : Int) by omega, show ((c.toNat : Nat) : Int) * 256 = ((256 * c.toNat : Nat) : Int) by omega, or_add 24 _ _ (by omega) (by omega)]; rw [show 2 ^ 24 * a.toNat + 65536 * b.toNat = 2 ^ 16 * (256 * a.toNat + b.toNat) by omega, or_add 16 _ _ (by omega) (by omega)]; rw [show 2 ^ 16 * (256 * a.toNat + b.toNat) + 256 * c.toNat = 2 ^ 8 * (65536 * a.toNat + 256 * b.toNat + c.toNat) by omega, or_add 8 _ _ (by omega) (by omega), word4]; omega
structure V8 where
  a : Int
  b : Int
  c : Int
  d : Int
  e : Int
  f : Int
  g : Int
  h : Int
def V8.list (v : V8) : List Int := [v.a, v.b, v.c, v.d, v.e, v.f, v.g, v.h]
def sum1 (e : Int) : Int := xr (xr (rotR e 6) (rotR e 11)) (rotR e 25)
def sum0 (a : Int) : Int := xr (xr (rotR a 2) (rotR a 13)) (rotR a 22)
def chS (e f g : Int) : Int := xr (an e f) (an (xr 4294967295 e) g)
def majS (a b c : Int) : Int := xr (xr (an a b) (an a c)) (an b c)
def tOne (v : V8) (k w : Int) : Int := (v.h + sum1 v.e + chS v.e v.f v.g + k + w) % 4294967296
def tTwo (v : V8) : Int := (sum0 v.a + majS v.a v.b v.c) % 4294967296
def rndS (v : V8) (k w : Int) : V8 := ⟨(tOne v k w + tTwo v) % 4294967296, v.a, v.b, v.c, (v.d + tOne v k w) % 4294967296, v.e, v.f, v.g⟩
def rndsS (W : List Int) (v : V8) : Nat → V8
  | 0 => v
  | n + 1 => rndS (rndsS W v n) (shaKeys.getD n 0) (W.getD n 0)
def v8of (st : List Int) : V8 := ⟨st.getD 0 0, st.getD 1 0, st.getD 2 0, st.getD 3 0, st.getD 4 0, st.getD 5 0, st.getD 6 0, st.getD 7 0⟩
def shaAdd (a b : List Int) : List Int := List.zipWith (fun x y => w32 (x + y)) a b
def shaTurn (st : List Int) (r : List UInt8) : List Int := shaAdd st (rndsS (shaSpr r 48) (v8of st) 64).list
theorem index8 (w : World) (l : List Int) (j : Nat) (hl : l.length = 8) (hj : j < 8) : (Instr.index 162 (.agg (u32C l).toArray) (.int .i64 (j : Nat))).run Tryz.prog w = .ok (.int .u32 (l.getD j 0)) w := by
  have hu : (underlying 162).run Tryz.prog w = .ok (.array 8 161) w := by kernel_rfl
  have hz : (sizeOf 161).run Tryz.prog w = .ok 1 w := by kernel_rfl
  have ha : (isAgg 161).run Tryz.prog w = .ok false w := by kernel_rfl
  have hc : (u32C l).toArray[j]? = some (.int .u32 (l.getD j 0)) := by
    rw [List.getElem?_toArray]; refine u32C_get ?_; rw [List.getD_eq_getElem?_getD, List.getElem?_eq_getElem (by omega)]; rfl
  have h1 : (asIntOf (.int .i64 (j : Nat))).run Tryz.prog w = .ok (.i64, (j : Nat)) w := rfl; unfold Instr.index; simp only [Sem.run_bind, h1, hu, Result.andThen_ok]; rw [if_pos (by omega)]; unfold part; simp only [Sem.run_bind, hz, ha, Result.andThen_ok, Int.toNat_natCast, Nat.mul_one, hc]; rfl
theorem shaAdd_length {a b : List Int} (h : a.length = 8) (k : b.length = 8) : (shaAdd a b).length = 8 := by simp [shaAdd, h, k]
theorem shaAdd_get {a b : List Int} {j : Nat} (h : a.length = 8) (k : b.length = 8) (hj : j < 8) : (shaAdd a b)[j]? = some ((a.getD j 0 + b.getD j 0) % 4294967296) := by
  have e1 : a[j]? = some (a.getD j 0) := by rw [List.getD_eq_getElem?_getD, List.getElem?_eq_getElem (by omega)]; rfl
  have e2 : b[j]? = some (b.getD j 0) := by rw [List.getD_eq_getElem?_getD, List.getElem?_eq_getElem (by omega)]; rfl
  rw [shaAdd, List.getElem?_zipWith, e1, e2]; simp only [w32_mod]
def addPart (a b : List Int) (j : Nat) : List Int := (shaAdd a b).take j ++ a.drop j
theorem addPart_length {a b : List Int} (h : a.length = 8) (k : b.length = 8) {j : Nat} (hj : j ≤ 8) : (addPart a b j).length = 8 := by simp [addPart, shaAdd_length h k, h]; omega
theorem addPart_get {a b : List Int} (h : a.length = 8) (k : b.length = 8) {j : Nat} (hj : j < 8) : (addPart a b j)[j]? = some (a.getD j 0) := by
  have e1 : a[j]? = some (a.getD j 0) := by rw [List.getD_eq_getElem?_getD, List.getElem?_eq_getElem (by omega)]; rfl
  have hl : ((shaAdd a b).take j).length = j := by rw [List.length_take, shaAdd_length h k]; omega
  rw [addPart, List.getElem?_append_right (by omega), hl, Nat.sub_self, List.getElem?_drop]; exact e1
theorem addPart_set {a b : List Int} (h : a.length = 8) (k : b.length = 8) {j : Nat} (hj : j < 8) : (addPart a b j).set j ((a.getD j 0 + b.getD j 0) % 4294967296) = addPart a b (j + 1) := by
  have hl : ((shaAdd a b).take j).length = j := by rw [List.length_take, shaAdd_length h k]; omega
  have e3 : (shaAdd a b).take (j + 1) = (shaAdd a b).take j ++ [(a.getD j 0 + b.getD j 0) % 4294967296] := by
    rw [List.take_add_one, shaAdd_get h k hj]; rfl
  unfold addPart; rw [List.set_append_right _ _ (by omega), hl, Nat.sub_self, e3, List.append_assoc]; rw [List.drop_eq_getElem_cons (by omega : j < a.length), sqC]; rfl
theorem Sh.setState {w : World} {b : Nat} {h : ShaS} (k : Sh w b h) (j : Nat) (hj : j < 8) (x : Int) : Sh (w.setCell ⟨b, j, none⟩ (.int .u32 x)) b { h with st := h.st.set j x } := by
  refine ⟨?_, by simp only [List.length_set]; exact k.2.1, k.2.2⟩; have := k.1.set j (.int .u32 x); rw [ShaS.cells, List.set_append_left _ _ (by rw [u32C_length, k.2.1]; exact hj), u32C_set] at this; exact this
theorem Sh.setFill {w : World} {b : Nat} {h : ShaS} (k : Sh w b h) (n : Nat) (hn : n ≤ 64) : Sh (w.setCell ⟨b, 72, none⟩ (.int .i64 (n : Nat))) b { h with fill := n } := by
  refine ⟨?_, k.2.1, k.2.2.1, hn⟩; have := k.1.set 72 (.int .i64 (n : Nat)); rw [ShaS.cells, List.set_append_right _ _ (by rw [u32C_length, k.2.1]; omega), u32C_length, k.2.1, List.set_append_right _ _ (by rw [bytC_length, k.2.2.1]; omega), bytC_length, k.2.2.1] at this; exact this
theorem Sh.setSize {w : World} {b : Nat} {h : ShaS} (k : Sh w b h) (n : Int) : Sh (w.setCell ⟨b, 73, none⟩ (.int .i64 n)) b { h with size := n } := by
  refine ⟨?_, k.2⟩; have := k.1.set 73 (.int .i64 n); rw [ShaS.cells, List.set_append_right _ _ (by rw [u32C_length, k.2.1]; omega), u32C_length, k.2.1, List.set_append_right _ _ (by rw [bytC_length, k.2.2.1]; omega), bytC_length, k.2.2.1] at this; exact this
theorem sha_turn (b : Nat) (h : ShaS) (w : World) (hs : Sh w b h) (hT : ShaT w) : Calls Tryz.prog 194 #[.pointer (some ⟨b, 0, none⟩)] w fun e w' => e = .returned (.tuple #[]) ∧ Sh w' b { h with st := shaTurn h.st h.rest, fill := 0 } ∧ Keep [b] w w' := by
  have hSp := Lib.hid (sha_spread b h w hs); have HS := Lib.hid hs; have HTb := Lib.hid hT; obtain ⟨C, hC⟩ : ∃ C, u32C (shaSpr h.rest 48) = C := ⟨_, rfl⟩
  have hlen : C.length = 64 := by rw [← hC, u32C_length, shaSpr_length]
  have hone : ∀ v ∈ C, v.oneCell' = true := by rw [← hC]; exact u32C_one _
  rw [hC] at hSp; have HC := Lib.hid (And.intro hC (And.intro hlen hone)); clear hs hT hlen hone hC; go_enter Tryz.func194, Tryz.ntmps194; go_wp2_with fail; refine hSp.out.mono ?_; rintro e w1 ⟨rfl, k1⟩; have HK1 := Lib.hid k1; clear k1
  go_wp2_with (first
    | (with_reducible (show wpList _ _ _ ((⟨none, .store _ _ _, _, _, _, none⟩ : Oper) :: _) _ _)
       refine wpList_store_new rfl 220 (.tmp 2) (.tmp 21) rfl _ C (by rfl) (by rfl) (by rw [HC.out.2.1]; kernel_rfl) (by rw [HC.out.2.1]; kernel_rfl) HC.out.2.2 ?_)
    | fail)
  have k2 := (Keep.refl [] w1).alloc (.cells C.toArray 220); have b2 := Blk.new w1 C 220; simp only [Act.put]; generalize w1.alloc (.cells C.toArray 220) = w2 at k2 b2; have HW2 := Lib.hid (And.intro k2 b2); clear k2 b2; have hs2 := HS.out.keep (HK1.out.trans HW2.out.1) (by simp)
  have hst : ∀ i, i < 8 → w2.cell? ⟨b, i, none⟩ = some (.int .u32 (h.st.getD i 0)) := fun i hi => by
    refine hs2.state ?_; have := hs2.2.1; rw [List.getD_eq_getElem?_getD, List.getElem?_eq_getElem (by omega)]; rfl
  have c0 := hst 0 (by omega); have c1 := hst 1 (by omega); have c2 := hst 2 (by omega); have c3 := hst 3 (by omega); have c4 := hst 4 (by omega); have c5 := hst 5 (by omega); have c6 := hst 6 (by omega); have c7 := hst 7 (by omega); obtain ⟨s0, e0⟩ : ∃ s, h.st.getD 0 0 = s := ⟨_, rfl⟩
  obtain ⟨s1, e1⟩ : ∃ s, h.st.getD 1 0 = s := ⟨_, rfl⟩
  obtain ⟨s2, e2⟩ : ∃ s, h.st.getD 2 0 = s := ⟨_, rfl⟩
  obtain ⟨s3, e3⟩ : ∃ s, h.st.getD 3 0 = s := ⟨_, rfl⟩
  obtain ⟨s4, e4⟩ : ∃ s, h.st.getD 4 0 = s := ⟨_, rfl⟩
  obtain ⟨s5, e5⟩ : ∃ s, h.st.getD 5 0 = s := ⟨_, rfl⟩
  obtain ⟨s6, e6⟩ : ∃ s, h.st.getD 6 0 = s := ⟨_, rfl⟩
  obtain ⟨s7, e7⟩ : ∃ s, h.st.getD 7 0 = s := ⟨_, rfl⟩
  have HV := Lib.hid (show v8of h.st = ⟨s0, s1, s2, s3, s4, s5, s6, s7⟩ by unfold v8of; rw [e0, e1, e2, e3, e4, e5, e6, e7]); rw [e0] at c0; rw [e1] at c1; rw [e2] at c2; rw [e3] at c3; rw [e4] at c4; rw [e5] at c5; rw [e6] at c6; rw [e7] at c7; clear e0 e1 e2 e3 e4 e5 e6 e7 hst hs2; go_quiet (fail); go_wp2_with fail; go_quiet (fail); go_wp2_with fail; obtain ⟨W, hW⟩ : ∃ W, shaSpr h.rest 48 = W := ⟨_, rfl⟩
  have HWn := Lib.hid (show C = u32C W ∧ W.length = 64 by rw [← hW]; exact ⟨HC.out.1.symm, shaSpr_length _ _⟩); have HWe := Lib.hid hW; clear hW c0 c1 c2 c3 c4 c5 c6 c7; obtain ⟨v0, hv0⟩ : ∃ v, v8of h.st = v := ⟨_, rfl⟩
  have HV0 := Lib.hid hv0; have hvv : v0 = ⟨s0, s1, s2, s3, s4, s5, s6, s7⟩ := hv0.symm.trans HV.out; have HVV := Lib.hid hvv; clear hv0 hvv
  go_loopg [3, 4, 5, 6, 7, 8, 9, 10, 62] 64 (fun g va vb vc vd ve vf vg vh i wr => ∃ k : Nat, i = .int .i64 (k : Nat) ∧ k ≤ 64 ∧ g = 64 - k ∧ va = .int .u32 (rndsS W v0 k).a ∧ vb = .int .u32 (rndsS W v0 k).b ∧ vc = .int .u32 (rndsS W v0 k).c ∧ vd = .int .u32 (rndsS W v0 k).d ∧ ve = .int .u32 (rndsS W v0 k).e ∧ vf = .int .u32 (rndsS W v0 k).f ∧ vg = .int .u32 (rndsS W v0 k).g ∧ vh = .int .u32 (rndsS W v0 k).h ∧ Hid (Keep [] w2 wr))
  case atStart =>
    have e0 : rndsS W v0 0 = ⟨s0, s1, s2, s3, s4, s5, s6, s7⟩ := HVV.out; exact ⟨0, rfl, by omega, rfl, by rw [e0], by rw [e0], by rw [e0], by rw [e0], by rw [e0], by rw [e0], by rw [e0], by rw [e0], Lib.hid (((Keep.refl _ _).drewN _).drewN _)⟩
  case round =>
    obtain ⟨k, rfl, hk, hg, rfl, rfl, rfl, rfl, rfl, rfl, rfl, rfl, HK⟩ := hrel; by_cases hlt : k < 64
    · have f1 : decide ((k : Int) < 64) = true := decide_eq_true (by omega); have wk := IntWalk.i64_in ((k : Int) + 1) (by omega); have a0 : (0 : Int) ≤ (k : Int) := by omega
      have a1 : (k : Int) < 64 := by omega
      have ck := Lib.TabIs.cell (HTb.out.keep0 ((HK1.out.trans HW2.out.1).trans HK.out)).2 (g := 1) (by kernel_rfl) k (by simpa [shaKeys] using hlt)
      have cw : wr.cell? ⟨w1.heap.size, k, none⟩ = some (.int .u32 (W.getD k 0)) := by
        refine HK.out.load (HW2.out.2.get ?_); rw [HWn.out.1]; refine u32C_get ?_; rw [List.getD_eq_getElem?_getD, List.getElem?_eq_getElem (by have := HWn.out.2; omega)]; rfl
      have hnx : rndsS W v0 (k + 1) = rndS (rndsS W v0 k) (shaKeys.getD k 0) (W.getD k 0) := rfl; generalize rndsS W v0 k = v at hnx; generalize shaKeys.getD k 0 = kk at ck hnx; generalize W.getD k 0 = ww at cw hnx; obtain ⟨xa, xb, xc, xd, xe, xf, xg, xh⟩ := v; simp only [rndS, tOne, tTwo] at hnx; have HNX := Lib.hid hnx; have HR := Lib.hid (fun (x : Int) (n : Nat) (h0 : 0 < n) (h1 : n < 32) (w : World) => sha_right x n w h0 h1); have hsg : IntKind.u32.signed = false := rfl; have hmx : IntKind.u32.max = 4294967295 := rfl; clear hnx; simp only; go_wp2_with fail; refine (HR.out xe 6 (by decide) (by decide) _).mono ?_; rintro e w3 ⟨rfl, rfl⟩; go_wp2_with fail; refine (HR.out xe 11 (by decide) (by decide) _).mono ?_; rintro e w3 ⟨rfl, rfl⟩; go_wp2_with fail; refine (HR.out xe 25 (by decide) (by decide) _).mono ?_; rintro e w3 ⟨rfl, rfl⟩; go_wp2_with fail; obtain ⟨y1, hy1⟩ : ∃ y, bits .xor .u32 (bits .xor .u32 (rotR xe 6) (rotR xe 11)) (rotR xe 25) = y := ⟨_, rfl⟩
      rw [hy1]; have HY1 := Lib.hid (show sum1 xe = y1 from hy1); clear hy1; go_quiet (fail); go_wp2_with fail; refine (HR.out xa 2 (by decide) (by decide) _).mono ?_; rintro e w3 ⟨rfl, rfl⟩; go_wp2_with fail; refine (HR.out xa 13 (by decide) (by decide) _).mono ?_; rintro e w3 ⟨rfl, rfl⟩; go_wp2_with fail; refine (HR.out xa 22 (by decide) (by decide) _).mono ?_; rintro e w3 ⟨rfl, rfl⟩; go_wp2_with fail; have e1 := HNX.out; rw [HY1.out] at e1; have HN := Lib.hid e1; clear e1 HNX
      go_roundg (64 - (k + 1))
      case measure => omega
      case rel => exact ⟨k + 1, rfl, by omega, rfl, by rw [HN.out]; rfl, by rw [HN.out], by rw [HN.out], by rw [HN.out], by rw [HN.out]; rfl, by rw [HN.out], by rw [HN.out], by rw [HN.out], Lib.hid (HK.out.drewN nq)⟩
    · obtain rfl : k = 64 := by omega
      have HRD := Lib.hid (show shaTurn h.st h.rest = shaAdd h.st (rndsS W v0 64).list by rw [← HWe.out, ← HV0.out]; rfl); generalize rndsS W v0 64 = v at HRD; obtain ⟨xa, xb, xc, xd, xe, xf, xg, xh⟩ := v; simp only; go_wp2_with fail; have HS2 := Lib.hid (HS.out.keep ((HK1.out.trans HW2.out.1).trans HK.out) (by simp)); obtain ⟨Vl, hVl⟩ : ∃ l : List Int, l = [xa, xb, xc, xd, xe, xf, xg, xh] := ⟨_, rfl⟩
      have HVL := Lib.hid (And.intro hVl (show Vl.length = 8 by rw [hVl]; rfl)); have HST8 := HS.out.2.1; clear hVl
      go_loopg [136] 8 (fun g i wq => ∃ j : Nat, i = .int .i64 (j : Nat) ∧ j ≤ 8 ∧ g = 8 - j ∧ Hid (Sh wq b { h with st := addPart h.st Vl j }) ∧ Hid (Keep [b] wr wq))
      case atStart => exact ⟨0, rfl, by omega, rfl, HS2, Lib.hid (Keep.refl _ _)⟩
      case round =>
        rename_i wr0 _ _ _ _ _ _; obtain ⟨j, rfl, hj, hgj, HL, HKq⟩ := hrel; by_cases hlj : j < 8
        · have f1 : decide ((j : Int) < 8) = true := decide_eq_true (by omega); have a0 : (0 : Int) ≤ (j : Int) := by omega
          have a1 : (j : Int) < 8 := by omega
          have hix := index8 wr Vl j HVL.out.2 hlj; rw [HVL.out.1] at hix; have hix' : (Instr.index 162 (.agg #[.int .u32 xa, .int .u32 xb, .int .u32 xc, .int .u32 xd, .int .u32 xe, .int .u32 xf, .int .u32 xg, .int .u32 xh]) (.int .i64 (j : Nat))).run Tryz.prog wr = _ := hix; rw [← HVL.out.1] at hix'; have cj := HL.out.state (addPart_get HST8 HVL.out.2 hlj); have hfr := HL.out.1.frozen j; have wk := IntWalk.i64_in ((j : Int) + 1) (by omega); have hns := HL.out.setState j hlj ((h.st.getD j 0 + Vl.getD j 0) % 4294967296); simp only [addPart_set HST8 HVL.out.2 hlj] at hns; generalize h.st.getD j 0 = x at cj hns; generalize Vl.getD j 0 = y at hix' hns; have HNS := Lib.hid hns; clear hns hix; go_wp2_with fail
          go_region
          go_wp2_with fail
          go_roundg (8 - (j + 1))
          case measure => omega
          case rel => exact ⟨j + 1, rfl, by omega, rfl, Lib.hid (show Sh _ _ _ from HNS.out), Lib.hid (HKq.out.setCell _ _ (by simp)).drew⟩
        · obtain rfl : j = 8 := by omega
          have hb := HL.out
          have e8 : addPart h.st Vl 8 = shaTurn h.st h.rest := by
            rw [HRD.out, show V8.list ⟨xa, xb, xc, xd, xe, xf, xg, xh⟩ = Vl from HVL.out.1.symm, addPart, List.take_of_length_le (by rw [shaAdd_length HST8 HVL.out.2]; omega), List.drop_eq_nil_of_le (by omega), List.append_nil]
          rw [e8] at hb; have hfr := hb.1.frozen 72; have cf := hb.fill; have HF := Lib.hid (hb.setFill 0 (by omega)); have HKF := Lib.hid (((HK1.out.trans HW2.out.1).trans HK.out).mono (S' := [b]) (by simp)); clear hb e8 HL; go_wp2_with fail; go_end0; exact ⟨rfl, HF.out, HKF.out.trans (HKq.out.setCell _ _ (by simp))⟩
def putAt {α : Type} : List α → Nat → List α → List α
  | xs, _, [] => xs
  | xs, o, v :: r => putAt (xs.set o v) (o + 1) r
theorem putAt_length {α : Type} : ∀ (vs xs : List α) (o : Nat), (putAt xs o vs).length = xs.length
  | [], _, _ => rfl
  | v :: r, xs, o => by rw [putAt, putAt_length r, List.length_set]
theorem putAt_right {α : Type} (A : List α) : ∀ (vs B : List α) (k : Nat), putAt (A ++ B) (A.length + k) vs = A ++ putAt B k vs
  | [], _, _ => rfl
  | v :: r, B, k => by
    rw [putAt, putAt, List.set_append_right _ _ (by omega), Nat.add_sub_cancel_left, Nat.add_assoc]; exact putAt_right A r (B.set k v) (k + 1)
theorem putAt_left {α : Type} (B : List α) : ∀ (vs A : List α) (k : Nat), k + vs.length ≤ A.length → putAt (A ++ B) k vs = putAt A k vs ++ B
  | [], _, _, _ => rfl
  | v :: r, A, k, h => by
    simp only [List.length_cons] at h; rw [putAt, putAt, List.set_append_left _ _ (by omega)]; exact putAt_left B r (A.set k v) (k + 1) (by simp; omega)
theorem putAt_map {α β : Type} (f : α → β) : ∀ (vs xs : List α) (k : Nat), putAt (xs.map f) k (vs.map f) = (putAt xs k vs).map f
  | [], _, _ => rfl
  | v :: r, xs, k => by
    simp only [List.map_cons, putAt]; rw [← List.map_set]; exact putAt_map f r (xs.set k v) (k + 1)
theorem Blk.overC {b : Nat} {T : TypeId} : ∀ (vs xs : List Value) (o : Nat) (w : World), Blk w b T xs → Blk (w.setCells b o vs) b T (putAt xs o vs)
  | [], _, _, _, h => h
  | v :: r, xs, o, w, h => by
    rw [World.setCells, putAt]; exact Blk.overC r _ (o + 1) _ (h.set o v)
theorem copy_str (w : World) (b o dLen dCap : Nat) (l : List UInt8) (ty : TypeId) (n : Nat) (hn : min l.length dLen = n) (hc : ∀ j, j < n → (w.cell? ⟨b, o + j, none⟩).isSome = true) (hf : ∀ j, j < n → w.frozen? ⟨b, o + j, none⟩ = false) :
    (Builtin.copy_ #[126, 9] ty #[.slice (some ⟨b, o, none⟩) dLen dCap, .string (S l)]).run Tryz.prog w = .ok (.int .i64 (n : Nat)) (w.setCells b o (bytC (l.take n))) := by
  have hmin : Nat.min (S l).size dLen = n := hn; have hu : Tryz.prog.underlying 126 = some (.slice 5) := Tryz.underlying126; have hz : ∀ w, (Go.sizeOf 5).run Tryz.prog w = .ok 1 w := fun w => by kernel_rfl
  have hl : (bytC (l.take n)).length = n := by rw [bytC_length, List.length_take]; omega
  have hst := run_storeCells_cells (P := Tryz.prog) b o (bytC (l.take n)) 0 w (by rw [hl]; simpa using hc) (by rw [hl]; simpa using hf) (bytC_one _); simp [Builtin.copy_, run_underlying hu, Builtin.lenOf, Builtin.firstCells, hz, hmin]; have e : List.take n (List.map (fun x : UInt8 => Value.int IntKind.u8 (x.toNat : Int)) (S l).data.toList) = bytC (l.take n) := by rw [S_list, ← List.map_take]; rfl
  rw [e, hst]; rfl
theorem slice64l (w : World) (b o : Nat) (l' : Nat) (h3 : l' < 64) :
    (Instr.sliceAt 227 (.pointer (some ⟨b, o, none⟩)) (some (.int .i64 (l' : Nat))) none none).run Tryz.prog w = .ok (.slice (some ⟨b, o + l', none⟩) (64 - l') (64 - l')) w := by
  have hal : Tryz.prog.arrayLen 227 = 64 := by kernel_rfl
  have hu : Tryz.prog.underlying 227 = some (.array (Tryz.prog.arrayLen 227) (Tryz.prog.elem 227)) := by kernel_rfl
  rw [run_sliceAt_array_l (P := Tryz.prog) w 227 ⟨b, o, none⟩ hu .i64 _ (by omega) (by rw [hal]; omega)]; have hz : (sizeOf (Tryz.prog.elem 227)).run Tryz.prog w = .ok 1 w := by kernel_rfl
  rw [hz, hal]; simp only [Result.andThen_ok, slicedAt, Int.toNat_natCast, Nat.mul_one]; rw [if_neg (by omega), Addr.add_mid]
def shaFill (h : ShaS) (l : List UInt8) : ShaS := { h with rest := putAt h.rest h.fill (l.take (min l.length (64 - h.fill))), fill := h.fill + min l.length (64 - h.fill) }
def shaEat (h : ShaS) (l : List UInt8) : ShaS := if (shaFill h l).fill = 64 then { shaFill h l with st := shaTurn h.st (shaFill h l).rest, fill := 0 } else shaFill h l
def shaPut : Nat → ShaS → List UInt8 → ShaS
  | 0, h, _ => h
  | k + 1, h, l => if l.isEmpty then h else shaPut k (shaEat h l) (l.drop (min l.length (64 - h.fill)))
theorem Sh.copied {w : World} {b : Nat} {h : ShaS} (k : Sh w b h) (l : List UInt8) (n : Nat) (hn : h.fill + n ≤ 64) (hl : (l.take n).length = n) : Sh (w.setCells b (8 + h.fill) (bytC (l.take n))) b { h with rest := putAt h.rest h.fill (l.take n) } := by
  refine ⟨?_, k.2.1, by simp only [putAt_length]; exact k.2.2.1, k.2.2.2⟩; have := Blk.overC (bytC (l.take n)) _ (8 + h.fill) w k.1; rw [ShaS.cells, show 8 + h.fill = (u32C h.st).length + h.fill by rw [u32C_length, k.2.1], putAt_right, putAt_left _ _ _ _ (by rw [bytC_length, bytC_length, hl, k.2.2.1]; omega)] at this; rw [show (u32C h.st).length + h.fill = 8 + h.fill by rw [u32C_length, k.2.1]] at this; unfold bytC at this; rw [putAt_map] at this; exact this
theorem ShaT.keepb {w w' : World} {b : Nat} (h : ShaT w) (k : Keep [b] w w') (hb : b ≠ 0 ∧ b ≠ 1) : ShaT w' :=
  ⟨tab_keep h.1 k (fun g hg => by rw [show Tryz.prog.globalNamed "manciple/sha.start" = some 0 by kernel_rfl] at hg; cases hg; simpa using hb.1.symm), tab_keep h.2 k (fun g hg => by rw [show Tryz.prog.globalNamed "manciple/sha.keys" = some 1 by kernel_rfl] at hg; cases hg; simpa using hb.2.symm)⟩
theorem sha_put (b : Nat) (h : ShaS) (l : List UInt8) (w : World) (hs : Sh w b h) (hT : ShaT w) (hb : b ≠ 0 ∧ b ≠ 1) (hf : h.fill < 64) (hl : l.length ≤ maxLen) :
    Calls Tryz.prog 159 #[.pointer (some ⟨b, 0, none⟩), .string (S l)] w fun e w' => e = .returned (.tuple #[]) ∧ Sh w' b (shaPut l.length h l) ∧ (shaPut l.length h l).fill < 64 ∧ Keep [b] w w' := by
  obtain ⟨F, hF⟩ : ∃ F, shaPut l.length h l = F := ⟨_, rfl⟩
  rw [hF]; have HF := Lib.hid hF; have HS := Lib.hid (And.intro hs hT); clear hF hs hT; go_enter Tryz.func159, Tryz.ntmps159; go_wp2_with fail
  go_loopg [1] l.length (fun g v wr => ∃ (l' : List UInt8) (h' : ShaS) (k : Nat), v = .string (S l') ∧ g = l'.length ∧ l'.length ≤ maxLen ∧ h'.fill < 64 ∧ Hid (l'.length ≤ k ∧ shaPut k h' l' = F) ∧ Hid (Sh wr b h' ∧ ShaT wr ∧ Keep [b] w wr))
  case atStart => exact ⟨l, h, _, rfl, rfl, hl, hf, Lib.hid ⟨Nat.le_refl _, HF.out⟩, Lib.hid ⟨HS.out.1, HS.out.2, Keep.refl _ _⟩⟩
  case round =>
    obtain ⟨l', h', k, rfl, hg, hl', hf', HP, HM⟩ := hrel; by_cases hne : l' = []
    · subst hne; have he : shaPut k h' [] = h' := by cases k <;> rfl
      have HE := Lib.hid (show F = h' by rw [← HP.out.2, he]); have q0 : (S ([] : List UInt8)).toList.isEmpty = true := by rw [S_toList]; rfl
      go_wp2_with fail; go_end0; exact ⟨rfl, by rw [HE.out]; exact HM.out.1, by rw [HE.out]; exact hf', HM.out.2.2⟩
    · have hsz := S_size l'; obtain ⟨n, hn⟩ : ∃ n, min l'.length (64 - h'.fill) = n := ⟨_, rfl⟩
      have hpos : 0 < l'.length := List.length_pos_iff.2 hne; have q1 : ((S l').toList == ([] : List UInt8)) = false := by rw [S_toList]; simpa using hne
      have hcf := HM.out.1.fill; have hsl := slice64l wr.drew b 8 h'.fill hf'; have htk : (l'.take n).length = n := by rw [List.length_take]; omega
      have hcp := copy_str wr.drew b (8 + h'.fill) (64 - h'.fill) (64 - h'.fill) l' 3 n hn (fun j hj => by
        have := HM.out.1.2.2.1; have e : h'.rest[h'.fill + j]? = some (h'.rest[h'.fill + j]'(by omega)) := List.getElem?_eq_getElem _; have := HM.out.1.byte e; rw [← Nat.add_assoc] at this; show (wr.cell? _).isSome = true; rw [this]; rfl) (fun j hj => by show wr.frozen? _ = false; exact HM.out.1.1.frozen _)
      have HNE := Lib.hid hne; clear hne; go_wp2_with fail
      go_region
      have hs3 := Sh.copied (show Sh wr.drew b h' from HM.out.1) l' n (by omega) htk; have hk3 := Keep.cellsTo (S := [b]) b (fun _ => by simp) (bytC (l'.take n)) (8 + h'.fill) wr.drew (Keep.refl [b] wr).drew; have ht3 : ShaT (wr.drew.setCells b (8 + h'.fill) (bytC (l'.take n))) := HM.out.2.1.keepb hk3 hb; have hkw : Keep [b] w (wr.drew.setCells b (8 + h'.fill) (bytC (l'.take n))) := HM.out.2.2.trans hk3; generalize wr.drew.setCells b (8 + h'.fill) (bytC (l'.take n)) = w3 at hs3 hk3 ht3 hkw; obtain ⟨h3, hh3⟩ : ∃ h3, ({ h' with rest := putAt h'.rest h'.fill (l'.take n) } : ShaS) = h3 := ⟨_, rfl⟩
      have hf3 : h3.fill = h'.fill := by rw [← hh3]
      rw [hh3] at hs3; have HH3 := Lib.hid hh3; have c72 := hs3.fill; rw [hf3] at c72; have z72 := hs3.1.frozen 72; have wn := IntWalk.i64_in ((h'.fill : Int) + (n : Int)) (by omega); have hsf := hs3.setFill (h'.fill + n) (by omega); have hex : (S l').extract n l'.length = S (l'.drop n) := by rw [S_extract, List.take_of_length_le (Nat.le_refl _)]
      have hle : (n : Int) ≤ (l'.length : Int) := by omega
      have hn0 : (0 : Int) ≤ (n : Int) := by omega
      have HW3 := Lib.hid (And.intro hsf (And.intro ht3 hkw)); clear hh3 hsf ht3 hkw hk3 hs3 hcp hsl hcf; obtain ⟨k', hkk⟩ : ∃ k', k = k' + 1 := ⟨k - 1, by have := HP.out.1; omega⟩
      have hpp := HP.out.2; rw [hkk, shaPut, if_neg (by simpa using HNE.out), hn] at hpp; have hlk : (l'.drop n).length ≤ k' := by rw [List.length_drop]; have := HP.out.1; omega
      have hdl : (l'.drop n).length ≤ maxLen := by rw [List.length_drop]; omega
      have hlt : (l'.drop n).length < l'.length := by rw [List.length_drop]; omega
      by_cases hfull : h'.fill + n = 64
      · have f1 : ((h'.fill : Int) + (n : Int) == 64) = true := by rw [show (h'.fill : Int) + (n : Int) = 64 by omega]; rfl
        have hea : shaEat h' l' = { h3 with st := shaTurn h3.st h3.rest, fill := 0 } := by
          unfold shaEat shaFill; rw [hn, if_pos hfull, ← HH3.out]
        rw [hea] at hpp; have hT4 := HW3.out.2.1.keepb ((Keep.refl [b] w3).setCell ⟨b, 72, none⟩ (.int .i64 ((h'.fill + n : Nat) : Nat)) (by simp)) hb; have hK4 := HW3.out.2.2.setCell ⟨b, 72, none⟩ (.int .i64 ((h'.fill + n : Nat) : Nat)) (by simp); have hS4 := HW3.out.1; rw [Int.natCast_add] at hS4 hT4 hK4; have HN := Lib.hid (And.intro hlk (And.intro hdl (And.intro hlt hpp))); clear hlk hdl hlt hpp hea; go_wp2_with fail; generalize w3.setCell ⟨b, 72, none⟩ (.int .i64 ((h'.fill : Int) + (n : Int))) = w4 at hT4 hK4 hS4 ⊢; have HK4 := Lib.hid (And.intro hT4 hK4); refine (sha_turn b _ w4 hS4 hT4).mono ?_; rintro e w5 ⟨rfl, s5, k5⟩; have HW5 := Lib.hid (And.intro s5 (And.intro (HK4.out.1.keepb k5 hb) (HK4.out.2.trans k5))); clear s5 k5 hT4 hK4 hS4; go_wp2_with fail
        go_roundg (l'.drop n).length
        case measure => have := HN.out.2.2.1; omega
        case rel => exact ⟨l'.drop n, _, k', rfl, rfl, HN.out.2.1, by simp, Lib.hid ⟨HN.out.1, HN.out.2.2.2⟩, HW5⟩
      · have f1 : ((h'.fill : Int) + (n : Int) == 64) = false := by simp; omega
        have hea : shaEat h' l' = { h3 with fill := h'.fill + n } := by
          unfold shaEat shaFill; rw [hn, if_neg hfull, ← HH3.out]
        rw [hea] at hpp; have hT4 := HW3.out.2.1.keepb ((Keep.refl [b] w3).setCell ⟨b, 72, none⟩ (.int .i64 ((h'.fill + n : Nat) : Nat)) (by simp)) hb; have hK4 := HW3.out.2.2.setCell ⟨b, 72, none⟩ (.int .i64 ((h'.fill + n : Nat) : Nat)) (by simp); have hS4 := HW3.out.1; rw [Int.natCast_add] at hS4 hT4 hK4; have HW5 := Lib.hid (And.intro hS4 (And.intro hT4 hK4)); have HN := Lib.hid (And.intro hlk (And.intro hdl (And.intro hlt hpp))); clear hlk hdl hlt hpp hea hS4 hT4 hK4; go_wp2_with fail
        go_roundg (l'.drop n).length
        case measure => have := HN.out.2.2.1; omega
        case rel => exact ⟨l'.drop n, _, k', rfl, rfl, HN.out.2.1, by simp; omega, Lib.hid ⟨HN.out.1, HN.out.2.2.2⟩, HW5⟩
def shaWrite (h : ShaS) (l : List UInt8) : ShaS := shaPut l.length { h with size := h.size + l.length } l
structure ShO (w : World) (b : Nat) (h : ShaS) : Prop where
  sh : Sh w b h
  tab : ShaT w
  ne : b ≠ 0 ∧ b ≠ 1
  fill : h.fill < 64
theorem ShO.keep {w w' : World} {S : List Nat} {b : Nat} {h : ShaS} (k : ShO w b h) (kp : Keep S w w') (hb : b ∉ S) (ht : ShaT w') : ShO w' b h := ⟨k.sh.keep kp hb, ht, k.ne, k.fill⟩
theorem sha_Write (b : Nat) (h : ShaS) (l : List UInt8) (w : World) (hs : ShO w b h) (hl : l.length ≤ maxLen) (hsz : 0 ≤ h.size) (hsm : h.size + l.length ≤ 4611686018427387904) :
    Calls Tryz.prog 108 #[.pointer (some ⟨b, 0, none⟩), .string (S l)] w fun e w' => e = .returned (.tuple #[]) ∧ ShO w' b (shaWrite h l) ∧ Keep [b] w w' := by
  have hz := S_size l; have c73 := hs.sh.size; have z73 := hs.sh.1.frozen 73; have hl' : l.length ≤ 9223372036854775807 := hl; have wn := IntWalk.i64_in (h.size + (l.length : Int)) (by omega); have HS := Lib.hid (And.intro (hs.sh.setSize (h.size + (l.length : Int))) (And.intro (hs.tab.keepb ((Keep.refl [b] w).setCell ⟨b, 73, none⟩ (.int .i64 (h.size + (l.length : Int))) (by simp)) hs.ne) ((Keep.refl [b] w).setCell ⟨b, 73, none⟩ (.int .i64 (h.size + (l.length : Int))) (by simp)))); have HO := Lib.hid hs; have hne := hs.ne; have hfl := hs.fill; clear hs; go_enter Tryz.func108, Tryz.ntmps108; go_wp2_with fail; generalize w.setCell ⟨b, 73, none⟩ (.int .i64 (h.size + (l.length : Int))) = w1 at HS ⊢; refine (sha_put b _ l w1 HS.out.1 HS.out.2.1 hne hfl hl).mono ?_; rintro e w2 ⟨rfl, s2, f2, k2⟩; have HW := Lib.hid (show ShO w2 b (shaWrite h l) ∧ Keep [b] w w2 from ⟨⟨s2, HS.out.2.1.keepb k2 hne, hne, f2⟩, HS.out.2.2.trans k2⟩); clear s2 f2 k2; go_wp2_with fail; go_end0; exact ⟨rfl, HW.out⟩
def shaEnd (h : ShaS) : List UInt8 := 128 :: (List.replicate ((119 - h.fill) % 64) 0 ++ ((List.range 8).map fun i => u8of ((h.size * 8) % 18446744073709551616 / 2 ^ (8 * (7 - i)))))
def shaFin (h : ShaS) : ShaS := shaPut (shaEnd h).length h (shaEnd h)
def endRow (h : ShaS) (m k : Nat) : List UInt8 := 128 :: (List.replicate (m + (8 - k)) 0 ++ ((List.range k).map fun i => u8of ((h.size * 8) % 18446744073709551616 / 2 ^ (8 * (k - 1 - i)))))
theorem endRow_length (h : ShaS) (m k : Nat) (hk : k ≤ 8) : (endRow h m k).length = m + 9 := by simp [endRow]; omega
theorem endRow_set (h : ShaS) (m k : Nat) (hk : k < 8) : (endRow h m k).set (m + 8 - k) (u8of ((h.size * 8) % 18446744073709551616 / 2 ^ (8 * k))) = endRow h m (k + 1) := by
  unfold endRow; rw [show m + 8 - k = (m + (8 - (k + 1))) + 1 by omega, sqB, List.set_append_left _ _ (by simp; omega)]; rw [show m + (8 - k) = (m + (8 - (k + 1))) + 1 by omega, List.replicate_succ', List.set_append_right _ _ (by simp), List.length_replicate, Nat.sub_self, sqC, List.append_assoc]; congr 2; rw [List.range_succ_eq_map, List.map_cons, List.map_map]; simp; intro i _; rw [show k - 1 - i = k - (i + 1) by omega]
theorem endRow_done (h : ShaS) : endRow h ((119 - h.fill) % 64) 8 = shaEnd h := rfl
theorem sha_finish (b : Nat) (h : ShaS) (w : World) (hs : ShO w b h) (hz : 0 ≤ h.size) :
    Calls Tryz.prog 211 #[.pointer (some ⟨b, 0, none⟩)] w fun e w' => e = .returned (.tuple #[]) ∧ ShO w' b (shaFin h) ∧ Keep [b] w w' := by
  obtain ⟨m, hm⟩ : ∃ m, (119 - h.fill) % 64 = m := ⟨_, rfl⟩
  have hfl := hs.fill; have c73 := hs.sh.size; have c72 := hs.sh.fill; have hsz : IntKind.u64.wrap h.size = h.size % 18446744073709551616 := by simp [IntKind.wrap, IntKind.signed, IntKind.bits]
  have hmul : IntKind.u64.wrap (h.size % 18446744073709551616 * 8) = h.size * 8 % 18446744073709551616 := by
    simp only [IntKind.wrap, IntKind.signed, IntKind.bits]; simp; omega
  have w1 := IntWalk.i64_in (119 - (h.fill : Int)) (by omega); have hmd : (119 - (h.fill : Int)) % 64 = (m : Nat) := by omega
  have hm64 : m < 64 := by omega
  have w2 := IntWalk.i64_in (1 + (m : Int)) (by omega); have w3 := IntWalk.i64_in (1 + (m : Int) + 8) (by omega)
  have hmk : (Instr.makeSlice 126 (.int .i64 (1 + (m : Int) + 8)) (.int .i64 (1 + (m : Int) + 8))).run Tryz.prog w = .ok (.slice (some ⟨w.heap.size, 0, none⟩) (m + 9) (m + 9)) (w.alloc (.cells (bytC (List.replicate (m + 9) 0)).toArray 5)) := by
    rw [show (1 + (m : Int) + 8) = ((m + 9 : Nat) : Int) by omega]; exact make_bytes w (m + 9) (by omega)
  have hk1 := (Keep.refl [] w).alloc (.cells (bytC (List.replicate (m + 9) 0)).toArray 5); have hb1 := Blk.new w (bytC (List.replicate (m + 9) 0)) 5; generalize w.alloc (.cells (bytC (List.replicate (m + 9) 0)).toArray 5) = wA at hmk hk1 hb1; have hb2 := hb1.set 0 (.int .u8 ((128 : UInt8).toNat : Nat)); rw [bytC_set, List.replicate_succ, sqC] at hb2; have e0 : (128 :: List.replicate (m + 8) 0 : List UInt8) = endRow h m 0 := by simp [endRow]
  rw [e0] at hb2; have c0 := hb1.get (bytC_get (show (List.replicate (m + 9) (0 : UInt8))[0]? = some 0 by simp)); have z0 := hb1.frozen 0; have HB := Lib.hid (And.intro hb2 (hk1.setCell ⟨w.heap.size, 0, none⟩ (.int .u8 ((128 : UInt8).toNat : Nat)) (by simp))); have HS := Lib.hid hs; have HM := Lib.hid hm; clear hs hm hb1 hb2 hk1 e0; go_enter Tryz.func211, Tryz.ntmps211; go_wp2_with fail
  go_loopg [24] 8 (fun g i wr => ∃ k : Nat, i = .int .i64 (k : Nat) ∧ k ≤ 8 ∧ g = 8 - k ∧ Hid (Blk wr w.heap.size 5 (bytC (endRow h m k))) ∧ Hid (Keep [] w wr))
  case atStart => exact ⟨0, rfl, by omega, rfl, Lib.hid HB.out.1, Lib.hid HB.out.2⟩
  case round =>
    obtain ⟨k, rfl, hk, hg, HL, HK⟩ := hrel; by_cases hlt : k < 8
    · have f1 : decide ((k : Int) < 8) = true := decide_eq_true (by omega); have wk := IntWalk.i64_in ((k : Int) + 1) (by omega); have wm := IntWalk.i64_in (8 * (k : Int)) (by omega); have p0 : (0 : Int) ≤ 8 * (k : Int) := by omega
      have p1 : (8 * (k : Int)).toNat = 8 * k := by omega
      have p2 : 8 * (k : Int) ≤ 64 := by omega
      have hw := u8of_wrap (h.size * 8 % 18446744073709551616 / 2 ^ (8 * k)); have hln := endRow_length h m k hk; obtain ⟨c, hc⟩ : ∃ c, (endRow h m k)[m + 8 - k]? = some c := ⟨_, List.getElem?_eq_getElem (by omega)⟩
      have hcl := HL.out.get (bytC_get hc); have hfr := HL.out.frozen (m + 8 - k); have hst := HL.out.set (m + 8 - k) (.int .u8 ((u8of (h.size * 8 % 18446744073709551616 / 2 ^ (8 * k))).toNat : Nat)); rw [bytC_set, endRow_set h m k hlt] at hst; have HST := Lib.hid hst; clear hst hln hc; go_wp2_with fail
      go_roundg (8 - (k + 1))
      case measure => omega
      case rel => exact ⟨k + 1, rfl, by omega, rfl, HST, Lib.hid (HK.out.setCell _ _ (by simp))⟩
    · obtain rfl : k = 8 := by omega
      have hb := HL.out; have hln := endRow_length h m 8 (by omega); rw [← HM.out, endRow_done] at hb; rw [← HM.out, endRow_done] at hln; have hcv := bytes_back hb (m + 9); rw [hln, HM.out] at hcv; have hO := HS.out.keep HK.out (by simp) (HS.out.tab.keep0 HK.out); have HP := Lib.hid (sha_put b h (shaEnd h) wr hO.sh hO.tab hO.ne hO.fill (by rw [hln]; unfold maxLen; omega)); clear hO hb hln; go_wp2_with fail; refine HP.out.mono ?_; rintro e w5 ⟨rfl, s5, f5, k5⟩; have HW := Lib.hid (show ShO w5 b (shaFin h) ∧ Keep [b] w w5 from ⟨⟨s5, (HS.out.tab.keep0 HK.out).keepb k5 HS.out.ne, HS.out.ne, f5⟩, (HK.out.mono (S' := [b]) (by simp)).trans k5⟩); clear s5 f5 k5; go_wp2_with fail; go_end0; exact ⟨rfl, HW.out⟩
end Go.Proofs.YtkghgaopcgcheaaGreatDoor
