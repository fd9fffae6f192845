/- Parts of the proof, in order. No conditions but those that each theorem states. -/
import Derived.Test.YtpimfoohpfkciaaDoorZB2
import Derived.Lib.ItoaNum
import Derived.Lib.SlTrimSet
import Derived.Lib.SlBytesConst
import Derived.Lib.LaidTab
import Derived.Lib.ItoaLen
import Derived.Sort.Grow
import Derived.Deep.RegionHeld3
import Derived.Deep.MidRow
/- Layer 16: numbers in decimal, as they are written and read. Plain laws; no program. No conditions but on sizes. -/
namespace Go.Proofs.YtpimfoohpfkciaaDoor
open Go.RowKit

def digs : List UInt8 := [48, 49, 50, 51, 52, 53, 54, 55, 56, 57]
def GT : Int := 4611686018427387904
theorem digs_iff (b : UInt8) : digs.contains b = decB b := by
  unfold digs decB
  rw [Bool.eq_iff_iff]
  simp only [List.contains_iff_mem, List.mem_cons, List.not_mem_nil, or_false, Bool.and_eq_true, decide_eq_true_eq, ← UInt8.toNat_inj]
  simp
  omega
theorem dig_byte {u : Nat} (h : u < 10) : (UInt8.ofNat (48 + u)).toNat = 48 + u := by
  simp [UInt8.toNat_ofNat']; omega
theorem dig_dec {u : Nat} (h : u < 10) : decB (UInt8.ofNat (48 + u)) = true := by
  unfold decB; rw [dig_byte h]; simp; omega
theorem dec_small {u : Nat} (h : u < 10) : Lib.decDigits u = [UInt8.ofNat (48 + u)] := by rw [Lib.decDigits, dif_pos h]
theorem dec_big {u : Nat} (h : ¬ u < 10) : Lib.decDigits u = Lib.decDigits (u / 10) ++ [UInt8.ofNat (48 + u % 10)] := by rw [Lib.decDigits, dif_neg h]
theorem dec_all (u : Nat) : (Lib.decDigits u).all decB = true := by
  induction u using Nat.strongRecOn with
  | _ u ih =>
    by_cases h : u < 10
    · rw [dec_small h, List.all_cons, List.all_nil, dig_dec h]; rfl
    · rw [dec_big h, List.all_append, ih (u / 10) (by omega), List.all_cons, List.all_nil, dig_dec (show u % 10 < 10 by omega)]; rfl
theorem dec_ne (u : Nat) : Lib.decDigits u ≠ [] := by
  by_cases h : u < 10
  · rw [dec_small h]; simp
  · rw [dec_big h]; simp
theorem dec_head (u : Nat) (h1 : 1 ≤ u) : (Lib.decDigits u).head? ≠ some 48 := by
  induction u using Nat.strongRecOn with
  | _ u ih =>
    by_cases h : u < 10
    · rw [dec_small h]
      intro e
      have := congrArg UInt8.toNat (Option.some.inj e)
      rw [dig_byte h] at this
      have h48 : (48 : UInt8).toNat = 48 := rfl
      omega
    · rw [dec_big h, List.head?_append]
      have := ih (u / 10) (by omega) (by omega)
      cases hd : (Lib.decDigits (u / 10)).head? with
      | none => exact absurd (List.head?_eq_none_iff.1 hd) (dec_ne _)
      | some x => rw [hd] at this; simpa using this
theorem gather_append (m : Int) : ∀ (a b : List UInt8) (n : Int), gatherM m (a ++ b) n = (gatherM m a n).bind (gatherM m b)
  | [], b, n => rfl
  | x :: a, b, n => by
    simp only [List.cons_append, gatherM]
    split
    · exact gather_append m a b _
    · rfl
theorem digV_dig {u : Nat} (h : u < 10) : digV (UInt8.ofNat (48 + u)) = u := by
  unfold digV
  rw [dig_byte h, if_pos (by omega)]
  omega
theorem gather_dec (u : Nat) (h : (u : Int) ≤ 4611686018427387904) : gatherM 10 (Lib.decDigits u) 0 = some (u : Int) := by
  induction u using Nat.strongRecOn with
  | _ u ih =>
    by_cases h1 : u < 10
    · rw [dec_small h1]
      simp only [gatherM]
      rw [digV_dig h1, if_pos (by omega)]
      simp
    · rw [dec_big h1, gather_append, ih (u / 10) (by omega) (by omega)]
      simp only [Option.bind_some, gatherM]
      rw [digV_dig (show u % 10 < 10 by omega), if_pos (by omega)]
      congr 1
      omega
theorem dec_isDec (u : Nat) : isDecM (Lib.decDigits u) = true := by
  unfold isDecM
  rw [dec_all]
  have hn : (Lib.decDigits u).isEmpty = false := by simp [dec_ne]
  rw [hn]
  by_cases h : u < 10
  · rw [dec_small h]; simp
  · have := dec_head u (by omega)
    simp [this]
theorem undec_dec (u : Nat) (most : Int) (h : (u : Int) ≤ most) (hm : most ≤ 4611686018427387904) : undecV (Lib.decDigits u) most = u ∧ undecE (Lib.decDigits u) most = 0 := by
  unfold undecV undecE boundV boundE
  rw [dec_isDec, gather_dec u (by omega)]
  simp only [if_true]
  rw [if_neg (by omega), if_neg (by omega)]
  exact ⟨rfl, rfl⟩
theorem drop_nil {p : UInt8 → Bool} : ∀ {l : List UInt8}, l.dropWhile p = [] ↔ ∀ x ∈ l, p x = true
  | [] => by simp
  | x :: l => by
    cases h : p x with
    | true => rw [List.dropWhile_cons_of_pos h, drop_nil]; simp [h]
    | false => rw [List.dropWhile_cons_of_neg (by simp [h])]; simp [h]
theorem trim_dec {l : List UInt8} (h : l.all decB = true) : Lib.trimS l digs = [] := by
  have h1 : Lib.trimRightS l digs = [] := by
    unfold Lib.trimRightS
    rw [drop_nil.2]
    · rfl
    · intro x hx
      rw [digs_iff]
      exact List.all_eq_true.1 h x (List.mem_reverse.1 hx)
  unfold Lib.trimS
  rw [h1]; rfl
theorem trim_nodec {l : List UInt8} (h : l.all decB = false) : Lib.trimS l digs ≠ [] := by
  intro he
  obtain ⟨x, hx, hn⟩ := List.all_eq_false.1 h
  unfold Lib.trimS Lib.trimLeftS at he
  have h1 := drop_nil.1 he
  have h2 : ∀ y ∈ l, digs.contains y = true := by
    intro y hy
    unfold Lib.trimRightS at h1
    by_cases hm : y ∈ (l.reverse.dropWhile (digs.contains ·)).reverse
    · exact h1 y hm
    · have : l.reverse = l.reverse.takeWhile (digs.contains ·) ++ l.reverse.dropWhile (digs.contains ·) := (List.takeWhile_append_dropWhile).symm
      have hy' : y ∈ l.reverse := List.mem_reverse.2 hy
      rw [this] at hy'
      rcases List.mem_append.1 hy' with h3 | h3
      · exact List.all_eq_true.1 List.all_takeWhile y h3
      · exact absurd (List.mem_reverse.2 h3) hm
  have := h2 x hx
  rw [digs_iff] at this
  exact hn this

def numD (l : List UInt8) : List UInt8 := if Lib.trimLeftB l 48 = [] then [48] else Lib.trimLeftB l 48
def numN (l : List UInt8) : Int := if l = [] ∨ l.all decB = false then 0 else if undecE (numD l) GT = 14 then GT else undecV (numD l) GT
def numI (l : List UInt8) : Bool := !l.isEmpty && l.all decB
def numK (l : List UInt8) : Bool := l.all decB
theorem num_dec (u : Nat) (h : (u : Int) ≤ 4611686018427387904) : numN (Lib.decDigits u) = u ∧ numI (Lib.decDigits u) = true ∧ numK (Lib.decDigits u) = true := by
  have hd : numD (Lib.decDigits u) = Lib.decDigits u := by
    unfold numD
    by_cases h0 : u = 0
    · subst h0; rw [dec_small (by omega)]; rfl
    · have hh := dec_head u (by omega)
      have ht : Lib.trimLeftB (Lib.decDigits u) 48 = Lib.decDigits u := by
        unfold Lib.trimLeftB
        cases hc : Lib.decDigits u with
        | nil => rfl
        | cons x r =>
          rw [hc] at hh
          have : x ≠ 48 := by simpa using hh
          rw [List.dropWhile_cons_of_neg (by simpa using this)]
      rw [ht, if_neg (dec_ne u)]
  refine ⟨?_, ?_, dec_all u⟩
  · unfold numN
    rw [if_neg (by simp [dec_ne, dec_all]), hd, (undec_dec u GT h (by unfold GT; omega)).1, (undec_dec u GT h (by unfold GT; omega)).2]
    rfl
  · unfold numI; rw [dec_all]; simp [dec_ne]
end Go.Proofs.YtpimfoohpfkciaaDoor

/- Layer 16: number, isUnit. No conditions but on lengths. -/
namespace Go.Proofs.YtpimfoohpfkciaaDoor
open Go.RowKit Go.Shelf

def NumOut (w : World) (l : List UInt8) (e : Ending) (w' : World) : Prop := e = .returned (.tuple #[.agg #[.int .i64 (numN l), .bool (numI l)], .bool (numK l)]) ∧ Keep [] w w'
theorem num_ret {a c : Int} {b d x y : Bool} (h : a = c) (h2 : b = d) (h3 : x = y) : Ending.returned (.tuple #[.agg #[.int .i64 a, .bool b], .bool x]) = .returned (.tuple #[.agg #[.int .i64 c, .bool d], .bool y]) := by rw [h, h2, h3]

end Go.Proofs.YtpimfoohpfkciaaDoor

/- Layer 16: isUnit. No conditions but on lengths. -/
namespace Go.Proofs.YtpimfoohpfkciaaDoor
open Go.RowKit Go.Shelf

def unitB : List UInt8 := [98, 121, 116, 101, 115, 61]
/-- the byte of a text that stands for a byte of the unit -/
def unitOk (b c : UInt8) : Bool := c == b || decide (97 ≤ b.toNat) && decide (c.toNat = b.toNat - 32)
def isUnitM (l : List UInt8) : Bool := decide (6 ≤ l.length) && (l.zip unitB).all fun p => unitOk p.2 p.1

def unitCells : Array Value := #[.int .u8 98, .int .u8 121, .int .u8 116, .int .u8 101, .int .u8 115, .int .u8 61]
theorem unit_cell (w : World) (o : Obj) {T : TypeId} {fr : Nat × Nat} (ho : o = .cells unitCells T fr) {k : Nat} {b : UInt8} (h : unitB[k]? = some b) : (w.alloc o).cell? ⟨w.heap.size, k, none⟩ = some (.int .u8 (b.toNat : Nat)) := by
  subst ho
  have hh : (w.alloc (.cells unitCells T fr)).heap[w.heap.size]? = some (.cells unitCells T fr) := heap_alloc_new w _
  have hc : unitCells[k]? = some (.int .u8 (b.toNat : Nat)) := by
    match k, h with
    | 0, h => cases h; rfl
    | 1, h => cases h; rfl
    | 2, h => cases h; rfl
    | 3, h => cases h; rfl
    | 4, h => cases h; rfl
    | 5, h => cases h; rfl
    | k + 6, h => simp [unitB] at h
  unfold World.cell?
  simp only [hh]
  exact hc
theorem zip_take {l : List UInt8} {k : Nat} {b c : UInt8} (hb : unitB[k]? = some b) (hc : l[k]? = some c) : (l.zip unitB).take (k + 1) = (l.zip unitB).take k ++ [(c, b)] := by
  rw [List.take_add_one, (List.getElem?_zip_eq_some (z := (c, b))).2 ⟨hc, hb⟩]; rfl

end Go.Proofs.YtpimfoohpfkciaaDoor

/- Layer 10: the text of a value, in quotes or not: both sides. No conditions but on lengths. -/
namespace Go.Proofs.YtpimfoohpfkciaaDoor
open Go.RowKit Go.Shelf

/-- behind the first quote -/
def unqM : List UInt8 → List UInt8 → List UInt8 × Bool
  | [], _ => ([], false)
  | [c], out => if c.toNat = 34 then (out, true) else ([], false)
  | c :: d :: r, out => if c.toNat = 34 then (out, false) else if c.toNat = 92 then unqM r (out ++ [d]) else unqM (d :: r) (out ++ [c])
def unqQ : List UInt8 → List UInt8 × Bool
  | c :: d :: r => if c.toNat = 34 then unqM (d :: r) [] else ([], false)
  | _ => ([], false)
def unqW (s : List UInt8) : List UInt8 × Bool := if isTok s then (s, true) else unqQ s
theorem unqM_quote {c : UInt8} {r out : List UInt8} (h : c.toNat = 34) : unqM (c :: r) out = (out, r.isEmpty) := by
  cases r with
  | nil => unfold unqM; rw [if_pos h]; rfl
  | cons d r => unfold unqM; rw [if_pos h]; rfl
theorem unqM_slash {c d : UInt8} {r out : List UInt8} (h : c.toNat = 92) : unqM (c :: d :: r) out = unqM r (out ++ [d]) := by
  conv => lhs; unfold unqM
  rw [if_neg (by omega), if_pos h]
theorem unqM_slash_end {c : UInt8} {out : List UInt8} (h : c.toNat ≠ 34) : unqM [c] out = ([], false) := by
  unfold unqM; rw [if_neg h]
theorem unqM_plain {c : UInt8} {r out : List UInt8} (h : c.toNat ≠ 34) (h2 : c.toNat ≠ 92) : unqM (c :: r) out = unqM r (out ++ [c]) := by
  cases r with
  | nil => unfold unqM; rw [if_neg h]
  | cons d r =>
    conv => lhs; unfold unqM
    rw [if_neg h, if_neg h2]
theorem unqM_len : ∀ (n : Nat) (s out : List UInt8), s.length ≤ n → (unqM s out).1.length ≤ out.length + s.length
  | _, [], out, _ => by simp [unqM]
  | _, [c], out, _ => by unfold unqM; split <;> simp
  | 0, c :: d :: r, out, h => by simp at h
  | 1, c :: d :: r, out, h => by simp at h
  | n + 2, c :: d :: r, out, h => by
    unfold unqM
    split
    · simp
    · split
      · have := unqM_len n r (out ++ [d]) (by simp at h; omega)
        simp at this ⊢; omega
      · have := unqM_len (n + 1) (d :: r) (out ++ [c]) (by simp at h ⊢; omega)
        simp at this ⊢; omega
theorem unqW_len (s : List UInt8) : (unqW s).1.length ≤ s.length := by
  unfold unqW
  split
  · simp
  · unfold unqQ
    split
    · split
      · exact Nat.le_trans (unqM_len _ _ [] (Nat.le_refl _)) (by simp)
      · simp
    · simp
theorem str_ret {a c : List UInt8} {b d : Bool} (h : (a, b) = (c, d)) : Ending.returned (.tuple #[.string (S a), .bool b]) = .returned (.tuple #[.string (S c), .bool d]) := by cases h; rfl
theorem str_ret' {x : List UInt8 × Bool} {c : List UInt8} {d : Bool} (h : x = (c, d)) : Ending.returned (.tuple #[.string (S c), .bool d]) = .returned (.tuple #[.string (S x.1), .bool x.2]) := by rw [h]

end Go.Proofs.YtpimfoohpfkciaaDoor

/- Layer 10: the document's Parse, its result written out. No conditions but on lengths. -/
namespace Go.Proofs.YtpimfoohpfkciaaDoor
open Go.RowKit Go.Shelf

end Go.Proofs.YtpimfoohpfkciaaDoor

/- Layer 10: the document's Split. No conditions but on lengths. -/
namespace Go.Proofs.YtpimfoohpfkciaaDoor
open Go.RowKit Go.Shelf

theorem hasSuffix_two {l : List UInt8} {a b : UInt8} : Lib.hasSuffix l [a, b] = true ↔ ∃ x, l = x ++ [a, b] := by
  unfold Lib.hasSuffix
  constructor
  · intro h
    obtain ⟨x, hx⟩ : [a, b] <:+ l := by simpa using h
    exact ⟨x, hx.symm⟩
  · rintro ⟨x, rfl⟩
    simp
theorem trimSuffix_two {x : List UInt8} {a b : UInt8} : Lib.trimSuffix (x ++ [a, b]) [a, b] = x := by
  have h : Lib.hasSuffix (x ++ [a, b]) [a, b] = true := hasSuffix_two.2 ⟨x, rfl⟩
  unfold Lib.trimSuffix
  rw [if_pos h]
  simp
/-- a line that ends in LF: as the document takes it -/
theorem line_no {l : List UInt8} (h : l.length < 2 ∨ Lib.indexByte l 13 ≠ (l.length : Int) - 2) : lineM l = none := by
  unfold lineM
  rw [if_neg]
  rintro ⟨h1, h2⟩
  obtain ⟨x, rfl⟩ := hasSuffix_two.1 h1
  rw [trimSuffix_two] at h2
  have e : Lib.indexByte (x ++ [13, 10]) 13 = x.length := by
    have hge := Lib.indexByte_ge x 13
    have hn := Lib.indexByte_none (l := x) (c := 13) (by omega)
    refine indexByte_at (by simp) fun j hj => ?_
    rw [List.getElem?_append_left hj]
    exact hn j
  rw [e] at h
  simp at h
  omega
theorem line_yes {l : List UInt8} (hn : l[l.length - 1]? = some 10) (h1 : 2 ≤ l.length) (h : Lib.indexByte l 13 = (l.length : Int) - 2) : lineM l = some (l.take (l.length - 2)) := by
  have h2 : Lib.indexByte l 13 = ((l.length - 2 : Nat) : Int) := by rw [h]; omega
  obtain ⟨h3, h4⟩ := Lib.indexByte_some h2
  have e : l = l.take (l.length - 2) ++ [13, 10] := by
    have e1 : l.drop (l.length - 2) = [13, 10] := by
      rw [drop_at h3, show l.length - 2 + 1 = l.length - 1 by omega, drop_at hn]
      simp; omega
    rw [← e1, List.take_append_drop]
  have hs : Lib.hasSuffix l [13, 10] = true := hasSuffix_two.2 ⟨_, e⟩
  have ht : Lib.trimSuffix l [13, 10] = l.take (l.length - 2) := by
    conv => lhs; rw [e]
    exact trimSuffix_two
  unfold lineM
  rw [ht, if_pos]
  refine ⟨hs, ?_⟩
  rw [indexByte_no]
  · omega
  · intro j hj
    rw [List.getElem?_take] at hj
    split at hj
    · exact h4 j (by assumption) hj
    · cases hj

theorem isEmpty_false {l : List UInt8} (h : l ≠ []) : l.isEmpty = false := by cases l <;> simp at *
theorem ret4 {a b c c' d : Value} (h : c = c') : Ending.returned (.tuple #[a, b, c, d]) = Ending.returned (.tuple #[a, b, c', d]) := by rw [h]
/-- where the document's loop stands -/
def Stage (s st : List UInt8) (F : List Fld) (n : Nat) (first : Bool) : Prop :=
  (first = true ∧ st = [] ∧ F = [] ∧ n = 0) ∨ (first = false ∧ ∃ k, readM s = loopM s st k F n ∧ 4097 - n ≤ k)

end Go.Proofs.YtpimfoohpfkciaaDoor

/- Layer 10: param, Params: both sides. No conditions but on lengths. -/
namespace Go.Proofs.YtpimfoohpfkciaaDoor
open Go.RowKit Go.Shelf

/-- a parameter; false: it is none -/
def parM (x : List UInt8) : Fld × Bool :=
  if (Lib.cut x [61]).2.2 && isTok (Lib.cut x [61]).1 then (⟨lowW (Lib.cut x [61]).1, (unqW (Lib.cut x [61]).2.1).1⟩, (unqW (Lib.cut x [61]).2.1).2) else (⟨[], []⟩, false)
def parsM : List (List UInt8) → List Fld → Option (List Fld)
  | [], out => some out
  | x :: r, out => if x = [] then parsM r out else if (parM x).2 then parsM r (out ++ [(parM x).1]) else none
structure Prm where
  hd : List UInt8
  F : List Fld
  e : Int
def paramsM (s : List UInt8) : Prm := match parsM (cutW s 59).tail [] with
  | none => ⟨[], [], 3⟩
  | some F => ⟨(cutW s 59).headD [], F, 0⟩
def ParOut (x : Fld × Bool) (w : World) (e : Ending) (w' : World) : Prop := e = .returned (.tuple #[.agg #[.string (S x.1.name), .string (S x.1.value)], .bool x.2]) ∧ Keep [] w w'

def PrmOut (w : World) (r : Prm) (e : Ending) (w' : World) : Prop := ∃ v, e = .returned (.tuple #[.string (S r.hd), v, .int .i64 r.e]) ∧ Own Fld.cells 2 w.heap.size 44 w' v r.F ∧ Keep [] w w'
theorem drop_atG {α : Type} {l : List α} {k : Nat} {c : α} (h : l[k]? = some c) : l.drop k = c :: l.drop (k + 1) := by
  obtain ⟨hl, hc⟩ := List.getElem?_eq_some_iff.1 h
  rw [List.drop_eq_getElem_cons hl, hc]
theorem trimW_len (l : List UInt8) : (trimW l).length ≤ l.length := by
  unfold trimW Lib.trimS Lib.trimLeftS Lib.trimRightS
  refine Nat.le_trans (List.dropWhile_sublist _).length_le ?_
  rw [List.length_reverse]
  refine Nat.le_trans (List.dropWhile_sublist _).length_le ?_
  simp
theorem cutM_elem (b : UInt8) (m : Nat) : ∀ (l : List UInt8) (q : Bool) (p : List UInt8), p.length + l.length ≤ m → ∀ x ∈ cutM b l q p, x.length ≤ m
  | [], q, p, h, x, hx => by
    simp [cutM] at hx
    subst hx
    have := trimW_len p
    simp at h; omega
  | [c], q, p, h, x, hx => by
    rw [cutM.eq_def] at hx; dsimp only at hx
    split at hx
    · exact cutM_elem b m [] _ _ (by simp at h ⊢; omega) x hx
    · split at hx
      · simp at hx
        subst hx
        have := trimW_len (p ++ [c])
        simp at h this; omega
      · split at hx
        · rcases List.mem_cons.1 hx with rfl | hx
          · have := trimW_len p
            simp at h; omega
          · exact cutM_elem b m [] _ _ (by simp at h ⊢) x hx
        · exact cutM_elem b m [] _ _ (by simp at h ⊢; omega) x hx
  | c :: d :: r, q, p, h, x, hx => by
    rw [cutM.eq_def] at hx; dsimp only at hx
    split at hx
    · exact cutM_elem b m (d :: r) _ _ (by simp at h ⊢; omega) x hx
    · split at hx
      · exact cutM_elem b m r _ _ (by simp at h ⊢; omega) x hx
      · split at hx
        · rcases List.mem_cons.1 hx with rfl | hx
          · have := trimW_len p
            simp at h; omega
          · exact cutM_elem b m (d :: r) _ _ (by simp at h ⊢; omega) x hx
        · exact cutM_elem b m (d :: r) _ _ (by simp at h ⊢; omega) x hx
theorem cutW_elem {l : List UInt8} {b : UInt8} {x : List UInt8} (h : x ∈ cutW l b) : x.length ≤ l.length := cutM_elem b l.length l false [] (by simp) x h

end Go.Proofs.YtpimfoohpfkciaaDoor

/- Layer 16: bounds. No conditions but on lengths. -/
namespace Go.Proofs.YtpimfoohpfkciaaDoor
open Go.RowKit Go.Shelf

structure Bds where
  ln : Int
  li : Bool
  hn : Int
  hi : Bool
  ok : Bool
def bdsM (l : List UInt8) : Bds :=
  if isUnitM l then
    let c := Lib.cut (l.drop 6) [45]
    ⟨numN c.1, numI c.1, numN c.2.1, numI c.2.1, c.2.2 && numK c.1 && numK c.2.1 && (numI c.1 || numI c.2.1) && !(numI c.1 && numI c.2.1 && decide (numN c.2.1 < numN c.1))⟩
  else ⟨0, false, 0, false, false⟩
def BdsOut (w : World) (r : Bds) (e : Ending) (w' : World) : Prop := e = .returned (.tuple #[.agg #[.int .i64 r.ln, .bool r.li], .agg #[.int .i64 r.hn, .bool r.hi], .bool r.ok]) ∧ Keep [] w w'

end Go.Proofs.YtpimfoohpfkciaaDoor

/- Layer 16: Parse. No conditions but on lengths. -/
namespace Go.Proofs.YtpimfoohpfkciaaDoor
open Go.RowKit Go.Shelf

def rangeB : List UInt8 := [82, 97, 110, 103, 101]
structure Prt where
  kind : Int
  a : Int
  b : Int
  deriving DecidableEq
/-- what is asked for -/
def prtM (n : Int) (r : Bds) (size : Int) : Prt :=
  if n ≠ 1 ∨ r.ok = false then ⟨1, 0, max size 0 - 1⟩
  else if size ≤ 0 ∨ size ≤ r.ln ∨ (r.li = false ∧ r.hn = 0) then ⟨3, 0, 0⟩
  else if r.li = false then ⟨2, size - min r.hn size, max size 0 - 1⟩
  else if r.hi then ⟨2, r.ln, min r.hn (max size 0 - 1)⟩
  else ⟨2, r.ln, max size 0 - 1⟩
def parseM (L : List Fld) (size : Int) : Prt := prtM (getN L rangeB) (bdsM (getV L rangeB)) size

theorem numN_range (l : List UInt8) : 0 ≤ numN l ∧ numN l ≤ GT := by
  have h := undec_range (numD l) GT
  unfold numN
  have hG : GT = 4611686018427387904 := rfl
  split
  · omega
  · split
    · omega
    · by_cases h0 : undecE (numD l) GT = 0
      · exact h.1 h0
      · have := (h.2 h0).1; omega
theorem bds_range (l : List UInt8) : 0 ≤ (bdsM l).ln ∧ 0 ≤ (bdsM l).hn ∧ (bdsM l).ln ≤ GT ∧ (bdsM l).hn ≤ GT := by
  have hG : GT = 4611686018427387904 := rfl
  unfold bdsM
  split
  · exact ⟨(numN_range _).1, (numN_range _).1, (numN_range _).2, (numN_range _).2⟩
  · exact ⟨by decide, by decide, by decide, by decide⟩
theorem prt_ret {r : Prt} {a b c : Int} (h : r = ⟨a, b, c⟩) : Ending.returned (.tuple #[.int .i64 a, .int .i64 b, .int .i64 c]) = .returned (.tuple #[.int .i64 r.kind, .int .i64 r.a, .int .i64 r.b]) := by rw [h]

end Go.Proofs.YtpimfoohpfkciaaDoor

/- Layer 1: numbers in decimal are written. No conditions but on the numbers' table. -/
namespace Go.Proofs.YtpimfoohpfkciaaDoor
open Go.RowKit Go.Shelf

/-- the library's table of powers of ten is as it was laid -/
def P10 (w : World) : Prop := Lib.TabIs Tryd.prog w "internal/strconv.uint64pow10" .u64 Lib.pow10Tab
theorem P10.keep {w w' : World} {S : List Nat} (h : P10 w) (k : Keep S w w') (hn : ∀ g, Tryd.prog.globalNamed "internal/strconv.uint64pow10" = some g → g ∉ S) : P10 w' := by
  unfold P10 Lib.TabIs World.var? at *
  cases hg : Tryd.prog.globalNamed "internal/strconv.uint64pow10" with
  | none => simp [hg] at h
  | some g =>
    try rw [hg] at h
    simp only [Option.bind_some] at h ⊢
    cases ho : w.heap[g]? with
    | none => rw [ho] at h; simp at h
    | some o =>
      rw [k.heap ho (hn g hg)]
      rw [ho] at h
      exact h
theorem P10.keep0 {w w' : World} (h : P10 w) (k : Keep [] w w') : P10 w' := h.keep k (by simp)
theorem laid_at {P : Program} {W : World} {name : String} {k : IntKind} {zs : List Int} {g : Nat} {t e : TypeId} {n : Nat}
    (hg : P.globalNamed name = some g) (hty : (P.globals[g]?).map (·.type) = some t) (ht : P.underlying t = some (.array n e)) (he : P.underlying e = some (.int k)) (hce : P.cellsOf e = 1) (hct : P.cellsOf t = n) :
    ∀ {laid : List (String × DataW Unit)} {ps : List MemPlace}, (name, Lib.tabData k zs) ∈ laid → DataW.LaidVars P W laid ps → Lib.TabIs P W name k zs
  | [], ps, hm, _ => by simp at hm
  | x :: r, ps, hm, h => by
    obtain ⟨g', t', cs, fuel, p, q, hg', ht', hvar, hd, hr, _⟩ := h
    rcases List.mem_cons.1 hm with e | hm
    · subst e
      obtain rfl := Option.some.inj (hg.symm.trans hg')
      obtain rfl := Option.some.inj (hty.symm.trans ht')
      unfold Lib.TabIs
      rw [hvar, ← Lib.cells_of_tab ht he hce hct hd]
    · exact laid_at hg hty ht he hce hct hm hr
theorem keep_grow (w : World) (k : Nat) (os : Array Obj) : Keep [] w (Sort.grow (w.drewN k) os) :=
  ⟨rfl, rfl, rfl, by simp [Sort.grow, World.drewN], fun i hi _ => by
    show (w.heap ++ os)[i]? = w.heap[i]?
    rw [Array.getElem?_append_left hi]⟩
theorem itoa_len (n : Int) (h : in64 n) : (Lib.itoa n).length ≤ 21 := Lib.itoa_length_le n h.1 h.2
/-- 'bytes ' -/
def saidB : List UInt8 := [98, 121, 116, 101, 115, 32]
def prnOk (a b n : Int) : Bool := decide (0 ≤ a) && decide (a ≤ b) && decide (b < n) && decide (n ≤ 4611686018427387904)
/-- a part as it is written -/
def prnS (a b n : Int) : List UInt8 := if prnOk a b n then saidB ++ Lib.itoa a ++ [45] ++ Lib.itoa b ++ [47] ++ Lib.itoa n else []
def prnE (a b n : Int) : Int := if prnOk a b n then 0 else 1
def unmetS (n : Int) : List UInt8 := [98, 121, 116, 101, 115, 32, 42, 47] ++ Lib.itoa (max n 0)

end Go.Proofs.YtpimfoohpfkciaaDoor

/- Layer 13: what its functions compute, as plain functions of lists of bytes; the request line of layer 12. No program. No conditions. -/
namespace Go.Proofs.YtpimfoohpfkciaaDoor
open Go.RowKit Go.Shelf

/-- a status' words -/
def reasonM (s : Int) : List UInt8 :=
  if s = 200 then [79, 75] else
  if s = 206 then [80, 97, 114, 116, 105, 97, 108, 32, 67, 111, 110, 116, 101, 110, 116] else
  if s = 304 then [78, 111, 116, 32, 77, 111, 100, 105, 102, 105, 101, 100] else
  if s = 400 then [66, 97, 100, 32, 82, 101, 113, 117, 101, 115, 116] else
  if s = 404 then [78, 111, 116, 32, 70, 111, 117, 110, 100] else
  if s = 405 then [77, 101, 116, 104, 111, 100, 32, 78, 111, 116, 32, 65, 108, 108, 111, 119, 101, 100] else
  if s = 406 then [78, 111, 116, 32, 65, 99, 99, 101, 112, 116, 97, 98, 108, 101] else
  if s = 413 then [67, 111, 110, 116, 101, 110, 116, 32, 84, 111, 111, 32, 76, 97, 114, 103, 101] else
  if s = 416 then [82, 97, 110, 103, 101, 32, 78, 111, 116, 32, 83, 97, 116, 105, 115, 102, 105, 97, 98, 108, 101] else
  if s = 431 then [82, 101, 113, 117, 101, 115, 116, 32, 72, 101, 97, 100, 101, 114, 32, 70, 105, 101, 108, 100, 115, 32, 84, 111, 111, 32, 76, 97, 114, 103, 101] else
  if s = 502 then [66, 97, 100, 32, 71, 97, 116, 101, 119, 97, 121] else
  if s = 503 then [83, 101, 114, 118, 105, 99, 101, 32, 85, 110, 97, 118, 97, 105, 108, 97, 98, 108, 101] else
  if s = 504 then [71, 97, 116, 101, 119, 97, 121, 32, 84, 105, 109, 101, 111, 117, 116] else
  if s = 505 then [72, 84, 84, 80, 32, 86, 101, 114, 115, 105, 111, 110, 32, 78, 111, 116, 32, 83, 117, 112, 112, 111, 114, 116, 101, 100] else
  [85, 110, 107, 110, 111, 119, 110]
def crlfB : List UInt8 := [13, 10]
/-- 'HTTP/1.1' -/
def protB : List UInt8 := [72, 84, 84, 80, 47, 49, 46, 49]
def laidOk (L : List Fld) : Bool := decide (L.length ≤ 32) && L.all goodF
def laidE (st : List UInt8) (L : List Fld) : Int := if laidOk L then (if (headT st L).length ≤ 4096 then 0 else 4) else 1
def laidS (st : List UInt8) (L : List Fld) : List UInt8 := if laidE st L = 0 then headT st L else []
def stOf (s : Int) : List UInt8 := protB ++ [32] ++ Lib.itoa s ++ [32] ++ reasonM s
def statOk (s : Int) : Bool := decide (100 ≤ s) && decide (s ≤ 599)
def ansE (s : Int) (L : List Fld) : Int := if statOk s then laidE (stOf s) L else 1
def ansS (s : Int) (L : List Fld) : List UInt8 := if statOk s then laidS (stOf s) L else []
/-- a byte of a target -/
def tgtB (b : UInt8) : Bool := decide (33 ≤ b.toNat) && decide (b.toNat ≤ 126)
def isTgt (l : List UInt8) : Bool := l.all tgtB && !l.isEmpty
/-- 'HTTP/' -/
def httpB : List UInt8 := [72, 84, 84, 80, 47]
def digB (b : UInt8) : Bool := decide (48 ≤ b.toNat) && decide (b.toNat ≤ 57)
def verOk (l : List UInt8) : Bool := decide (l.length = 8) && decide (l.take 5 = httpB) && digB (l.getD 5 0) && (l.getD 6 0 == 46) && digB (l.getD 7 0)
def minS (l : List UInt8) : Int := if verOk l then (if l.getD 5 0 = 49 ∧ (l.getD 7 0).toNat ≤ 49 then 200 else 505) else 400
def minV (l : List UInt8) : Int := if minS l = 200 then ((l.getD 7 0).toNat : Int) - 48 else 0
structure Ln where
  m : List UInt8
  t : List UInt8
  v : Int
  s : Int
/-- a request line -/
def lnM (l : List UInt8) : Ln :=
  let c := Lib.cut l [32]
  let d := Lib.cut c.2.1 [32]
  if c.2.2 && d.2.2 && isTok c.1 && isTgt d.1 then (if minS d.2.1 = 200 then ⟨c.1, d.1, minV d.2.1, 200⟩ else ⟨[], [], 0, minS d.2.1⟩) else ⟨[], [], 0, 400⟩
def askT (m t : List UInt8) : List UInt8 := m ++ [32] ++ t ++ [32] ++ protB
def askOk (m t : List UInt8) : Bool := decide ((lnM (askT m t)).s = 200) && decide ((askT m t).length ≤ 1024)
def askE (m t : List UInt8) (L : List Fld) : Int := if askOk m t then laidE (askT m t) L else 1
def askS (m t : List UInt8) (L : List Fld) : List UInt8 := if askOk m t then laidS (askT m t) L else []
theorem len_ite {c : Prop} [Decidable c] {a b : List UInt8} {n : Nat} (ha : a.length ≤ n) (hb : b.length ≤ n) : (if c then a else b).length ≤ n := by split <;> assumption
theorem reason_len (s : Int) : (reasonM s).length ≤ 40 := by
  unfold reasonM
  repeat (refine len_ite (by decide) ?_)
  decide
theorem stOf_len (s : Int) (h : in64 s) : (stOf s).length ≤ 100 := by
  have h1 := reason_len s
  have h2 := itoa_len s h
  unfold stOf
  simp [protB]
  omega
end Go.Proofs.YtpimfoohpfkciaaDoor

/- Layer 10: the document's Params. No conditions but on lengths. -/
namespace Go.Proofs.YtpimfoohpfkciaaDoor
open Go.RowKit Go.Shelf

theorem parM_eq (x : List UInt8) : parM x = if 0 ≤ Lib.indexByte x 61 ∧ isTok (x.take (Lib.indexByte x 61).toNat) = true then
    (⟨lowW (x.take (Lib.indexByte x 61).toNat), (unqW (x.drop ((Lib.indexByte x 61).toNat + 1))).1⟩, (unqW (x.drop ((Lib.indexByte x 61).toNat + 1))).2) else (⟨[], []⟩, false) := by
  unfold parM Lib.cut
  rw [Lib.index_one]
  by_cases h : 0 ≤ Lib.indexByte x 61
  · simp only [if_pos h, List.length_singleton]
    by_cases h1 : isTok (x.take (Lib.indexByte x 61).toNat) = true
    · simp [h, h1]
    · simp [h1]
  · simp only [if_neg h]
    simp [h]

end Go.Proofs.YtpimfoohpfkciaaDoor

/- Layer 10: Frame. No conditions but on lengths. -/
namespace Go.Proofs.YtpimfoohpfkciaaDoor
open Go.RowKit Go.Shelf

def nTE : List UInt8 := [84, 114, 97, 110, 115, 102, 101, 114, 45, 69, 110, 99, 111, 100, 105, 110, 103]
def nCL : List UInt8 := [67, 111, 110, 116, 101, 110, 116, 45, 76, 101, 110, 103, 116, 104]
def nChunked : List UInt8 := [99, 104, 117, 110, 107, 101, 100]
/-- how a body is framed: its length, whether in chunks, the error -/
structure Frm where
  n : Int
  ch : Bool
  e : Int
def frameM (L : List Fld) (most : Int) : Frm :=
  if 1 < getN L nTE ∨ 1 < getN L nCL ∨ 1 < getN L nTE + getN L nCL then ⟨0, false, 3⟩
  else if getN L nTE = 1 then (if lowW (getV L nTE) = nChunked then ⟨0, true, 0⟩ else ⟨0, false, 3⟩)
  else if getN L nCL = 0 then ⟨-1, false, 0⟩
  else ⟨undecV (getV L nCL) most, false, if undecE (getV L nCL) most = 14 then 4 else undecE (getV L nCL) most⟩
theorem frm_ret {a c : Int} {b d : Bool} {x y : Int} (h : a = c) (h2 : b = d) (h3 : x = y) : Ending.returned (.tuple #[.int .i64 a, .bool b, .int .i64 x]) = .returned (.tuple #[.int .i64 c, .bool d, .int .i64 y]) := by rw [h, h2, h3]
theorem getV_len {L : List Fld} {n : List UInt8} {m : Nat} (h : ∀ x ∈ L, x.value.length ≤ m) : (getV L n).length ≤ m := by
  unfold getV
  cases hg : getS L n with
  | nil => simp
  | cons f r =>
    have : f ∈ getS L n := by rw [hg]; simp
    exact h f (List.mem_filter.1 this).1

set_option maxRecDepth 100000 in
set_option maxHeartbeats 1000000 in
theorem field_Frame (va : Value) (L : List Fld) (most : Int) (w : World) (ha : Sl Fld.cells 2 w va L) (hg : ∀ x ∈ L, x.name.length ≤ maxLen) (hv : ∀ x ∈ L, x.value.length ≤ maxLen) (_ : L.length ≤ 4611686018427387904) :
    Calls Tryd.prog 33 #[va, .int .i64 most] w fun e w' => e = .returned (.tuple #[.int .i64 (frameM L most).n, .bool (frameM L most).ch, .int .i64 (frameM L most).e]) ∧ Keep [] w w' := by
  have HG1 := Lib.hid (field_Get va L nTE w ha hg (by decide))
  have HG2 := Lib.hid (fun w1 (k : Keep [] w w1) => field_Get va L nCL w1 (ha.keep Fld.cells_length (by omega) ha k (by simp) (Nat.le_refl _)) hg (by decide))
  have hL := fun w1 => field_low (getV L nTE) w1 (getV_len hv)
  have hU := fun w1 => hexa_Undec (getV L nCL) most w1 (getV_len hv)
  have hF : frameM L most = if 1 < getN L nTE ∨ 1 < getN L nCL ∨ 1 < getN L nTE + getN L nCL then ⟨0, false, 3⟩
    else if getN L nTE = 1 then (if lowW (getV L nTE) = nChunked then ⟨0, true, 0⟩ else ⟨0, false, 3⟩)
    else if getN L nCL = 0 then ⟨-1, false, 0⟩
    else ⟨undecV (getV L nCL) most, false, if undecE (getV L nCL) most = 14 then 4 else undecE (getV L nCL) most⟩ := rfl
  have b1 := getN_le L nTE
  have b2 := getN_le L nCL
  unfold GetOut at HG1 HG2
  generalize frameM L most = f at hF
  generalize getV L nTE = tv at hL hF HG1
  generalize getV L nCL = cv at hU hF HG2
  generalize getN L nTE = tn at hF b1 HG1
  generalize getN L nCL = cn at hF b2 HG2
  obtain ⟨fn, fc, fe⟩ := f
  dsimp only
  clear ha hg hv
  by_cases h1 : 1 < tn ∨ 1 < cn ∨ 1 < tn + cn
  · rw [if_pos h1] at hF
    have HF := Lib.hid hF
    clear hF hL hU
    by_cases t1 : 1 < tn
    · clear h1
      go_enter Tryd.func33, Tryd.ntmps33
      go_wp2_with fail
      refine HG1.out.mono ?_
      rintro e w1 ⟨rfl, hk1⟩
      have K1 := Lib.hid hk1
      clear hk1
      go_wp2_with fail
      refine (HG2.out _ K1.out).mono ?_
      rintro e w2 ⟨rfl, hk2⟩
      have K2 := Lib.hid (K1.out.trans hk2)
      clear hk2
      go_wp2_with fail
      go_ret3
      exact ⟨frm_ret (by cases HF.out; rfl) (by cases HF.out; rfl) (by cases HF.out; rfl), K2.out⟩
    · by_cases t2 : 1 < cn
      · clear h1
        go_enter Tryd.func33, Tryd.ntmps33
        go_wp2_with fail
        refine HG1.out.mono ?_
        rintro e w1 ⟨rfl, hk1⟩
        have K1 := Lib.hid hk1
        clear hk1
        go_wp2_with fail
        refine (HG2.out _ K1.out).mono ?_
        rintro e w2 ⟨rfl, hk2⟩
        have K2 := Lib.hid (K1.out.trans hk2)
        clear hk2
        go_wp2_with fail
        go_ret3
        exact ⟨frm_ret (by cases HF.out; rfl) (by cases HF.out; rfl) (by cases HF.out; rfl), K2.out⟩
      · have t3 : 1 < tn + cn := by omega
        clear h1
        go_enter Tryd.func33, Tryd.ntmps33
        go_wp2_with fail
        refine HG1.out.mono ?_
        rintro e w1 ⟨rfl, hk1⟩
        have K1 := Lib.hid hk1
        clear hk1
        go_wp2_with fail
        refine (HG2.out _ K1.out).mono ?_
        rintro e w2 ⟨rfl, hk2⟩
        have K2 := Lib.hid (K1.out.trans hk2)
        clear hk2
        go_wp2_with fail
        go_ret3
        exact ⟨frm_ret (by cases HF.out; rfl) (by cases HF.out; rfl) (by cases HF.out; rfl), K2.out⟩
  · rw [if_neg h1] at hF
    have t1 : tn ≤ 1 := by omega
    have t2 : cn ≤ 1 := by omega
    have t3 : tn + cn ≤ 1 := by omega
    clear h1
    by_cases t4 : tn = 1
    · rw [if_pos t4] at hF
      obtain ⟨q1, q2⟩ := int_eq (show ((tn : Nat) : Int) = 1 by omega)
      have q5 := S_toList (lowW tv)
      by_cases hc : lowW tv = nChunked
      · rw [if_pos hc] at hF
        have q3 : (lowW tv == [99, 104, 117, 110, 107, 101, 100]) = true := by rw [hc]; rfl
        have q4 : (lowW tv != [99, 104, 117, 110, 107, 101, 100]) = false := by rw [hc]; rfl
        have HF := Lib.hid hF
        have HL := Lib.hid hL
        clear hF hL hU t4 hc
        go_enter Tryd.func33, Tryd.ntmps33
        go_wp2_with fail
        refine HG1.out.mono ?_
        rintro e w1 ⟨rfl, hk1⟩
        have K1 := Lib.hid hk1
        clear hk1
        go_wp2_with fail
        refine (HG2.out _ K1.out).mono ?_
        rintro e w2 ⟨rfl, hk2⟩
        have K2 := Lib.hid (K1.out.trans hk2)
        clear hk2
        go_wp2_with fail
        refine (HL.out _).mono ?_
        rintro e w3 ⟨rfl, hk3⟩
        have K3 := Lib.hid (K2.out.trans hk3)
        clear hk3
        go_wp2_with fail
        go_ret3
        exact ⟨frm_ret (by cases HF.out; rfl) (by cases HF.out; rfl) (by cases HF.out; rfl), K3.out⟩
      · rw [if_neg hc] at hF
        have q3 : (lowW tv == [99, 104, 117, 110, 107, 101, 100]) = false := beq_eq_false_iff_ne.2 hc
        have q4 : (lowW tv != [99, 104, 117, 110, 107, 101, 100]) = true := bne_iff_ne.2 hc
        have HF := Lib.hid hF
        have HL := Lib.hid hL
        clear hF hL hU t4 hc
        go_enter Tryd.func33, Tryd.ntmps33
        go_wp2_with fail
        refine HG1.out.mono ?_
        rintro e w1 ⟨rfl, hk1⟩
        have K1 := Lib.hid hk1
        clear hk1
        go_wp2_with fail
        refine (HG2.out _ K1.out).mono ?_
        rintro e w2 ⟨rfl, hk2⟩
        have K2 := Lib.hid (K1.out.trans hk2)
        clear hk2
        go_wp2_with fail
        refine (HL.out _).mono ?_
        rintro e w3 ⟨rfl, hk3⟩
        have K3 := Lib.hid (K2.out.trans hk3)
        clear hk3
        go_wp2_with fail
        go_ret3
        exact ⟨frm_ret (by cases HF.out; rfl) (by cases HF.out; rfl) (by cases HF.out; rfl), K3.out⟩
    · rw [if_neg t4] at hF
      obtain ⟨q1, q2⟩ := int_ne (show ((tn : Nat) : Int) ≠ 1 by omega)
      by_cases t5 : cn = 0
      · rw [if_pos t5] at hF
        obtain ⟨q3, q4⟩ := int_eq (show ((cn : Nat) : Int) = 0 by omega)
        have HF := Lib.hid hF
        clear hF hL hU t4 t5
        go_enter Tryd.func33, Tryd.ntmps33
        go_wp2_with fail
        refine HG1.out.mono ?_
        rintro e w1 ⟨rfl, hk1⟩
        have K1 := Lib.hid hk1
        clear hk1
        go_wp2_with fail
        refine (HG2.out _ K1.out).mono ?_
        rintro e w2 ⟨rfl, hk2⟩
        have K2 := Lib.hid (K1.out.trans hk2)
        clear hk2
        go_wp2_with fail
        go_ret3
        exact ⟨frm_ret (by cases HF.out; rfl) (by cases HF.out; rfl) (by cases HF.out; rfl), K2.out⟩
      · rw [if_neg t5] at hF
        obtain ⟨q3, q4⟩ := int_ne (show ((cn : Nat) : Int) ≠ 0 by omega)
        generalize undecV cv most = uv at hF hU
        generalize undecE cv most = ue at hF hU
        have HU := Lib.hid hU
        by_cases h14 : ue = 14
        · rw [if_pos h14] at hF
          obtain ⟨q5, q6⟩ := int_eq h14
          have HF := Lib.hid hF
          clear hF hL hU t4 t5 h14
          go_enter Tryd.func33, Tryd.ntmps33
          go_wp2_with fail
          refine HG1.out.mono ?_
          rintro e w1 ⟨rfl, hk1⟩
          have K1 := Lib.hid hk1
          clear hk1
          go_wp2_with fail
          refine (HG2.out _ K1.out).mono ?_
          rintro e w2 ⟨rfl, hk2⟩
          have K2 := Lib.hid (K1.out.trans hk2)
          clear hk2
          go_wp2_with fail
          refine (HU.out _).mono ?_
          rintro e w3 ⟨rfl, hk3⟩
          have K3 := Lib.hid (K2.out.trans hk3)
          clear hk3
          go_wp2_with fail
          go_ret3
          exact ⟨frm_ret (by cases HF.out; rfl) (by cases HF.out; rfl) (by cases HF.out; rfl), K3.out⟩
        · rw [if_neg h14] at hF
          obtain ⟨q5, q6⟩ := int_ne h14
          have HF := Lib.hid hF
          clear hF hL hU t4 t5 h14
          go_enter Tryd.func33, Tryd.ntmps33
          go_wp2_with fail
          refine HG1.out.mono ?_
          rintro e w1 ⟨rfl, hk1⟩
          have K1 := Lib.hid hk1
          clear hk1
          go_wp2_with fail
          refine (HG2.out _ K1.out).mono ?_
          rintro e w2 ⟨rfl, hk2⟩
          have K2 := Lib.hid (K1.out.trans hk2)
          clear hk2
          go_wp2_with fail
          refine (HU.out _).mono ?_
          rintro e w3 ⟨rfl, hk3⟩
          have K3 := Lib.hid (K2.out.trans hk3)
          clear hk3
          go_wp2_with fail
          go_ret3
          exact ⟨frm_ret (by cases HF.out; rfl) (by cases HF.out; rfl) (by cases HF.out; rfl), K3.out⟩

theorem frame_cases (L : List Fld) (most : Int) :
    ((1 < getN L nTE ∨ 1 < getN L nCL ∨ 1 < getN L nTE + getN L nCL) ∧ frameM L most = ⟨0, false, 3⟩) ∨ (getN L nTE = 1 ∧ getN L nCL = 0 ∧ frameM L most = ⟨0, true, 0⟩) ∨
    (((getN L nTE = 1 ∧ getN L nCL = 0) ∨ (getN L nTE = 0 ∧ getN L nCL = 1)) ∧ ∃ x, x ≠ 0 ∧ frameM L most = ⟨0, false, x⟩) ∨ (getN L nTE = 0 ∧ getN L nCL = 0 ∧ frameM L most = ⟨-1, false, 0⟩) ∨
    (getN L nTE = 0 ∧ getN L nCL = 1 ∧ ∃ v, 0 ≤ v ∧ v ≤ most ∧ frameM L most = ⟨v, false, 0⟩) := by
  have h := undec_range (getV L nCL) most
  unfold frameM
  by_cases h1 : 1 < getN L nTE ∨ 1 < getN L nCL ∨ 1 < getN L nTE + getN L nCL
  · exact .inl ⟨h1, if_pos h1⟩
  · rw [if_neg h1]
    by_cases t4 : getN L nTE = 1
    · rw [if_pos t4]
      by_cases hc : lowW (getV L nTE) = nChunked
      · rw [if_pos hc]; exact .inr (.inl ⟨t4, by omega, rfl⟩)
      · rw [if_neg hc]; exact .inr (.inr (.inl ⟨.inl ⟨t4, by omega⟩, 3, by omega, rfl⟩))
    · rw [if_neg t4]
      by_cases t5 : getN L nCL = 0
      · rw [if_pos t5]; exact .inr (.inr (.inr (.inl ⟨by omega, t5, rfl⟩)))
      · rw [if_neg t5]
        by_cases he : undecE (getV L nCL) most = 0
        · rw [if_neg (by omega), he]
          exact .inr (.inr (.inr (.inr ⟨by omega, by omega, _, (h.1 he).1, (h.1 he).2, rfl⟩)))
        · obtain ⟨h2, h3⟩ := h.2 he
          rw [h2]
          refine .inr (.inr (.inl ⟨.inr ⟨by omega, by omega⟩, _, ?_, rfl⟩))
          split <;> omega
end Go.Proofs.YtpimfoohpfkciaaDoor

/- Layer 10: Closes, both sides; the document's Undec and Frame. No conditions but on lengths. -/
namespace Go.Proofs.YtpimfoohpfkciaaDoor
open Go.RowKit Go.Shelf

def nConn : List UInt8 := [67, 111, 110, 110, 101, 99, 116, 105, 111, 110]
def nClose : List UInt8 := [99, 108, 111, 115, 101]
def nKeep : List UInt8 := [107, 101, 101, 112, 45, 97, 108, 105, 118, 101]
def closeL : List (List UInt8) → Bool → Bool
  | [], k => !k
  | x :: r, k => if lowW x = nClose then true else closeL r (k || decide (lowW x = nKeep))
def closesM (L : List Fld) (minor : Int) : Bool := closeL (elsM L nConn) (decide (1 ≤ minor))
theorem els_congr {n m : List UInt8} (L : List Fld) (h : lowW n = lowW m) : elsM L n = elsM L m := by
  have : sameN n = sameN m := by funext f; unfold sameN; rw [h]
  unfold elsM getS
  rw [this]
theorem els_elem {L : List Fld} {n x : List UInt8} {m : Nat} (hg : ∀ f ∈ L, f.value.length ≤ m) (h : x ∈ elsM L n) : x.length ≤ m := by
  unfold elsM at h
  obtain ⟨f, hf, hx⟩ := List.mem_flatMap.1 h
  have h1 := (List.mem_filter.1 hf).1
  have h2 := (List.mem_filter.1 hx).1
  exact Nat.le_trans (cutW_elem h2) (hg f h1)

set_option maxRecDepth 100000 in
set_option maxHeartbeats 1000000 in
theorem field_Closes (va : Value) (L : List Fld) (minor : Int) (w : World) (ha : Sl Fld.cells 2 w va L) (hg : ∀ x ∈ L, x.name.length ≤ 1048576 ∧ x.value.length ≤ 1048576) (hl : L.length ≤ 1024) :
    Calls Tryd.prog 35 #[va, .int .i64 minor] w fun e w' => e = .returned (.bool (closesM L minor)) ∧ Keep [] w w' := by
  have hE := field_Elements va L nConn w ha hg (by decide) hl
  have hC : closesM L minor = closeL (elsM L nConn) (decide (1 ≤ minor)) := rfl
  have hel : ∀ x ∈ elsM L nConn, x.length ≤ 1048576 := fun x hx => els_elem (fun f hf => (hg f hf).2) hx
  generalize elsM L nConn = M at hE hC hel
  generalize closesM L minor = res at hC
  have HE := Lib.hid hE
  have HC := Lib.hid hC
  have HEL := Lib.hid hel
  have HLW := Lib.hid (fun (x : List UInt8) (h : x.length ≤ 1048576) (w1 : World) => field_low x w1 (show x.length ≤ 9223372036854775807 by omega))
  clear hE hC hel ha hg
  generalize hdec : decide (1 ≤ minor) = kp0 at HC
  have hmin : (decide ((1 : Int) ≤ minor)) = kp0 := hdec
  go_enter Tryd.func35, Tryd.ntmps35
  go_wp2_with fail
  refine HE.out.mono ?_
  rintro e w1 ⟨pv, rfl, ho1, hk1⟩
  obtain ⟨pa, pc, rfl, hml⟩ := ho1.shape
  have hml' : M.length ≤ 9223372036854775807 := hml
  have HO := Lib.hid ho1
  have K1 := Lib.hid hk1
  clear ho1 hk1 hml hdec
  go_wp2_with fail
  clear hmin
  go_loopg [5, 13] M.length (fun g kv j wr => ∃ (k : Nat) (b : Bool), j = .int .i64 k ∧ kv = .bool b ∧ k ≤ M.length ∧ g = M.length - k ∧ Hid (Own strC 1 w.heap.size 9 wr (.slice pa M.length pc) M) ∧ Hid (Keep [] w wr) ∧ Hid (res = closeL (M.drop k) b))
  case atStart => exact ⟨0, _, rfl, rfl, by omega, by omega, HO, K1, HC⟩
  case round =>
    obtain ⟨k, b, rfl, rfl, hk, rfl, HO, HK, HF⟩ := hrel
    by_cases hlt : k < M.length
    · obtain ⟨x, hx⟩ : ∃ x, M[k]? = some x := ⟨_, List.getElem?_eq_getElem hlt⟩
      have HL := Lib.hid (HLW.out x (HEL.out x (List.mem_of_getElem? hx)))
      obtain ⟨b1, o1, c1, hv1, _, hc1, hx1⟩ := (HO.out.sl strC_length).cell hx
      cases hv1
      have hc1' : pc ≤ 9223372036854775807 := hc1
      have e0 := hx1 0 (by omega)
      simp only [strC, List.getElem?_cons_zero, Nat.mul_one, Nat.add_zero] at e0
      have hF := HF.out
      rw [drop_atG hx, closeL] at hF
      have ht := S_toList (lowW x)
      clear hx1 hx HF hc1
      by_cases h1 : lowW x = nClose
      · rw [if_pos h1] at hF
        have q1 : (lowW x == [99, 108, 111, 115, 101]) = true := by rw [h1]; rfl
        have HF := Lib.hid hF
        clear hF h1
        go_wp2_with fail
        refine (HL.out _).mono ?_
        rintro e w2 ⟨rfl, hk2⟩
        have K2 := Lib.hid (HK.out.trans hk2)
        clear hk2
        go_wp2_with fail
        go_ret
        exact ⟨ret_bool HF.out.symm, K2.out⟩
      · rw [if_neg h1] at hF
        have q1 : (lowW x == [99, 108, 111, 115, 101]) = false := beq_eq_false_iff_ne.2 h1
        by_cases h2 : lowW x = nKeep
        · have q2 : (lowW x == [107, 101, 101, 112, 45, 97, 108, 105, 118, 101]) = true := by rw [h2]; rfl
          have HF : Hid (res = closeL (M.drop (k + 1)) true) := by rw [Hid, hF]; simp [h2]
          clear hF h1 h2
          go_wp2_with fail
          refine (HL.out _).mono ?_
          rintro e w2 ⟨rfl, hk2⟩
          have K2 := Lib.hid (HK.out.trans hk2)
          have O2 := Lib.hid (HO.out.keep0 hk2)
          clear hk2
          go_wp2_with fail
          go_roundg (M.length - (k + 1))
          case measure => omega
          case rel => exact ⟨k + 1, true, by go_num, rfl, by omega, rfl, O2, K2, HF⟩
        · have q2 : (lowW x == [107, 101, 101, 112, 45, 97, 108, 105, 118, 101]) = false := beq_eq_false_iff_ne.2 h2
          have HF : Hid (res = closeL (M.drop (k + 1)) b) := by rw [Hid, hF]; simp [h2]
          clear hF h1 h2
          go_wp2_with fail
          refine (HL.out _).mono ?_
          rintro e w2 ⟨rfl, hk2⟩
          have K2 := Lib.hid (HK.out.trans hk2)
          have O2 := Lib.hid (HO.out.keep0 hk2)
          clear hk2
          go_wp2_with fail
          go_roundg (M.length - (k + 1))
          case measure => omega
          case rel => exact ⟨k + 1, b, by go_num, rfl, by omega, rfl, O2, K2, HF⟩
    · have hF := HF.out
      rw [List.drop_eq_nil_of_le (by omega), closeL] at hF
      have HF2 := Lib.hid hF
      clear hF HF
      go_wp2_with fail
      go_ret
      exact ⟨ret_bool HF2.out.symm, HK.out⟩

end Go.Proofs.YtpimfoohpfkciaaDoor

/- Layer 12: what an inlet does, as a plain machine. No program. No conditions but those that each theorem states. -/
namespace Go.Proofs.YtpimfoohpfkciaaDoor
open Go.RowKit

structure Req where
  m : List UInt8
  t : List UInt8
  F : List Fld
  cl : Bool
def req0 : Req := ⟨[], [], [], false⟩
def toldE (e long : Int) : Int := if e = 0 ∨ e = 17 then 0 else if e = 4 then long else 400
def nHost : List UInt8 := [72, 111, 115, 116]
/-- what a head comes to: what is wrong, whether one has come, its length, its request, what its body is -/
structure Hr where
  s : Int
  got : Bool
  n : Nat
  q : Req
  skip : Nat
  ch : Bool
def hr0 (s : Int) : Hr := ⟨s, false, 0, req0, 0, false⟩
def headM (l : List UInt8) : Hr :=
  if (splitM l).e ≠ 0 then hr0 (toldE (splitM l).e 431)
  else if (lnM (splitM l).st).s ≠ 200 then hr0 (lnM (splitM l).st).s
  else if 1 < getN (splitM l).F nHost ∨ (getN (splitM l).F nHost : Int) < (lnM (splitM l).st).v then hr0 400
  else if (frameM (splitM l).F 4096).e ≠ 0 then hr0 (toldE (frameM (splitM l).F 4096).e 413)
  else ⟨0, true, (splitM l).n, ⟨(lnM (splitM l).st).m, (lnM (splitM l).st).t, (splitM l).F, closesM (splitM l).F (lnM (splitM l).st).v⟩, (max (frameM (splitM l).F 4096).n 0).toNat, (frameM (splitM l).F 4096).ch⟩
/-- an inlet: what has come and wasn't read, the bytes of the request that is read, the request, what is left of its body, what was wrong -/
structure InS where
  inp : List UInt8
  held : Nat
  req : Option Req
  skip : Nat
  chk : Option Ck
  st : Int
def in0 : InS := ⟨[], 0, none, 0, none, 0⟩
def InS.left (p : InS) : Nat := p.inp.length + p.held
def inAdd (p : InS) (s : List UInt8) : InS × Int :=
  if p.st ≠ 0 then (p, 8) else if (16384 : Int) - p.left < s.length then (p, 6) else ({ p with inp := p.inp ++ s }, 0)
structure BdR where
  p : InS
  whole : Bool
  s : Int
def bodyB (p : InS) : BdR :=
  match p.chk with
  | none => ⟨{ p with inp := p.inp.drop (min p.skip p.inp.length), held := p.held + min p.skip p.inp.length, skip := p.skip - min p.skip p.inp.length }, decide (p.skip - min p.skip p.inp.length = 0), 0⟩
  | some c =>
    if (addC c p.inp).err ≠ 0 then ⟨{ p with inp := [], held := p.held + p.inp.length, chk := some (addC c p.inp) }, false, toldE (addC c p.inp).err 413⟩
    else if (addC c p.inp).st ≠ 4 then ⟨{ p with inp := [], held := p.held + p.inp.length, chk := some (addC c p.inp) }, false, 0⟩
    else ⟨{ p with inp := (addC c p.inp).inp, held := p.held + p.inp.length, chk := none }, true, 0⟩
/-- what Next comes to: the inlet, the request, the status -/
structure NxR where
  p : InS
  q : Req
  s : Int
def tailI (p : InS) (q : Req) : NxR :=
  if (bodyB p).s ≠ 0 then ⟨{ (bodyB p).p with st := (bodyB p).s }, req0, (bodyB p).s⟩
  else if (bodyB p).whole then ⟨{ (bodyB p).p with req := none, held := 0 }, q, 200⟩
  else ⟨(bodyB p).p, req0, 0⟩
def headed (p : InS) (h : Hr) : InS := { p with inp := p.inp.drop h.n, held := h.n, skip := h.skip, chk := if h.ch then some (ck0 4096) else p.chk, req := some h.q }
def nextI (p : InS) : NxR :=
  if p.st ≠ 0 then ⟨p, req0, p.st⟩
  else match p.req with
    | some q => tailI p q
    | none =>
      if (headM p.inp).s ≠ 0 then ⟨{ p with st := (headM p.inp).s }, req0, (headM p.inp).s⟩
      else if (headM p.inp).got then tailI (headed p (headM p.inp)) (headM p.inp).q
      else ⟨p, req0, 0⟩
/-- what holds of an inlet at any time -/
structure InS.ok (p : InS) : Prop where
  len : p.inp.length + p.held ≤ 16384
  skp : p.skip ≤ 4096
  chk : ∀ c, p.chk = some c → (c.err = 0 → c.ok) ∧ c.most = 4096 ∧ c.inp.length + c.dat.length + 2 ≤ p.held ∧ c.st ≤ 4
  req : p.st = 0 → p.req = none → p.chk = none ∧ p.held = 0
  bad : ∀ c, p.st = 0 → p.chk = some c → c.err = 0
  hld : p.st = 0 → p.req ≠ none → 2 ≤ p.held
end Go.Proofs.YtpimfoohpfkciaaDoor

/- Layer 12: an inlet in memory; New, Left, wrong, Add, told. No conditions but on lengths. -/
namespace Go.Proofs.YtpimfoohpfkciaaDoor
open Go.RowKit Go.Shelf

def reqC (m t : List UInt8) (v : Value) (cl : Bool) : List Value := [.string (S m), .string (S t), v, .bool cl]
def inC (I : InS) (rv cv : Value) : List Value := [.string (S I.inp), .int .i64 (I.held : Nat), rv, .int .i64 (I.skip : Nat), cv, .int .i64 I.st]
/-- a request in memory: its block and its fields' row lie in R -/
def ReqAt (B : Nat) (w : World) (R : List Nat) (rv : Value) (o : Option Req) : Prop :=
  match o with
  | none => rv = .pointer none
  | some q => ∃ b v, rv = .pointer (some ⟨b, 0, none⟩) ∧ b ∈ R ∧ Blk w b 37 (reqC q.m q.t v q.cl) ∧ Own Fld.cells 2 B 44 w v q.F ∧ ∀ g, v.ownBlock = some g → g ∈ R
/-- a chunked body's reader in memory: its blocks lie in X -/
def ChkAt (B : Nat) (w : World) (p : Nat) (X : List Nat) (cv : Value) (o : Option Ck) : Prop :=
  match o with
  | none => cv = .pointer none
  | some c => ∃ b v, cv = .pointer (some ⟨b, 0, none⟩) ∧ b ≠ p ∧ b ∈ X ∧ Ct B w b [] c v ∧ ∀ g, v.ownBlock = some g → g ∈ X ∧ g ≠ p
/-- an inlet in memory: X: what its calls write; R: what is only read -/
structure It (B : Nat) (w : World) (p : Nat) (X R : List Nat) (I : InS) : Prop where
  at' : ∃ rv cv, Blk w p 52 (inC I rv cv) ∧ ChkAt B w p X cv I.chk ∧ ReqAt B w R rv I.req
  mem : p ∈ X
  lo : ∀ x ∈ X, B ≤ x ∧ x < w.heap.size
  ro : ∀ x ∈ R, B ≤ x ∧ x < w.heap.size ∧ x ∉ X
theorem Ct.lt {B b : Nat} {w : World} {p : List UInt8} {c : Ck} {v : Value} (h : Ct B w b p c v) : b < w.heap.size := let ⟨_, h1⟩ := h.cells; h1.lt
theorem ReqAt.keep {B : Nat} {w w' : World} {R S : List Nat} {rv : Value} {o : Option Req} (h : ReqAt B w R rv o) (k : Keep S w w') (hR : ∀ x ∈ R, x ∉ S) : ReqAt B w' R rv o := by
  cases o with
  | none => exact h
  | some q =>
    obtain ⟨b, v, h1, h2, h3, h4, h5⟩ := h
    exact ⟨b, v, h1, h2, k.blk h3 (hR b h2), h4.keep k (fun g hg => hR g (h5 g hg)), h5⟩
theorem ChkAt.keep {B p : Nat} {w w' : World} {X S : List Nat} {cv : Value} {o : Option Ck} (h : ChkAt B w p X cv o) (k : Keep S w w') (hX : ∀ x ∈ X, x ≠ p → x ∉ S) : ChkAt B w' p X cv o := by
  cases o with
  | none => exact h
  | some c =>
    obtain ⟨b, v, h1, h2, h3, h4, h5⟩ := h
    exact ⟨b, v, h1, h2, h3, h4.keep k (hX b h3 h2) (fun g hg => hX g (h5 g hg).1 (h5 g hg).2), h5⟩
theorem It.keep {B p : Nat} {w w' : World} {X R S : List Nat} {I : InS} (h : It B w p X R I) (k : Keep S w w') (hX : ∀ x ∈ X, x ∉ S) (hR : ∀ x ∈ R, x ∉ S) : It B w' p X R I := by
  obtain ⟨⟨rv, cv, h1, h2, h3⟩, h4, h5, h6⟩ := h
  exact ⟨⟨rv, cv, k.blk h1 (hX p h4), h2.keep k (fun x hx _ => hX x hx), h3.keep k hR⟩, h4, fun x hx => ⟨(h5 x hx).1, Nat.lt_of_lt_of_le (h5 x hx).2 k.size⟩, fun x hx => ⟨(h6 x hx).1, Nat.lt_of_lt_of_le (h6 x hx).2.1 k.size, (h6 x hx).2.2⟩⟩
theorem It.keep0 {B p : Nat} {w w' : World} {X R : List Nat} {I : InS} (h : It B w p X R I) (k : Keep [] w w') : It B w' p X R I := h.keep k (by simp) (by simp)
theorem It.lt {B p : Nat} {w : World} {X R : List Nat} {I : InS} (h : It B w p X R I) : p < w.heap.size := (h.lo p h.mem).2
theorem It.base {B p : Nat} {w : World} {X R : List Nat} {I : InS} (h : It B w p X R I) : B ≤ p := (h.lo p h.mem).1
/-- a store into the inlet's own block -/
theorem It.set {B p : Nat} {w : World} {X R : List Nat} {I I' : InS} (h : It B w p X R I) (k : Nat) (x : Value) (hc : ∀ rv cv, (inC I rv cv).set k x = inC I' rv cv) (h1 : I'.req = I.req) (h2 : I'.chk = I.chk) : It B (w.setCell ⟨p, k, none⟩ x) p X R I' := by
  obtain ⟨⟨rv, cv, b1, b2, b3⟩, h4, h5, h6⟩ := h
  have hk : Keep [p] w (w.setCell ⟨p, k, none⟩ x) := (Keep.refl _ _).setCell _ _ (by simp)
  refine ⟨⟨rv, cv, ?_, ?_, ?_⟩, h4, fun y hy => ⟨(h5 y hy).1, Nat.lt_of_lt_of_le (h5 y hy).2 hk.size⟩, fun y hy => ⟨(h6 y hy).1, Nat.lt_of_lt_of_le (h6 y hy).2.1 hk.size, (h6 y hy).2.2⟩⟩
  · rw [← hc]; exact b1.set k x
  · rw [h2]; exact b2.keep hk (fun y _ hy => by simpa using hy)
  · rw [h1]; exact b3.keep hk (fun y hy => by simp only [List.mem_singleton]; rintro rfl; exact (h6 _ hy).2.2 h4)
theorem It.at_ {B p : Nat} {w : World} {X R : List Nat} {I : InS} (h : It B w p X R I) : w.cell? ⟨p, 0, none⟩ = some (.string (S I.inp)) ∧ w.cell? ⟨p, 1, none⟩ = some (.int .i64 (I.held : Nat)) ∧ w.cell? ⟨p, 3, none⟩ = some (.int .i64 (I.skip : Nat)) ∧ w.cell? ⟨p, 5, none⟩ = some (.int .i64 I.st) := by
  obtain ⟨⟨rv, cv, b1, _⟩, _⟩ := h
  exact ⟨b1.get (k := 0) rfl, b1.get (k := 1) rfl, b1.get (k := 3) rfl, b1.get (k := 5) rfl⟩
theorem It.free {B p : Nat} {w : World} {X R : List Nat} {I : InS} (h : It B w p X R I) (k : Nat) : w.frozen? ⟨p, k, none⟩ = false := let ⟨⟨_, _, b1, _⟩, _, _, _⟩ := h; b1.frozen k
/-- a call's footprint -/
theorem It.keepX {B p : Nat} {w w' : World} {X R : List Nat} {I : InS} (h : It B w p X R I) (k : Keep [p] w w') : Keep X w w' := k.mono (fun x hx _ => by simp at hx; subst hx; exact h.mem)

set_option maxHeartbeats 1000000 in
set_option maxRecDepth 100000 in
theorem inlet_New (B : Nat) (w : World) (hB : B ≤ w.heap.size) :
    Calls Tryd.prog 6 #[] w fun e w' => ∃ p, e = .returned (.pointer (some ⟨p, 0, none⟩)) ∧ w.heap.size ≤ p ∧ It B w' p [p] [] in0 ∧ Keep [] w w' := by
  have H := Lib.hid (Blk.newA w (inC in0 (.pointer none) (.pointer none)).toArray 52)
  go_enter Tryd.func6, Tryd.ntmps6
  go_wp2_with fail
  go_ret
  exact ⟨w.heap.size, rfl, Nat.le_refl _, ⟨⟨.pointer none, .pointer none, H.out, rfl, rfl⟩, by simp, fun x hx => by simp at hx; subst hx; simp; omega, by simp⟩, (Keep.refl [] w).alloc _⟩
set_option maxHeartbeats 1000000 in
set_option maxRecDepth 100000 in
theorem inlet_Left {B p : Nat} {X R : List Nat} {I : InS} {w : World} (h : It B w p X R I) (hl : I.inp.length + I.held ≤ 1048576) :
    Calls Tryd.prog 11 #[.pointer (some ⟨p, 0, none⟩)] w fun e w' => e = .returned (.int .i64 (I.left : Nat)) ∧ Keep [] w w' := by
  obtain ⟨c0, c1, _, _⟩ := h.at_
  have sz := S_size I.inp
  have hw := IntWalk.i64_in ((I.inp.length : Int) + (I.held : Int)) (by omega)
  have HF := Lib.hid (show ((I.inp.length : Int) + (I.held : Int)) = ((I.left : Nat) : Int) by unfold InS.left; omega)
  clear h
  go_enter Tryd.func11, Tryd.ntmps11
  go_wp2_with fail
  go_region_with fail
  all_goals
    go_wp2_with fail
    go_ret
    exact ⟨ret_int HF.out, by repeat (first | exact Keep.refl _ _ | apply Keep.drew)⟩
set_option maxHeartbeats 1000000 in
set_option maxRecDepth 100000 in
theorem inlet_wrong {B p : Nat} {X R : List Nat} {I : InS} {w : World} (h : It B w p X R I) :
    Calls Tryd.prog 20 #[.pointer (some ⟨p, 0, none⟩)] w fun e w' => e = .returned (.int .i64 I.st) ∧ w = w' := by
  obtain ⟨_, _, _, c5⟩ := h.at_
  clear h
  go_enter Tryd.func20, Tryd.ntmps20
  go_wp2_with fail
  go_ret
  exact ⟨rfl, rfl⟩
set_option maxHeartbeats 1000000 in
set_option maxRecDepth 100000 in
theorem inlet_told (e0 long : Int) (w : World) :
    Calls Tryd.prog 32 #[.int .i64 e0, .int .i64 long] w fun e w' => e = .returned (.int .i64 (toldE e0 long)) ∧ w = w' := by
  have hT : toldE e0 long = if e0 = 0 ∨ e0 = 17 then 0 else if e0 = 4 then long else 400 := rfl
  by_cases h0 : e0 = 0
  · rw [if_pos (.inl h0)] at hT
    have HT := Lib.hid hT
    have q := (int_eq h0).1
    clear h0 hT
    go_enter Tryd.func32, Tryd.ntmps32
    go_wp2_with fail
    go_ret
    exact ⟨ret_int HT.out.symm, rfl⟩
  · by_cases h17 : e0 = 17
    · rw [if_pos (.inr h17)] at hT
      have HT := Lib.hid hT
      subst h17
      clear h0 hT
      go_enter Tryd.func32, Tryd.ntmps32
      go_wp2_with fail
      go_ret
      exact ⟨ret_int HT.out.symm, rfl⟩
    · rw [if_neg (by omega)] at hT
      have q := (int_ne h0).1
      have q2 := (int_ne h17).1
      by_cases h4 : e0 = 4
      · rw [if_pos h4] at hT
        have HT := Lib.hid hT
        subst h4
        clear h0 h17 hT q q2
        go_enter Tryd.func32, Tryd.ntmps32
        go_wp2_with fail
        go_ret
        exact ⟨ret_int HT.out.symm, rfl⟩
      · rw [if_neg h4] at hT
        have HT := Lib.hid hT
        have q3 := (int_ne h4).1
        clear h0 h17 hT h4
        go_enter Tryd.func32, Tryd.ntmps32
        go_wp2_with fail
        go_ret
        exact ⟨ret_int HT.out.symm, rfl⟩
set_option maxHeartbeats 2000000 in
set_option maxRecDepth 100000 in
theorem inlet_Add {B p : Nat} {X R : List Nat} {I : InS} {w : World} (s : List UInt8) (h : It B w p X R I) (hl : I.inp.length + I.held ≤ 1048576) (_hs : s.length ≤ 1048576) :
    Calls Tryd.prog 9 #[.pointer (some ⟨p, 0, none⟩), .string (S s)] w fun e w' => e = .returned (.int .i64 (inAdd I s).2) ∧ It B w' p X R (inAdd I s).1 ∧ Keep [p] w w' := by
  obtain ⟨c0, _, _, c5⟩ := h.at_
  have f0 := h.free 0
  have sz := S_size s
  have sz2 := S_size I.inp
  have hA : inAdd I s = if I.st ≠ 0 then (I, 8) else if (16384 : Int) - I.left < s.length then (I, 6) else ({ I with inp := I.inp ++ s }, 0) := rfl
  have HL := Lib.hid (inlet_Left h hl)
  have H := Lib.hid h
  have hll : I.left = I.inp.length + I.held := rfl
  have hw := IntWalk.i64_in ((16384 : Int) - (I.left : Int)) (by omega)
  by_cases h0 : I.st = 0
  · rw [if_neg (by simp [h0])] at hA
    have q1 := (int_eq h0).2
    by_cases h6 : (16384 : Int) - I.left < s.length
    · rw [if_pos h6] at hA
      have HA := Lib.hid hA
      have q2 : decide ((s.length : Int) > (16384 : Int) - I.left) = true := by simp; omega
      clear hA h h0 hll
      go_enter Tryd.func9, Tryd.ntmps9
      go_wp2_with fail
      refine HL.out.mono ?_
      rintro e w1 ⟨rfl, k1⟩
      have K1 := Lib.hid k1
      clear k1
      go_wp2_with fail
      go_ret
      rw [HA.out]
      exact ⟨rfl, H.out.keep0 K1.out, K1.out.mono (by simp)⟩
    · rw [if_neg h6] at hA
      have HA := Lib.hid hA
      have q2 : decide ((s.length : Int) > (16384 : Int) - I.left) = false := by simp; omega
      have q3 := S_append I.inp s
      have hov : ¬ 9223372036854775807 < I.inp.length + s.length := by omega
      clear hA h h0 hll c0 f0
      go_enter Tryd.func9, Tryd.ntmps9
      go_wp2_with fail
      refine HL.out.mono ?_
      rintro e w1 ⟨rfl, k1⟩
      have K1 := Lib.hid k1
      have H1 := Lib.hid (H.out.keep0 k1)
      obtain ⟨c0, _, _, _⟩ := H1.out.at_
      have f0 := H1.out.free 0
      clear k1 c5
      go_wp2_with fail
      go_ret
      rw [HA.out]
      exact ⟨rfl, H1.out.set 0 (.string (S (I.inp ++ s))) (fun _ _ => rfl) rfl rfl, (K1.out.mono (by simp)).setCell _ _ (by simp)⟩
  · rw [if_pos h0] at hA
    have HA := Lib.hid hA
    have q1 := (int_ne h0).2
    clear hA h h0 hll
    go_enter Tryd.func9, Tryd.ntmps9
    go_wp2_with fail
    go_ret
    rw [HA.out]
    exact ⟨rfl, H.out, Keep.refl _ _⟩
end Go.Proofs.YtpimfoohpfkciaaDoor

/- Layer 10, plain law: what a head comes to is no longer than its bytes. No program. -/
namespace Go.Proofs.YtpimfoohpfkciaaDoor
open Go.RowKit

theorem trimW_le (l : List UInt8) : (trimW l).length ≤ l.length := by
  unfold trimW Lib.trimS Lib.trimLeftS Lib.trimRightS
  refine Nat.le_trans (List.dropWhile_sublist _).length_le ?_
  rw [List.length_reverse]
  refine Nat.le_trans (List.dropWhile_sublist _).length_le ?_
  simp
theorem parse_le {l : List UInt8} {f : Fld} (h : parseF l = some f) : f.name.length ≤ l.length ∧ f.value.length ≤ l.length := by
  unfold parseF at h
  dsimp only at h
  have hc := cut_len l [58]
  split at h
  · cases h
    exact ⟨hc.1, Nat.le_trans (trimW_le _) hc.2⟩
  · cases h
def Small (m : Nat) (F : List Fld) : Prop := F.length ≤ 32 ∧ ∀ x ∈ F, x.name.length ≤ m ∧ x.value.length ≤ m
theorem add_small {m : Nat} {F : List Fld} {l : List UInt8} (h : Small m F) (hl : l.length ≤ m) : Small m (addM F l).1 := by
  unfold addM
  split
  · exact h
  · rename_i f hf
    have hp := parse_le hf
    split
    · exact h
    · refine ⟨by simp; omega, fun x hx => ?_⟩
      rcases List.mem_append.1 hx with hx | hx
      · exact h.2 x hx
      · simp at hx; subst hx; exact ⟨by omega, by omega⟩
theorem loop_small (s st : List UInt8) : ∀ (k : Nat) (F : List Fld) (n : Nat), n ≤ s.length → n ≤ 4096 → Small s.length F → Small s.length (loopM s st k F n).F ∧ (loopM s st k F n).st = st
  | 0, F, n, h, _, hF => ⟨hF, rfl⟩
  | k + 1, F, n, h, h2, hF => by
    have hb := next_bounds h h2
    unfold loopM
    by_cases h4 : (nextM s n).2.2 ≠ 0
    · rw [if_pos h4]; exact ⟨hF, rfl⟩
    · rw [if_neg h4]
      by_cases h5 : (nextM s n).1 = []
      · rw [if_pos h5]; exact ⟨hF, rfl⟩
      · rw [if_neg h5]
        have ha := add_small hF hb.2.2.2
        by_cases h6 : (addM F (nextM s n).1).2 ≠ 0
        · rw [if_pos h6]; exact ⟨ha, rfl⟩
        · rw [if_neg h6]; exact loop_small s st k _ _ hb.1 hb.2.1 ha
theorem split_small (s : List UInt8) : Small s.length (splitM s).F ∧ (splitM s).st.length ≤ s.length ∧ (splitM s).n ≤ s.length := by
  have hb := next_bounds (s := s) (n := 0) (Nat.zero_le _) (Nat.zero_le _)
  have h0 : Small s.length [] := ⟨by simp, by simp⟩
  have hr : Small s.length (readM s).F ∧ (readM s).st.length ≤ s.length := by
    unfold readM
    by_cases h4 : (nextM s 0).2.2 ≠ 0
    · rw [if_pos h4]; exact ⟨h0, by simp⟩
    · rw [if_neg h4]
      by_cases h6 : beginE (nextM s 0).1 ≠ 0
      · rw [if_pos h6]; exact ⟨h0, by simp⟩
      · rw [if_neg h6]
        have := loop_small s (nextM s 0).1 4097 [] (nextM s 0).2.1 hb.1 hb.2.1 h0
        exact ⟨this.1, by rw [this.2]; exact hb.2.2.2⟩
  refine ⟨?_, ?_, split_n_le s⟩ <;> unfold splitM <;> split
  · exact h0
  · exact hr.1
  · simp
  · exact hr.2
theorem loop_pos (s st : List UInt8) : ∀ (k : Nat) (F : List Fld) (n : Nat), n ≤ s.length → n ≤ 4096 → (loopM s st k F n).e = 0 → n + 1 ≤ (loopM s st k F n).n
  | 0, F, n, h, _, he => by unfold loopM at he; simp at he
  | k + 1, F, n, h, h2, he => by
    have hb := next_bounds h h2
    unfold loopM at he ⊢
    by_cases h4 : (nextM s n).2.2 ≠ 0
    · rw [if_pos h4] at he; exact absurd he h4
    · rw [if_neg h4] at he ⊢
      have hn := hb.2.2.1 (by simpa using h4)
      by_cases h5 : (nextM s n).1 = []
      · rw [if_pos h5]; exact hn
      · rw [if_neg h5] at he ⊢
        by_cases h6 : (addM F (nextM s n).1).2 ≠ 0
        · rw [if_pos h6]; exact hn
        · rw [if_neg h6] at he ⊢
          have := loop_pos s st k _ _ hb.1 hb.2.1 he
          omega
theorem split_pos (s : List UInt8) : (splitM s).e = 0 → 2 ≤ (splitM s).n := by
  have hb := next_bounds (s := s) (n := 0) (Nat.zero_le _) (Nat.zero_le _)
  have hr : (readM s).e = 0 → 2 ≤ (readM s).n := by
    unfold readM
    by_cases h4 : (nextM s 0).2.2 ≠ 0
    · rw [if_pos h4]; intro h; exact absurd h h4
    · rw [if_neg h4]
      have := hb.2.2.1 (by simpa using h4)
      by_cases h6 : beginE (nextM s 0).1 ≠ 0
      · rw [if_pos h6]; intro h; exact absurd h h6
      · rw [if_neg h6]
        intro he
        have := loop_pos s _ _ _ _ hb.1 hb.2.1 he
        omega
  unfold splitM
  split
  · rename_i h; intro h2; exact absurd h2 h
  · exact hr
end Go.Proofs.YtpimfoohpfkciaaDoor

/- Layer 13 and 12: Reason, Bodyless; a request line's parts: isDigit, isTarget, minor. No conditions but on lengths. -/
namespace Go.Proofs.YtpimfoohpfkciaaDoor
open Go.RowKit Go.Shelf

set_option maxHeartbeats 400000 in
theorem inlet_isDigit (b : UInt8) (w : World) :
    Calls Tryd.prog 30 #[.int .u8 b.toNat] w fun e w' => e = .returned (.bool (digB b)) ∧ w = w' := by
  have hb := u8_nat b
  by_cases h1 : 48 ≤ b.toNat
  · by_cases h2 : b.toNat ≤ 57
    · go_enter Tryd.func30, Tryd.ntmps30
      go_wp2_with fail
      go_ret
      exact ⟨by simp [digB, h1, h2] <;> omega, rfl⟩
    · go_enter Tryd.func30, Tryd.ntmps30
      go_wp2_with fail
      go_ret
      exact ⟨by simp [digB, h1, h2] <;> omega, rfl⟩
  · go_enter Tryd.func30, Tryd.ntmps30
    go_wp2_with fail
    go_ret
    exact ⟨by simp [digB, h1], rfl⟩

set_option maxRecDepth 100000 in
set_option maxHeartbeats 1000000 in
theorem inlet_isTarget (l : List UInt8) (w : World) (hs : l.length ≤ maxLen) :
    Calls Tryd.prog 18 #[.string (S l)] w fun e w' => e = .returned (.bool (isTgt l)) ∧ Keep [] w w' := by
  have hs' : l.length ≤ 9223372036854775807 := hs
  have hcv := conv_run w (S l)
  have hcell : Hid (∀ (k : Nat) (c : UInt8), l[k]? = some c → _) := fun k c h => conv_at w 5 h
  have hkp := conv_keep w 5 (S l)
  generalize Lib.bytesWorld w 5 (S l) = wb at hcv hcell hkp
  have hsz := S_size l
  have hte := S_toList l
  clear hs
  go_enter Tryd.func18, Tryd.ntmps18
  go_wp2_with fail
  go_loop [8] (fun i => ∃ k : Nat, i = .int .i64 k ∧ k ≤ l.length ∧ Hid ((l.take k).all tgtB = true)) (fun i => l.length - (intOf i).toNat)
  case atStart => exact ⟨0, rfl, Nat.zero_le _, by simp [Hid]⟩
  case round =>
    obtain ⟨k, rfl, hk, hall⟩ := hrel
    by_cases hlt : k < l.length
    · obtain ⟨c, hg⟩ : ∃ c, l[k]? = some c := ⟨_, List.getElem?_eq_getElem hlt⟩
      have hc := hcell.out k c hg
      have hc8 := u8_nat c
      have HG := Lib.hid hg
      clear hg
      by_cases ht : tgtB c = true
      · have h1 : 33 ≤ c.toNat ∧ c.toNat ≤ 126 := by simpa [tgtB] using ht
        have h2 : ¬ c.toNat ≤ 32 := by omega
        have h3 : ¬ 126 < c.toNat := by omega
        have HT := Lib.hid ht
        clear ht h1
        go_wp2_with fail
        go_round
        case rel => exact ⟨k + 1, by go_num, by omega, by rw [Hid, take_snoc HG.out, List.all_append, hall.out]; simp [HT.out]⟩
        case measure => simp [intOf]; omega
      · have this : isTgt l = false := by
          unfold isTgt
          rw [show l.all tgtB = false from by rw [List.all_eq_false]; exact ⟨c, List.mem_of_getElem? HG.out, ht⟩]
          rfl
        have H := Lib.hid this
        by_cases h2 : c.toNat ≤ 32
        · clear this ht
          go_wp2_with fail
          go_ret
          exact ⟨ret_bool H.out.symm, hkp⟩
        · have h3 : 126 < c.toNat := by
            simp [tgtB] at ht
            omega
          clear this ht
          go_wp2_with fail
          go_ret
          exact ⟨ret_bool H.out.symm, hkp⟩
    · have e : l.take k = l := List.take_of_length_le (by omega)
      rw [e] at hall
      clear e
      go_wp2_with fail
      go_ret
      refine ⟨ret_bool ?_, hkp⟩
      unfold isTgt
      rw [hall.out]
      simp
end Go.Proofs.YtpimfoohpfkciaaDoor

/- Layer 12: minor, Line: a request line. No conditions but on lengths. -/
namespace Go.Proofs.YtpimfoohpfkciaaDoor
open Go.RowKit Go.Shelf

theorem take5_prefix (l : List UInt8) : Lib.hasPrefix l httpB = decide (l.take 5 = httpB) := by
  rw [Bool.eq_iff_iff]
  unfold Lib.hasPrefix
  rw [List.isPrefixOf_iff_prefix, List.prefix_iff_eq_take]
  constructor
  · intro h; exact decide_eq_true h.symm
  · intro h; exact (of_decide_eq_true h).symm
theorem ver_no {l : List UInt8} (h : Lib.hasPrefix l httpB = false ∨ l.length ≠ 8) : minS l = 400 ∧ minV l = 0 := by
  have hv : verOk l = false := by
    unfold verOk
    rcases h with h | h
    · rw [take5_prefix] at h; rw [h]; simp
    · simp [h]
  have hs : minS l = 400 := by unfold minS; rw [hv]; rfl
  exact ⟨hs, by unfold minV; rw [hs]; rfl⟩
theorem ver_of (a p c : UInt8) : minS (httpB ++ [a, p, c]) = (if digB a && (p == 46) && digB c then (if a = 49 ∧ c.toNat ≤ 49 then 200 else 505) else 400) ∧ minV (httpB ++ [a, p, c]) = (if digB a && (p == 46) && digB c then (if a = 49 ∧ c.toNat ≤ 49 then (c.toNat : Int) - 48 else 0) else 0) := by
  have hv : verOk (httpB ++ [a, p, c]) = (digB a && (p == 46) && digB c) := by
    unfold verOk
    simp [httpB]
  have hs : minS (httpB ++ [a, p, c]) = (if digB a && (p == 46) && digB c then (if a = 49 ∧ c.toNat ≤ 49 then 200 else 505) else 400) := by
    unfold minS
    rw [hv]
    rfl
  refine ⟨hs, ?_⟩
  unfold minV
  rw [hs]
  by_cases h1 : (digB a && (p == 46) && digB c) = true
  · by_cases h2 : a = 49 ∧ c.toNat ≤ 49
    · rw [if_pos h1, if_pos h2, if_pos rfl, if_pos h1, if_pos h2]; rfl
    · rw [if_pos h1, if_neg h2, if_neg (by decide), if_pos h1, if_neg h2]
  · rw [if_neg h1, if_neg (by decide), if_neg h1]

set_option maxRecDepth 100000 in
set_option maxHeartbeats 2000000 in
theorem inlet_minor (l : List UInt8) (w : World) (hl : l.length ≤ maxLen) :
    Calls Tryd.prog 19 #[.string (S l)] w fun e w' => e = .returned (.tuple #[.int .i64 (minV l), .int .i64 (minS l)]) ∧ Keep [] w w' := by
  have hl' : l.length ≤ 9223372036854775807 := hl
  have hP : Calls Tryd.prog 29 #[.string (S l), .string ⟨#[72, 84, 84, 80, 47]⟩] w fun e w' => e = .returned (.tuple #[.string (S (Lib.trimPrefix l httpB)), .bool (Lib.hasPrefix l httpB)]) ∧ w' = w := by
    have := Tryd.strings_CutPrefix (S l) ⟨#[72, 84, 84, 80, 47]⟩ w
    rw [S_list] at this
    exact this
  have hsz := S_size l
  cases hpf : Lib.hasPrefix l httpB with
  | false =>
    obtain ⟨e1, e2⟩ := ver_no (.inl hpf)
    rw [e1, e2]
    rw [hpf] at hP
    have HP := Lib.hid hP
    clear hP hpf e1 e2
    go_enter Tryd.func19, Tryd.ntmps19
    go_wp2_with fail
    refine HP.out.mono ?_
    rintro e w1 ⟨rfl, rfl⟩
    go_wp2_with fail
    go_ret2
    exact ⟨rfl, Keep.refl _ _⟩
  | true =>
    rw [hpf] at hP
    by_cases h8 : l.length = 8
    · have hle : l = httpB ++ l.drop 5 := by
        rw [take5_prefix] at hpf
        have := of_decide_eq_true hpf
        rw [← this, List.take_append_drop]
      have htr : Lib.trimPrefix l httpB = l.drop 5 := by unfold Lib.trimPrefix; rw [if_pos hpf]; rfl
      have hr3 : (l.drop 5).length = 3 := by rw [List.length_drop, h8]
      rw [htr] at hP
      generalize l.drop 5 = r at *
      obtain ⟨a, p, c, rfl⟩ : ∃ a p c, r = [a, p, c] := by
        match r, hr3 with
        | [a, p, c], _ => exact ⟨a, p, c, rfl⟩
      have g0 := S_get (l := [a, p, c]) (k := 0) (c := a) rfl
      have g1 := S_get (l := [a, p, c]) (k := 1) (c := p) rfl
      have g2 := S_get (l := [a, p, c]) (k := 2) (c := c) rfl
      have hs3 : (S [a, p, c]).size = 3 := S_size _
      obtain ⟨hms, hmv⟩ := ver_of a p c
      rw [← hle] at hms hmv
      generalize minS l = ms at hms ⊢
      generalize minV l = mv at hmv ⊢
      have h8' : ((l.length : Nat) : Int) = 8 := by omega
      have h8q := (int_eq h8').2
      have HP := Lib.hid hP
      have Da := Lib.hid (fun w1 => inlet_isDigit a w1)
      have Dc := Lib.hid (fun w1 => inlet_isDigit c w1)
      have ca := u8_nat a
      have cp := u8_nat p
      have cc := u8_nat c
      generalize S [a, p, c] = sr at *
      clear hP hpf hle htr hr3 h8 h8'
      cases hda : digB a with
      | false =>
        rw [hda] at Da hms hmv
        have HX := Lib.hid (show mv = 0 ∧ ms = 400 from ⟨by simpa using hmv, by simpa using hms⟩)
        clear hms hmv hda
        go_enter Tryd.func19, Tryd.ntmps19
        go_wp2_with fail
        refine HP.out.mono ?_
        rintro e w1 ⟨rfl, rfl⟩
        go_wp2_with (first | (go_at_call 30; refine (Da.out _).mono ?_; rintro e w2 ⟨rfl, rfl⟩) | (go_at_call 30; refine (Dc.out _).mono ?_; rintro e w2 ⟨rfl, rfl⟩))
        go_ret2
        exact ⟨by rw [HX.out.1, HX.out.2]; rfl, Keep.refl _ _⟩
      | true =>
        by_cases hp : p = 46
        · have hpb : (p == 46) = true := by simp [hp]
          have hpn : ((p.toNat : Nat) : Int) = 46 := by rw [hp]; rfl
          have hpq := (int_eq hpn).2
          rw [hda, hpb] at hms hmv
          rw [hda] at Da
          clear hpn hp hpb
          cases hdc : digB c with
          | false =>
            rw [hdc] at Dc hms hmv
            have HX := Lib.hid (show mv = 0 ∧ ms = 400 from ⟨by simpa using hmv, by simpa using hms⟩)
            clear hms hmv hda hdc
            go_enter Tryd.func19, Tryd.ntmps19
            go_wp2_with fail
            refine HP.out.mono ?_
            rintro e w1 ⟨rfl, rfl⟩
            go_wp2_with (first | (go_at_call 30; refine (Da.out _).mono ?_; rintro e w2 ⟨rfl, rfl⟩) | (go_at_call 30; refine (Dc.out _).mono ?_; rintro e w2 ⟨rfl, rfl⟩))
            go_ret2
            exact ⟨by rw [HX.out.1, HX.out.2]; rfl, Keep.refl _ _⟩
          | true =>
            rw [hdc] at Dc hms hmv
            simp only [Bool.and_self, if_true] at hms hmv
            have hc9 : 48 ≤ c.toNat ∧ c.toNat ≤ 57 := by simpa [digB] using hdc
            obtain ⟨hc0, hc1⟩ := hc9
            by_cases ha : a = 49
            · have han : ((a.toNat : Nat) : Int) = 49 := by rw [ha]; rfl
              have haq := (int_eq han).2
              by_cases hc : c.toNat ≤ 49
              · rw [if_pos ⟨ha, hc⟩] at hms hmv
                have hcq : decide (((c.toNat : Nat) : Int) > 49) = false := by simp; omega
                have hwr := IntWalk.u8_in ((c.toNat : Int) - 48) (by omega)
                have hwi := IntWalk.i64_in ((c.toNat : Int) - 48) (by omega)
                have HX := Lib.hid (And.intro hmv hms)
                clear hms hmv hda hdc ha han
                go_enter Tryd.func19, Tryd.ntmps19
                go_wp2_with fail
                refine HP.out.mono ?_
                rintro e w1 ⟨rfl, rfl⟩
                go_wp2_with (first | (go_at_call 30; refine (Da.out _).mono ?_; rintro e w2 ⟨rfl, rfl⟩) | (go_at_call 30; refine (Dc.out _).mono ?_; rintro e w2 ⟨rfl, rfl⟩))
                go_ret2
                exact ⟨by rw [HX.out.1, HX.out.2]; rfl, Keep.refl _ _⟩
              · rw [if_neg (fun h => hc h.2)] at hms hmv
                have hcq : decide (((c.toNat : Nat) : Int) > 49) = true := by simp; omega
                have HX := Lib.hid (And.intro hmv hms)
                clear hms hmv hda hdc ha han
                go_enter Tryd.func19, Tryd.ntmps19
                go_wp2_with fail
                refine HP.out.mono ?_
                rintro e w1 ⟨rfl, rfl⟩
                go_wp2_with (first | (go_at_call 30; refine (Da.out _).mono ?_; rintro e w2 ⟨rfl, rfl⟩) | (go_at_call 30; refine (Dc.out _).mono ?_; rintro e w2 ⟨rfl, rfl⟩))
                go_ret2
                exact ⟨by rw [HX.out.1, HX.out.2]; rfl, Keep.refl _ _⟩
            · rw [if_neg (fun h => ha h.1)] at hms hmv
              have han : ((a.toNat : Nat) : Int) ≠ 49 := fun e => ha (UInt8.toNat_inj.1 (by show a.toNat = 49; omega))
              have haq := (int_ne han).2
              have HX := Lib.hid (And.intro hmv hms)
              clear hms hmv hda hdc ha han
              go_enter Tryd.func19, Tryd.ntmps19
              go_wp2_with fail
              refine HP.out.mono ?_
              rintro e w1 ⟨rfl, rfl⟩
              go_wp2_with (first | (go_at_call 30; refine (Da.out _).mono ?_; rintro e w2 ⟨rfl, rfl⟩) | (go_at_call 30; refine (Dc.out _).mono ?_; rintro e w2 ⟨rfl, rfl⟩))
              go_ret2
              exact ⟨by rw [HX.out.1, HX.out.2]; rfl, Keep.refl _ _⟩
        · have hpb : (p == 46) = false := by simp [hp]
          have hpn : ((p.toNat : Nat) : Int) ≠ 46 := fun e => hp (UInt8.toNat_inj.1 (by show p.toNat = 46; omega))
          have hpq := (int_ne hpn).2
          rw [hda, hpb] at hms hmv
          rw [hda] at Da
          have HX := Lib.hid (show mv = 0 ∧ ms = 400 from ⟨by simpa using hmv, by simpa using hms⟩)
          clear hms hmv hda hpn hp hpb
          go_enter Tryd.func19, Tryd.ntmps19
          go_wp2_with fail
          refine HP.out.mono ?_
          rintro e w1 ⟨rfl, rfl⟩
          go_wp2_with (first | (go_at_call 30; refine (Da.out _).mono ?_; rintro e w2 ⟨rfl, rfl⟩) | (go_at_call 30; refine (Dc.out _).mono ?_; rintro e w2 ⟨rfl, rfl⟩))
          go_ret2
          exact ⟨by rw [HX.out.1, HX.out.2]; rfl, Keep.refl _ _⟩
    · obtain ⟨e1, e2⟩ := ver_no (.inr h8)
      rw [e1, e2]
      have h8' : ((l.length : Nat) : Int) ≠ 8 := by omega
      have h8q := (int_ne h8').2
      have HP := Lib.hid hP
      clear hP hpf e1 e2 h8 h8'
      go_enter Tryd.func19, Tryd.ntmps19
      go_wp2_with fail
      refine HP.out.mono ?_
      rintro e w1 ⟨rfl, rfl⟩
      go_wp2_with fail
      go_ret2
      exact ⟨rfl, Keep.refl _ _⟩
end Go.Proofs.YtpimfoohpfkciaaDoor

/- Layer 12: Line: a request line. No conditions but on lengths. -/
namespace Go.Proofs.YtpimfoohpfkciaaDoor
open Go.RowKit Go.Shelf

theorem res4 {fn : Func} {t u v x : Tmp} (h : fn.results = #[.tmp t, .tmp u, .tmp v, .tmp x]) (tmps : Array Value) (P : Program) (w : World) :
    (results fn tmps).run P w = .ok (.tuple #[tmps.getD t undef, tmps.getD u undef, tmps.getD v undef, tmps.getD x undef]) w := by
  simp [results, h]
def Ln.out (r : Ln) : Value := .tuple #[.string (S r.m), .string (S r.t), .int .i64 r.v, .int .i64 r.s]
theorem ln_no {l : List UInt8} (h : ((Lib.cut l [32]).2.2 && (Lib.cut (Lib.cut l [32]).2.1 [32]).2.2 && isTok (Lib.cut l [32]).1 && isTgt (Lib.cut (Lib.cut l [32]).2.1 [32]).1) = false) : lnM l = ⟨[], [], 0, 400⟩ := by
  unfold lnM
  dsimp only
  rw [h]
  rfl
theorem ln_yes {l : List UInt8} (h : ((Lib.cut l [32]).2.2 && (Lib.cut (Lib.cut l [32]).2.1 [32]).2.2 && isTok (Lib.cut l [32]).1 && isTgt (Lib.cut (Lib.cut l [32]).2.1 [32]).1) = true) :
    lnM l = if minS (Lib.cut (Lib.cut l [32]).2.1 [32]).2.1 = 200 then ⟨(Lib.cut l [32]).1, (Lib.cut (Lib.cut l [32]).2.1 [32]).1, minV (Lib.cut (Lib.cut l [32]).2.1 [32]).2.1, 200⟩ else ⟨[], [], 0, minS (Lib.cut (Lib.cut l [32]).2.1 [32]).2.1⟩ := by
  unfold lnM
  dsimp only
  rw [h]
  rfl

set_option maxRecDepth 100000 in
set_option maxHeartbeats 2000000 in
theorem inlet_Line (l : List UInt8) (w : World) (hm : ML w) (hl : l.length < 4294967281) :
    Calls Tryd.prog 7 #[.string (S l)] w fun e w' => e = .returned (lnM l).out ∧ Keep [] w w' := by
  have hC1 : Calls Tryd.prog 16 #[.string (S l), .string ⟨#[32]⟩] w fun e w' => e = .returned (.tuple #[.string (S (Lib.cut l [32]).1), .string (S (Lib.cut l [32]).2.1), .bool (Lib.cut l [32]).2.2]) ∧ Keep [] w w' := strings_Cut l ⟨#[32]⟩ w hm hl
  have hl1 := cut_len l [32]
  have hno := ln_no (l := l)
  have hyes := ln_yes (l := l)
  generalize lnM l = R at *
  generalize Lib.cut l [32] = c1 at *
  obtain ⟨xm, r, ok1⟩ := c1
  dsimp only at *
  have hC2 := fun w1 (k : Keep [] w w1) => show Calls Tryd.prog 16 #[.string (S r), .string ⟨#[32]⟩] w1 fun e w' => e = .returned (.tuple #[.string (S (Lib.cut r [32]).1), .string (S (Lib.cut r [32]).2.1), .bool (Lib.cut r [32]).2.2]) ∧ Keep [] w1 w' from strings_Cut r ⟨#[32]⟩ w1 (hm.keep k (by simp)) (by omega)
  have hl2 := cut_len r [32]
  generalize Lib.cut r [32] = c2 at *
  obtain ⟨xt, xl, ok2⟩ := c2
  dsimp only at *
  have HT := Lib.hid (fun w' => field_IsToken xm w' (show xm.length ≤ 9223372036854775807 by omega))
  have HG := Lib.hid (fun w' => inlet_isTarget xt w' (show xt.length ≤ 9223372036854775807 by omega))
  have HM := Lib.hid (fun w' => inlet_minor xl w' (show xl.length ≤ 9223372036854775807 by omega))
  have HC1 := Lib.hid hC1
  have HC2 := Lib.hid hC2
  clear hC1 hC2 hl1 hl2
  cases ok1 with
  | false =>
    have HR := Lib.hid (hno rfl)
    clear hno hyes
    go_enter Tryd.func7, Tryd.ntmps7
    go_wp2_with fail
    refine HC1.out.mono ?_
    rintro e w1 ⟨rfl, k1⟩
    go_wp2_with fail
    refine (HC2.out _ k1).mono ?_
    rintro e w2 ⟨rfl, k2⟩
    go_wp2_with fail
    refine bodyPost_ret (res4 rfl _ _ _) rfl ⟨?_, k1.trans k2⟩
    rw [HR.out]
    rfl
  | true =>
    cases ok2 with
    | false =>
      have HR := Lib.hid (hno rfl)
      clear hno hyes
      go_enter Tryd.func7, Tryd.ntmps7
      go_wp2_with fail
      refine HC1.out.mono ?_
      rintro e w1 ⟨rfl, k1⟩
      go_wp2_with fail
      refine (HC2.out _ k1).mono ?_
      rintro e w2 ⟨rfl, k2⟩
      go_wp2_with fail
      refine bodyPost_ret (res4 rfl _ _ _) rfl ⟨?_, k1.trans k2⟩
      rw [HR.out]
      rfl
    | true =>
      cases htk : isTok xm with
      | false =>
        rw [htk] at HT hno
        have HR := Lib.hid (hno rfl)
        clear hno hyes htk
        go_enter Tryd.func7, Tryd.ntmps7
        go_wp2_with fail
        refine HC1.out.mono ?_
        rintro e w1 ⟨rfl, k1⟩
        go_wp2_with fail
        refine (HC2.out _ k1).mono ?_
        rintro e w2 ⟨rfl, k2⟩
        go_wp2_with fail
        refine (HT.out _).mono ?_
        rintro e w3 ⟨rfl, k3⟩
        go_wp2_with fail
        refine bodyPost_ret (res4 rfl _ _ _) rfl ⟨?_, (k1.trans k2).trans k3⟩
        rw [HR.out]
        rfl
      | true =>
        rw [htk] at HT hno hyes
        cases htg : isTgt xt with
        | false =>
          rw [htg] at HG hno
          have HR := Lib.hid (hno rfl)
          clear hno hyes htk htg
          go_enter Tryd.func7, Tryd.ntmps7
          go_wp2_with fail
          refine HC1.out.mono ?_
          rintro e w1 ⟨rfl, k1⟩
          go_wp2_with fail
          refine (HC2.out _ k1).mono ?_
          rintro e w2 ⟨rfl, k2⟩
          go_wp2_with fail
          refine (HT.out _).mono ?_
          rintro e w3 ⟨rfl, k3⟩
          go_wp2_with fail
          refine (HG.out _).mono ?_
          rintro e w4 ⟨rfl, k4⟩
          go_wp2_with fail
          refine bodyPost_ret (res4 rfl _ _ _) rfl ⟨?_, ((k1.trans k2).trans k3).trans k4⟩
          rw [HR.out]
          rfl
        | true =>
          rw [htg] at HG hyes
          have hR := hyes rfl
          clear hno hyes htk htg
          generalize minS xl = ms at *
          generalize minV xl = mv at *
          by_cases h2 : ms = 200
          · rw [if_pos h2] at hR
            have q := (int_eq h2).2
            have HR := Lib.hid hR
            clear hR h2
            go_enter Tryd.func7, Tryd.ntmps7
            go_wp2_with fail
            refine HC1.out.mono ?_
            rintro e w1 ⟨rfl, k1⟩
            go_wp2_with fail
            refine (HC2.out _ k1).mono ?_
            rintro e w2 ⟨rfl, k2⟩
            go_wp2_with fail
            refine (HT.out _).mono ?_
            rintro e w3 ⟨rfl, k3⟩
            go_wp2_with fail
            refine (HG.out _).mono ?_
            rintro e w4 ⟨rfl, k4⟩
            go_wp2_with fail
            refine (HM.out _).mono ?_
            rintro e w5 ⟨rfl, k5⟩
            go_wp2_with fail
            refine bodyPost_ret (res4 rfl _ _ _) rfl ⟨?_, (((k1.trans k2).trans k3).trans k4).trans k5⟩
            rw [HR.out]
            rfl
          · rw [if_neg h2] at hR
            have q := (int_ne h2).2
            have HR := Lib.hid hR
            clear hR h2
            go_enter Tryd.func7, Tryd.ntmps7
            go_wp2_with fail
            refine HC1.out.mono ?_
            rintro e w1 ⟨rfl, k1⟩
            go_wp2_with fail
            refine (HC2.out _ k1).mono ?_
            rintro e w2 ⟨rfl, k2⟩
            go_wp2_with fail
            refine (HT.out _).mono ?_
            rintro e w3 ⟨rfl, k3⟩
            go_wp2_with fail
            refine (HG.out _).mono ?_
            rintro e w4 ⟨rfl, k4⟩
            go_wp2_with fail
            refine (HM.out _).mono ?_
            rintro e w5 ⟨rfl, k5⟩
            go_wp2_with fail
            refine bodyPost_ret (res4 rfl _ _ _) rfl ⟨?_, (((k1.trans k2).trans k3).trans k4).trans k5⟩
            rw [HR.out]
            rfl
end Go.Proofs.YtpimfoohpfkciaaDoor

/- Layer 12: head. No conditions but on lengths. -/
namespace Go.Proofs.YtpimfoohpfkciaaDoor
open Go.RowKit Go.Shelf

/-- what head leaves: the inlet with a request, its chunked body's reader new -/
theorem it_headed {B p : Nat} {w w' : World} {X R : List Nat} {I : InS} (h : It B w p X R I) (_hr : I.req = none) (hc : I.chk = none) (hd : Hr) {v cv : Value} {rb : Nat} {cb : Option Nat}
    (k : Keep [p] w w') (hb : Blk w' p 52 (inC (headed I hd) (.pointer (some ⟨rb, 0, none⟩)) cv))
    (hq : Blk w' rb 37 (reqC hd.q.m hd.q.t v hd.q.cl)) (ho : Own Fld.cells 2 w.heap.size 44 w' v hd.q.F) (hrb : w.heap.size ≤ rb) (hB : B ≤ w.heap.size)
    (hck : match cb with | none => hd.ch = false ∧ cv = .pointer none | some c => hd.ch = true ∧ cv = .pointer (some ⟨c, 0, none⟩) ∧ w.heap.size ≤ c ∧ c ≠ rb ∧ (∀ g, v.ownBlock = some g → g ≠ c) ∧ Ct B w' c [] (ck0 4096) (.slice none 0 0)) :
    ∃ X' R', It B w' p X' R' (headed I hd) ∧ (∀ x ∈ X', x ∈ X ∨ w.heap.size ≤ x) ∧ ∀ x ∈ R', w.heap.size ≤ x := by
  have hp := h.lt
  have hg : ∀ g, v.ownBlock = some g → w.heap.size ≤ g ∧ g < w'.heap.size := fun g hg => ho.lt g hg
  have hreq : (headed I hd).req = some hd.q := rfl
  have hchk : (headed I hd).chk = if hd.ch then some (ck0 4096) else I.chk := rfl
  refine ⟨p :: cb.toList, rb :: v.ownBlock.toList, ⟨⟨_, cv, hb, ?_, ?_⟩, by simp, ?_, ?_⟩, ?_, ?_⟩
  · cases cb with
    | none =>
      obtain ⟨h1, h2⟩ := hck
      rw [hchk, h1, hc]
      exact h2
    | some c =>
      obtain ⟨h1, h2, h3, h4, h5, h6⟩ := hck
      rw [hchk, h1]
      exact ⟨c, _, h2, by omega, by simp, h6, by simp [Value.ownBlock]⟩
  · rw [hreq]
    exact ⟨rb, v, rfl, by simp, hq, ho.lower hB, fun g hg => by rw [hg]; simp⟩
  · intro x hx
    rcases List.mem_cons.1 hx with rfl | hx
    · exact ⟨h.base, hb.lt⟩
    · cases cb with
      | none => simp at hx
      | some c =>
        obtain ⟨h1, h2, h3, h4, h5, h6⟩ := hck
        have : x = c := by simpa using hx
        subst this
        exact ⟨by omega, h6.lt⟩
  · intro x hx
    have hx2 : w.heap.size ≤ x ∧ x < w'.heap.size := by
      rcases List.mem_cons.1 hx with rfl | hx
      · exact ⟨hrb, hq.lt⟩
      · exact hg x (by simpa using hx)
    refine ⟨by omega, hx2.2, fun hm => ?_⟩
    rcases List.mem_cons.1 hm with rfl | hm
    · omega
    · cases cb with
      | none => simp at hm
      | some c =>
        obtain ⟨h1, h2, h3, h4, h5, h6⟩ := hck
        have : x = c := by simpa using hm
        subst this
        rcases List.mem_cons.1 hx with rfl | hx
        · exact h4 rfl
        · exact h5 x (by simpa using hx) rfl
  · intro x hx
    rcases List.mem_cons.1 hx with rfl | hx
    · exact .inl h.mem
    · cases cb with
      | none => simp at hx
      | some c =>
        obtain ⟨h1, h2, h3, h4, h5, h6⟩ := hck
        have : x = c := by simpa using hx
        subst this
        exact .inr h3
  · intro x hx
    rcases List.mem_cons.1 hx with rfl | hx
    · exact hrb
    · exact (hg x (by simpa using hx)).1

set_option maxRecDepth 100000 in
set_option maxHeartbeats 4000000 in
theorem inlet_head {B p : Nat} {X R : List Nat} {I : InS} {w : World} (h : It B w p X R I) (hm : ML w) (hB : B ≤ w.heap.size) (_hbig : 0 < B) (hl : I.inp.length ≤ 65536) (hr : I.req = none) (hc : I.chk = none) :
    Calls Tryd.prog 21 #[.pointer (some ⟨p, 0, none⟩)] w fun e w' => e = .returned (.int .i64 (headM I.inp).s) ∧ Keep [p] w w' ∧ ((headM I.inp).got = false → Keep [] w w') ∧ ((headM I.inp).got = true → ∃ X' R', It B w' p X' R' (headed I (headM I.inp)) ∧ (∀ x ∈ X', x ∈ X ∨ w.heap.size ≤ x) ∧ ∀ x ∈ R', w.heap.size ≤ x) := by
  obtain ⟨c0, _, _, _⟩ := h.at_
  have sz := S_size I.inp
  have HSp := Lib.hid (field_Split I.inp w hm (by omega))
  have hsm := split_small I.inp
  have hH : headM I.inp = if (splitM I.inp).e ≠ 0 then hr0 (toldE (splitM I.inp).e 431)
    else if (lnM (splitM I.inp).st).s ≠ 200 then hr0 (lnM (splitM I.inp).st).s
    else if 1 < getN (splitM I.inp).F nHost ∨ (getN (splitM I.inp).F nHost : Int) < (lnM (splitM I.inp).st).v then hr0 400
    else if (frameM (splitM I.inp).F 4096).e ≠ 0 then hr0 (toldE (frameM (splitM I.inp).F 4096).e 413)
    else ⟨0, true, (splitM I.inp).n, ⟨(lnM (splitM I.inp).st).m, (lnM (splitM I.inp).st).t, (splitM I.inp).F, closesM (splitM I.inp).F (lnM (splitM I.inp).st).v⟩, (max (frameM (splitM I.inp).F 4096).n 0).toNat, (frameM (splitM I.inp).F 4096).ch⟩ := rfl
  have H := Lib.hid h
  have HB := Lib.hid hB
  have HM := Lib.hid hm
  have HT := Lib.hid (fun e0 long w' => inlet_told e0 long w')
  have hnp := h.lt
  generalize headM I.inp = hd at *
  generalize splitM I.inp = r at *
  obtain ⟨rs, rF, rn, re⟩ := r
  dsimp only at hsm hH
  obtain ⟨⟨hf1, hf2⟩, hs1, hn1⟩ := hsm
  have HLn := Lib.hid (fun w' (k : Keep [] w w') => inlet_Line rs w' (HM.out.keep k (by simp)) (by omega))
  have HG := Lib.hid (fun w' va (ha : Sl Fld.cells 2 w' va rF) => field_Get va rF nHost w' ha (fun x hx => by have := (hf2 x hx).1; show _ ≤ 9223372036854775807; omega) (by decide))
  have HFr := Lib.hid (fun w' va (ha : Sl Fld.cells 2 w' va rF) => field_Frame va rF 4096 w' ha (fun x hx => by have := (hf2 x hx).1; show _ ≤ 9223372036854775807; omega) (fun x hx => by have := (hf2 x hx).2; show _ ≤ 9223372036854775807; omega) (by omega))
  have HCl := Lib.hid (fun w' va mi (ha : Sl Fld.cells 2 w' va rF) => field_Closes va rF mi w' ha (fun x hx => ⟨by have := (hf2 x hx).1; omega, by have := (hf2 x hx).2; omega⟩) (by omega))
  have hNr : getN rF nHost ≤ rF.length := getN_le _ _
  unfold SplitOut at HSp
  unfold GetOut at HG
  unfold Ln.out at HLn
  dsimp only at HSp
  clear h hB hm hf2
  by_cases e1 : re = 0
  case neg =>
    rw [if_pos e1] at hH
    have q1 := (int_ne e1).2
    have HH := Lib.hid hH
    have HTe := Lib.hid (HT.out re 431)
    clear hH e1
    go_enter Tryd.func21, Tryd.ntmps21
    go_wp2_with fail
    refine HSp.out.mono ?_
    rintro e w1 ⟨v1, rfl, ho, k1⟩
    have K1 := Lib.hid k1
    clear k1 ho
    go_wp2_with fail
    refine (HTe.out _).mono ?_
    rintro e w2 ⟨rfl, rfl⟩
    go_wp2_with fail
    go_ret
    rw [HH.out]
    exact ⟨rfl, K1.out.mono (by simp), fun _ => K1.out, fun hh => by cases hh⟩
  rw [if_neg (by simp [e1])] at hH
  generalize lnM rs = ln at *
  obtain ⟨lm, lt, lv, ls⟩ := ln
  dsimp only at hH HLn
  by_cases e2 : ls = 200
  case neg =>
    rw [if_pos e2] at hH
    have q1 := (int_ne e2).2
    have HH := Lib.hid hH
    subst e1
    clear hH e2
    go_enter Tryd.func21, Tryd.ntmps21
    go_wp2_with fail
    refine HSp.out.mono ?_
    rintro e w1 ⟨v1, rfl, ho, k1⟩
    have K1 := Lib.hid k1
    clear k1 ho
    go_wp2_with fail
    refine (HLn.out _ K1.out).mono ?_
    rintro e w2 ⟨rfl, k2⟩
    have K2 := Lib.hid (K1.out.trans k2)
    clear k2
    go_wp2_with fail
    go_ret
    rw [HH.out]
    exact ⟨rfl, K2.out.mono (by simp), fun _ => K2.out, fun hh => by cases hh⟩
  rw [if_neg (by simp [e2])] at hH
  subst e1 e2
  generalize getN rF nHost = nh at *
  by_cases e3 : 1 < nh ∨ (nh : Int) < lv
  case pos =>
    rw [if_pos e3] at hH
    have HH := Lib.hid hH
    have q3 : decide ((nh : Int) > 1) = decide (1 < nh) := by rw [decide_eq_decide]; omega
    by_cases e4 : 1 < nh
    all_goals
      first
        | rw [decide_eq_true e4] at q3
        | (rw [decide_eq_false e4] at q3
           have q4 : (nh : Int) < lv := by omega)
      clear hH e3 e4
      go_enter Tryd.func21, Tryd.ntmps21
      go_wp2_with fail
      refine HSp.out.mono ?_
      rintro e w1 ⟨v1, rfl, ho, k1⟩
      have K1 := Lib.hid k1
      have HO := Lib.hid ho
      clear k1 ho
      go_wp2_with fail
      refine (HLn.out _ K1.out).mono ?_
      rintro e w2 ⟨rfl, k2⟩
      have K2 := Lib.hid (K1.out.trans k2)
      have HO2 := Lib.hid ((HO.out.keep0 k2).sl Fld.cells_length)
      clear k2
      go_wp2_with fail
      refine (HG.out _ _ HO2.out).mono ?_
      rintro e w3 ⟨rfl, k3⟩
      have K3 := Lib.hid (K2.out.trans k3)
      clear k3
      go_wp2_with fail
      go_ret
      rw [HH.out]
      exact ⟨rfl, K3.out.mono (by simp), fun _ => K3.out, fun hh => by cases hh⟩
  rw [if_neg e3] at hH
  have q3 : decide ((nh : Int) > 1) = false := by simp; omega
  have q4 : decide ((nh : Int) < lv) = false := by simp; omega
  clear e3
  generalize frameM rF 4096 = fr at *
  obtain ⟨fn, fch, fe⟩ := fr
  dsimp only at hH HFr
  by_cases e5 : fe = 0
  case neg =>
    rw [if_pos e5] at hH
    have q5 := (int_ne e5).2
    have HH := Lib.hid hH
    have HTe := Lib.hid (HT.out fe 413)
    clear hH e5
    go_enter Tryd.func21, Tryd.ntmps21
    go_wp2_with fail
    refine HSp.out.mono ?_
    rintro e w1 ⟨v1, rfl, ho, k1⟩
    have K1 := Lib.hid k1
    have HO := Lib.hid ho
    clear k1 ho
    go_wp2_with fail
    refine (HLn.out _ K1.out).mono ?_
    rintro e w2 ⟨rfl, k2⟩
    have K2 := Lib.hid (K1.out.trans k2)
    have HO2 := Lib.hid (HO.out.keep0 k2)
    clear k2
    go_wp2_with fail
    refine (HG.out _ _ (HO2.out.sl Fld.cells_length)).mono ?_
    rintro e w3 ⟨rfl, k3⟩
    have K3 := Lib.hid (K2.out.trans k3)
    have HO3 := Lib.hid (HO2.out.keep0 k3)
    clear k3
    go_wp2_with fail
    refine (HFr.out _ _ (HO3.out.sl Fld.cells_length)).mono ?_
    rintro e w4 ⟨rfl, k4⟩
    have K4 := Lib.hid (K3.out.trans k4)
    clear k4
    go_wp2_with fail
    refine (HTe.out _).mono ?_
    rintro e w5 ⟨rfl, rfl⟩
    go_wp2_with fail
    go_ret
    rw [HH.out]
    exact ⟨rfl, K4.out.mono (by simp), fun _ => K4.out, fun hh => by cases hh⟩
  rw [if_neg (by simp [e5])] at hH
  subst e5
  have hx : (S I.inp).extract rn I.inp.length = S (I.inp.drop rn) := by rw [S_extract, List.take_length]
  obtain ⟨sk, hsk⟩ : ∃ sk : Nat, (max fn 0).toNat = sk := ⟨_, rfl⟩
  have hmx : max fn 0 = ((sk : Nat) : Int) := by omega
  rw [hsk] at hH
  have i0 : (0 : Int) ≤ (rn : Int) := by omega
  have i1 : (rn : Int) ≤ (I.inp.length : Int) := by omega
  have HH := Lib.hid hH
  have HN := Lib.hid (fun w' (k : B ≤ w'.heap.size) => chunk_New B 4096 w' k)
  clear hH
  cases fch with
  | false =>
    go_enter Tryd.func21, Tryd.ntmps21
    go_wp2_with fail
    refine HSp.out.mono ?_
    rintro e w1 ⟨v1, rfl, ho, k1⟩
    obtain ⟨sa, sc, rfl, hml⟩ := ho.shape
    clear hml
    have K1 := Lib.hid k1
    have HO := Lib.hid ho
    clear k1 ho
    go_wp2_with fail
    refine (HLn.out _ K1.out).mono ?_
    rintro e w2 ⟨rfl, k2⟩
    have K2 := Lib.hid (K1.out.trans k2)
    have HO2 := Lib.hid (HO.out.keep0 k2)
    clear k2
    go_wp2_with fail
    refine (HG.out _ _ (HO2.out.sl Fld.cells_length)).mono ?_
    rintro e w3 ⟨rfl, k3⟩
    have K3 := Lib.hid (K2.out.trans k3)
    have HO3 := Lib.hid (HO2.out.keep0 k3)
    clear k3
    go_wp2_with fail
    refine (HFr.out _ _ (HO3.out.sl Fld.cells_length)).mono ?_
    rintro e w4 ⟨rfl, k4⟩
    have K4 := Lib.hid (K3.out.trans k4)
    have HO4 := Lib.hid (HO3.out.keep0 k4)
    have HI4 := Lib.hid (H.out.keep0 K4.out)
    obtain ⟨c0, c1, c3, _⟩ := HI4.out.at_
    have f0 := HI4.out.free 0
    have f1 := HI4.out.free 1
    have f3 := HI4.out.free 3
    clear k4
    have hs := ((HI4.out.set (I' := { I with inp := I.inp.drop rn }) 0 (.string (S (I.inp.drop rn))) (fun _ _ => rfl) rfl rfl).set (I' := { I with inp := I.inp.drop rn, held := rn }) 1 (.int .i64 (rn : Nat)) (fun _ _ => rfl) rfl rfl).set (I' := { I with inp := I.inp.drop rn, held := rn, skip := sk }) 3 (.int .i64 (sk : Nat)) (fun _ _ => rfl) rfl rfl
    have k3s := ((Keep.refl [p] w4).setCell ⟨p, 0, none⟩ (.string (S (I.inp.drop rn))) (by simp)).setCell ⟨p, 1, none⟩ (.int .i64 (rn : Nat)) (by simp) |>.setCell ⟨p, 3, none⟩ (.int .i64 (sk : Nat)) (by simp)
    have ks := (K4.out.mono (S' := [p]) (by simp)).trans k3s
    have os := HO4.out.keep (S := [p]) k3s (fun g hg => by have := (HO4.out.lt g hg).1; simp; omega)
    have HS := Lib.hid hs
    have KS := Lib.hid ks
    have OS := Lib.hid os
    clear hs ks os k3s HI4 HO4
    obtain ⟨⟨rv, cv, b1, b2, b3⟩, _, _, _⟩ := HS.out
    rw [show ({ I with inp := I.inp.drop rn, held := rn, skip := sk } : InS).chk = none from hc] at b2
    have hcv : cv = .pointer none := b2
    subst hcv
    have BS := Lib.hid b1
    clear b1 b2 b3
    have HCl2 := Lib.hid (HCl.out _ _ lv (OS.out.sl Fld.cells_length))
    generalize closesM rF lv = cl at *
    go_wp2_with fail
    refine HCl2.out.mono ?_
    rintro e w5 ⟨rfl, k5⟩
    have K5 := Lib.hid (KS.out.trans (k5.mono (S' := [p]) (by simp)))
    have O5 := Lib.hid (OS.out.keep0 k5)
    have bA := (k5.blk BS.out (by simp)).alloc (.cells (reqC lm lt (Value.slice sa rF.length sc) cl).toArray 37)
    have qA := Blk.newA w5 (reqC lm lt (Value.slice sa rF.length sc) cl).toArray 37
    have kA := K5.out.alloc (.cells (reqC lm lt (Value.slice sa rF.length sc) cl).toArray 37)
    have oA := O5.out.alloc (.cells (reqC lm lt (Value.slice sa rF.length sc) cl).toArray 37)
    have hsz5 := Lib.hid K5.out.size
    have hwp := k5.size
    generalize hwA : w5.alloc (.cells #[.string (S lm), .string (S lt), (Value.slice sa rF.length sc), .bool cl] 37) = wA
    have hwA' : w5.alloc (.cells (reqC lm lt (Value.slice sa rF.length sc) cl).toArray 37) = wA := hwA
    rw [hwA'] at bA qA kA oA
    have c2 := bA.get (k := 2) rfl
    have f2 := bA.frozen 2
    have hne : w5.heap.size ≠ p := by have := H.out.lt; have := K5.out.size; omega
    have kp := (Keep.refl [p] wA).setCell ⟨p, 2, none⟩ (.pointer (some ⟨w5.heap.size, 0, none⟩)) (by simp)
    have HX := Lib.hid (And.intro (bA.set 2 (.pointer (some ⟨w5.heap.size, 0, none⟩))) (And.intro (kp.blk (show Blk wA w5.heap.size 37 (reqC lm lt (Value.slice sa rF.length sc) cl) from qA) (by simpa using hne)) (And.intro (kA.trans kp) (oA.keep kp (fun g hg => by have := (oA.lt g hg).1; simp; omega)))))
    clear bA qA kA oA k5 hwA' kp hne
    go_wp2_with fail
    clear hwA
    go_ret
    rw [HH.out]
    obtain ⟨x1, x2, x3, x4⟩ := HX.out
    refine ⟨rfl, x3, fun hh => (by cases hh), fun _ => ?_⟩
    exact it_headed H.out hr hc _ (cb := none) (v := .slice sa rF.length sc) x3 x1 x2 x4 hsz5.out HB.out ⟨rfl, rfl⟩
  | true =>
    go_enter Tryd.func21, Tryd.ntmps21
    go_wp2_with fail
    refine HSp.out.mono ?_
    rintro e w1 ⟨v1, rfl, ho, k1⟩
    obtain ⟨sa, sc, rfl, hml⟩ := ho.shape
    clear hml
    have K1 := Lib.hid k1
    have HO := Lib.hid ho
    clear k1 ho
    go_wp2_with fail
    refine (HLn.out _ K1.out).mono ?_
    rintro e w2 ⟨rfl, k2⟩
    have K2 := Lib.hid (K1.out.trans k2)
    have HO2 := Lib.hid (HO.out.keep0 k2)
    clear k2
    go_wp2_with fail
    refine (HG.out _ _ (HO2.out.sl Fld.cells_length)).mono ?_
    rintro e w3 ⟨rfl, k3⟩
    have K3 := Lib.hid (K2.out.trans k3)
    have HO3 := Lib.hid (HO2.out.keep0 k3)
    clear k3
    go_wp2_with fail
    refine (HFr.out _ _ (HO3.out.sl Fld.cells_length)).mono ?_
    rintro e w4 ⟨rfl, k4⟩
    have K4 := Lib.hid (K3.out.trans k4)
    have HO4 := Lib.hid (HO3.out.keep0 k4)
    have HI4 := Lib.hid (H.out.keep0 K4.out)
    obtain ⟨c0, c1, c3, _⟩ := HI4.out.at_
    have f0 := HI4.out.free 0
    have f1 := HI4.out.free 1
    have f3 := HI4.out.free 3
    clear k4
    have hs := ((HI4.out.set (I' := { I with inp := I.inp.drop rn }) 0 (.string (S (I.inp.drop rn))) (fun _ _ => rfl) rfl rfl).set (I' := { I with inp := I.inp.drop rn, held := rn }) 1 (.int .i64 (rn : Nat)) (fun _ _ => rfl) rfl rfl).set (I' := { I with inp := I.inp.drop rn, held := rn, skip := sk }) 3 (.int .i64 (sk : Nat)) (fun _ _ => rfl) rfl rfl
    have k3s := ((Keep.refl [p] w4).setCell ⟨p, 0, none⟩ (.string (S (I.inp.drop rn))) (by simp)).setCell ⟨p, 1, none⟩ (.int .i64 (rn : Nat)) (by simp) |>.setCell ⟨p, 3, none⟩ (.int .i64 (sk : Nat)) (by simp)
    have ks := (K4.out.mono (S' := [p]) (by simp)).trans k3s
    have os := HO4.out.keep (S := [p]) k3s (fun g hg => by have := (HO4.out.lt g hg).1; simp; omega)
    have HS := Lib.hid hs
    have KS := Lib.hid ks
    have OS := Lib.hid os
    clear hs ks os k3s HI4 HO4
    go_wp2_with fail
    refine (HN.out _ (Nat.le_trans HB.out KS.out.size)).mono ?_
    rintro e wn ⟨ck, rfl, hn1, hn2, hct, kn⟩
    obtain ⟨⟨rv, cv, b1, b2, b3⟩, _, _, _⟩ := (HS.out.keep0 kn)
    have c4 := b1.get (k := 4) rfl
    have f4 := b1.frozen 4
    have kp4 := (Keep.refl [p] wn).setCell ⟨p, 4, none⟩ (.pointer (some ⟨ck, 0, none⟩)) (by simp)
    have hckp : ck ≠ p := by have := H.out.lt; have := KS.out.size; omega
    have BS := Lib.hid (b1.set 4 (.pointer (some ⟨ck, 0, none⟩)))
    have KN := Lib.hid ((KS.out.trans (kn.mono (S' := [p]) (by simp))).trans kp4)
    have ON := Lib.hid ((OS.out.keep0 kn).keep kp4 (fun g hg => by have := (OS.out.lt g hg).1; have := H.out.lt; simp; omega))
    have CN := Lib.hid (hct.keep kp4 (by simpa using hckp) (by simp [Value.ownBlock]))
    have HG1 := Lib.hid (show (∀ g, (Value.slice sa rF.length sc).ownBlock = some g → g ≠ ck) ∧ w.heap.size ≤ ck from ⟨fun g hg => by have := (OS.out.lt g hg).2; omega, Nat.le_trans KS.out.size hn1⟩)
    clear b1 b2 b3 kp4 hct kn
    have HCl2 := Lib.hid (HCl.out _ _ lv (ON.out.sl Fld.cells_length))
    generalize closesM rF lv = cl at *
    go_wp2_with fail
    refine HCl2.out.mono ?_
    rintro e w5 ⟨rfl, k5⟩
    have K5 := Lib.hid (KN.out.trans (k5.mono (S' := [p]) (by simp)))
    have O5 := Lib.hid (ON.out.keep0 k5)
    have C5 := (CN.out.keep0 k5)
    have hck5 := C5.lt
    have CA := (C5.keep0 ((Keep.refl [] w5).alloc (.cells (reqC lm lt (Value.slice sa rF.length sc) cl).toArray 37)))
    have bA := (k5.blk BS.out (by simp)).alloc (.cells (reqC lm lt (Value.slice sa rF.length sc) cl).toArray 37)
    have qA := Blk.newA w5 (reqC lm lt (Value.slice sa rF.length sc) cl).toArray 37
    have kA := K5.out.alloc (.cells (reqC lm lt (Value.slice sa rF.length sc) cl).toArray 37)
    have oA := O5.out.alloc (.cells (reqC lm lt (Value.slice sa rF.length sc) cl).toArray 37)
    have hsz5 := Lib.hid K5.out.size
    have hwp := k5.size
    generalize hwA : w5.alloc (.cells #[.string (S lm), .string (S lt), (Value.slice sa rF.length sc), .bool cl] 37) = wA
    have hwA' : w5.alloc (.cells (reqC lm lt (Value.slice sa rF.length sc) cl).toArray 37) = wA := hwA
    rw [hwA'] at bA qA kA oA CA
    have c2 := bA.get (k := 2) rfl
    have f2 := bA.frozen 2
    have hne : w5.heap.size ≠ p := by have := H.out.lt; have := K5.out.size; omega
    have kp := (Keep.refl [p] wA).setCell ⟨p, 2, none⟩ (.pointer (some ⟨w5.heap.size, 0, none⟩)) (by simp)
    have HX := Lib.hid (And.intro (bA.set 2 (.pointer (some ⟨w5.heap.size, 0, none⟩))) (And.intro (kp.blk (show Blk wA w5.heap.size 37 (reqC lm lt (Value.slice sa rF.length sc) cl) from qA) (by simpa using hne)) (And.intro (kA.trans kp) (oA.keep kp (fun g hg => by have := (oA.lt g hg).1; simp; omega)))))
    have HCC := Lib.hid (And.intro (CA.keep kp (by simpa using hckp) (by simp [Value.ownBlock])) (show ck ≠ w5.heap.size by omega))
    clear CA C5
    clear bA qA kA oA k5 hwA' kp hne
    go_wp2_with fail
    clear hwA
    go_ret
    rw [HH.out]
    obtain ⟨x1, x2, x3, x4⟩ := HX.out
    refine ⟨rfl, x3, fun hh => (by cases hh), fun _ => ?_⟩
    exact it_headed H.out hr hc _ (cb := some ck) (v := .slice sa rF.length sc) x3 x1 x2 x4 hsz5.out HB.out ⟨rfl, rfl, HG1.out.2, HCC.out.2, HG1.out.1, HCC.out.1⟩
end Go.Proofs.YtpimfoohpfkciaaDoor

/- Layer 12: body, fail. No conditions but on lengths. -/
namespace Go.Proofs.YtpimfoohpfkciaaDoor
open Go.RowKit Go.Shelf

theorem it_ck {B p : Nat} {w : World} {X R : List Nat} {I : InS} {c : Ck} (h : It B w p X R I) (hc : I.chk = some c) : ∃ b, w.cell? ⟨p, 4, none⟩ = some (.pointer (some ⟨b, 0, none⟩)) := by
  obtain ⟨⟨rv, cv, b1, b2, b3⟩, h4, h5, h6⟩ := h
  rw [hc] at b2
  obtain ⟨b, v, rfl, _⟩ := b2
  exact ⟨b, b1.get (k := 4) rfl⟩
theorem it_noCk {B p : Nat} {w : World} {X R : List Nat} {I : InS} (h : It B w p X R I) (hc : I.chk = none) : w.cell? ⟨p, 4, none⟩ = some (.pointer none) := by
  obtain ⟨⟨rv, cv, b1, b2, b3⟩, h4, h5, h6⟩ := h
  rw [hc] at b2
  have : cv = .pointer none := b2
  subst this
  exact b1.get (k := 4) rfl
theorem it_Add {B p b : Nat} {w : World} {X R : List Nat} {I : InS} {c : Ck} (s : List UInt8) (h : It B w p X R I) (hc : I.chk = some c) (c4 : w.cell? ⟨p, 4, none⟩ = some (.pointer (some ⟨b, 0, none⟩)))
    (hm : ML w) (hB : B ≤ w.heap.size) (hbig : 0 < B) (hl : c.inp.length + c.dat.length + s.length ≤ 1048576) (hmost : (c.most : Int) ≤ 9223372036854775807) (hok : c.err = 0 → c.ok) :
    Calls Tryd.prog 36 #[.pointer (some ⟨b, 0, none⟩), .string (S s)] w fun e w' => e = .returned (.int .i64 (addC c s).err) ∧ Keep X w w' ∧ w'.cell? ⟨p, 4, none⟩ = some (.pointer (some ⟨b, 0, none⟩)) ∧ ∃ X', It B w' p X' R { I with chk := some (addC c s) } ∧ ∀ x ∈ X', x ∈ X ∨ w.heap.size ≤ x := by
  obtain ⟨⟨rv, cv, b1, b2, b3⟩, h4, h5, h6⟩ := h
  rw [hc] at b2
  obtain ⟨b', v, rfl, hbp, hbX, hct, hv⟩ := b2
  have c4' := b1.get (k := 4) (v := .pointer (some ⟨b', 0, none⟩)) rfl
  have hbb : b' = b := by rw [c4'] at c4; simpa using c4
  subst hbb
  refine (chunk_Add B b' [] s c (addC c s) v w hm (by have := (h5 _ hbX).1; omega) hct hB hbig hl hmost hok (addC_R hok)).mono ?_
  rintro e w' ⟨rfl, v', g1, g2, g3⟩
  have hown : ∀ g, v'.ownBlock = some g → (g ∈ X ∨ w.heap.size ≤ g) ∧ g ≠ p := fun g hg => by
    rcases g3 with e3 | ⟨g', e3, hg'⟩
    · rw [e3] at hg; exact ⟨.inl (hv g hg).1, (hv g hg).2⟩
    · rw [e3] at hg
      have : g' = g := by simpa using hg
      subst this
      have := (h5 p h4).2
      exact ⟨.inr hg', by omega⟩
  have hpn : p ∉ b' :: v.ownBlock.toList := by
    intro hh
    rcases List.mem_cons.1 hh with hh | hh
    · exact hbp hh.symm
    · exact (hv p (by simpa using hh)).2 rfl
  have b1' := g2.blk b1 hpn
  have gX : Keep X w w' := g2.mono (fun x hx _ => by
    rcases List.mem_cons.1 hx with rfl | hx
    · exact hbX
    · exact (hv x (by simpa using hx)).1)
  obtain ⟨_, _, gb, _⟩ := id g1
  refine ⟨rfl, gX, b1'.get (k := 4) rfl, X ++ v'.ownBlock.toList, ⟨⟨rv, _, b1', ?_, ?_⟩, by simp [h4], ?_, ?_⟩, ?_⟩
  · exact ⟨b', v', rfl, hbp, by simp [hbX], g1, fun g hg => ⟨by rw [hg]; simp, (hown g hg).2⟩⟩
  · exact b3.keep g2 (fun x hx hh => by
      rcases List.mem_cons.1 hh with rfl | hh
      · exact (h6 _ hx).2.2 hbX
      · exact (h6 _ hx).2.2 (hv x (by simpa using hh)).1)
  · intro x hx
    rcases List.mem_append.1 hx with hx | hx
    · exact ⟨(h5 x hx).1, Nat.lt_of_lt_of_le (h5 x hx).2 g2.size⟩
    · exact gb.own.lt x (by simpa using hx)
  · intro x hx
    refine ⟨(h6 x hx).1, Nat.lt_of_lt_of_le (h6 x hx).2.1 g2.size, fun hh => ?_⟩
    rcases List.mem_append.1 hh with hh | hh
    · exact (h6 x hx).2.2 hh
    · rcases (hown x (by simpa using hh)).1 with h1 | h1
      · exact (h6 x hx).2.2 h1
      · have := (h6 x hx).2.1; omega
  · intro x hx
    rcases List.mem_append.1 hx with hx | hx
    · exact .inl hx
    · exact (hown x (by simpa using hx)).1
theorem it_ct {B p b : Nat} {w : World} {X R : List Nat} {I : InS} {c : Ck} (h : It B w p X R I) (hc : I.chk = some c) (c4 : w.cell? ⟨p, 4, none⟩ = some (.pointer (some ⟨b, 0, none⟩))) : ∃ v, Ct B w b [] c v := by
  obtain ⟨⟨rv, cv, b1, b2, b3⟩, h4, h5, h6⟩ := h
  rw [hc] at b2
  obtain ⟨b', v, rfl, hbp, hbX, hct, hv⟩ := b2
  have c4' := b1.get (k := 4) (v := .pointer (some ⟨b', 0, none⟩)) rfl
  have hbb : b' = b := by rw [c4'] at c4; simpa using c4
  subst hbb
  exact ⟨v, hct⟩
theorem it_Done {B p b : Nat} {w : World} {X R : List Nat} {I : InS} {c : Ck} (h : It B w p X R I) (hc : I.chk = some c) (c4 : w.cell? ⟨p, 4, none⟩ = some (.pointer (some ⟨b, 0, none⟩))) (hs : c.st ≤ 4) :
    Calls Tryd.prog 37 #[.pointer (some ⟨b, 0, none⟩)] w fun e w' => e = .returned (.bool (decide (c.st = 4))) ∧ w = w' := let ⟨_, h1⟩ := it_ct h hc c4; chunk_Done h1 hs
theorem it_Rest {B p b : Nat} {w : World} {X R : List Nat} {I : InS} {c : Ck} (h : It B w p X R I) (hc : I.chk = some c) (c4 : w.cell? ⟨p, 4, none⟩ = some (.pointer (some ⟨b, 0, none⟩))) (hs : c.st ≤ 4) :
    Calls Tryd.prog 38 #[.pointer (some ⟨b, 0, none⟩)] w fun e w' => e = .returned (.string (S (if c.st = 4 then c.inp else []))) ∧ w = w' := let ⟨_, h1⟩ := it_ct h hc c4; chunk_Rest h1 hs
theorem it_unck {B p : Nat} {w : World} {X R : List Nat} {I : InS} (h : It B w p X R I) : It B (w.setCell ⟨p, 4, none⟩ (.pointer none)) p X R { I with chk := none } := by
  obtain ⟨⟨rv, cv, b1, b2, b3⟩, h4, h5, h6⟩ := h
  have hk : Keep [p] w (w.setCell ⟨p, 4, none⟩ (.pointer none)) := (Keep.refl _ _).setCell _ _ (by simp)
  exact ⟨⟨rv, _, b1.set 4 (.pointer none), rfl, b3.keep hk (fun y hy => by simp only [List.mem_singleton]; rintro rfl; exact (h6 _ hy).2.2 h4)⟩, h4, fun y hy => ⟨(h5 y hy).1, Nat.lt_of_lt_of_le (h5 y hy).2 hk.size⟩, fun y hy => ⟨(h6 y hy).1, Nat.lt_of_lt_of_le (h6 y hy).2.1 hk.size, (h6 y hy).2.2⟩⟩

set_option maxRecDepth 100000 in
set_option maxHeartbeats 4000000 in
theorem inlet_body {B p : Nat} {X R : List Nat} {I : InS} {w : World} (h : It B w p X R I) (hm : ML w) (hB : B ≤ w.heap.size) (hbig : 0 < B) (hl : I.inp.length + I.held ≤ 65536) (hsk : I.skip ≤ 65536)
    (hck : ∀ c, I.chk = some c → (c.err = 0 → c.ok) ∧ c.most = 4096 ∧ c.inp.length + c.dat.length ≤ 65536 ∧ (addC c I.inp).st ≤ 4) :
    Calls Tryd.prog 23 #[.pointer (some ⟨p, 0, none⟩)] w fun e w' => e = .returned (.tuple #[.bool (bodyB I).whole, .int .i64 (bodyB I).s]) ∧ Keep X w w' ∧ ∃ X', It B w' p X' R (bodyB I).p ∧ ∀ x ∈ X', x ∈ X ∨ w.heap.size ≤ x := by
  obtain ⟨c0, c1, c3, _⟩ := h.at_
  have f0 := h.free 0
  have f1 := h.free 1
  have f3 := h.free 3
  have sz := S_size I.inp
  cases hco : I.chk with
  | none =>
    have hb : bodyB I = ⟨{ I with inp := I.inp.drop (min I.skip I.inp.length), held := I.held + min I.skip I.inp.length, skip := I.skip - min I.skip I.inp.length }, decide (I.skip - min I.skip I.inp.length = 0), 0⟩ := by unfold bodyB; rw [hco]
    have c4 := it_noCk h hco
    have H := Lib.hid h
    obtain ⟨n, hn⟩ : ∃ n, min I.skip I.inp.length = n := ⟨_, rfl⟩
    have hmin : min ((I.skip : Nat) : Int) ((I.inp.length : Nat) : Int) = ((n : Nat) : Int) := by omega
    have i0 : (0 : Int) ≤ (n : Int) := by omega
    have i1 : (n : Int) ≤ (I.inp.length : Int) := by omega
    have hx : (S I.inp).extract n I.inp.length = S (I.inp.drop n) := by rw [S_extract, List.take_length]
    obtain ⟨r, hr⟩ : ∃ r, I.skip - n = r := ⟨_, rfl⟩
    have hrI : (I.skip : Int) - (n : Int) = ((r : Nat) : Int) := by omega
    have w1 := IntWalk.i64_in ((I.held : Int) + (n : Int)) (by omega)
    have w2 := IntWalk.i64_in ((r : Nat) : Int) (by omega)
    rw [hn, hr] at hb
    have HBd := Lib.hid hb
    have hh2 : ((I.held : Int) + (n : Int)) = ((I.held + n : Nat) : Int) := by omega
    clear hb h hm hco hck
    go_enter Tryd.func23, Tryd.ntmps23
    go_upto_region 2 with fail
    go_cut [4] (fun y wx => y = .int .i64 (n : Nat) ∧ Hid (Keep [] w wx))
    case first =>
      go_region_with fail
      all_goals
        go_wp2_with fail
        go_meet
        exact ⟨rfl, Lib.hid (by repeat (first | exact Keep.refl _ _ | apply Keep.drew))⟩
    case rest =>
    obtain ⟨rfl, KX⟩ := hcut
    have H1 := Lib.hid (H.out.keep0 KX.out)
    clear c0 c1 c3 f0 f1 f3 hmin c4
    obtain ⟨c0, c1, c3, _⟩ := H1.out.at_
    have f0 := H1.out.free 0
    have f1 := H1.out.free 1
    have f3 := H1.out.free 3
    have hs := ((H1.out.set (I' := { I with inp := I.inp.drop n }) 0 (.string (S (I.inp.drop n))) (fun _ _ => rfl) rfl rfl).set (I' := { I with inp := I.inp.drop n, held := I.held + n }) 1 (.int .i64 ((I.held : Int) + (n : Int))) (fun _ _ => by rw [hh2]; rfl) rfl rfl).set (I' := { I with inp := I.inp.drop n, held := I.held + n, skip := r }) 3 (.int .i64 (r : Nat)) (fun _ _ => rfl) rfl rfl
    have ks := ((KX.out.mono (S' := [p]) (by simp)).setCell ⟨p, 0, none⟩ (.string (S (I.inp.drop n))) (by simp)).setCell ⟨p, 1, none⟩ (.int .i64 ((I.held : Int) + (n : Int))) (by simp) |>.setCell ⟨p, 3, none⟩ (.int .i64 (r : Nat)) (by simp)
    have HS := Lib.hid (And.intro hs ks)
    clear hs ks hh2
    by_cases h0 : r = 0
    · have q := (nat_eq (show r = 0 from h0)).1
      have HF := Lib.hid (show decide (r = 0) = true by simp [h0])
      have q2 : (((r : Nat) : Int) == 0) = true := by simp [h0]
      clear h0
      go_wp2_with fail
      go_ret2
      rw [HBd.out, HF.out]
      exact ⟨rfl, H.out.keepX HS.out.2, X, HS.out.1, fun x hx => .inl hx⟩
    · have HF := Lib.hid (show decide (r = 0) = false by simp [h0])
      have q2 : (((r : Nat) : Int) == 0) = false := by simp [h0]
      clear h0
      go_wp2_with fail
      go_ret2
      rw [HBd.out, HF.out]
      exact ⟨rfl, H.out.keepX HS.out.2, X, HS.out.1, fun x hx => .inl hx⟩
  | some c =>
    obtain ⟨hk1, hk2, hk3, hk4⟩ := hck c hco
    obtain ⟨b, c4, c4s⟩ : ∃ b, w.cell? ⟨p, 4, none⟩ = some (.pointer (some ⟨b, 0, none⟩)) ∧ ((w.setCell ⟨p, 0, none⟩ (.string ⟨#[]⟩)).setCell ⟨p, 1, none⟩ (.int .i64 ((I.held : Int) + (I.inp.length : Int)))).cell? ⟨p, 4, none⟩ = some (.pointer (some ⟨b, 0, none⟩)) := by
      obtain ⟨⟨rv, cv, b1, b2, b3⟩, _⟩ := h
      rw [hco] at b2
      obtain ⟨b, v, rfl, _⟩ := b2
      exact ⟨b, b1.get (k := 4) rfl, ((b1.set 0 _).set 1 _).get (k := 4) rfl⟩
    have hb : bodyB I = if (addC c I.inp).err ≠ 0 then ⟨{ I with inp := [], held := I.held + I.inp.length, chk := some (addC c I.inp) }, false, toldE (addC c I.inp).err 413⟩
      else if (addC c I.inp).st ≠ 4 then ⟨{ I with inp := [], held := I.held + I.inp.length, chk := some (addC c I.inp) }, false, 0⟩
      else ⟨{ I with inp := (addC c I.inp).inp, held := I.held + I.inp.length, chk := none }, true, 0⟩ := by unfold bodyB; rw [hco]
    have H := Lib.hid h
    have HM := Lib.hid hm
    have w1 := IntWalk.i64_in ((I.held : Int) + (I.inp.length : Int)) (by omega)
    have hh2 : ((I.held : Int) + (I.inp.length : Int)) = ((I.held + I.inp.length : Nat) : Int) := by omega
    have hs := (h.set (I' := { I with inp := [] }) 0 (.string ⟨#[]⟩) (fun _ _ => rfl) rfl rfl).set (I' := { I with inp := [], held := I.held + I.inp.length }) 1 (.int .i64 ((I.held : Int) + (I.inp.length : Int))) (fun _ _ => by rw [hh2]; rfl) rfl rfl
    have ks := ((Keep.refl [p] w).setCell ⟨p, 0, none⟩ (.string ⟨#[]⟩) (by simp)).setCell ⟨p, 1, none⟩ (.int .i64 ((I.held : Int) + (I.inp.length : Int))) (by simp)
    have KS := Lib.hid (h.keepX ks)
    have HA := Lib.hid (it_Add (c := c) I.inp hs hco c4s (hm.keepB hbig KS.out (fun x hx => (h.lo x hx).1)) (Nat.le_trans hB ks.size) hbig (by omega) (by rw [hk2]; decide) hk1)
    have HR := Lib.hid h.lo
    have HT := Lib.hid (fun e0 w' => inlet_told e0 413 w')
    clear hs ks hh2 h hm hck hk1 hk2 hk3
    generalize addC c I.inp = d at *
    by_cases e1 : d.err = 0
    case neg =>
      rw [if_pos e1] at hb
      have HBd := Lib.hid hb
      have q1 := (int_ne e1).2
      clear hb e1 hk4
      go_enter Tryd.func23, Tryd.ntmps23
      go_wp2_with fail
      refine HA.out.mono ?_
      rintro e w2 ⟨rfl, k2, _, X2, hx2, n2⟩
      have HX := Lib.hid (And.intro k2 (And.intro hx2 n2))
      clear k2 hx2 n2
      go_wp2_with fail
      refine (HT.out _ _).mono ?_
      rintro e w3 ⟨rfl, rfl⟩
      go_wp2_with fail
      go_ret2
      rw [HBd.out]
      exact ⟨rfl, KS.out.trans HX.out.1, X2, HX.out.2.1, fun x hx => (HX.out.2.2 x hx).imp id (fun hh => Nat.le_trans KS.out.size hh)⟩
    rw [if_neg (by simp [e1])] at hb
    by_cases e2 : d.st = 4
    case neg =>
      rw [if_pos e2] at hb
      have HBd := Lib.hid hb
      have q1 := (int_eq e1).2
      have HD4 := Lib.hid (show decide (d.st = 4) = false by simp [e2])
      clear hb e1 e2
      go_enter Tryd.func23, Tryd.ntmps23
      go_wp2_with fail
      refine HA.out.mono ?_
      rintro e w2 ⟨rfl, k2, c42, X2, hx2, n2⟩
      have HD := Lib.hid (it_Done hx2 rfl c42 hk4)
      rw [HD4.out] at HD
      have HX := Lib.hid (And.intro k2 (And.intro hx2 n2))
      clear k2 hx2 n2
      go_wp2_with fail
      refine HD.out.mono ?_
      rintro e w3 ⟨rfl, rfl⟩
      go_wp2_with fail
      go_ret2
      rw [HBd.out]
      exact ⟨rfl, KS.out.trans HX.out.1, X2, HX.out.2.1, fun x hx => (HX.out.2.2 x hx).imp id (fun hh => Nat.le_trans KS.out.size hh)⟩
    rw [if_neg (by simp [e2])] at hb
    have HBd := Lib.hid hb
    have q1 := (int_eq e1).2
    have HD4 := Lib.hid (show decide (d.st = 4) = true by simp [e2])
    have HR4 := Lib.hid (show (if d.st = 4 then d.inp else []) = d.inp from if_pos e2)
    clear hb e1 e2
    go_enter Tryd.func23, Tryd.ntmps23
    go_wp2_with fail
    refine HA.out.mono ?_
    rintro e w2 ⟨rfl, k2, c42, X2, hx2, n2⟩
    have HD := Lib.hid (it_Done hx2 rfl c42 hk4)
    have HR2 := Lib.hid (it_Rest hx2 rfl c42 hk4)
    rw [HD4.out] at HD
    rw [HR4.out] at HR2
    have g0 := hx2.at_.1
    have g5 := hx2.free 0
    have g6 := hx2.free 4
    have hs2 := it_unck (hx2.set (I' := { I with inp := d.inp, held := I.held + I.inp.length, chk := some d }) 0 (.string (S d.inp)) (fun _ _ => rfl) rfl rfl)
    have ks2 := k2.trans' (hx2.keepX (((Keep.refl [p] w2).setCell ⟨p, 0, none⟩ (.string (S d.inp)) (by simp)).setCell ⟨p, 4, none⟩ (.pointer none) (by simp))) (fun x hx hlt => (n2 x hx).elim id (fun hh => absurd hlt (by omega)))
    have HX := Lib.hid (And.intro ks2 (And.intro hs2 n2))
    clear k2 hx2 n2 hs2 ks2
    go_wp2_with fail
    refine HD.out.mono ?_
    rintro e w3 ⟨rfl, rfl⟩
    go_wp2_with fail
    refine HR2.out.mono ?_
    rintro e w3 ⟨rfl, rfl⟩
    go_wp2_with fail
    go_ret2
    rw [HBd.out]
    exact ⟨rfl, KS.out.trans HX.out.1, X2, HX.out.2.1, fun x hx => (HX.out.2.2 x hx).imp id (fun hh => Nat.le_trans KS.out.size hh)⟩
end Go.Proofs.YtpimfoohpfkciaaDoor

/- Layer 11: the document's line, number, ended, last. No conditions but on lengths. -/
namespace Go.Proofs.YtpimfoohpfkciaaDoor
open Go.RowKit Go.Shelf

theorem int3_ret {s : List UInt8} {a b c d : Int} {t : List UInt8} (h1 : s = t) (h : a = c) (h2 : b = d) : Ending.returned (.tuple #[.string (S s), .int .i64 a, .int .i64 b]) = .returned (.tuple #[.string (S t), .int .i64 c, .int .i64 d]) := by rw [h1, h, h2]
end Go.Proofs.YtpimfoohpfkciaaDoor

/- Layer 11: the document's number, ended, last. No conditions but on lengths. -/
namespace Go.Proofs.YtpimfoohpfkciaaDoor
open Go.RowKit Go.Shelf

theorem numE_bad {t : List UInt8} (m : Int) (h : restOk (numRest t) = false) : numE t m = 3 ∧ numV2 t m = 0 := by unfold numE numV2; rw [h]; exact ⟨rfl, rfl⟩
theorem numE_ok {t : List UInt8} (m : Int) (h : restOk (numRest t) = true) : numE t m = (if unhexE (numT t) m = 14 then 4 else unhexE (numT t) m) ∧ numV2 t m = unhexV (numT t) m := by unfold numE numV2; rw [h]; exact ⟨rfl, rfl⟩
theorem rest_cons (c : UInt8) (r : List UInt8) : restOk (c :: r) = (isTxt (c :: r) && (decide (c = 32) || decide (c = 9) || decide (c = 59))) := by
  unfold restOk
  rw [show (c :: r).getD 0 0 = c from rfl, sep_mem]
  rfl

theorem Blk.there' {w : World} {b : Nat} {T : TypeId} {xs : List Value} (h : Blk w b T xs) (o n : Nat) (hl : o + n ≤ xs.length) : w.there b o n := fun j hj =>
  ⟨by rw [h.cell, List.getElem?_eq_getElem (by omega)]; rfl, h.frozen _⟩
theorem Blk.range' {w : World} {b : Nat} {T : TypeId} {xs : List Value} (h : Blk w b T xs) : w.rangeAt b 0 xs := fun j v hv => by rw [Nat.zero_add]; exact h.get hv
theorem Keep.setCells' {S : List Nat} {a : World} (b : Nat) (hb : b < a.heap.size → b ∈ S) : ∀ (vs : List Value) (o : Nat) (w : World), Keep S a w → Keep S a (w.setCells b o vs)
  | [], _, _, h => h
  | v :: r, o, w, h => by
    rw [World.setCells]
    exact Keep.setCells' b hb r (o + 1) _ (h.setCell _ _ hb)
theorem Bdy.len (b : Bdy) : b.cells.length = 4 := rfl
end Go.Proofs.YtpimfoohpfkciaaDoor

/- Layer 12: fail, Next. No conditions but on lengths. -/
namespace Go.Proofs.YtpimfoohpfkciaaDoor
open Go.RowKit Go.Shelf

theorem reqC_len (m t : List UInt8) (v : Value) (cl : Bool) : (reqC m t v cl).length = 4 := rfl
theorem req_size : (Tryd.prog.info? 37).map (·.size) = some 4 := by kernel_rfl
theorem req_st (m t : List UInt8) {v : Value} (cl : Bool) (hv : v.oneCell' = true) : (Tryd.prog.info? 37).map (·.size) = some (reqC m t v cl).toArray.size ∧ (reqC m t v cl).toArray.all (·.oneCell') = true :=
  ⟨req_size, by simp [reqC, hv]; exact ⟨rfl, rfl, rfl⟩⟩
theorem req_load {w : World} {b : Nat} {m t : List UInt8} {v : Value} {cl : Bool} (h : w.rangeAt b 0 (reqC m t v cl)) : (loadVar 37 ⟨b, 0, none⟩).run Tryd.prog w = .ok (.agg (reqC m t v cl).toArray) w :=
  run_loadVar_mid (P := Tryd.prog) w b 0 37 (reqC m t v cl) _ h Tryd.underlying37 rfl req_size
def reqZ : List Value := reqC [] [] (.slice none 0 0) false
theorem req_back {w : World} {b : Nat} {m t : List UInt8} {v : Value} {cl : Bool} (h : w.there b 0 4) : (loadVar 37 ⟨b, 0, none⟩).run Tryd.prog (w.setCells b 0 (reqC m t v cl)) = .ok (.agg (reqC m t v cl).toArray) (w.setCells b 0 (reqC m t v cl)) := req_load (World.rangeAt_setCells_same _ b 0 (reqC m t v cl) h)
theorem reqZ_back {w : World} {b : Nat} (h : w.there b 0 4) : (loadVar 37 ⟨b, 0, none⟩).run Tryd.prog (w.setCells b 0 reqZ) = .ok (.agg reqZ.toArray) (w.setCells b 0 reqZ) := req_back h
theorem own_one {α : Type} {enc : α → List Value} {n B : Nat} {E : TypeId} {w : World} {v : Value} {L : List α} (h : Own enc n B E w v L) : v.oneCell' = true := by
  obtain ⟨a, cap, rfl, _⟩ := h.shape
  rfl
set_option maxRecDepth 100000 in
set_option maxHeartbeats 2000000 in
theorem inlet_fail {B p : Nat} {X R : List Nat} {I : InS} {w : World} (s : Int) (h : It B w p X R I) :
    Calls Tryd.prog 22 #[.pointer (some ⟨p, 0, none⟩), .int .i64 s] w fun e w' => e = .returned (.tuple #[.agg reqZ.toArray, .int .i64 s]) ∧ It B w' p X R { I with st := s } ∧ Keep [p] w w' := by
  have kA := (Keep.refl [] w).alloc (.cells reqZ.toArray 37)
  have bA := Blk.newA w reqZ.toArray 37
  have hne : w.heap.size ≠ p := by have := h.lt; omega
  have zst := req_st [] [] (v := .slice none 0 0) false rfl
  have H := Lib.hid h
  generalize hwA : w.alloc (.cells #[.string ⟨#[]⟩, .string ⟨#[]⟩, .slice none 0 0, .bool false] 37) = wA
  have hwA' : w.alloc (.cells reqZ.toArray 37) = wA := hwA
  rw [hwA'] at kA bA
  have hA := h.keep0 kA
  obtain ⟨_, _, _, c5⟩ := hA.at_
  have f5 := hA.free 5
  have hS := hA.set (I' := { I with st := s }) 5 (.int .i64 s) (fun _ _ => rfl) rfl rfl
  have kS := (kA.mono (S' := [p]) (by simp)).setCell ⟨p, 5, none⟩ (.int .i64 s) (by simp)
  have bS := (show Blk wA w.heap.size 37 reqZ from bA).setOther (a := ⟨p, 5, none⟩) (by simpa using hne) (.int .i64 s)
  have hT := bS.there' 0 4 (by simp [reqZ, reqC])
  have hload := reqZ_back hT
  have hlt : w.heap.size < (wA.setCell ⟨p, 5, none⟩ (.int .i64 s)).heap.size := bS.lt
  have HX := Lib.hid (And.intro hS (And.intro kS hload))
  have HT := Lib.hid hT
  have ZST := Lib.hid zst
  clear h kA bA hA hS kS bS hT hload hwA' zst
  go_enter Tryd.func22, Tryd.ntmps22
  go_wp2_with (first
    | (refine wpList_store_mid rfl 37 (.tmp 4) (.tmp 10) rfl w.heap.size 0 reqZ.toArray (by rfl) (by first | rfl | kernel_rfl) HT.out ZST.out.1 ZST.out.2 ?_
       try simp only [Act.put])
    | fail)
  refine bodyPost_ret (v := .tuple #[.agg reqZ.toArray, .int .i64 s]) (by have hl := HX.out.2.2; simp [results, Tryd.results22, asAddr, Result.andThen, hl]) rfl ⟨rfl, ?_, ?_⟩
  · exact HX.out.1.keep (Keep.setCells' (S := [w.heap.size]) _ (by simp) _ _ _ (Keep.refl _ _)) (fun x hx => by have := (H.out.lo x hx).2; simp; omega) (fun x hx => by have := (H.out.ro x hx).2.1; simp; omega)
  · exact Keep.setCells' _ (fun hh => absurd hh (by omega)) _ _ _ HX.out.2.1

theorem wpList_store_fresh {P : Program} {ops : Array Oper} {rest : List Oper} {op : Oper} {a : Act} {w : World} {Q : Exit → Act → World → Prop} (hgd : op.guard = none) (ty : TypeId) (x y : Operand) (ho : op.op = .store ty x y)
    (Z : Array Value) (cells : List Value) (hx : a.eval x = .pointer (some ⟨w.heap.size, 0, none⟩)) (hy : a.eval y = .agg cells.toArray) (hi : (P.info? ty).map (·.size) = some cells.length) (hz : Z.size = cells.length)
    (h1 : ∀ v ∈ cells, v.oneCell' = true) (h : wpList P ops Q rest (a.put op.dst undef) (w.alloc (.cells cells.toArray ty))) : wpList P ops Q (op :: rest) a (w.alloc (.cells Z ty)) :=
  wpList_plain hgd fun _ hK => by
    unfold Oper.wp execOp
    simp only [ho, hx, hy, Instr.storeAt, Instr.sureAddr, Sem.run_bind, Sem.run_pure, Result.andThen_ok, run_storeVar_new (P := P) w ty Z cells.toArray (by simpa using hi) (by simpa using hz) (all_oneCell_toArray h1)]
    exact hK _ _ h
theorem reqC_one (m t : List UInt8) {v : Value} (cl : Bool) (hv : v.oneCell' = true) : ∀ x ∈ reqC m t v cl, x.oneCell' = true := by
  intro x hx
  simp [reqC] at hx
  rcases hx with rfl | rfl | rfl | rfl
  · rfl
  · rfl
  · exact hv
  · rfl

/-- Next under way: nb: the result's block -/
structure NxS (B : Nat) (w : World) (p : Nat) (X R : List Nat) (wt : World) (X1 R1 : List Nat) (J : InS) : Prop where
  it : It B wt p X1 R1 J
  kp : Keep X w wt
  nx : ∀ x ∈ X1, x ∈ X ∨ w.heap.size < x
  nr : ∀ x ∈ R1, x ∈ R ∨ w.heap.size < x
  bk : Blk wt w.heap.size 37 reqZ
theorem NxS.off {B p : Nat} {w wt : World} {X R X1 R1 : List Nat} {I J : InS} (h : NxS B w p X R wt X1 R1 J) (h0 : It B w p X R I) : w.heap.size ∉ X1 ∧ w.heap.size ∉ R1 :=
  ⟨fun hh => by rcases h.nx _ hh with h1 | h1; (have := (h0.lo _ h1).2; omega); omega, fun hh => by rcases h.nr _ hh with h1 | h1; (have := (h0.ro _ h1).2.1; omega); omega⟩
theorem NxS.step {B p : Nat} {w wt w2 : World} {X R X1 R1 X2 R2 : List Nat} {I J J2 : InS} (h : NxS B w p X R wt X1 R1 J) (h0 : It B w p X R I) (k : Keep X1 wt w2) (hi : It B w2 p X2 R2 J2)
    (hX : ∀ x ∈ X2, x ∈ X1 ∨ wt.heap.size ≤ x) (hR : ∀ x ∈ R2, x ∈ R1 ∨ wt.heap.size ≤ x) : NxS B w p X R w2 X2 R2 J2 := by
  have hl := h.bk.lt
  refine ⟨hi, h.kp.trans' k (fun x hx hlt => (h.nx x hx).elim id (fun hh => by omega)), fun x hx => ?_, fun x hx => ?_, k.blk h.bk (h.off h0).1⟩
  · rcases hX x hx with h1 | h1
    · exact h.nx x h1
    · exact .inr (by omega)
  · rcases hR x hx with h1 | h1
    · exact h.nr x h1
    · exact .inr (by omega)
/-- what Next comes to -/
def NextOut (B : Nat) (w : World) (p : Nat) (X R : List Nat) (r : NxR) (e : Ending) (w' : World) : Prop :=
  ∃ v X' R', e = .returned (.tuple #[.agg (reqC r.q.m r.q.t v r.q.cl).toArray, .int .i64 r.s]) ∧ It B w' p X' R' r.p ∧ Keep X w w' ∧ (∀ x ∈ X', x ∈ X ∨ w.heap.size ≤ x) ∧ (∀ x ∈ R', x ∈ R ∨ w.heap.size ≤ x) ∧ Own Fld.cells 2 B 44 w' v r.q.F ∧ ∀ g, v.ownBlock = some g → (g ∈ R ∨ w.heap.size ≤ g) ∧ g ∉ X'
theorem NextOut.of {B p : Nat} {w w' : World} {X R : List Nat} {r r' : NxR} {e : Ending} (h : NextOut B w p X R r e w') (hr : r' = r) : NextOut B w p X R r' e w' := hr ▸ h
theorem NxS.fin {B p : Nat} {w wt : World} {X R X1 R1 : List Nat} {I J : InS} (h : NxS B w p X R wt X1 R1 J) (h0 : It B w p X R I) (q : Req) (v : Value) (s : Int) (ho : Own Fld.cells 2 B 44 wt v q.F) (hg : ∀ g, v.ownBlock = some g → (g ∈ R ∨ w.heap.size < g) ∧ g ∉ X1) :
    NextOut B w p X R ⟨J, q, s⟩ (.returned (.tuple #[.agg (reqC q.m q.t v q.cl).toArray, .int .i64 s])) (wt.setCells w.heap.size 0 (reqC q.m q.t v q.cl)) := by
  have k : Keep [w.heap.size] wt (wt.setCells w.heap.size 0 (reqC q.m q.t v q.cl)) := Keep.setCells' (S := [w.heap.size]) _ (by simp) _ _ _ (Keep.refl _ _)
  obtain ⟨o1, o2⟩ := h.off h0
  refine ⟨v, X1, R1, rfl, h.it.keep k (fun x hx => by simp; rintro rfl; exact o1 hx) (fun x hx => by simp; rintro rfl; exact o2 hx), h.kp.trans' k (fun x hx hlt => by simp at hx; omega), fun x hx => (h.nx x hx).imp id (fun hh => by omega), fun x hx => (h.nr x hx).imp id (fun hh => by omega), ho.keep k (fun g hh => ?_), fun g hh => ⟨(hg g hh).1.imp id (fun hh => by omega), (hg g hh).2⟩⟩
  simp only [List.mem_singleton]
  rintro rfl
  rcases (hg _ hh).1 with h1 | h1
  · have := (h0.ro _ h1).2.1; omega
  · omega
theorem NxS.fin0 {B p : Nat} {w wt : World} {X R X1 R1 : List Nat} {I J : InS} (h : NxS B w p X R wt X1 R1 J) (h0 : It B w p X R I) (s : Int) :
    NextOut B w p X R ⟨J, req0, s⟩ (.returned (.tuple #[.agg reqZ.toArray, .int .i64 s])) (wt.setCells w.heap.size 0 reqZ) := h.fin h0 req0 (.slice none 0 0) s (Own.nil _ _ _ _ _) (by simp [Value.ownBlock])
/-- the request goes out of the inlet -/
theorem it_unreq {B p : Nat} {w : World} {X R : List Nat} {I : InS} (h : It B w p X R I) : It B ((w.setCell ⟨p, 2, none⟩ (.pointer none)).setCell ⟨p, 1, none⟩ (.int .i64 0)) p X [] { I with req := none, held := 0 } := by
  obtain ⟨⟨rv, cv, b1, b2, b3⟩, h4, h5, h6⟩ := h
  have hk : Keep [p] w ((w.setCell ⟨p, 2, none⟩ (.pointer none)).setCell ⟨p, 1, none⟩ (.int .i64 0)) := ((Keep.refl _ _).setCell _ _ (by simp)).setCell _ _ (by simp)
  exact ⟨⟨.pointer none, cv, (b1.set 2 (.pointer none)).set 1 (.int .i64 0), b2.keep hk (fun y _ hy => by simpa using hy), rfl⟩, h4, fun y hy => ⟨(h5 y hy).1, Nat.lt_of_lt_of_le (h5 y hy).2 hk.size⟩, by simp⟩
theorem it_req {B p : Nat} {w : World} {X R : List Nat} {I : InS} {q : Req} (h : It B w p X R I) (hq : I.req = some q) : ∃ rb a l c, w.cell? ⟨p, 2, none⟩ = some (.pointer (some ⟨rb, 0, none⟩)) ∧ Blk w rb 37 (reqC q.m q.t (.slice a l c) q.cl) ∧ Own Fld.cells 2 B 44 w (.slice a l c) q.F ∧ (∀ g, (Value.slice a l c).ownBlock = some g → g ∈ R) ∧ rb ∈ R := by
  obtain ⟨⟨rv, cv, b1, b2, b3⟩, h4, h5, h6⟩ := h
  rw [hq] at b3
  obtain ⟨rb, v, rfl, g1, g2, g3, g4⟩ := b3
  obtain ⟨a, c, rfl, _⟩ := g3.shape
  exact ⟨rb, a, _, c, b1.get (k := 2) rfl, g2, g3, g4, g1⟩
theorem it_noReq {B p : Nat} {w : World} {X R : List Nat} {I : InS} (h : It B w p X R I) (hq : I.req = none) : w.cell? ⟨p, 2, none⟩ = some (.pointer none) := by
  obtain ⟨⟨rv, cv, b1, b2, b3⟩, h4, h5, h6⟩ := h
  rw [hq] at b3
  have : rv = .pointer none := b3
  subst this
  exact b1.get (k := 2) rfl
theorem body_req (J : InS) : (bodyB J).p.req = J.req ∧ (bodyB J).p.st = J.st := by
  unfold bodyB
  cases J.chk with
  | none => exact ⟨rfl, rfl⟩
  | some c => dsimp only; split; exact ⟨rfl, rfl⟩; split <;> exact ⟨rfl, rfl⟩
end Go.Proofs.YtpimfoohpfkciaaDoor

/- Layer 12, plain laws: what holds of an inlet at any time. No program. No conditions but those that each theorem states. -/
namespace Go.Proofs.YtpimfoohpfkciaaDoor
open Go.RowKit

theorem frame_max (L : List Fld) : (frameM L 4096).e = 0 → (frameM L 4096).n ≤ 4096 := by
  unfold frameM
  split
  · intro h; simp at h
  · split
    · split
      · intro _; simp
      · intro h; simp at h
    · split
      · intro _; simp
      · have hu := undec_range (getV L nCL) 4096
        intro h
        simp only at h ⊢
        by_cases h0 : undecE (getV L nCL) 4096 = 0
        · exact (hu.1 h0).2
        · rcases (hu.2 h0).2 with h1 | h1 <;> rw [h1] at h <;> simp at h
theorem frame_e (L : List Fld) (m : Int) : (frameM L m).e = 0 ∨ (frameM L m).e = 3 ∨ (frameM L m).e = 4 := by
  unfold frameM
  split
  · simp
  · split
    · split <;> simp
    · split
      · simp
      · have hu := undec_range (getV L nCL) m
        simp only
        by_cases h0 : undecE (getV L nCL) m = 0
        · left; rw [h0]; simp
        · rcases (hu.2 h0).2 with h1 | h1 <;> rw [h1] <;> simp
theorem head_bounds (l : List UInt8) : ((headM l).got = true → (headM l).s = 0) ∧ ((headM l).got = true → (headM l).n ≤ l.length) ∧ ((headM l).got = true → (headM l).skip ≤ 4096) ∧ ((headM l).got = true → 2 ≤ (headM l).n) := by
  have hn := (split_small l).2.2
  have hp := split_pos l
  have hf := frame_max (splitM l).F
  unfold headM
  split
  · exact ⟨fun h => (by cases h), fun h => (by cases h), fun h => (by cases h), fun h => (by cases h)⟩
  rename_i h1
  split
  · exact ⟨fun h => (by cases h), fun h => (by cases h), fun h => (by cases h), fun h => (by cases h)⟩
  split
  · exact ⟨fun h => (by cases h), fun h => (by cases h), fun h => (by cases h), fun h => (by cases h)⟩
  split
  · exact ⟨fun h => (by cases h), fun h => (by cases h), fun h => (by cases h), fun h => (by cases h)⟩
  · rename_i h4
    have h5 := hf (by simpa using h4)
    exact ⟨fun _ => rfl, fun _ => hn, fun _ => by simp only; omega, fun _ => hp (by simpa using h1)⟩
theorem head_ne200 (l : List UInt8) : (headM l).s ≠ 200 := by
  unfold headM
  have ht : ∀ e long : Int, long ≠ 200 → toldE e long ≠ 200 := fun e long h => by unfold toldE; split; (simp); split; (exact h); simp
  split
  · exact ht _ _ (by decide)
  split
  · rename_i h; exact h
  split
  · simp [hr0]
  split
  · exact ht _ _ (by decide)
  · simp
theorem addC_sound {c : Ck} (s : List UInt8) (h : c.err = 0 → c.ok) (hs : c.st ≤ 4) : (addC c s).most = c.most ∧ (addC c s).inp.length + (addC c s).dat.length ≤ c.inp.length + c.dat.length + s.length ∧ (addC c s).st ≤ 4 ∧ ((addC c s).err = 0 → (addC c s).ok) := by
  have hr := addC_R (s := s) h
  unfold AddR at hr
  by_cases h0 : c.err = 0
  · rw [if_neg (by simp [h0])] at hr
    obtain ⟨d, e, hr, hc⟩ := hr
    have ho := runs_ok hr (add_ok (h h0) s)
    have hst := runs_st hr (show (c.add s).st ≤ 4 from hs)
    have hl := ho.2.2.2.1
    simp only [Ck.add, List.length_append] at hl
    rw [hc]
    refine ⟨ho.2.1, by simp only; omega, hst.1, fun he => ?_⟩
    simp only at he
    split at he
    · rename_i h17; exact ho.1 h17
    · exact absurd he (runs_ne hr)
  · rw [if_pos h0] at hr
    rw [hr]
    exact ⟨rfl, by omega, hs, h⟩
theorem next_hst {I : InS} (h : I.ok) : ∀ J c, J = I ∨ J = headed I (headM I.inp) → J.chk = some c → (addC c J.inp).st ≤ 4 ∧ (c.err = 0 → c.ok) := by
  intro J c hJ hc
  have key : (c.err = 0 → c.ok) ∧ c.st ≤ 4 := by
    rcases hJ with rfl | rfl
    · have := h.chk c hc; exact ⟨this.1, this.2.2.2⟩
    · have h2 : (if (headM I.inp).ch then some (ck0 4096) else I.chk) = some c := hc
      split at h2
      · cases h2; exact ⟨fun _ => ck0_ok _, by simp [ck0]⟩
      · have := h.chk c h2; exact ⟨this.1, this.2.2.2⟩
  exact ⟨(addC_sound _ key.1 key.2).2.2.1, key.1⟩
theorem in0_ok : in0.ok := ⟨by simp [in0], by simp [in0], by simp [in0], by simp [in0], by simp [in0], by simp [in0]⟩
theorem inAdd_ok {I : InS} (h : I.ok) (s : List UInt8) : (inAdd I s).1.ok := by
  unfold inAdd
  split
  · exact h
  · split
    · exact h
    · rename_i h1 h2
      have : I.left = I.inp.length + I.held := rfl
      exact ⟨by simp only [List.length_append]; omega, h.skp, h.chk, h.req, h.bad, h.hld⟩
theorem told_ne {e long : Int} (h : e ≠ 0) (h17 : e ≠ 17) (hl : long ≠ 0) : toldE e long ≠ 0 := by
  unfold toldE
  rw [if_neg (by omega)]
  split <;> omega
theorem addC_ne17 {c : Ck} (s : List UInt8) (h : c.err ≠ 17) : (addC c s).err ≠ 17 := by
  unfold addC
  split
  · exact h
  · simp only; split <;> omega
theorem toldE_ne {e : Int} (h : toldE e 413 = 0) : e = 0 ∨ e = 17 := by
  unfold toldE at h
  split at h
  · assumption
  · split at h <;> simp at h
theorem tail_none {p : InS} (q : Req) (hc : p.chk = none) (h : p.skip ≤ p.inp.length) : tailI p q = ⟨{ p with inp := p.inp.drop p.skip, held := 0, skip := 0, req := none }, q, 200⟩ := by
  have hb : bodyB p = ⟨{ p with inp := p.inp.drop p.skip, held := p.held + p.skip, skip := 0 }, true, 0⟩ := by
    unfold bodyB
    rw [hc]
    dsimp only
    rw [Nat.min_eq_left h, Nat.sub_self]
    rfl
  unfold tailI
  rw [hb]
  rfl
theorem tail_none' {p : InS} (q : Req) (hc : p.chk = none) (h : p.inp.length < p.skip) : tailI p q = ⟨{ p with inp := [], held := p.held + p.inp.length, skip := p.skip - p.inp.length }, req0, 0⟩ := by
  have hb : bodyB p = ⟨{ p with inp := [], held := p.held + p.inp.length, skip := p.skip - p.inp.length }, false, 0⟩ := by
    unfold bodyB
    rw [hc]
    dsimp only
    rw [Nat.min_eq_right (by omega), List.drop_length, decide_eq_false (by omega)]
  unfold tailI
  rw [hb]
  rfl
theorem tail_bad {p : InS} {c : Ck} (q : Req) (hc : p.chk = some c) (he : (addC c p.inp).err ≠ 0) (h17 : (addC c p.inp).err ≠ 17) :
    tailI p q = ⟨{ p with inp := [], held := p.held + p.inp.length, chk := some (addC c p.inp), st := toldE (addC c p.inp).err 413 }, req0, toldE (addC c p.inp).err 413⟩ := by
  have hb : bodyB p = ⟨{ p with inp := [], held := p.held + p.inp.length, chk := some (addC c p.inp) }, false, toldE (addC c p.inp).err 413⟩ := by
    unfold bodyB
    rw [hc]
    dsimp only
    rw [if_pos he]
  unfold tailI
  rw [hb]
  dsimp only
  rw [if_pos (told_ne he h17 (by decide))]
theorem tail_more {p : InS} {c : Ck} (q : Req) (hc : p.chk = some c) (he : (addC c p.inp).err = 0) (h4 : (addC c p.inp).st ≠ 4) :
    tailI p q = ⟨{ p with inp := [], held := p.held + p.inp.length, chk := some (addC c p.inp) }, req0, 0⟩ := by
  have hb : bodyB p = ⟨{ p with inp := [], held := p.held + p.inp.length, chk := some (addC c p.inp) }, false, 0⟩ := by
    unfold bodyB
    rw [hc]
    dsimp only
    rw [if_neg (by simp [he]), if_pos h4]
  unfold tailI
  rw [hb]
  rfl
theorem tail_done {p : InS} {c : Ck} (q : Req) (hc : p.chk = some c) (he : (addC c p.inp).err = 0) (h4 : (addC c p.inp).st = 4) :
    tailI p q = ⟨{ p with inp := (addC c p.inp).inp, held := 0, chk := none, req := none }, q, 200⟩ := by
  have hb : bodyB p = ⟨{ p with inp := (addC c p.inp).inp, held := p.held + p.inp.length, chk := none }, true, 0⟩ := by
    unfold bodyB
    rw [hc]
    dsimp only
    rw [if_neg (by simp [he]), if_neg (by simp [h4])]
  unfold tailI
  rw [hb]
  rfl
/-- a body's piece keeps what holds -/
theorem tail_ok {p : InS} (q : Req) (h : p.ok) (hq : p.req ≠ none) (h0 : p.st = 0) : (tailI p q).p.ok := by
  have hl := h.len
  have hs := h.skp
  cases hc : p.chk with
  | none =>
    rcases Nat.lt_or_ge p.inp.length p.skip with hlt | hge
    · rw [tail_none' q hc hlt]
      exact ⟨by simp only [List.length_nil]; omega, by simp only; omega, fun c hh => absurd (hc.symm.trans hh) (by simp), fun _ hh => absurd hh hq, fun c _ hh => absurd (hc.symm.trans hh) (by simp), fun _ _ => by have := h.hld h0 hq; simp only; omega⟩
    · rw [tail_none q hc hge]
      exact ⟨by simp only [List.length_drop]; omega, by simp only; omega, fun c hh => absurd (hc.symm.trans hh) (by simp), fun _ _ => ⟨hc, rfl⟩, fun c _ hh => absurd (hc.symm.trans hh) (by simp), fun _ hh => absurd rfl hh⟩
  | some c =>
    obtain ⟨k1, k2, k3, k4⟩ := h.chk c hc
    have ke := h.bad c h0 hc
    obtain ⟨d1, d2, d3, d4⟩ := addC_sound p.inp k1 k4
    have d5 := addC_ne17 (c := c) p.inp (by rw [ke]; decide)
    by_cases e1 : (addC c p.inp).err = 0
    · by_cases e2 : (addC c p.inp).st = 4
      · rw [tail_done q hc e1 e2]
        exact ⟨by simp only; omega, hs, fun c hh => by simp at hh, fun _ _ => ⟨rfl, rfl⟩, fun c _ hh => by simp at hh, fun _ hh => absurd rfl hh⟩
      · rw [tail_more q hc e1 e2]
        refine ⟨by simp only [List.length_nil]; omega, hs, fun c' hh => ?_, fun _ hh => absurd hh hq, fun c' _ hh => ?_, fun _ _ => by have := h.hld h0 hq; simp only; omega⟩
        · obtain rfl : addC c p.inp = c' := by simpa using hh
          exact ⟨d4, by rw [d1]; exact k2, by simp only; omega, d3⟩
        · obtain rfl : addC c p.inp = c' := by simpa using hh
          exact e1
    · have ht := told_ne (long := 413) e1 d5 (by decide)
      rw [tail_bad q hc e1 d5]
      refine ⟨by simp only [List.length_nil]; omega, hs, fun c' hh => ?_, fun hh => absurd hh ht, fun c' hh => absurd hh ht, fun hh => absurd hh ht⟩
      obtain rfl : addC c p.inp = c' := by simpa using hh
      exact ⟨d4, by rw [d1]; exact k2, by simp only; omega, d3⟩
theorem headed_ok {p : InS} (h : p.ok) (h0 : p.st = 0) (hr : p.req = none) (hg : (headM p.inp).got = true) : (headed p (headM p.inp)).ok := by
  obtain ⟨b1, b2, b3, b4⟩ := head_bounds p.inp
  have b4 := b4 hg
  have b2 := b2 hg
  have b3 := b3 hg
  have hl := h.len
  have hc := (h.req h0 hr).1
  generalize headM p.inp = hd at *
  have hk : ∀ c, (headed p hd).chk = some c → c = ck0 4096 := fun c hh => by
    have h2 : (if hd.ch then some (ck0 4096) else p.chk) = some c := hh
    rw [hc] at h2
    split at h2
    · cases h2; rfl
    · cases h2
  refine ⟨?_, b3, fun c hh => ?_, fun _ hh => (by cases hh), fun c _ hh => ?_, fun _ _ => b4⟩
  · show (p.inp.drop hd.n).length + hd.n ≤ 16384
    rw [List.length_drop]; omega
  · rw [hk c hh]
    exact ⟨fun _ => ck0_ok _, rfl, b4, by simp [ck0]⟩
  · rw [hk c hh]; rfl
theorem next_ok {p : InS} (h : p.ok) : (nextI p).p.ok := by
  unfold nextI
  by_cases h0 : p.st = 0
  · rw [if_neg (by simp [h0])]
    cases hr : p.req with
    | some q => exact tail_ok q h (by rw [hr]; simp) h0
    | none =>
      dsimp only
      by_cases hs : (headM p.inp).s = 0
      · rw [if_neg (by simp [hs])]
        cases hg : (headM p.inp).got with
        | false => exact h
        | true => exact tail_ok _ (headed_ok h h0 hr hg) (by simp [headed]) h0
      · rw [if_pos hs]
        exact ⟨h.len, h.skp, h.chk, fun hh => absurd hh hs, fun c hh => absurd hh hs, fun hh => absurd hh hs⟩
  · rw [if_pos h0]; exact h
/-- with a request that came whole nothing is wrong, and fewer bytes are left -/
theorem tail_200 {p : InS} {q : Req} (h : p.ok) (h0 : p.st = 0) (hq : p.req ≠ none) (hs : (tailI p q).s = 200) : (tailI p q).p.st = 0 ∧ (tailI p q).p.left + 2 ≤ p.left := by
  have hh := h.hld h0 hq
  unfold InS.left
  cases hc : p.chk with
  | none =>
    rcases Nat.lt_or_ge p.inp.length p.skip with hlt | hge
    · rw [tail_none' q hc hlt] at hs; simp at hs
    · rw [tail_none q hc hge]
      refine ⟨h0, ?_⟩
      simp only [List.length_drop]; omega
  | some c =>
    obtain ⟨k1, k2, k3, k4⟩ := h.chk c hc
    have ke := h.bad c h0 hc
    obtain ⟨d1, d2, d3, d4⟩ := addC_sound p.inp k1 k4
    have d5 := addC_ne17 (c := c) p.inp (by rw [ke]; decide)
    by_cases e1 : (addC c p.inp).err = 0
    · by_cases e2 : (addC c p.inp).st = 4
      · rw [tail_done q hc e1 e2]
        refine ⟨h0, ?_⟩
        simp only; omega
      · rw [tail_more q hc e1 e2] at hs; simp at hs
    · rw [tail_bad q hc e1 d5] at hs
      exfalso
      simp only at hs
      unfold toldE at hs
      split at hs
      · simp at hs
      · split at hs <;> simp at hs
theorem next_200 {p : InS} (h : p.ok) (h0 : p.st = 0) (hs : (nextI p).s = 200) : (nextI p).p.st = 0 ∧ (nextI p).p.left + 2 ≤ p.left := by
  unfold nextI at hs ⊢
  rw [if_neg (by simp [h0])] at hs ⊢
  cases hr : p.req with
  | some q =>
    rw [hr] at hs
    exact tail_200 h h0 (by rw [hr]; simp) hs
  | none =>
    rw [hr] at hs
    dsimp only at hs ⊢
    by_cases h1 : (headM p.inp).s = 0
    · rw [if_neg (by simp [h1])] at hs ⊢
      cases hg : (headM p.inp).got with
      | false => rw [hg] at hs; simp at hs
      | true =>
        rw [hg] at hs
        have := tail_200 (headed_ok h h0 hr hg) h0 (by simp [headed]) hs
        refine ⟨this.1, Nat.le_trans this.2 ?_⟩
        have hb := (head_bounds p.inp).2.1 hg
        unfold InS.left
        show (p.inp.drop (headM p.inp).n).length + (headM p.inp).n ≤ p.inp.length + p.held
        rw [List.length_drop]; omega
    · rw [if_pos h1] at hs
      exact absurd hs (head_ne200 p.inp)
theorem tail_le {p : InS} (q : Req) (h : p.ok) (h0 : p.st = 0) (_hq : p.req ≠ none) : (tailI p q).p.left ≤ p.left := by
  cases hc : p.chk with
  | none =>
    rcases Nat.lt_or_ge p.inp.length p.skip with hlt | hge
    · rw [tail_none' q hc hlt]; unfold InS.left; simp only [List.length_nil]; omega
    · rw [tail_none q hc hge]; unfold InS.left; simp only [List.length_drop]; omega
  | some c =>
    obtain ⟨k1, k2, k3, k4⟩ := h.chk c hc
    have ke := h.bad c h0 hc
    obtain ⟨d1, d2, d3, d4⟩ := addC_sound p.inp k1 k4
    have d5 := addC_ne17 (c := c) p.inp (by rw [ke]; decide)
    by_cases e1 : (addC c p.inp).err = 0
    · by_cases e2 : (addC c p.inp).st = 4
      · rw [tail_done q hc e1 e2]; unfold InS.left; simp only; omega
      · rw [tail_more q hc e1 e2]; unfold InS.left; simp only [List.length_nil]; omega
    · rw [tail_bad q hc e1 d5]; unfold InS.left; simp only [List.length_nil]; omega
theorem next_le {p : InS} (h : p.ok) : (nextI p).p.left ≤ p.left := by
  unfold nextI
  by_cases h0 : p.st = 0
  · rw [if_neg (by simp [h0])]
    cases hr : p.req with
    | some q => exact tail_le q h h0 (by rw [hr]; simp)
    | none =>
      dsimp only
      by_cases hs : (headM p.inp).s = 0
      · rw [if_neg (by simp [hs])]
        cases hg : (headM p.inp).got with
        | false => exact Nat.le_refl _
        | true =>
          refine Nat.le_trans (tail_le _ (headed_ok h h0 hr hg) h0 (by simp [headed])) ?_
          have hb := (head_bounds p.inp).2.1 hg
          unfold InS.left
          show (p.inp.drop (headM p.inp).n).length + (headM p.inp).n ≤ p.inp.length + p.held
          rw [List.length_drop]; omega
      · rw [if_pos hs]; exact Nat.le_refl _
  · rw [if_pos h0]; exact Nat.le_refl _
theorem next_st {p : InS} (h : p.ok) (h0 : p.st = 0) (hs : (nextI p).s = 200) : (nextI p).p.st = 0 := (next_200 h h0 hs).1
end Go.Proofs.YtpimfoohpfkciaaDoor
