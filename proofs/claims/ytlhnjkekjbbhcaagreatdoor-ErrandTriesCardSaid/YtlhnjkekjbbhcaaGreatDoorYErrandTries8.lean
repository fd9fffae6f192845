/- Parts of the proof of ErrandTries, in order. No conditions but those that each theorem states. -/
import Derived.Test.YtlhnjkekjbbhcaaGreatDoorYErrandTries0
import Derived.Deep.MidRow
import Derived.Lib.BufferWrite
import Derived.Test.YtlhnjkekjbbhcaaGreatDoorYErrandTries6
import Derived.Test.YtlhnjkekjbbhcaaGreatDoorYErrandTries7
set_option linter.unusedSimpArgs false
set_option linter.unusedVariables false
namespace Go.Proofs.YtlhnjkekjbbhcaaGreatDoor
open Go.RowKit
structure Ck where
  st : Nat
  left : Nat
  most : Nat
  flds : Nat
  inp : List UInt8
  dat : List UInt8
  err : Int
def Ck.add (c : Ck) (s : List UInt8) : Ck := { c with inp := c.inp ++ s }
structure LnR where
  t : List UInt8
  e : Int
  r : List UInt8
def crlfC : List UInt8 := [13, 10]
def lnC (l : List UInt8) : LnR :=
  if Lib.indexByte (l.take 256) 10 < 0 then (if 256 ≤ l.length then ⟨[], 3, l⟩ else ⟨[], 17, l⟩)
  else if Lib.hasSuffix (l.take ((Lib.indexByte (l.take 256) 10).toNat + 1)) crlfC then ⟨Lib.trimSuffix (l.take ((Lib.indexByte (l.take 256) 10).toNat + 1)) crlfC, 0, l.drop ((Lib.indexByte (l.take 256) 10).toNat + 1)⟩ else ⟨[], 3, l⟩
def digitsB : List UInt8 := [48, 49, 50, 51, 52, 53, 54, 55, 56, 57, 97, 98, 99, 100, 101, 102, 65, 66, 67, 68, 69, 70]
def restOk (r : List UInt8) : Bool := r.isEmpty || (isTxt r && decide (0 ≤ Lib.indexByte [32, 9, 59] (r.getD 0 0)))
def numRest (t : List UInt8) : List UInt8 := Lib.trimLeftS t digitsB
def numT (t : List UInt8) : List UInt8 := t.take (t.length - (numRest t).length)
def numE (t : List UInt8) (m : Int) : Int := if restOk (numRest t) then (if unhexE (numT t) m = 14 then 4 else unhexE (numT t) m) else 3
def numV (t : List UInt8) (m : Int) : Int := unhexV (numT t) m
def beginM (c : Ck) : Ck × Int :=
  if (lnC c.inp).e ≠ 0 then (c, (lnC c.inp).e)
  else if numE (lnC c.inp).t ((c.most : Int) - c.dat.length) ≠ 0 then ({ c with inp := (lnC c.inp).r }, numE (lnC c.inp).t ((c.most : Int) - c.dat.length))
  else ({ c with inp := (lnC c.inp).r, left := (numV (lnC c.inp).t ((c.most : Int) - c.dat.length)).toNat, st := if numV (lnC c.inp).t ((c.most : Int) - c.dat.length) = 0 then 3 else 1 }, 0)
def dataM (c : Ck) : Ck × Int :=
  if 0 < c.left - min c.left c.inp.length then ({ c with inp := c.inp.drop (min c.left c.inp.length), dat := c.dat ++ c.inp.take (min c.left c.inp.length), left := c.left - min c.left c.inp.length }, 17)
  else ({ c with inp := c.inp.drop (min c.left c.inp.length), dat := c.dat ++ c.inp.take (min c.left c.inp.length), left := c.left - min c.left c.inp.length, st := 2 }, 0)
def closeM (c : Ck) : Ck × Int :=
  if c.inp.take 2 ≠ crlfC.take c.inp.length then (c, 3)
  else if c.inp.length < 2 then (c, 17)
  else ({ c with inp := c.inp.drop 2, st := 0 }, 0)
def trailM (c : Ck) : Ck × Int :=
  if (lnC c.inp).e ≠ 0 then (c, (lnC c.inp).e)
  else if (lnC c.inp).t = [] then ({ c with inp := (lnC c.inp).r, st := 4 }, 0)
  else if parseE (lnC c.inp).t ≠ 0 then ({ c with inp := (lnC c.inp).r }, parseE (lnC c.inp).t)
  else ({ c with inp := (lnC c.inp).r, flds := c.flds + 1 }, if 16 < c.flds + 1 then 4 else 0)
def stepM (c : Ck) : Ck × Int := if c.st = 0 then beginM c else if c.st = 1 then dataM c else if c.st = 2 then closeM c else if c.st = 3 then trailM c else (c, 17)
theorem suffix_len {a b : List UInt8} (h : Lib.hasSuffix a b = true) : b.length ≤ a.length := by
  unfold Lib.hasSuffix at h; rw [List.isSuffixOf_iff_suffix] at h; exact h.length_le
theorem line_short {l : List UInt8} (h : Lib.indexByte (l.take 256) 10 < 0) : lnC l = if 256 ≤ l.length then ⟨[], 3, l⟩ else ⟨[], 17, l⟩ := by unfold lnC; rw [if_pos h]
theorem line_at {l : List UInt8} {k : Nat} (h : Lib.indexByte (l.take 256) 10 = (k : Nat)) : lnC l = if Lib.hasSuffix (l.take (k + 1)) crlfC then ⟨Lib.trimSuffix (l.take (k + 1)) crlfC, 0, l.drop (k + 1)⟩ else ⟨[], 3, l⟩ := by
  unfold lnC; rw [if_neg (by omega), h]; rfl
theorem line_cases (l : List UInt8) : Lib.indexByte (l.take 256) 10 < 0 ∨ ∃ k : Nat, Lib.indexByte (l.take 256) 10 = (k : Nat) ∧ k < l.length ∧ k < 256 := by
  by_cases h : Lib.indexByte (l.take 256) 10 < 0
  · exact .inl h
  · obtain ⟨k, hk⟩ : ∃ k : Nat, Lib.indexByte (l.take 256) 10 = (k : Nat) := ⟨(Lib.indexByte (l.take 256) 10).toNat, by omega⟩
    have := (List.getElem?_eq_some_iff.1 (Lib.indexByte_some hk).1).1; rw [List.length_take] at this; exact .inr ⟨k, hk, by omega, by omega⟩
theorem line_le (l : List UInt8) : (lnC l).r.length ≤ l.length ∧ ((lnC l).e = 0 → (lnC l).r.length + 2 ≤ l.length) ∧ (lnC l).t.length ≤ 256 ∧ ((lnC l).e = 0 ∨ (lnC l).e = 3 ∨ (lnC l).e = 17) ∧ (lnC l).t.length ≤ l.length := by
  rcases line_cases l with hn | ⟨k, hk, hkl, h256⟩
  · rw [line_short hn]
    split <;> simp
  · rw [line_at hk]; by_cases hs : Lib.hasSuffix (l.take (k + 1)) crlfC = true
    · rw [if_pos hs]; have := suffix_len hs; rw [List.length_take] at this; have h2 : crlfC.length = 2 := rfl; unfold Lib.trimSuffix; rw [if_pos hs]; simp; omega
    · rw [if_neg hs]; simp
theorem line_err {l : List UInt8} (h : (lnC l).e ≠ 0) : (lnC l).r = l ∧ (lnC l).t = [] := by
  rcases line_cases l with hn | ⟨k, hk, hkl, h256⟩
  · rw [line_short hn]
    split <;> simp
  · rw [line_at hk] at h ⊢; by_cases hs : Lib.hasSuffix (l.take (k + 1)) crlfC = true
    · rw [if_pos hs] at h; simp at h
    · rw [if_neg hs]; simp
theorem numV_range {t : List UInt8} {m : Int} (h : numE t m = 0) : 0 ≤ numV t m ∧ numV t m ≤ m := by
  unfold numE at h; have := unhex_range (numT t) m; by_cases h0 : unhexE (numT t) m = 0
  · exact this.1 h0
  · rcases (this.2 h0).2 with h1 | h1 <;> rw [h1] at h <;> split at h <;> simp at h
theorem parseE_cases (l : List UInt8) : parseE l = 0 ∨ parseE l = 3 := by unfold parseE; split <;> simp
theorem data_eq (c : Ck) (n : Nat) (hn : min c.left c.inp.length = n) : dataM c = if 0 < c.left - n then ({ c with inp := c.inp.drop n, dat := c.dat ++ c.inp.take n, left := c.left - n }, 17)
    else ({ c with inp := c.inp.drop n, dat := c.dat ++ c.inp.take n, left := c.left - n, st := 2 }, 0) := by subst hn; rfl
def Ck.ok (c : Ck) : Prop := c.left + c.dat.length ≤ c.most ∧ c.flds ≤ 16 ∧ c.st ≤ 4
def Ck.mu (c : Ck) : Nat := 2 * c.inp.length + (if c.st = 1 then 1 else 0)
theorem begin_ok {c : Ck} (h : c.ok) (_h0 : c.st = 0) : ((beginM c).2 = 0 → (beginM c).1.mu < c.mu) ∧ (beginM c).1.ok ∧ (beginM c).1.most = c.most ∧ (beginM c).1.err = c.err ∧ (beginM c).1.inp.length + (beginM c).1.dat.length ≤ c.inp.length + c.dat.length ∧ c.dat <+: (beginM c).1.dat := by
  obtain ⟨h1, h2, h3⟩ := h; have hl := line_le c.inp; unfold beginM
  split
  · exact ⟨fun hh => absurd hh (by assumption), ⟨h1, h2, h3⟩, rfl, rfl, Nat.le_refl _, List.prefix_refl _⟩
  · rename_i he; have he : (lnC c.inp).e = 0 := by simpa using he
    have hl2 := hl.2.1 he
    split
    · exact ⟨fun hh => absurd hh (by assumption), ⟨h1, h2, h3⟩, rfl, rfl, by simp only; omega, List.prefix_refl _⟩
    · rename_i hn; have hn : numE (lnC c.inp).t ((c.most : Int) - c.dat.length) = 0 := by simpa using hn
      have hv := numV_range hn; refine ⟨fun _ => ?_, ⟨?_, h2, ?_⟩, rfl, rfl, by simp only; omega, List.prefix_refl _⟩
      · unfold Ck.mu; simp only; split <;> split <;> omega
      · simp only; omega
      · simp only; split <;> omega
theorem trail_ok {c : Ck} (h : c.ok) (h0 : c.st = 3) : ((trailM c).2 = 0 → (trailM c).1.mu < c.mu) ∧ ((trailM c).2 = 0 ∨ (trailM c).2 = 17 → (trailM c).1.ok) ∧ (trailM c).1.most = c.most ∧ (trailM c).1.err = c.err ∧ (trailM c).1.inp.length + (trailM c).1.dat.length ≤ c.inp.length + c.dat.length ∧ c.dat <+: (trailM c).1.dat := by
  obtain ⟨h1, h2, h3⟩ := h; have hl := line_le c.inp; unfold trailM
  split
  · exact ⟨fun hh => absurd hh (by assumption), fun _ => ⟨h1, h2, h3⟩, rfl, rfl, Nat.le_refl _, List.prefix_refl _⟩
  · rename_i he; have he : (lnC c.inp).e = 0 := by simpa using he
    have hl2 := hl.2.1 he; have hmu : c.mu = 2 * c.inp.length := by unfold Ck.mu; rw [if_neg (by omega)]; omega
    split
    · exact ⟨fun _ => by rw [hmu]; unfold Ck.mu; simp; omega, fun _ => ⟨h1, h2, by simp only; omega⟩, rfl, rfl, by simp only; omega, List.prefix_refl _⟩
    · split
      · exact ⟨fun hh => absurd hh (by assumption), fun _ => ⟨h1, h2, h3⟩, rfl, rfl, by simp only; omega, List.prefix_refl _⟩
      · refine ⟨fun _ => by rw [hmu]; unfold Ck.mu; simp only; rw [if_neg (by omega)]; omega, fun hh => ⟨h1, ?_, h3⟩, rfl, rfl, by simp only; omega, List.prefix_refl _⟩; simp only at hh ⊢
        split at hh
        · rcases hh with hh | hh <;> simp at hh
        · omega
theorem close_ok {c : Ck} (h : c.ok) (h0 : c.st = 2) : ((closeM c).2 = 0 → (closeM c).1.mu < c.mu) ∧ (closeM c).1.ok ∧ (closeM c).1.most = c.most ∧ (closeM c).1.err = c.err ∧ (closeM c).1.inp.length + (closeM c).1.dat.length ≤ c.inp.length + c.dat.length ∧ c.dat <+: (closeM c).1.dat := by
  obtain ⟨h1, h2, h3⟩ := h; unfold closeM
  split
  · exact ⟨fun hh => by simp at hh, ⟨h1, h2, h3⟩, rfl, rfl, Nat.le_refl _, List.prefix_refl _⟩
  · split
    · exact ⟨fun hh => by simp at hh, ⟨h1, h2, h3⟩, rfl, rfl, Nat.le_refl _, List.prefix_refl _⟩
    · refine ⟨fun _ => ?_, ⟨h1, h2, by simp only; omega⟩, rfl, rfl, by simp only [List.length_drop]; omega, List.prefix_refl _⟩; unfold Ck.mu; simp only [List.length_drop]; rw [if_neg (by omega), if_neg (by omega)]; omega
theorem data_ok {c : Ck} (h : c.ok) (h0 : c.st = 1) : ((dataM c).2 = 0 → (dataM c).1.mu < c.mu) ∧ (dataM c).1.ok ∧ (dataM c).1.most = c.most ∧ (dataM c).1.err = c.err ∧ (dataM c).1.inp.length + (dataM c).1.dat.length ≤ c.inp.length + c.dat.length ∧ c.dat <+: (dataM c).1.dat := by
  obtain ⟨h1, h2, h3⟩ := h; unfold dataM
  split
  · refine ⟨fun hh => by simp at hh, ⟨?_, h2, h3⟩, rfl, rfl, ?_, List.prefix_append _ _⟩
    · simp only [List.length_append, List.length_take]; omega
    · simp only [List.length_append, List.length_take, List.length_drop]; omega
  · refine ⟨fun _ => ?_, ⟨?_, h2, by simp only; omega⟩, rfl, rfl, ?_, List.prefix_append _ _⟩
    · unfold Ck.mu; simp only [List.length_drop]; rw [if_neg (by omega), if_pos h0]; omega
    · simp only [List.length_append, List.length_take]; omega
    · simp only [List.length_append, List.length_take, List.length_drop]; omega
theorem step_ok {c : Ck} (h : c.ok) : ((stepM c).2 = 0 → (stepM c).1.mu < c.mu) ∧ ((stepM c).2 = 0 ∨ (stepM c).2 = 17 → (stepM c).1.ok) ∧ (stepM c).1.most = c.most ∧ (stepM c).1.err = c.err ∧ (stepM c).1.inp.length + (stepM c).1.dat.length ≤ c.inp.length + c.dat.length ∧ c.dat <+: (stepM c).1.dat := by
  unfold stepM
  split
  · have := begin_ok h (by assumption); exact ⟨this.1, fun _ => this.2.1, this.2.2⟩
  split
  · have := data_ok h (by assumption); exact ⟨this.1, fun _ => this.2.1, this.2.2⟩
  split
  · have := close_ok h (by assumption); exact ⟨this.1, fun _ => this.2.1, this.2.2⟩
  split
  · exact trail_ok h (by assumption)
  · exact ⟨fun hh => by simp at hh, fun _ => h, rfl, rfl, Nat.le_refl _, List.prefix_refl _⟩
inductive Runs : Ck → Ck → Int → Prop
  | stop {c : Ck} : (stepM c).2 ≠ 0 → Runs c (stepM c).1 (stepM c).2
  | more {c d : Ck} {e : Int} : (stepM c).2 = 0 → Runs (stepM c).1 d e → Runs c d e
theorem runs_ne {c d : Ck} {e : Int} (h : Runs c d e) : e ≠ 0 := by
  induction h with
  | stop h => exact h
  | more _ _ ih => exact ih
theorem runs_ok {c d : Ck} {e : Int} (h : Runs c d e) (hc : c.ok) : (e = 17 → d.ok) ∧ d.most = c.most ∧ d.err = c.err ∧ d.inp.length + d.dat.length ≤ c.inp.length + c.dat.length ∧ c.dat <+: d.dat := by
  induction h with
  | stop h => have := step_ok hc; exact ⟨fun h17 => this.2.1 (.inr h17), this.2.2⟩
  | more h _ ih =>
    have hs := step_ok hc; obtain ⟨i1, i2, i3, i4, i5⟩ := ih (hs.2.1 (.inl h)); exact ⟨i1, i2.trans hs.2.2.1, i3.trans hs.2.2.2.1, Nat.le_trans i4 hs.2.2.2.2.1, hs.2.2.2.2.2.trans i5⟩
end Go.Proofs.YtlhnjkekjbbhcaaGreatDoor
namespace Go.Proofs.YtlhnjkekjbbhcaaGreatDoor
open Go.RowKit Go.Shelf
theorem Blk.there' {w : World} {b : Nat} {T : TypeId} {xs : List Value} (h : Blk w b T xs) (o n : Nat) (hl : o + n ≤ xs.length) : w.there b o n := fun j hj =>
  ⟨by rw [h.cell, List.getElem?_eq_getElem (by omega)]; rfl, h.frozen _⟩
theorem Blk.range' {w : World} {b : Nat} {T : TypeId} {xs : List Value} (h : Blk w b T xs) : w.rangeAt b 0 xs := fun j v hv => by rw [Nat.zero_add]; exact h.get hv
theorem Keep.setCells' {S : List Nat} {a : World} (b : Nat) (hb : b < a.heap.size → b ∈ S) : ∀ (vs : List Value) (o : Nat) (w : World), Keep S a w → Keep S a (w.setCells b o vs)
  | [], _, _, h => h
  | v :: r, o, w, h => by
    rw [World.setCells]; exact Keep.setCells' b hb r (o + 1) _ (h.setCell _ _ hb)
def stampM (l : List UInt8) : List UInt8 := [115, 104, 97, 50, 53, 54, 58] ++ hexS l
theorem stampM_len (d : Dig) : (stampM d.1).length = 71 := by unfold stampM; rw [List.length_append, hexS_len, d.2]; rfl
theorem dig_back (w : World) (d : Dig) : (convert 143 9 (.slice (some ⟨w.heap.size, 0, none⟩) 32 32)).run Tryz.prog (w.alloc (.cells (digC d).toArray 23)) = .ok (.string (S d.1)) (w.alloc (.cells (digC d).toArray 23)) := by
  have hb := Blk.newA w (digC d).toArray 23
  have := run_convert_bytes_back (P := Tryz.prog) (w.alloc (.cells (digC d).toArray 23)) 143 9 5 ⟨w.heap.size, 0, none⟩ 32 d.1 Tryz.underlying143 Tryz.underlying5 Tryz.underlying9 (fun j hj => by
    have ha : (⟨w.heap.size, 0, none⟩ : Addr).add j = ⟨w.heap.size, j, none⟩ := by unfold Addr.add; split <;> simp_all
    rw [ha]; exact hb.get (k := j) (by simp [digC, hj]))
  rwa [d.2] at this
set_option maxRecDepth 100000 in
set_option maxHeartbeats 2000000 in
theorem stamp_Print (d : Dig) (w : World) :
    Calls Tryz.prog 83 #[.agg (digC d).toArray] w fun e w' => e = .returned (.string (S (stampM d.1))) ∧ Keep [] w w' := by
  have kA := (Keep.refl [] w).alloc (.cells (digC d).toArray 23); have hcv := dig_back w d; have hdl := digC_length d; have HH := Lib.hid (fun w' => hexa_Hex d.1 w' (by rw [d.2]; decide)); have hcat : (⟨#[115, 104, 97, 50, 53, 54, 58]⟩ : ByteArray) ++ S (hexS d.1) = S (stampM d.1) := S_append [115, 104, 97, 50, 53, 54, 58] _; have hhl : (hexS d.1).length = 64 := by rw [hexS_len, d.2]
  have s1 := S_size (hexS d.1); rw [hhl] at s1; generalize hexS d.1 = hx at *; generalize stampM d.1 = st at *; generalize hwA : w.alloc (.cells (digC d).toArray 23) = wA at kA hcv; have KA := Lib.hid kA; clear kA; go_enter Tryz.func83, Tryz.ntmps83; go_wp2_with fail; refine (HH.out _).mono ?_; rintro e w5 ⟨rfl, k5⟩; have K5 := Lib.hid (KA.out.trans k5); clear k5; go_wp2_with fail; go_ret; exact ⟨rfl, K5.out⟩
theorem dig_size (d : Dig) : (Tryz.prog.info? 23).map (·.size) = some (digC d).length := by rw [digC_length]; kernel_rfl
def zeroD : Dig := ⟨List.replicate 32 0, by simp⟩
def pfxD : List UInt8 := [115, 104, 97, 50, 53, 54, 58]
def digO (l : List UInt8) : Option Dig := if h : l.length = 32 then some ⟨l, h⟩ else none
def behindO (s : List UInt8) : Option Dig := if Lib.hasPrefix s pfxD then (unhexM (s.drop 7)).bind digO else none
def digOut (o : Option Dig) : Ending := .returned (.tuple #[.agg (digC (o.getD zeroD)).toArray, .bool o.isSome])
theorem dig_one (d : Dig) : ∀ v ∈ digC d, v.oneCell' = true := by
  intro v hv; simp only [digC, List.mem_map] at hv; obtain ⟨b, _, rfl⟩ := hv; rfl
theorem dig_st (d : Dig) : (Tryz.prog.info? 23).map (·.size) = some (digC d).toArray.size ∧ (digC d).toArray.all (·.oneCell') = true := ⟨by rw [List.size_toArray]; exact dig_size d, all_oneCell_toArray (dig_one d)⟩
theorem dig_load {w : World} {b : Nat} {d : Dig} (h : w.rangeAt b 0 (digC d)) : (loadVar 23 ⟨b, 0, none⟩).run Tryz.prog w = .ok (.agg (digC d).toArray) w :=
  run_loadVar_mid (P := Tryz.prog) w b 0 23 (digC d) _ h Tryz.underlying23 rfl (dig_size d)
theorem digC_zero : digC zeroD = [.int .u8 0, .int .u8 0, .int .u8 0, .int .u8 0, .int .u8 0, .int .u8 0, .int .u8 0, .int .u8 0, .int .u8 0, .int .u8 0, .int .u8 0, .int .u8 0, .int .u8 0, .int .u8 0, .int .u8 0, .int .u8 0, .int .u8 0, .int .u8 0, .int .u8 0, .int .u8 0, .int .u8 0, .int .u8 0, .int .u8 0, .int .u8 0, .int .u8 0, .int .u8 0, .int .u8 0, .int .u8 0, .int .u8 0, .int .u8 0, .int .u8 0, .int .u8 0] := rfl
set_option maxRecDepth 100000 in
set_option maxHeartbeats 2000000 in
theorem stamp_behind (s : List UInt8) (w : World) (hs : s.length ≤ 1048576) :
    Calls Tryz.prog 170 #[.string (S s), .string ⟨#[115, 104, 97, 50, 53, 54, 58]⟩] w fun e w' => e = digOut (behindO s) ∧ Keep [] w w' := by
  have hBO : behindO s = if Lib.hasPrefix s pfxD then (unhexM (s.drop 7)).bind digO else none := rfl
  have HBO := Lib.hid hBO; have kA := (Keep.refl [] w).alloc (.cells (digC zeroD).toArray 23); have bA := Blk.newA w (digC zeroD).toArray 23; have szA : w.heap.size < (w.alloc (.cells (digC zeroD).toArray 23)).heap.size := by simp
  have hcp : ∀ w', Calls Tryz.prog 74 #[.string (S s), .string ⟨#[115, 104, 97, 50, 53, 54, 58]⟩] w' fun e w1 => e = .returned (.tuple #[.string (S (Lib.trimPrefix s pfxD)), .bool (Lib.hasPrefix s pfxD)]) ∧ w1 = w' := fun w' => by
    have := Tryz.strings_CutPrefix (S s) ⟨#[115, 104, 97, 50, 53, 54, 58]⟩ w'; rw [S_list] at this; exact this
  clear hBO; rw [digC_zero] at kA bA szA; generalize hwA : w.alloc (.cells [.int .u8 0, .int .u8 0, .int .u8 0, .int .u8 0, .int .u8 0, .int .u8 0, .int .u8 0, .int .u8 0, .int .u8 0, .int .u8 0, .int .u8 0, .int .u8 0, .int .u8 0, .int .u8 0, .int .u8 0, .int .u8 0, .int .u8 0, .int .u8 0, .int .u8 0, .int .u8 0, .int .u8 0, .int .u8 0, .int .u8 0, .int .u8 0, .int .u8 0, .int .u8 0, .int .u8 0, .int .u8 0, .int .u8 0, .int .u8 0, .int .u8 0, .int .u8 0].toArray 23) = wA at kA bA szA; have bA : Blk wA w.heap.size 23 (digC zeroD) := bA; have KA := Lib.hid kA; have BA := Lib.hid bA; have SZ := Lib.hid szA; have HS0 := Lib.hid (dig_st zeroD); have HDS := Lib.hid (dig_size zeroD); have HLZ := Lib.hid (fun w' b (h : w'.there b 0 32) => dig_load (World.rangeAt_setCells_same w' b 0 (digC zeroD) (by rw [digC_length]; exact h))); have KZ := Lib.hid (show Keep [] w (wA.setCells w.heap.size 0 (digC zeroD)) from Keep.setCells' _ (fun hh => absurd hh (by omega)) _ _ _ KA.out); clear kA bA szA; have hwA2 : w.alloc (.cells #[.int .u8 0, .int .u8 0, .int .u8 0, .int .u8 0, .int .u8 0, .int .u8 0, .int .u8 0, .int .u8 0, .int .u8 0, .int .u8 0, .int .u8 0, .int .u8 0, .int .u8 0, .int .u8 0, .int .u8 0, .int .u8 0, .int .u8 0, .int .u8 0, .int .u8 0, .int .u8 0, .int .u8 0, .int .u8 0, .int .u8 0, .int .u8 0, .int .u8 0, .int .u8 0, .int .u8 0, .int .u8 0, .int .u8 0, .int .u8 0, .int .u8 0, .int .u8 0] 23) = wA := hwA; clear hwA
  cases hp : Lib.hasPrefix s pfxD with
  | false =>
    have htp : Lib.trimPrefix s pfxD = s := by unfold Lib.trimPrefix; rw [hp]; rfl
    have HR := Lib.hid (show behindO s = none by rw [HBO.out, hp]; rfl); rw [htp, hp] at hcp; have HCP := Lib.hid hcp; clear hp htp hcp HBO; go_enter Tryz.func170, Tryz.ntmps170
    go_wp2_with (first | (go_at_call 74; refine (HCP.out _).mono ?_; rintro e w1 ⟨rfl, h1⟩; have h1 := h1.symm; subst h1) | ((with_reducible refine gM 4 ?_); refine wpList_load_mid rfl 23 (.tmp 4) rfl w.heap.size 0 (by rfl) (digC zeroD) _ BA.out.range' Tryz.underlying23 rfl HDS.out ?_; try simp only [Act.put, sqA, sqB, sqC]) | ((with_reducible refine gS 4 18 ?_); refine wpList_store_mid rfl 23 (.tmp 4) (.tmp 18) rfl w.heap.size 0 (digC zeroD).toArray (by rfl) (by first | rfl | kernel_rfl) (BA.out.there' 0 32 (by rw [digC_length]; exact Nat.le_refl _)) HS0.out.1 HS0.out.2 ?_; try simp only [Act.put]) | fail); have hload := HLZ.out wA w.heap.size (BA.out.there' 0 32 (by rw [digC_length]; exact Nat.le_refl _)); rw [HR.out]; refine bodyPost_ret (v := .tuple #[.agg (digC zeroD).toArray, .bool false]) (by simp [results, Tryz.results170, asAddr, Result.andThen, hload]) rfl ⟨rfl, KZ.out⟩
  | true =>
    have htp : Lib.trimPrefix s pfxD = s.drop 7 := by unfold Lib.trimPrefix; rw [hp]; rfl
    have HR0 := Lib.hid (show behindO s = (unhexM (s.drop 7)).bind digO by rw [HBO.out, hp]; rfl); rw [htp, hp] at hcp; have HCP := Lib.hid hcp; clear hp htp hcp HBO; have hdl : (s.drop 7).length ≤ 1048576 := by rw [List.length_drop]; omega
    generalize s.drop 7 = r at *; have HU0 := fun w' => hexa_Unhex r w' hdl
    cases hu : unhexM r with
    | none =>
      have HR := Lib.hid (show behindO s = none by rw [HR0.out, hu]; rfl); have HU := Lib.hid (fun w' => show Calls Tryz.prog 206 #[.string (S r)] w' fun e w1 => e = .returned (.tuple #[.string (S []), .int .i64 3]) ∧ Keep [] w' w1 by have := HU0 w'; rw [hu] at this; exact this); clear hu HU0 HR0; go_enter Tryz.func170, Tryz.ntmps170
      go_wp2_with (first | (go_at_call 74; refine (HCP.out _).mono ?_; rintro e w1 ⟨rfl, h1⟩; have h1 := h1.symm; subst h1) | fail); refine (HU.out _).mono ?_; rintro e w2 ⟨rfl, k2⟩; have K2 := Lib.hid (KA.out.trans k2); have BA2 := Lib.hid (k2.blk BA.out (by simp)); have KZ2 := Lib.hid (show Keep [] w (w2.setCells w.heap.size 0 (digC zeroD)) from Keep.setCells' _ (fun hh => absurd hh (by omega)) _ _ _ K2.out); clear k2 hwA2
      go_wp2_with (first | ((with_reducible refine gM 4 ?_); refine wpList_load_mid rfl 23 (.tmp 4) rfl w.heap.size 0 (by rfl) (digC zeroD) _ BA2.out.range' Tryz.underlying23 rfl HDS.out ?_; try simp only [Act.put, sqA, sqB, sqC]) | ((with_reducible refine gS 4 31 ?_); refine wpList_store_mid rfl 23 (.tmp 4) (.tmp 31) rfl w.heap.size 0 (digC zeroD).toArray (by rfl) (by first | rfl | kernel_rfl) (BA2.out.there' 0 32 (by rw [digC_length]; exact Nat.le_refl _)) HS0.out.1 HS0.out.2 ?_; try simp only [Act.put]) | fail); have hload := HLZ.out w2 w.heap.size (BA2.out.there' 0 32 (by rw [digC_length]; exact Nat.le_refl _)); rw [HR.out]; refine bodyPost_ret (v := .tuple #[.agg (digC zeroD).toArray, .bool false]) (by simp [results, Tryz.results170, asAddr, Result.andThen, hload]) rfl ⟨rfl, KZ2.out⟩
    | some o =>
      have HU := Lib.hid (fun w' => show Calls Tryz.prog 206 #[.string (S r)] w' fun e w1 => e = .returned (.tuple #[.string (S o), .int .i64 0]) ∧ Keep [] w' w1 by have := HU0 w'; rw [hu] at this; exact this); have sO := S_size o; by_cases hl : o.length = 32
      · obtain ⟨d, rfl⟩ : ∃ d : Dig, o = d.1 := ⟨⟨o, hl⟩, rfl⟩
        have HR := Lib.hid (show behindO s = some d by rw [HR0.out, hu]; show digO d.1 = _; unfold digO; rw [dif_pos d.2]); have sO : (S d.1).size = 32 := by rw [sO, d.2]
        clear hu HU0 HR0 hl; go_enter Tryz.func170, Tryz.ntmps170
        go_wp2_with (first | (go_at_call 74; refine (HCP.out _).mono ?_; rintro e w1 ⟨rfl, h1⟩; have h1 := h1.symm; subst h1) | fail); refine (HU.out _).mono ?_; rintro e w2 ⟨rfl, k2⟩; have K2 := Lib.hid (KA.out.trans k2); have BA2 := Lib.hid (k2.blk BA.out (by simp)); clear k2 hwA2
        have hrow : (List.take 0 (digC zeroD).toArray.toList ++ Lib.byteCells (S d.1).data.toList ++ List.drop (0 + (S d.1).size) (digC zeroD).toArray.toList).toArray = (digC d).toArray := by
          rw [sO, S_list, List.take_zero, List.nil_append, List.drop_of_length_le (by simp [digC_length]), List.append_nil]; rfl
        have hcpy := Lib.run_copy_row_string (P := Tryz.prog) w2 143 9 3 5 w.heap.size 0 32 32 (S d.1) (digC zeroD).toArray 23 Tryz.underlying143 (by kernel_rfl) BA2.out (by rw [sO]; exact Nat.le_refl _) (by rw [sO]; simp [digC_length]); rw [hrow] at hcpy; have hbrow : Blk (w2.setRow w.heap.size (digC d).toArray) w.heap.size 23 (digC d) := setRow_heap w2 w.heap.size _ _ _ _ BA2.out; have krow : Keep [] w (w2.setRow w.heap.size (digC d).toArray) := K2.out.trans' (show Keep [w.heap.size] w2 _ from ⟨rfl, rfl, rfl, by simp, fun k hk hn => setRow_other w2 w.heap.size k _ (fun h => hn (by simp [h]))⟩) (fun x hx hlt => by have h1 : x = w.heap.size := (by simpa using hx); omega); generalize hw3 : w2.setRow w.heap.size (digC d).toArray = w3 at *; have KZ2 := Lib.hid (show Keep [] w (w3.setCells w.heap.size 0 (digC d)) from Keep.setCells' _ (fun hh => absurd hh (by omega)) _ _ _ krow); have B3 := Lib.hid hbrow; have HSd := Lib.hid (dig_st d); have hload := Lib.hid (dig_load (World.rangeAt_setCells_same w3 w.heap.size 0 (digC d) (by rw [digC_length]; exact B3.out.there' 0 32 (by rw [digC_length]; exact Nat.le_refl _)))); have q1 := (int_eq (show (d.1.length : Int) = 32 by rw [d.2]; rfl)).2; clear hrow hbrow krow hw3
        go_wp2_with (first | ((with_reducible refine gM 4 ?_); refine wpList_load_mid rfl 23 (.tmp 4) rfl w.heap.size 0 (by rfl) (digC d) _ B3.out.range' Tryz.underlying23 rfl (dig_size _) ?_; try simp only [Act.put, sqA, sqB, sqC]) | ((with_reducible refine gS 4 35 ?_); refine wpList_store_mid rfl 23 (.tmp 4) (.tmp 35) rfl w.heap.size 0 (digC d).toArray (by rfl) (by first | rfl | kernel_rfl) (B3.out.there' 0 _ (by simp)) HSd.out.1 HSd.out.2 ?_; try simp only [Act.put]) | fail); rw [HR.out]; refine bodyPost_ret (v := .tuple #[.agg (digC d).toArray, .bool true]) (by simp [results, Tryz.results170, asAddr, Result.andThen, hload.out]) rfl ⟨rfl, KZ2.out⟩
      · have HR := Lib.hid (show behindO s = none by rw [HR0.out, hu]; show digO o = _; unfold digO; rw [dif_neg hl]); have q1 := (int_ne (show (o.length : Int) ≠ 32 by omega)).2; clear hu HU0 HR0 hl; go_enter Tryz.func170, Tryz.ntmps170
        go_wp2_with (first | (go_at_call 74; refine (HCP.out _).mono ?_; rintro e w1 ⟨rfl, h1⟩; have h1 := h1.symm; subst h1) | fail); refine (HU.out _).mono ?_; rintro e w2 ⟨rfl, k2⟩; have K2 := Lib.hid (KA.out.trans k2); have BA2 := Lib.hid (k2.blk BA.out (by simp)); have KZ2 := Lib.hid (show Keep [] w (w2.setCells w.heap.size 0 (digC zeroD)) from Keep.setCells' _ (fun hh => absurd hh (by omega)) _ _ _ K2.out); clear k2 hwA2
        go_wp2_with (first | ((with_reducible refine gM 4 ?_); refine wpList_load_mid rfl 23 (.tmp 4) rfl w.heap.size 0 (by rfl) (digC zeroD) _ BA2.out.range' Tryz.underlying23 rfl HDS.out ?_; try simp only [Act.put, sqA, sqB, sqC]) | ((with_reducible refine gS 4 31 ?_); refine wpList_store_mid rfl 23 (.tmp 4) (.tmp 31) rfl w.heap.size 0 (digC zeroD).toArray (by rfl) (by first | rfl | kernel_rfl) (BA2.out.there' 0 32 (by rw [digC_length]; exact Nat.le_refl _)) HS0.out.1 HS0.out.2 ?_; try simp only [Act.put]) | fail); have hload := HLZ.out w2 w.heap.size (BA2.out.there' 0 32 (by rw [digC_length]; exact Nat.le_refl _)); rw [HR.out]; refine bodyPost_ret (v := .tuple #[.agg (digC zeroD).toArray, .bool false]) (by simp [results, Tryz.results170, asAddr, Result.andThen, hload]) rfl ⟨rfl, KZ2.out⟩
end Go.Proofs.YtlhnjkekjbbhcaaGreatDoor
