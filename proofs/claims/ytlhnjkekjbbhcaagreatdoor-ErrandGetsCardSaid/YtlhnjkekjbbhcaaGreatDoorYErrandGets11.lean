/- Parts of the proof of ErrandGets, in order. No conditions but those that each theorem states. -/
import Derived.Test.YtlhnjkekjbbhcaaGreatDoorYErrandGets0
import Derived.Test.YtlhnjkekjbbhcaaGreatDoorYErrandGets10
set_option linter.unusedSimpArgs false
set_option linter.unusedVariables false
namespace Go.Proofs.YtlhnjkekjbbhcaaGreatDoor
open Go.RowKit
structure Ck where
  st : Nat
  left : Nat
  most : Nat
  flds : Nat
  inp : List UInt8
  dat : List UInt8
  err : Int
def Ck.add (c : Ck) (s : List UInt8) : Ck := { c with inp := c.inp ++ s }
structure LnR where
  t : List UInt8
  e : Int
  r : List UInt8
def crlfC : List UInt8 := [13, 10]
def lnC (l : List UInt8) : LnR :=
  if Lib.indexByte (l.take 256) 10 < 0 then (if 256 ≤ l.length then ⟨[], 3, l⟩ else ⟨[], 17, l⟩)
  else if Lib.hasSuffix (l.take ((Lib.indexByte (l.take 256) 10).toNat + 1)) crlfC then ⟨Lib.trimSuffix (l.take ((Lib.indexByte (l.take 256) 10).toNat + 1)) crlfC, 0, l.drop ((Lib.indexByte (l.take 256) 10).toNat + 1)⟩ else ⟨[], 3, l⟩
def digitsB : List UInt8 := [48, 49, 50, 51, 52, 53, 54, 55, 56, 57, 97, 98, 99, 100, 101, 102, 65, 66, 67, 68, 69, 70]
def restOk (r : List UInt8) : Bool := r.isEmpty || (isTxt r && decide (0 ≤ Lib.indexByte [32, 9, 59] (r.getD 0 0)))
def numRest (t : List UInt8) : List UInt8 := Lib.trimLeftS t digitsB
def numT (t : List UInt8) : List UInt8 := t.take (t.length - (numRest t).length)
def numE (t : List UInt8) (m : Int) : Int := if restOk (numRest t) then (if unhexE (numT t) m = 14 then 4 else unhexE (numT t) m) else 3
def numV (t : List UInt8) (m : Int) : Int := unhexV (numT t) m
def beginM (c : Ck) : Ck × Int :=
  if (lnC c.inp).e ≠ 0 then (c, (lnC c.inp).e)
  else if numE (lnC c.inp).t ((c.most : Int) - c.dat.length) ≠ 0 then ({ c with inp := (lnC c.inp).r }, numE (lnC c.inp).t ((c.most : Int) - c.dat.length))
  else ({ c with inp := (lnC c.inp).r, left := (numV (lnC c.inp).t ((c.most : Int) - c.dat.length)).toNat, st := if numV (lnC c.inp).t ((c.most : Int) - c.dat.length) = 0 then 3 else 1 }, 0)
def dataM (c : Ck) : Ck × Int :=
  if 0 < c.left - min c.left c.inp.length then ({ c with inp := c.inp.drop (min c.left c.inp.length), dat := c.dat ++ c.inp.take (min c.left c.inp.length), left := c.left - min c.left c.inp.length }, 17)
  else ({ c with inp := c.inp.drop (min c.left c.inp.length), dat := c.dat ++ c.inp.take (min c.left c.inp.length), left := c.left - min c.left c.inp.length, st := 2 }, 0)
def closeM (c : Ck) : Ck × Int :=
  if c.inp.take 2 ≠ crlfC.take c.inp.length then (c, 3)
  else if c.inp.length < 2 then (c, 17)
  else ({ c with inp := c.inp.drop 2, st := 0 }, 0)
def trailM (c : Ck) : Ck × Int :=
  if (lnC c.inp).e ≠ 0 then (c, (lnC c.inp).e)
  else if (lnC c.inp).t = [] then ({ c with inp := (lnC c.inp).r, st := 4 }, 0)
  else if parseE (lnC c.inp).t ≠ 0 then ({ c with inp := (lnC c.inp).r }, parseE (lnC c.inp).t)
  else ({ c with inp := (lnC c.inp).r, flds := c.flds + 1 }, if 16 < c.flds + 1 then 4 else 0)
def stepM (c : Ck) : Ck × Int := if c.st = 0 then beginM c else if c.st = 1 then dataM c else if c.st = 2 then closeM c else if c.st = 3 then trailM c else (c, 17)
theorem suffix_len {a b : List UInt8} (h : Lib.hasSuffix a b = true) : b.length ≤ a.length := by
  unfold Lib.hasSuffix at h; rw [List.isSuffixOf_iff_suffix] at h; exact h.length_le
theorem line_short {l : List UInt8} (h : Lib.indexByte (l.take 256) 10 < 0) : lnC l = if 256 ≤ l.length then ⟨[], 3, l⟩ else ⟨[], 17, l⟩ := by unfold lnC; rw [if_pos h]
theorem line_at {l : List UInt8} {k : Nat} (h : Lib.indexByte (l.take 256) 10 = (k : Nat)) : lnC l = if Lib.hasSuffix (l.take (k + 1)) crlfC then ⟨Lib.trimSuffix (l.take (k + 1)) crlfC, 0, l.drop (k + 1)⟩ else ⟨[], 3, l⟩ := by
  unfold lnC; rw [if_neg (by omega), h]; rfl
theorem line_cases (l : List UInt8) : Lib.indexByte (l.take 256) 10 < 0 ∨ ∃ k : Nat, Lib.indexByte (l.take 256) 10 = (k : Nat) ∧ k < l.length ∧ k < 256 := by
  by_cases h : Lib.indexByte (l.take 256) 10 < 0
  · exact .inl h
  · obtain ⟨k, hk⟩ : ∃ k : Nat, Lib.indexByte (l.take 256) 10 = (k : Nat) := ⟨(Lib.indexByte (l.take 256) 10).toNat, by omega⟩
    have := (List.getElem?_eq_some_iff.1 (Lib.indexByte_some hk).1).1; rw [List.length_take] at this; exact .inr ⟨k, hk, by omega, by omega⟩
theorem line_app (l s : List UInt8) (h : (lnC l).e ≠ 17) : lnC (l ++ s) = ⟨(lnC l).t, (lnC l).e, (lnC l).r ++ s⟩ := by
  rcases line_cases l with hn | ⟨k, hk, hkl, h256⟩
  · rw [line_short hn] at h ⊢; by_cases hl : 256 ≤ l.length
    · have e : (l ++ s).take 256 = l.take 256 := List.take_append_of_le_length hl; have hn' : Lib.indexByte ((l ++ s).take 256) 10 < 0 := by rw [e]; exact hn
      rw [line_short hn', if_pos hl, if_pos (by simp; omega)]
    · rw [if_neg hl] at h; simp at h
  · obtain ⟨h1, h2⟩ := Lib.indexByte_some hk
    have e : Lib.indexByte ((l ++ s).take 256) 10 = (k : Nat) := by
      have ek : ∀ j, j < l.length → j < 256 → ((l ++ s).take 256)[j]? = (l.take 256)[j]? := by
        intro j hj hj2; rw [List.getElem?_take, List.getElem?_take, if_pos hj2, if_pos hj2, List.getElem?_append_left hj]
      refine indexByte_at ?_ (fun j hj => ?_)
      · rw [ek k hkl h256]; exact h1
      · rw [ek j (by omega) (by omega)]; exact h2 j hj
    rw [line_at e, line_at hk, List.take_append_of_le_length (by omega), List.drop_append_of_le_length (by omega)]
    split <;> rfl
theorem line_le (l : List UInt8) : (lnC l).r.length ≤ l.length ∧ ((lnC l).e = 0 → (lnC l).r.length + 2 ≤ l.length) ∧ (lnC l).t.length ≤ 256 ∧ ((lnC l).e = 0 ∨ (lnC l).e = 3 ∨ (lnC l).e = 17) ∧ (lnC l).t.length ≤ l.length := by
  rcases line_cases l with hn | ⟨k, hk, hkl, h256⟩
  · rw [line_short hn]
    split <;> simp
  · rw [line_at hk]; by_cases hs : Lib.hasSuffix (l.take (k + 1)) crlfC = true
    · rw [if_pos hs]; have := suffix_len hs; rw [List.length_take] at this; have h2 : crlfC.length = 2 := rfl; unfold Lib.trimSuffix; rw [if_pos hs]; simp; omega
    · rw [if_neg hs]; simp
theorem line_err {l : List UInt8} (h : (lnC l).e ≠ 0) : (lnC l).r = l ∧ (lnC l).t = [] := by
  rcases line_cases l with hn | ⟨k, hk, hkl, h256⟩
  · rw [line_short hn]
    split <;> simp
  · rw [line_at hk] at h ⊢; by_cases hs : Lib.hasSuffix (l.take (k + 1)) crlfC = true
    · rw [if_pos hs] at h; simp at h
    · rw [if_neg hs]; simp
theorem numE_cases (t : List UInt8) (m : Int) : numE t m = 0 ∨ numE t m = 3 ∨ numE t m = 4 := by
  unfold numE; have := unhex_range (numT t) m; by_cases h0 : unhexE (numT t) m = 0
  · rw [h0]; split <;> simp
  · rcases (this.2 h0).2 with h | h <;> rw [h] <;> split <;> simp
theorem numV_range {t : List UInt8} {m : Int} (h : numE t m = 0) : 0 ≤ numV t m ∧ numV t m ≤ m := by
  unfold numE at h; have := unhex_range (numT t) m; by_cases h0 : unhexE (numT t) m = 0
  · exact this.1 h0
  · rcases (this.2 h0).2 with h1 | h1 <;> rw [h1] at h <;> split at h <;> simp at h
theorem parseE_cases (l : List UInt8) : parseE l = 0 ∨ parseE l = 3 := by unfold parseE; split <;> simp
def Goes (f : Ck → Ck × Int) (c : Ck) (s : List UInt8) : Prop := ((f c).2 ≠ 17 → f (c.add s) = ((f c).1.add s, (f c).2)) ∧ ((f c).2 = 17 → f (c.add s) = f ((f c).1.add s))
theorem goes_line {f : Ck → Ck × Int} {c : Ck} {s : List UInt8} (g : Ck → LnR → Ck × Int) (hf : ∀ c, f c = if (lnC c.inp).e ≠ 0 then (c, (lnC c.inp).e) else g c (lnC c.inp)) (hg : ∀ t r, g (c.add s) ⟨t, 0, r ++ s⟩ = ((g c ⟨t, 0, r⟩).1.add s, (g c ⟨t, 0, r⟩).2) ∧ (g c ⟨t, 0, r⟩).2 ≠ 17) : Goes f c s := by
  unfold Goes; by_cases h0 : (lnC c.inp).e = 0
  · have h1 : f c = g c (lnC c.inp) := by rw [hf, if_neg (by simp [h0])]
    have h2 := line_app c.inp s (by rw [h0]; decide); have h3 : f (c.add s) = g (c.add s) (lnC (c.inp ++ s)) := by rw [hf, if_neg (by show ¬ (lnC (c.inp ++ s)).e ≠ 0; rw [h2]; simp [h0])]; rfl
    have h4 : lnC c.inp = ⟨(lnC c.inp).t, 0, (lnC c.inp).r⟩ := by rw [← h0]
    obtain ⟨g1, g2⟩ := hg (lnC c.inp).t (lnC c.inp).r; rw [← h4] at g1 g2; rw [h1, h3, h2, h0]; exact ⟨fun _ => g1, fun h => absurd h g2⟩
  · have h1 : f c = (c, (lnC c.inp).e) := by rw [hf, if_pos h0]
    rw [h1]; refine ⟨fun h => ?_, fun _ => rfl⟩; have h2 := line_app c.inp s h; rw [hf, if_pos (by show (lnC (c.inp ++ s)).e ≠ 0; rw [h2]; exact h0)]; show (c.add s, (lnC (c.inp ++ s)).e) = _; rw [h2]
theorem goes_begin (c : Ck) (s : List UInt8) : Goes beginM c s := by
  refine goes_line (fun c L => if numE L.t ((c.most : Int) - c.dat.length) ≠ 0 then ({ c with inp := L.r }, numE L.t ((c.most : Int) - c.dat.length))
    else ({ c with inp := L.r, left := (numV L.t ((c.most : Int) - c.dat.length)).toNat, st := if numV L.t ((c.most : Int) - c.dat.length) = 0 then 3 else 1 }, 0)) (fun c => rfl) (fun t r => ?_)
  have hc := numE_cases t ((c.most : Int) - c.dat.length); by_cases h : numE t ((c.most : Int) - c.dat.length) = 0
  · exact ⟨by simp [h, Ck.add]; rfl, by simp [h]⟩
  · exact ⟨by simp [h, Ck.add], by simp [h]; omega⟩
theorem goes_trail (c : Ck) (s : List UInt8) : Goes trailM c s := by
  refine goes_line (fun c L => if L.t = [] then ({ c with inp := L.r, st := 4 }, 0)
    else if parseE L.t ≠ 0 then ({ c with inp := L.r }, parseE L.t)
    else ({ c with inp := L.r, flds := c.flds + 1 }, if 16 < c.flds + 1 then 4 else 0)) (fun c => rfl) (fun t r => ?_)
  have hc := parseE_cases t; by_cases h1 : t = []
  · exact ⟨by simp [h1, Ck.add], by simp [h1]⟩
  · by_cases h : parseE t = 0
    · exact ⟨by simp [h1, h, Ck.add]; rfl, by simp [h1, h]; split <;> decide⟩
    · exact ⟨by simp [h1, h, Ck.add], by simp [h1, h]; omega⟩
theorem goes_close (c : Ck) (s : List UInt8) : Goes closeM c s := by
  unfold Goes; by_cases h1 : c.inp.take 2 = crlfC.take c.inp.length
  · by_cases h2 : c.inp.length < 2
    · have e : closeM c = (c, 17) := by unfold closeM; rw [if_neg (by simp [h1]), if_pos h2]
      rw [e]; exact ⟨fun h => absurd rfl h, fun _ => rfl⟩
    · have e : closeM c = ({ c with inp := c.inp.drop 2, st := 0 }, 0) := by unfold closeM; rw [if_neg (by simp [h1]), if_neg h2]
      rw [e]; refine ⟨fun _ => ?_, fun h => by simp at h⟩; have hk : (c.inp ++ s).take 2 = c.inp.take 2 := List.take_append_of_le_length (by omega); have hd : (c.inp ++ s).drop 2 = c.inp.drop 2 ++ s := List.drop_append_of_le_length (by omega)
      have h3 : crlfC.take (c.inp ++ s).length = crlfC.take c.inp.length := by
        rw [List.take_of_length_le (by simp [crlfC]; omega), List.take_of_length_le (by simp [crlfC]; omega)]
      show (if (c.inp ++ s).take 2 ≠ crlfC.take (c.inp ++ s).length then (c.add s, (3 : Int)) else if (c.inp ++ s).length < 2 then (c.add s, 17) else ({ c.add s with inp := (c.inp ++ s).drop 2, st := 0 }, 0)) = _; rw [hk, h3, if_neg (by simp [h1]), if_neg (by simp; omega), hd]; rfl
  · have e : closeM c = (c, 3) := by unfold closeM; rw [if_pos h1]
    rw [e]; refine ⟨fun _ => ?_, fun h => by simp at h⟩; show (if (c.inp ++ s).take 2 ≠ crlfC.take (c.inp ++ s).length then (c.add s, (3 : Int)) else if (c.inp ++ s).length < 2 then (c.add s, 17) else ({ c.add s with inp := (c.inp ++ s).drop 2, st := 0 }, 0)) = _; rw [if_pos]
    · intro h; apply h1; have := congrArg (List.take c.inp.length) h; rw [List.take_take, List.take_take] at this; have e1 : min c.inp.length (c.inp ++ s).length = c.inp.length := by simp
      rw [e1] at this; rw [← this]; rcases Nat.lt_or_ge c.inp.length 2 with hl | hl
      · rw [Nat.min_eq_left (by omega), List.take_left, List.take_of_length_le (by omega)]
      · rw [Nat.min_eq_right hl, List.take_append_of_le_length hl]
theorem data_eq (c : Ck) (n : Nat) (hn : min c.left c.inp.length = n) : dataM c = if 0 < c.left - n then ({ c with inp := c.inp.drop n, dat := c.dat ++ c.inp.take n, left := c.left - n }, 17)
    else ({ c with inp := c.inp.drop n, dat := c.dat ++ c.inp.take n, left := c.left - n, st := 2 }, 0) := by subst hn; rfl
theorem goes_data (c : Ck) (s : List UInt8) : Goes dataM c s := by
  unfold Goes; by_cases h : c.inp.length < c.left
  · have e : dataM c = ({ c with inp := [], dat := c.dat ++ c.inp, left := c.left - c.inp.length }, 17) := by
      rw [data_eq c c.inp.length (by omega), if_pos (by omega), List.drop_length, List.take_length]
    rw [e]; refine ⟨fun h => absurd rfl h, fun _ => ?_⟩
    rw [data_eq (c.add s) (c.inp.length + min (c.left - c.inp.length) s.length) (by show min c.left (c.inp ++ s).length = _; rw [List.length_append]; omega),
      data_eq (({ c with inp := [], dat := c.dat ++ c.inp, left := c.left - c.inp.length } : Ck).add s) (min (c.left - c.inp.length) s.length) (by show min (c.left - c.inp.length) ([] ++ s).length = _; rw [List.nil_append])]
    have ht : (c.inp ++ s).take (c.inp.length + min (c.left - c.inp.length) s.length) = c.inp ++ s.take (min (c.left - c.inp.length) s.length) := by rw [List.take_length_add_append]
    have hd : (c.inp ++ s).drop (c.inp.length + min (c.left - c.inp.length) s.length) = s.drop (min (c.left - c.inp.length) s.length) := by rw [List.drop_length_add_append]
    show (if 0 < c.left - (c.inp.length + min (c.left - c.inp.length) s.length) then (({ c.add s with inp := (c.inp ++ s).drop (c.inp.length + min (c.left - c.inp.length) s.length), dat := c.dat ++ (c.inp ++ s).take (c.inp.length + min (c.left - c.inp.length) s.length), left := c.left - (c.inp.length + min (c.left - c.inp.length) s.length) } : Ck), (17 : Int))
      else ({ c.add s with inp := (c.inp ++ s).drop (c.inp.length + min (c.left - c.inp.length) s.length), dat := c.dat ++ (c.inp ++ s).take (c.inp.length + min (c.left - c.inp.length) s.length), left := c.left - (c.inp.length + min (c.left - c.inp.length) s.length), st := 2 }, 0)) = _
    rw [ht, hd, ← List.append_assoc, ← Nat.sub_sub]; rfl
  · have e : dataM c = ({ c with inp := c.inp.drop c.left, dat := c.dat ++ c.inp.take c.left, left := 0, st := 2 }, 0) := by
      rw [data_eq c c.left (by omega), if_neg (by omega), Nat.sub_self]
    rw [e]; refine ⟨fun _ => ?_, fun h => by simp at h⟩; rw [data_eq (c.add s) c.left (by show min c.left (c.inp ++ s).length = _; rw [List.length_append]; omega), if_neg (by show ¬ 0 < c.left - c.left; omega)]; show (({ c.add s with inp := (c.inp ++ s).drop c.left, dat := c.dat ++ (c.inp ++ s).take c.left, left := c.left - c.left, st := 2 } : Ck), (0 : Int)) = _; rw [Nat.sub_self, List.take_append_of_le_length (by omega), List.drop_append_of_le_length (by omega)]; rfl
theorem begin_st (c : Ck) : (beginM c).2 = 17 → (beginM c).1 = c := by
  unfold beginM
  split
  · intro _; rfl
  · split
    · have := numE_cases (lnC c.inp).t ((c.most : Int) - c.dat.length); intro h; simp only at h; omega
    · intro h; simp at h
theorem trail_st (c : Ck) : (trailM c).2 = 17 → (trailM c).1 = c := by
  unfold trailM
  split
  · intro _; rfl
  · split
    · intro h; simp at h
    · split
      · have := parseE_cases (lnC c.inp).t; intro h; simp only at h; omega
      · intro h; simp only at h; split at h <;> simp at h
theorem close_st (c : Ck) : (closeM c).2 = 17 → (closeM c).1 = c := by
  unfold closeM
  split
  · intro h; simp at h
  · split
    · intro _; rfl
    · intro h; simp at h
theorem data_st (c : Ck) : (dataM c).2 = 17 → (dataM c).1.st = c.st := by
  unfold dataM
  split
  · intro _; rfl
  · intro h; simp at h
theorem goes_step (c : Ck) (s : List UInt8) : Goes stepM c s := by
  have key : ∀ (f : Ck → Ck × Int), Goes f c s → ((f c).2 = 17 → (f c).1.st = c.st) → (∀ d, d.st = c.st → stepM d = f d) → Goes stepM c s := by
    intro f hg hst hs; unfold Goes at hg ⊢; rw [hs c rfl]; refine ⟨fun h => ?_, fun h => ?_⟩
    · rw [hs (c.add s) rfl]; exact hg.1 h
    · rw [hs (c.add s) rfl, hs ((f c).1.add s) (hst h)]; exact hg.2 h
  by_cases h0 : c.st = 0
  · exact key beginM (goes_begin c s) (fun h => by rw [begin_st c h]) (fun d hd => by unfold stepM; rw [if_pos (by omega)])
  by_cases h1 : c.st = 1
  · exact key dataM (goes_data c s) (fun h => data_st c h) (fun d hd => by unfold stepM; rw [if_neg (by omega), if_pos (by omega)])
  by_cases h2 : c.st = 2
  · exact key closeM (goes_close c s) (fun h => by rw [close_st c h]) (fun d hd => by unfold stepM; rw [if_neg (by omega), if_neg (by omega), if_pos (by omega)])
  by_cases h3 : c.st = 3
  · exact key trailM (goes_trail c s) (fun h => by rw [trail_st c h]) (fun d hd => by unfold stepM; rw [if_neg (by omega), if_neg (by omega), if_neg (by omega), if_pos (by omega)])
  · refine key (fun c => (c, 17)) ⟨fun h => absurd rfl h, fun _ => rfl⟩ (fun _ => rfl) (fun d hd => by unfold stepM; rw [if_neg (by omega), if_neg (by omega), if_neg (by omega), if_neg (by omega)])
def Ck.ok (c : Ck) : Prop := c.left + c.dat.length ≤ c.most ∧ c.flds ≤ 16 ∧ c.st ≤ 4
def Ck.mu (c : Ck) : Nat := 2 * c.inp.length + (if c.st = 1 then 1 else 0)
theorem begin_ok {c : Ck} (h : c.ok) (_h0 : c.st = 0) : ((beginM c).2 = 0 → (beginM c).1.mu < c.mu) ∧ (beginM c).1.ok ∧ (beginM c).1.most = c.most ∧ (beginM c).1.err = c.err ∧ (beginM c).1.inp.length + (beginM c).1.dat.length ≤ c.inp.length + c.dat.length ∧ c.dat <+: (beginM c).1.dat := by
  obtain ⟨h1, h2, h3⟩ := h; have hl := line_le c.inp; unfold beginM
  split
  · exact ⟨fun hh => absurd hh (by assumption), ⟨h1, h2, h3⟩, rfl, rfl, Nat.le_refl _, List.prefix_refl _⟩
  · rename_i he; have he : (lnC c.inp).e = 0 := by simpa using he
    have hl2 := hl.2.1 he
    split
    · exact ⟨fun hh => absurd hh (by assumption), ⟨h1, h2, h3⟩, rfl, rfl, by simp only; omega, List.prefix_refl _⟩
    · rename_i hn; have hn : numE (lnC c.inp).t ((c.most : Int) - c.dat.length) = 0 := by simpa using hn
      have hv := numV_range hn; refine ⟨fun _ => ?_, ⟨?_, h2, ?_⟩, rfl, rfl, by simp only; omega, List.prefix_refl _⟩
      · unfold Ck.mu; simp only; split <;> split <;> omega
      · simp only; omega
      · simp only; split <;> omega
theorem trail_ok {c : Ck} (h : c.ok) (h0 : c.st = 3) : ((trailM c).2 = 0 → (trailM c).1.mu < c.mu) ∧ ((trailM c).2 = 0 ∨ (trailM c).2 = 17 → (trailM c).1.ok) ∧ (trailM c).1.most = c.most ∧ (trailM c).1.err = c.err ∧ (trailM c).1.inp.length + (trailM c).1.dat.length ≤ c.inp.length + c.dat.length ∧ c.dat <+: (trailM c).1.dat := by
  obtain ⟨h1, h2, h3⟩ := h; have hl := line_le c.inp; unfold trailM
  split
  · exact ⟨fun hh => absurd hh (by assumption), fun _ => ⟨h1, h2, h3⟩, rfl, rfl, Nat.le_refl _, List.prefix_refl _⟩
  · rename_i he; have he : (lnC c.inp).e = 0 := by simpa using he
    have hl2 := hl.2.1 he; have hmu : c.mu = 2 * c.inp.length := by unfold Ck.mu; rw [if_neg (by omega)]; omega
    split
    · exact ⟨fun _ => by rw [hmu]; unfold Ck.mu; simp; omega, fun _ => ⟨h1, h2, by simp only; omega⟩, rfl, rfl, by simp only; omega, List.prefix_refl _⟩
    · split
      · exact ⟨fun hh => absurd hh (by assumption), fun _ => ⟨h1, h2, h3⟩, rfl, rfl, by simp only; omega, List.prefix_refl _⟩
      · refine ⟨fun _ => by rw [hmu]; unfold Ck.mu; simp only; rw [if_neg (by omega)]; omega, fun hh => ⟨h1, ?_, h3⟩, rfl, rfl, by simp only; omega, List.prefix_refl _⟩; simp only at hh ⊢
        split at hh
        · rcases hh with hh | hh <;> simp at hh
        · omega
theorem close_ok {c : Ck} (h : c.ok) (h0 : c.st = 2) : ((closeM c).2 = 0 → (closeM c).1.mu < c.mu) ∧ (closeM c).1.ok ∧ (closeM c).1.most = c.most ∧ (closeM c).1.err = c.err ∧ (closeM c).1.inp.length + (closeM c).1.dat.length ≤ c.inp.length + c.dat.length ∧ c.dat <+: (closeM c).1.dat := by
  obtain ⟨h1, h2, h3⟩ := h; unfold closeM
  split
  · exact ⟨fun hh => by simp at hh, ⟨h1, h2, h3⟩, rfl, rfl, Nat.le_refl _, List.prefix_refl _⟩
  · split
    · exact ⟨fun hh => by simp at hh, ⟨h1, h2, h3⟩, rfl, rfl, Nat.le_refl _, List.prefix_refl _⟩
    · refine ⟨fun _ => ?_, ⟨h1, h2, by simp only; omega⟩, rfl, rfl, by simp only [List.length_drop]; omega, List.prefix_refl _⟩; unfold Ck.mu; simp only [List.length_drop]; rw [if_neg (by omega), if_neg (by omega)]; omega
theorem data_ok {c : Ck} (h : c.ok) (h0 : c.st = 1) : ((dataM c).2 = 0 → (dataM c).1.mu < c.mu) ∧ (dataM c).1.ok ∧ (dataM c).1.most = c.most ∧ (dataM c).1.err = c.err ∧ (dataM c).1.inp.length + (dataM c).1.dat.length ≤ c.inp.length + c.dat.length ∧ c.dat <+: (dataM c).1.dat := by
  obtain ⟨h1, h2, h3⟩ := h; unfold dataM
  split
  · refine ⟨fun hh => by simp at hh, ⟨?_, h2, h3⟩, rfl, rfl, ?_, List.prefix_append _ _⟩
    · simp only [List.length_append, List.length_take]; omega
    · simp only [List.length_append, List.length_take, List.length_drop]; omega
  · refine ⟨fun _ => ?_, ⟨?_, h2, by simp only; omega⟩, rfl, rfl, ?_, List.prefix_append _ _⟩
    · unfold Ck.mu; simp only [List.length_drop]; rw [if_neg (by omega), if_pos h0]; omega
    · simp only [List.length_append, List.length_take]; omega
    · simp only [List.length_append, List.length_take, List.length_drop]; omega
theorem step_ok {c : Ck} (h : c.ok) : ((stepM c).2 = 0 → (stepM c).1.mu < c.mu) ∧ ((stepM c).2 = 0 ∨ (stepM c).2 = 17 → (stepM c).1.ok) ∧ (stepM c).1.most = c.most ∧ (stepM c).1.err = c.err ∧ (stepM c).1.inp.length + (stepM c).1.dat.length ≤ c.inp.length + c.dat.length ∧ c.dat <+: (stepM c).1.dat := by
  unfold stepM
  split
  · have := begin_ok h (by assumption); exact ⟨this.1, fun _ => this.2.1, this.2.2⟩
  split
  · have := data_ok h (by assumption); exact ⟨this.1, fun _ => this.2.1, this.2.2⟩
  split
  · have := close_ok h (by assumption); exact ⟨this.1, fun _ => this.2.1, this.2.2⟩
  split
  · exact trail_ok h (by assumption)
  · exact ⟨fun hh => by simp at hh, fun _ => h, rfl, rfl, Nat.le_refl _, List.prefix_refl _⟩
inductive Runs : Ck → Ck → Int → Prop
  | stop {c : Ck} : (stepM c).2 ≠ 0 → Runs c (stepM c).1 (stepM c).2
  | more {c d : Ck} {e : Int} : (stepM c).2 = 0 → Runs (stepM c).1 d e → Runs c d e
theorem runs_ne {c d : Ck} {e : Int} (h : Runs c d e) : e ≠ 0 := by
  induction h with
  | stop h => exact h
  | more _ _ ih => exact ih
theorem runs_det {c d d' : Ck} {e e' : Int} (h : Runs c d e) (h' : Runs c d' e') : d = d' ∧ e = e' := by
  induction h with
  | stop h => cases h' with
    | stop _ => exact ⟨rfl, rfl⟩
    | more k _ => exact absurd k h
  | more h _ ih => cases h' with
    | stop k => exact absurd h k
    | more _ k => exact ih k
theorem runs_of {x y d : Ck} {e : Int} (hxy : stepM x = stepM y) (h : Runs y d e) : Runs x d e := by
  cases h with
  | stop h => rw [← hxy] at h ⊢; exact .stop h
  | more h k => rw [← hxy] at h k; exact .more h k
theorem runs_app {c d : Ck} {e : Int} (h : Runs c d e) (s : List UInt8) : (e ≠ 17 → Runs (c.add s) (d.add s) e) ∧ (e = 17 → ∀ d' e', Runs (d.add s) d' e' → Runs (c.add s) d' e') := by
  induction h with
  | @stop c h =>
    have hg := goes_step c s; refine ⟨fun h17 => ?_, fun h17 d' e' hr => runs_of (hg.2 h17) hr⟩; have := hg.1 h17; have hs : Runs (c.add s) (stepM (c.add s)).1 (stepM (c.add s)).2 := .stop (by rw [this]; exact h); rw [this] at hs; exact hs
  | @more c d e h hr ih =>
    have hg := (goes_step c s).1 (by rw [h]; decide); have h0 : (stepM (c.add s)).2 = 0 := by rw [hg]; exact h
    have h1 : (stepM (c.add s)).1 = (stepM c).1.add s := by rw [hg]
    refine ⟨fun h17 => .more h0 (by rw [h1]; exact ih.1 h17), fun h17 d' e' hr => .more h0 (by rw [h1]; exact ih.2 h17 d' e' hr)⟩
theorem runs_ok {c d : Ck} {e : Int} (h : Runs c d e) (hc : c.ok) : (e = 17 → d.ok) ∧ d.most = c.most ∧ d.err = c.err ∧ d.inp.length + d.dat.length ≤ c.inp.length + c.dat.length ∧ c.dat <+: d.dat := by
  induction h with
  | stop h => have := step_ok hc; exact ⟨fun h17 => this.2.1 (.inr h17), this.2.2⟩
  | more h _ ih =>
    have hs := step_ok hc; obtain ⟨i1, i2, i3, i4, i5⟩ := ih (hs.2.1 (.inl h)); exact ⟨i1, i2.trans hs.2.2.1, i3.trans hs.2.2.2.1, Nat.le_trans i4 hs.2.2.2.2.1, hs.2.2.2.2.2.trans i5⟩
end Go.Proofs.YtlhnjkekjbbhcaaGreatDoor
