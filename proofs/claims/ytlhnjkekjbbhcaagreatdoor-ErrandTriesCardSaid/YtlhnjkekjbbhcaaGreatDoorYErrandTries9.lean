/- Parts of the proof of ErrandTries, in order. No conditions but those that each theorem states. -/
import Derived.Test.YtlhnjkekjbbhcaaGreatDoorYErrandTries0
import Derived.Lib.LastIndexByte
import Derived.Lib.ItoaNum
import Derived.Lib.SlTrimSet
import Derived.Lib.SlBytesConst
import Derived.Lib.LaidTab
import Derived.Lib.ItoaLen
import Derived.Sort.Grow
import Derived.Test.YtlhnjkekjbbhcaaGreatDoorYErrandTries8
set_option linter.unusedSimpArgs false
set_option linter.unusedVariables false
namespace Go.Proofs.YtlhnjkekjbbhcaaGreatDoor
open Go.RowKit Go.Shelf
structure Ky where
  kind : Int
  repo : List UInt8
  tag : List UInt8
  dig : Dig
  blob : Bool
deriving DecidableEq
def Ky.cells (k : Ky) : List Value := [.int .i64 k.kind, .string (S k.repo), .string (S k.tag)] ++ digC k.dig ++ [.bool k.blob]
structure Rt where
  kind : Int
  repo : List UInt8
  tag : List UInt8
  dig : Dig
deriving DecidableEq
def Rt.cells (r : Rt) : List Value := [.int .i64 r.kind, .string (S r.repo), .string (S r.tag)] ++ digC r.dig
structure Tk where
  repo : List UInt8
  tag : List UInt8
  found : Bool
  dig : Dig
  typ : List UInt8
  size : Int
  at_ : Int
deriving DecidableEq
def Tk.cells (t : Tk) : List Value := [.string (S t.repo), .string (S t.tag), .bool t.found] ++ digC t.dig ++ [.string (S t.typ), .int .i64 t.size, .int .i64 t.at_]
structure Rs where
  status : Int
  dig : Dig
  typ : List UInt8
  size : Int
  at_ : Int
deriving DecidableEq
def Rs.cells (r : Rs) : List Value := [.int .i64 r.status] ++ digC r.dig ++ [.string (S r.typ), .int .i64 r.size, .int .i64 r.at_]
theorem Ky.len (k : Ky) : k.cells.length = 36 := by simp [Ky.cells, digC_length]
theorem Rt.len (k : Rt) : k.cells.length = 35 := by simp [Rt.cells, digC_length]
theorem Tk.len (k : Tk) : k.cells.length = 38 := by simp [Tk.cells, digC_length]
theorem Rs.len (k : Rs) : k.cells.length = 36 := by simp [Rs.cells, digC_length]
theorem Ky.at_dig (k : Ky) : ∀ j v, (digC k.dig)[j]? = some v → k.cells[3 + j]? = some v := fun j v hv => by
  have hj : j < 32 := by have := (List.getElem?_eq_some_iff.1 hv).1; rwa [digC_length] at this
  unfold Ky.cells; rw [List.getElem?_append_left (by simp [digC_length]; omega), List.getElem?_append_right (by simp)]; simpa using hv
theorem Ky.at_blob (k : Ky) : k.cells[35]? = some (.bool k.blob) := by
  unfold Ky.cells; rw [List.getElem?_append_right (by simp [digC_length])]; simp [digC_length]
theorem Rt.at_dig (k : Rt) : ∀ j v, (digC k.dig)[j]? = some v → k.cells[3 + j]? = some v := fun j v hv => by
  unfold Rt.cells; rw [List.getElem?_append_right (by simp)]; simpa using hv
theorem Tk.at_dig (k : Tk) : ∀ j v, (digC k.dig)[j]? = some v → k.cells[3 + j]? = some v := fun j v hv => by
  have hj : j < 32 := by have := (List.getElem?_eq_some_iff.1 hv).1; rwa [digC_length] at this
  unfold Tk.cells; rw [List.getElem?_append_left (by simp [digC_length]; omega), List.getElem?_append_right (by simp)]; simpa using hv
theorem Tk.at_typ (k : Tk) : k.cells[35]? = some (.string (S k.typ)) := by
  unfold Tk.cells; rw [List.getElem?_append_right (by simp [digC_length])]; simp [digC_length]
theorem Tk.at_size (k : Tk) : k.cells[36]? = some (.int .i64 k.size) := by
  unfold Tk.cells; rw [List.getElem?_append_right (by simp [digC_length])]; simp [digC_length]
theorem Ky.one (k : Ky) : ∀ v ∈ k.cells, v.oneCell' = true := by
  intro v hv; simp only [Ky.cells, List.mem_append, List.mem_cons, List.not_mem_nil, or_false] at hv; rcases hv with ((rfl | rfl | rfl) | h) | rfl
  · rfl
  · rfl
  · rfl
  · exact dig_one _ v h
  · rfl
theorem Rt.one (k : Rt) : ∀ v ∈ k.cells, v.oneCell' = true := by
  intro v hv; simp only [Rt.cells, List.mem_append, List.mem_cons, List.not_mem_nil, or_false] at hv; rcases hv with (rfl | rfl | rfl) | h
  · rfl
  · rfl
  · rfl
  · exact dig_one _ v h
theorem Rs.one (k : Rs) : ∀ v ∈ k.cells, v.oneCell' = true := by
  intro v hv; simp only [Rs.cells, List.mem_append, List.mem_cons, List.not_mem_nil, or_false] at hv; rcases hv with (rfl | h) | (rfl | rfl | rfl)
  · rfl
  · exact dig_one _ v h
  · rfl
  · rfl
  · rfl
theorem ky_size (k : Ky) : (Tryz.prog.info? 25).map (·.size) = some k.cells.length := by rw [k.len]; kernel_rfl
theorem rt_size (k : Rt) : (Tryz.prog.info? 77).map (·.size) = some k.cells.length := by rw [k.len]; kernel_rfl
theorem tk_size (k : Tk) : (Tryz.prog.info? 27).map (·.size) = some k.cells.length := by rw [k.len]; kernel_rfl
theorem rs_size (k : Rs) : (Tryz.prog.info? 39).map (·.size) = some k.cells.length := by rw [k.len]; kernel_rfl
theorem rt_load {w : World} {b : Nat} {d : Rt} (h : w.rangeAt b 0 d.cells) : (loadVar 77 ⟨b, 0, none⟩).run Tryz.prog w = .ok (.agg d.cells.toArray) w :=
  run_loadVar_mid (P := Tryz.prog) w b 0 77 d.cells _ h Tryz.underlying77 rfl (rt_size d)
theorem rs_load {w : World} {b : Nat} {d : Rs} (h : w.rangeAt b 0 d.cells) : (loadVar 39 ⟨b, 0, none⟩).run Tryz.prog w = .ok (.agg d.cells.toArray) w :=
  run_loadVar_mid (P := Tryz.prog) w b 0 39 d.cells _ h Tryz.underlying39 rfl (rs_size d)
set_option maxRecDepth 100000 in
theorem eqDg (a b : Dig) (w : World) : (Op.equalIn 10000 23 (.agg (digC a).toArray) (.agg (digC b).toArray)).run Tryz.prog w = .ok (decide (a = b)) w := by
  obtain ⟨r, hr, hi⟩ := run_equal_deep w (m := 2) (by omega) (k := 23) (of_decide_eq_true (by kernel_rfl)) (by kernel_rfl) (dig_key a) (dig_key b); have hr' : (Op.equalIn 10000 23 (.agg (digC a).toArray) (.agg (digC b).toArray)).run Tryz.prog w = .ok r w := hr; refine hr'.trans ?_; congr 1; rw [Bool.eq_iff_iff, hi, decide_eq_true_eq]; constructor
  · intro h; exact Subtype.ext (by injection h)
  · rintro rfl; rfl
theorem int_litsK (D : Nat) (n : Int) (hn : -9223372036854775808 ≤ n ∧ n ≤ 9223372036854775807) : Tryz.prog.keyLits (D + 1) 3 [.int .i64 n] = some [.int .i64 n] := by
  unfold Program.keyLits; rw [Tryz.underlying3]
  have : (Lit.int .i64 n).wf = true := by
    simp [Lit.wf, IntKind.min, IntKind.max, IntKind.signed, IntKind.bits]; omega
  simp [this]
theorem str_litsK (D : Nat) (l : List UInt8) (hl : l.length ≤ maxLen) : Tryz.prog.keyLits (D + 1) 9 [.string (S l)] = some [.string l] := by
  unfold Program.keyLits; rw [Tryz.underlying9]; have h1 := S_size l; have h2 : (S l).data.toList = l := rfl; simp [h1, h2, hl]
def goodRt (r : Rt) : Prop := r.repo.length ≤ maxLen ∧ r.tag.length ≤ maxLen ∧ -9223372036854775808 ≤ r.kind ∧ r.kind ≤ 9223372036854775807
def goodRs (r : Rs) : Prop := r.typ.length ≤ maxLen ∧ (-9223372036854775808 ≤ r.status ∧ r.status ≤ 9223372036854775807) ∧ (-9223372036854775808 ≤ r.size ∧ r.size ≤ 9223372036854775807) ∧ (-9223372036854775808 ≤ r.at_ ∧ r.at_ ≤ 9223372036854775807)
def rtLits (r : Rt) : List Lit := [.int .i64 r.kind, .string r.repo, .string r.tag] ++ (r.dig.1.map fun b => .int .u8 (b.toNat : Nat))
def rsLits (r : Rs) : List Lit := [.int .i64 r.status] ++ (r.dig.1.map fun b => .int .u8 (b.toNat : Nat)) ++ [.string r.typ, .int .i64 r.size, .int .i64 r.at_]
theorem digL_inj {a b : Dig} (h : (a.1.map fun b => Lit.int .u8 (b.toNat : Nat)) = b.1.map fun b => Lit.int .u8 (b.toNat : Nat)) : a = b :=
  Subtype.ext (map_inj (fun x y hxy => by simp at hxy; exact UInt8.toNat_inj.1 (by omega)) _ _ h)
theorem rtLits_inj {a b : Rt} (h : rtLits a = rtLits b) : a = b := by
  unfold rtLits at h; obtain ⟨h1, h2⟩ := List.append_inj h rfl; simp at h1; have e := digL_inj h2; cases a; cases b; simp at *; exact ⟨h1.1, h1.2.1, h1.2.2, e⟩
theorem rsLits_inj {a b : Rs} (h : rsLits a = rsLits b) : a = b := by
  unfold rsLits at h; rw [List.append_assoc, List.append_assoc] at h; obtain ⟨h1, h2⟩ := List.append_inj h rfl; obtain ⟨h3, h4⟩ := List.append_inj h2 (by simp [a.dig.2, b.dig.2]); have e := digL_inj h3; simp at h1 h4; cases a; cases b; simp at *; exact ⟨h1, e, h4.1, h4.2.1, h4.2.2⟩
set_option maxRecDepth 100000 in
theorem rt_lits (D : Nat) (r : Rt) (hr : goodRt r) : Tryz.prog.keyLits (D + 3) 77 r.cells = some (rtLits r) := by
  have hc : Tryz.prog.cellsOf 77 = 35 := by kernel_rfl
  have h1 : Tryz.prog.cellsOf 5 = 1 := by kernel_rfl
  have hd : Tryz.prog.cellsOf 23 = 32 := by kernel_rfl
  have hs : Tryz.prog.cellsOf 9 = 1 := by kernel_rfl
  have hi : Tryz.prog.cellsOf 3 = 1 := by kernel_rfl
  have hl := digC_length r.dig
  have p0 : Tryz.prog.keyLits (D + 2) 3 ((r.cells.drop 0).take 1) = some [.int .i64 r.kind] := by
    have e : (r.cells.drop 0).take 1 = [.int .i64 r.kind] := rfl; rw [e]; exact int_litsK _ _ hr.2.2
  have p1 : Tryz.prog.keyLits (D + 2) 9 ((r.cells.drop 1).take 1) = some [.string r.repo] := by
    have e : (r.cells.drop 1).take 1 = [.string (S r.repo)] := rfl; rw [e]; exact str_litsK _ _ hr.1
  have p2 : Tryz.prog.keyLits (D + 2) 9 ((r.cells.drop 2).take 1) = some [.string r.tag] := by
    have e : (r.cells.drop 2).take 1 = [.string (S r.tag)] := rfl; rw [e]; exact str_litsK _ _ hr.2.1
  have p3 : Tryz.prog.keyLits (D + 2) 23 ((r.cells.drop 3).take 32) = some (r.dig.1.map fun b => .int .u8 (b.toNat : Nat)) := by
    have e : (r.cells.drop 3).take 32 = r.dig.1.map fun b => Value.int .u8 (b.toNat : Nat) := by
      show (digC r.dig).take 32 = _; rw [List.take_of_length_le (by rw [hl]; exact Nat.le_refl _)]; rfl
    rw [e]; exact keyLits_bytes Tryz.underlying23 Tryz.underlying5 h1 hd D r.dig.1 r.dig.2
  unfold Program.keyLits; rw [Tryz.underlying77]; simp only; rw [if_pos ⟨by rw [hc]; exact r.len, by kernel_rfl⟩]; simp only [List.mapM_cons, List.mapM_nil, hd, hs, hi, p0, p1, p2, p3]; simp [rtLits]
set_option maxRecDepth 100000 in
theorem rs_lits (D : Nat) (r : Rs) (hr : goodRs r) : Tryz.prog.keyLits (D + 3) 39 r.cells = some (rsLits r) := by
  have hc : Tryz.prog.cellsOf 39 = 36 := by kernel_rfl
  have h1 : Tryz.prog.cellsOf 5 = 1 := by kernel_rfl
  have hd : Tryz.prog.cellsOf 23 = 32 := by kernel_rfl
  have hs : Tryz.prog.cellsOf 9 = 1 := by kernel_rfl
  have hi : Tryz.prog.cellsOf 3 = 1 := by kernel_rfl
  have hl := digC_length r.dig
  have p0 : Tryz.prog.keyLits (D + 2) 3 ((r.cells.drop 0).take 1) = some [.int .i64 r.status] := by
    have e : (r.cells.drop 0).take 1 = [.int .i64 r.status] := rfl; rw [e]; exact int_litsK _ _ hr.2.1
  have p1 : Tryz.prog.keyLits (D + 2) 23 ((r.cells.drop 1).take 32) = some (r.dig.1.map fun b => .int .u8 (b.toNat : Nat)) := by
    have e : (r.cells.drop 1).take 32 = r.dig.1.map fun b => Value.int .u8 (b.toNat : Nat) := by
      show (digC r.dig ++ _).take 32 = _; rw [List.take_left' hl]; rfl
    rw [e]; exact keyLits_bytes Tryz.underlying23 Tryz.underlying5 h1 hd D r.dig.1 r.dig.2
  have ed : r.cells.drop 33 = [.string (S r.typ), .int .i64 r.size, .int .i64 r.at_] := by
    show (digC r.dig ++ _).drop 32 = _; rw [List.drop_left' hl]
  have p2 : Tryz.prog.keyLits (D + 2) 9 ((r.cells.drop 33).take 1) = some [.string r.typ] := by
    rw [ed]; exact str_litsK _ _ hr.1
  have p3 : Tryz.prog.keyLits (D + 2) 3 ((r.cells.drop 34).take 1) = some [.int .i64 r.size] := by
    have e : (r.cells.drop 34).take 1 = [.int .i64 r.size] := by rw [show 34 = 33 + 1 from rfl, ← List.drop_drop, ed]; rfl
    rw [e]; exact int_litsK _ _ hr.2.2.1
  have p4 : Tryz.prog.keyLits (D + 2) 3 ((r.cells.drop 35).take 1) = some [.int .i64 r.at_] := by
    have e : (r.cells.drop 35).take 1 = [.int .i64 r.at_] := by rw [show 35 = 33 + 2 from rfl, ← List.drop_drop, ed]; rfl
    rw [e]; exact int_litsK _ _ hr.2.2.2
  unfold Program.keyLits; rw [Tryz.underlying39]; simp only; rw [if_pos ⟨by rw [hc]; exact r.len, by kernel_rfl⟩]; simp only [List.mapM_cons, List.mapM_nil, hd, hs, hi, p0, p1, p2, p3, p4]; rfl
set_option maxRecDepth 100000 in
theorem eqRt (a b : Rt) (ha : goodRt a) (hb : goodRt b) (w : World) : (Op.equalIn 10000 77 (.agg a.cells.toArray) (.agg b.cells.toArray)).run Tryz.prog w = .ok (decide (a = b)) w := by
  have hc : Tryz.prog.cellsOf 77 = 35 := by kernel_rfl
  have hf : ∀ j : Rt, Value.formed Tryz.prog 77 (.agg j.cells.toArray) = true := fun j => by
    unfold Value.formed; rw [Tryz.underlying77]; simp [hc, Rt.len]
  obtain ⟨r, hr, hi⟩ := run_equalIn_deep (P := Tryz.prog) 9997 3 77 (of_decide_eq_true (by kernel_rfl)) w 3 3 (.agg a.cells.toArray) (.agg b.cells.toArray) (rtLits a) (rtLits b) (hf a) (hf b) (rt_lits 0 a ha) (rt_lits 0 b hb); refine (show (Op.equalIn 10000 77 (.agg a.cells.toArray) (.agg b.cells.toArray)).run Tryz.prog w = .ok r w from hr).trans ?_; congr 1; rw [Bool.eq_iff_iff, hi, decide_eq_true_eq]; exact ⟨rtLits_inj, fun e => by rw [e]⟩
set_option maxRecDepth 100000 in
theorem eqRs (a b : Rs) (ha : goodRs a) (hb : goodRs b) (w : World) : (Op.equalIn 10000 39 (.agg a.cells.toArray) (.agg b.cells.toArray)).run Tryz.prog w = .ok (decide (a = b)) w := by
  have hc : Tryz.prog.cellsOf 39 = 36 := by kernel_rfl
  have hf : ∀ j : Rs, Value.formed Tryz.prog 39 (.agg j.cells.toArray) = true := fun j => by
    unfold Value.formed; rw [Tryz.underlying39]; simp [hc, Rs.len]
  obtain ⟨r, hr, hi⟩ := run_equalIn_deep (P := Tryz.prog) 9997 3 39 (of_decide_eq_true (by kernel_rfl)) w 3 3 (.agg a.cells.toArray) (.agg b.cells.toArray) (rsLits a) (rsLits b) (hf a) (hf b) (rs_lits 0 a ha) (rs_lits 0 b hb); refine (show (Op.equalIn 10000 39 (.agg a.cells.toArray) (.agg b.cells.toArray)).run Tryz.prog w = .ok r w from hr).trans ?_; congr 1; rw [Bool.eq_iff_iff, hi, decide_eq_true_eq]; exact ⟨rsLits_inj, fun e => by rw [e]⟩
def lastS : List UInt8 → Option Nat
  | [] => none
  | c :: r => match lastS r with
    | some q => some (q + 1)
    | none => if c = 47 then some 0 else none
theorem lastS_none : ∀ {s : List UInt8}, lastS s = none ↔ ∀ j : Nat, s[j]? ≠ some (47 : UInt8)
  | [] => by simp [lastS]
  | c :: r => by
    have ih := lastS_none (s := r); unfold lastS
    cases h : lastS r with
    | some q =>
      rw [h] at ih; simp only [reduceCtorEq, false_iff] at ih ⊢; intro hn; exact ih fun j => hn (j + 1)
    | none =>
      rw [h] at ih; simp only [true_iff] at ih; by_cases hc : c = 47
      · simp only [hc, if_true, reduceCtorEq, false_iff]; intro hn; exact hn 0 rfl
      · simp only [hc, if_false, true_iff]; intro j
        cases j with
        | zero => simpa using hc
        | succ j => exact ih j
theorem lastS_some : ∀ {s : List UInt8} {q : Nat}, lastS s = some q ↔ s[q]? = some (47 : UInt8) ∧ ∀ j : Nat, q < j → s[j]? ≠ some (47 : UInt8)
  | [], q => by simp [lastS]
  | c :: r, q => by
    have ih := fun q => lastS_some (s := r) (q := q)
    unfold lastS
    cases h : lastS r with
    | some p =>
      have hp := (ih p).1 h; simp only [Option.some.injEq]; constructor
      · rintro rfl; refine ⟨hp.1, fun j hj => ?_⟩
        cases j with
        | zero => omega
        | succ j => exact hp.2 j (by omega)
      · rintro ⟨h1, h2⟩
        cases q with
        | zero => exact absurd hp.1 (h2 (p + 1) (by omega))
        | succ q =>
          have := (ih q).2 ⟨h1, fun j hj => h2 (j + 1) (by omega)⟩; rw [h] at this; injection this with this
          omega
    | none =>
      have hn := lastS_none.1 h; by_cases hc : c = 47
      · simp only [hc, if_true, Option.some.injEq]; constructor
        · rintro rfl; refine ⟨rfl, fun j hj => ?_⟩
          cases j with
          | zero => omega
          | succ j => exact hn j
        · rintro ⟨h1, _⟩
          cases q with
          | zero => rfl
          | succ q => exact absurd h1 (hn q)
      · simp only [hc, if_false, reduceCtorEq, false_iff]; rintro ⟨h1, _⟩
        cases q with
        | zero => exact hc (by simpa using h1)
        | succ q => exact hn q h1
def rootB : List UInt8 := [47, 118, 50, 47]
def maniB : List UInt8 := [109, 97, 110, 105, 102, 101, 115, 116, 115]
def blobB : List UInt8 := [98, 108, 111, 98, 115]
def rt0 : Rt := ⟨0, [], [], zeroD⟩
def rt1 : Rt := ⟨1, [], [], zeroD⟩
def goodRtM (r : Rt) : Bool :=
  if r.kind = 1 then decide (r = rt1)
  else if r.kind = 2 then isRepoM r.repo && (isTagM r.tag && decide (r.dig = zeroD))
  else if r.kind = 3 ∨ r.kind = 4 then isRepoM r.repo && r.tag.isEmpty
  else false
def rtWord (r : Rt) : List UInt8 := if r.kind = 4 then blobB else maniB
def rtRef (r : Rt) : List UInt8 := if r.kind = 2 then r.tag else stampM r.dig.1
def rtText (r : Rt) : List UInt8 := if r.kind = 1 then rootB else rootB ++ r.repo ++ [47] ++ rtWord r ++ [47] ++ rtRef r
theorem rtText_len (r : Rt) : (rtText r).length ≤ r.repo.length + r.tag.length + 100 := by
  unfold rtText
  split
  · simp [rootB] <;> omega
  · have h1 : (rtWord r).length ≤ 9 := by unfold rtWord; split <;> decide
    have h2 : (rtRef r).length ≤ r.tag.length + 71 := by unfold rtRef; split; (omega); rw [stampM_len]; omega
    have h3 : rootB.length = 4 := rfl; simp only [List.length_append, List.length_cons, List.length_nil, h3]; omega
end Go.Proofs.YtlhnjkekjbbhcaaGreatDoor
namespace Go.Proofs.YtlhnjkekjbbhcaaGreatDoor
open Go.RowKit
theorem lowB_tchar (b : UInt8) : tchar (lowB b) = tchar b := by
  refine all_u8 (p := fun b => tchar (lowB b) = tchar b) ?_ b; decide +kernel
theorem lowB_slash (b : UInt8) : (lowB b == 47) = (b == 47) := by
  refine all_u8 (p := fun b => (lowB b == 47) = (b == 47)) ?_ b; decide +kernel
theorem isTok_low (l : List UInt8) : isTok (lowW l) = isTok l := by
  unfold isTok lowW; rw [List.all_map]; have : (tchar ∘ lowB) = tchar := funext lowB_tchar; rw [this]; simp
theorem low_len (l : List UInt8) : (lowW l).length = l.length := by simp [lowW]
theorem low_slash (l : List UInt8) : Lib.indexByte (lowW l) 47 = Lib.indexByte l 47 := by
  have h : ∀ (l : List UInt8) (i : Nat), (lowW l)[i]? = some (47 : UInt8) ↔ l[i]? = some (47 : UInt8) := fun l i => by
    unfold lowW; rw [List.getElem?_map]
    cases l[i]? with
    | none => simp
    | some b =>
      have := lowB_slash b; rw [Bool.eq_iff_iff, beq_iff_eq, beq_iff_eq] at this; simpa using this
  have g1 := Lib.indexByte_ge (lowW l) 47; have g2 := Lib.indexByte_ge l 47; by_cases h1 : Lib.indexByte l 47 = -1
  · rw [h1]; by_cases h2 : Lib.indexByte (lowW l) 47 = -1
    · exact h2
    · obtain ⟨i, hi⟩ : ∃ i : Nat, Lib.indexByte (lowW l) 47 = i := ⟨(Lib.indexByte (lowW l) 47).toNat, by omega⟩
      exact absurd ((h l i).1 (Lib.indexByte_some hi).1) (Lib.indexByte_none h1 i)
  · obtain ⟨i, hi⟩ : ∃ i : Nat, Lib.indexByte l 47 = i := ⟨(Lib.indexByte l 47).toNat, by omega⟩
    rw [hi]; exact indexByte_at ((h l i).2 (Lib.indexByte_some hi).1) (fun j hj h3 => (Lib.indexByte_some hi).2 j hj ((h l j).1 h3))
def typA (l : List UInt8) : List UInt8 := l.take (Lib.indexByte l 47).toNat
def typB (l : List UInt8) : List UInt8 := l.drop ((Lib.indexByte l 47).toNat + 1)
def isTypeM (l : List UInt8) : Bool := decide (0 ≤ Lib.indexByte l 47) && isTok (typA l) && isTok (typB l) && decide (l.length ≤ 100)
theorem low_cut (l : List UInt8) : Lib.cut (lowW l) [47] = if 0 ≤ Lib.indexByte l 47 then (lowW (typA l), lowW (typB l), true) else (lowW l, [], false) := by
  unfold Lib.cut; rw [Lib.index_one, low_slash]; by_cases h : 0 ≤ Lib.indexByte l 47
  · rw [if_pos h, if_pos h]; simp [typA, typB, lowW, List.map_take, List.map_drop]
  · rw [if_neg h, if_neg h]
theorem isType_cut (l : List UInt8) : isTypeM l = ((Lib.cut (lowW l) [47]).2.2 && isTok (Lib.cut (lowW l) [47]).1 && isTok (Lib.cut (lowW l) [47]).2.1 && decide (l.length ≤ 100)) := by
  rw [low_cut]; unfold isTypeM; by_cases h : 0 ≤ Lib.indexByte l 47
  · rw [if_pos h, decide_eq_true h]; simp only [isTok_low]
  · rw [if_neg h, decide_eq_false h]; simp
def GT : Int := 4611686018427387904
end Go.Proofs.YtlhnjkekjbbhcaaGreatDoor
namespace Go.Proofs.YtlhnjkekjbbhcaaGreatDoor
open Go.RowKit Go.Shelf
theorem drop_atG {α : Type} {l : List α} {k : Nat} {c : α} (h : l[k]? = some c) : l.drop k = c :: l.drop (k + 1) := by
  obtain ⟨hl, hc⟩ := List.getElem?_eq_some_iff.1 h; rw [List.drop_eq_getElem_cons hl, hc]
theorem trimW_len (l : List UInt8) : (trimW l).length ≤ l.length := by
  unfold trimW Lib.trimS Lib.trimLeftS Lib.trimRightS; refine Nat.le_trans (List.dropWhile_sublist _).length_le ?_; rw [List.length_reverse]; refine Nat.le_trans (List.dropWhile_sublist _).length_le ?_; simp
theorem cutM_elem (b : UInt8) (m : Nat) : ∀ (l : List UInt8) (q : Bool) (p : List UInt8), p.length + l.length ≤ m → ∀ x ∈ cutM b l q p, x.length ≤ m
  | [], q, p, h, x, hx => by
    simp [cutM] at hx; subst hx; have := trimW_len p; simp at h; omega
  | [c], q, p, h, x, hx => by
    rw [cutM.eq_def] at hx; dsimp only at hx
    split at hx
    · exact cutM_elem b m [] _ _ (by simp at h ⊢; omega) x hx
    · split at hx
      · simp at hx; subst hx; have := trimW_len (p ++ [c]); simp at h this; omega
      · split at hx
        · rcases List.mem_cons.1 hx with rfl | hx
          · have := trimW_len p; simp at h; omega
          · exact cutM_elem b m [] _ _ (by simp at h ⊢) x hx
        · exact cutM_elem b m [] _ _ (by simp at h ⊢; omega) x hx
  | c :: d :: r, q, p, h, x, hx => by
    rw [cutM.eq_def] at hx; dsimp only at hx
    split at hx
    · exact cutM_elem b m (d :: r) _ _ (by simp at h ⊢; omega) x hx
    · split at hx
      · exact cutM_elem b m r _ _ (by simp at h ⊢; omega) x hx
      · split at hx
        · rcases List.mem_cons.1 hx with rfl | hx
          · have := trimW_len p; simp at h; omega
          · exact cutM_elem b m (d :: r) _ _ (by simp at h ⊢; omega) x hx
        · exact cutM_elem b m (d :: r) _ _ (by simp at h ⊢; omega) x hx
theorem cutW_elem {l : List UInt8} {b : UInt8} {x : List UInt8} (h : x ∈ cutW l b) : x.length ≤ l.length := cutM_elem b l.length l false [] (by simp) x h
def protB : List UInt8 := [72, 84, 84, 80, 47, 49, 46, 49]
def laidOk (L : List Fld) : Bool := decide (L.length ≤ 32) && L.all goodF
def laidE (st : List UInt8) (L : List Fld) : Int := if laidOk L then (if (headT st L).length ≤ 4096 then 0 else 4) else 1
def laidS (st : List UInt8) (L : List Fld) : List UInt8 := if laidE st L = 0 then headT st L else []
def tgtB (b : UInt8) : Bool := decide (33 ≤ b.toNat) && decide (b.toNat ≤ 126)
def isTgt (l : List UInt8) : Bool := l.all tgtB && !l.isEmpty
def httpB : List UInt8 := [72, 84, 84, 80, 47]
def digB (b : UInt8) : Bool := decide (48 ≤ b.toNat) && decide (b.toNat ≤ 57)
def verOk (l : List UInt8) : Bool := decide (l.length = 8) && decide (l.take 5 = httpB) && digB (l.getD 5 0) && (l.getD 6 0 == 46) && digB (l.getD 7 0)
def minS (l : List UInt8) : Int := if verOk l then (if l.getD 5 0 = 49 ∧ (l.getD 7 0).toNat ≤ 49 then 200 else 505) else 400
def minV (l : List UInt8) : Int := if minS l = 200 then ((l.getD 7 0).toNat : Int) - 48 else 0
structure Ln where
  m : List UInt8
  t : List UInt8
  v : Int
  s : Int
def lnM (l : List UInt8) : Ln :=
  let c := Lib.cut l [32]
  let d := Lib.cut c.2.1 [32]
  if c.2.2 && d.2.2 && isTok c.1 && isTgt d.1 then (if minS d.2.1 = 200 then ⟨c.1, d.1, minV d.2.1, 200⟩ else ⟨[], [], 0, minS d.2.1⟩) else ⟨[], [], 0, 400⟩
def askT (m t : List UInt8) : List UInt8 := m ++ [32] ++ t ++ [32] ++ protB
def askOk (m t : List UInt8) : Bool := decide ((lnM (askT m t)).s = 200) && decide ((askT m t).length ≤ 1024)
def askE (m t : List UInt8) (L : List Fld) : Int := if askOk m t then laidE (askT m t) L else 1
def askS (m t : List UInt8) (L : List Fld) : List UInt8 := if askOk m t then laidS (askT m t) L else []
set_option maxHeartbeats 1000000 in
theorem outlet_Bodyless (s : Int) (h : Bool) (w : World) :
    Calls Tryz.prog 154 #[.int .i64 s, .bool h] w fun e w' => e = .returned (.bool (h || (decide (100 ≤ s) && decide (s < 200)) || decide (s = 204) || decide (s = 304))) ∧ w' = w := by
  cases h with
  | true =>
    go_enter Tryz.func154, Tryz.ntmps154; go_wp2_with fail; go_ret; exact ⟨by simp, rfl⟩
  | false =>
    by_cases h1 : 100 ≤ s ∧ s < 200
    · obtain ⟨ha, hb⟩ := h1; have ha' : decide (s ≥ 100) = true := by simp; omega
      go_enter Tryz.func154, Tryz.ntmps154; go_wp2_with fail; go_ret; exact ⟨by simp [ha, hb], rfl⟩
    · have hx : (decide (100 ≤ s) && decide (s < 200)) = false := by simp; omega
      rw [hx]; by_cases ha : 100 ≤ s
      · have hb : decide (s < 200) = false := by simp; omega
        by_cases h4 : s = 204
        · have h4' := (int_eq h4).1; clear h1 hx; go_enter Tryz.func154, Tryz.ntmps154; go_wp2_with fail; go_ret; exact ⟨by simp [h4], rfl⟩
        · have h4' := (int_ne h4).1; clear h1 hx; go_enter Tryz.func154, Tryz.ntmps154; go_wp2_with fail
          all_goals (go_ret; refine ⟨?_, rfl⟩)
          all_goals (by_cases h5 : s = 304 <;> simp [h4, h5])
      · by_cases h4 : s = 204
        · omega
        · have h4' := (int_ne h4).1; clear h1 hx; go_enter Tryz.func154, Tryz.ntmps154; go_wp2_with fail
          all_goals (go_ret; refine ⟨?_, rfl⟩)
          all_goals (by_cases h5 : s = 304 <;> simp [h5])
set_option maxHeartbeats 400000 in
theorem inlet_isDigit (b : UInt8) (w : World) :
    Calls Tryz.prog 175 #[.int .u8 b.toNat] w fun e w' => e = .returned (.bool (digB b)) ∧ w = w' := by
  have hb := u8_nat b; by_cases h1 : 48 ≤ b.toNat
  · by_cases h2 : b.toNat ≤ 57
    · go_enter Tryz.func175, Tryz.ntmps175; go_wp2_with fail; go_ret; exact ⟨by simp [digB, h1, h2] <;> omega, rfl⟩
    · go_enter Tryz.func175, Tryz.ntmps175; go_wp2_with fail; go_ret; exact ⟨by simp [digB, h1, h2] <;> omega, rfl⟩
  · go_enter Tryz.func175, Tryz.ntmps175; go_wp2_with fail; go_ret; exact ⟨by simp [digB, h1], rfl⟩
set_option maxRecDepth 100000 in
set_option maxHeartbeats 1000000 in
theorem inlet_isTarget (l : List UInt8) (w : World) (hs : l.length ≤ maxLen) :
    Calls Tryz.prog 132 #[.string (S l)] w fun e w' => e = .returned (.bool (isTgt l)) ∧ Keep [] w w' := by
  have hs' : l.length ≤ 9223372036854775807 := hs; have hcv := conv_run w (S l); have hcell : Hid (∀ (k : Nat) (c : UInt8), l[k]? = some c → _) := fun k c h => conv_at w 5 h
  have hkp := conv_keep w 5 (S l); generalize Lib.bytesWorld w 5 (S l) = wb at hcv hcell hkp; have hsz := S_size l; have hte := S_toList l; clear hs; go_enter Tryz.func132, Tryz.ntmps132; go_wp2_with fail
  go_loop [8] (fun i => ∃ k : Nat, i = .int .i64 k ∧ k ≤ l.length ∧ Hid ((l.take k).all tgtB = true)) (fun i => l.length - (intOf i).toNat)
  case atStart => exact ⟨0, rfl, Nat.zero_le _, by simp [Hid]⟩
  case round =>
    obtain ⟨k, rfl, hk, hall⟩ := hrel; by_cases hlt : k < l.length
    · obtain ⟨c, hg⟩ : ∃ c, l[k]? = some c := ⟨_, List.getElem?_eq_getElem hlt⟩
      have hc := hcell.out k c hg; have hc8 := u8_nat c; have HG := Lib.hid hg; clear hg; by_cases ht : tgtB c = true
      · have h1 : 33 ≤ c.toNat ∧ c.toNat ≤ 126 := by simpa [tgtB] using ht
        have h2 : ¬ c.toNat ≤ 32 := by omega
        have h3 : ¬ 126 < c.toNat := by omega
        have HT := Lib.hid ht; clear ht h1; go_wp2_with fail
        go_round
        case rel => exact ⟨k + 1, by go_num, by omega, by rw [Hid, take_snoc HG.out, List.all_append, hall.out]; simp [HT.out]⟩
        case measure => simp [intOf]; omega
      · have this : isTgt l = false := by
          unfold isTgt; rw [show l.all tgtB = false from by rw [List.all_eq_false]; exact ⟨c, List.mem_of_getElem? HG.out, ht⟩]; rfl
        have H := Lib.hid this; by_cases h2 : c.toNat ≤ 32
        · clear this ht; go_wp2_with fail; go_ret; exact ⟨ret_bool H.out.symm, hkp⟩
        · have h3 : 126 < c.toNat := by
            simp [tgtB] at ht; omega
          clear this ht; go_wp2_with fail; go_ret; exact ⟨ret_bool H.out.symm, hkp⟩
    · have e : l.take k = l := List.take_of_length_le (by omega); rw [e] at hall; clear e; go_wp2_with fail; go_ret; refine ⟨ret_bool ?_, hkp⟩; unfold isTgt; rw [hall.out]; simp
end Go.Proofs.YtlhnjkekjbbhcaaGreatDoor
