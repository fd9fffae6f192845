/- Parts of the proof of ErrandJudges, in order. No conditions but those that each theorem states. -/
import Derived.Test.YtlhnjkekjbbhcaaGreatDoorYErrandJudges0
import Derived.Lib.LastIndexByte
import Derived.Lib.ItoaNum
import Derived.Lib.SlTrimSet
import Derived.Lib.SlBytesConst
import Derived.Lib.LaidTab
import Derived.Lib.ItoaLen
import Derived.Sort.Grow
import Derived.Deep.RegionHeld3
import Derived.Deep.LoopGhost
import Derived.Test.YtlhnjkekjbbhcaaGreatDoorYErrandJudges5
namespace Go.Proofs.YtlhnjkekjbbhcaaGreatDoor
open Go.RowKit Go.Shelf
structure Ky where
  kind : Int
  repo : List UInt8
  tag : List UInt8
  dig : Dig
  blob : Bool
deriving DecidableEq
def Ky.cells (k : Ky) : List Value := [.int .i64 k.kind, .string (S k.repo), .string (S k.tag)] ++ digC k.dig ++ [.bool k.blob]
structure Rt where
  kind : Int
  repo : List UInt8
  tag : List UInt8
  dig : Dig
deriving DecidableEq
def Rt.cells (r : Rt) : List Value := [.int .i64 r.kind, .string (S r.repo), .string (S r.tag)] ++ digC r.dig
structure Tk where
  repo : List UInt8
  tag : List UInt8
  found : Bool
  dig : Dig
  typ : List UInt8
  size : Int
  at_ : Int
deriving DecidableEq
def Tk.cells (t : Tk) : List Value := [.string (S t.repo), .string (S t.tag), .bool t.found] ++ digC t.dig ++ [.string (S t.typ), .int .i64 t.size, .int .i64 t.at_]
structure Rs where
  status : Int
  dig : Dig
  typ : List UInt8
  size : Int
  at_ : Int
deriving DecidableEq
def Rs.cells (r : Rs) : List Value := [.int .i64 r.status] ++ digC r.dig ++ [.string (S r.typ), .int .i64 r.size, .int .i64 r.at_]
theorem Ky.len (k : Ky) : k.cells.length = 36 := by simp [Ky.cells, digC_length]
theorem Rt.len (k : Rt) : k.cells.length = 35 := by simp [Rt.cells, digC_length]
theorem Tk.len (k : Tk) : k.cells.length = 38 := by simp [Tk.cells, digC_length]
theorem Rs.len (k : Rs) : k.cells.length = 36 := by simp [Rs.cells, digC_length]
theorem Ky.at_dig (k : Ky) : ∀ j v, (digC k.dig)[j]? = some v → k.cells[3 + j]? = some v := fun j v hv => by
  have hj : j < 32 := by have := (List.getElem?_eq_some_iff.1 hv).1; rwa [digC_length] at this
  unfold Ky.cells; rw [List.getElem?_append_left (by simp [digC_length]; omega), List.getElem?_append_right (by simp)]; simpa using hv
theorem Ky.at_blob (k : Ky) : k.cells[35]? = some (.bool k.blob) := by
  unfold Ky.cells; rw [List.getElem?_append_right (by simp [digC_length])]; simp [digC_length]
theorem Rt.at_dig (k : Rt) : ∀ j v, (digC k.dig)[j]? = some v → k.cells[3 + j]? = some v := fun j v hv => by
  unfold Rt.cells; rw [List.getElem?_append_right (by simp)]; simpa using hv
theorem Tk.at_dig (k : Tk) : ∀ j v, (digC k.dig)[j]? = some v → k.cells[3 + j]? = some v := fun j v hv => by
  have hj : j < 32 := by have := (List.getElem?_eq_some_iff.1 hv).1; rwa [digC_length] at this
  unfold Tk.cells; rw [List.getElem?_append_left (by simp [digC_length]; omega), List.getElem?_append_right (by simp)]; simpa using hv
theorem Tk.at_typ (k : Tk) : k.cells[35]? = some (.string (S k.typ)) := by
  unfold Tk.cells; rw [List.getElem?_append_right (by simp [digC_length])]; simp [digC_length]
theorem Tk.at_size (k : Tk) : k.cells[36]? = some (.int .i64 k.size) := by
  unfold Tk.cells; rw [List.getElem?_append_right (by simp [digC_length])]; simp [digC_length]
theorem Ky.one (k : Ky) : ∀ v ∈ k.cells, v.oneCell' = true := by
  intro v hv; simp only [Ky.cells, List.mem_append, List.mem_cons, List.not_mem_nil, or_false] at hv; rcases hv with ((rfl | rfl | rfl) | h) | rfl
  · rfl
  · rfl
  · rfl
  · exact dig_one _ v h
  · rfl
theorem Rt.one (k : Rt) : ∀ v ∈ k.cells, v.oneCell' = true := by
  intro v hv; simp only [Rt.cells, List.mem_append, List.mem_cons, List.not_mem_nil, or_false] at hv; rcases hv with (rfl | rfl | rfl) | h
  · rfl
  · rfl
  · rfl
  · exact dig_one _ v h
theorem Rs.one (k : Rs) : ∀ v ∈ k.cells, v.oneCell' = true := by
  intro v hv; simp only [Rs.cells, List.mem_append, List.mem_cons, List.not_mem_nil, or_false] at hv; rcases hv with (rfl | h) | (rfl | rfl | rfl)
  · rfl
  · exact dig_one _ v h
  · rfl
  · rfl
  · rfl
theorem ky_size (k : Ky) : (Tryz.prog.info? 25).map (·.size) = some k.cells.length := by rw [k.len]; kernel_rfl
theorem rt_size (k : Rt) : (Tryz.prog.info? 77).map (·.size) = some k.cells.length := by rw [k.len]; kernel_rfl
theorem tk_size (k : Tk) : (Tryz.prog.info? 27).map (·.size) = some k.cells.length := by rw [k.len]; kernel_rfl
theorem rs_size (k : Rs) : (Tryz.prog.info? 39).map (·.size) = some k.cells.length := by rw [k.len]; kernel_rfl
theorem rt_load {w : World} {b : Nat} {d : Rt} (h : w.rangeAt b 0 d.cells) : (loadVar 77 ⟨b, 0, none⟩).run Tryz.prog w = .ok (.agg d.cells.toArray) w :=
  run_loadVar_mid (P := Tryz.prog) w b 0 77 d.cells _ h Tryz.underlying77 rfl (rt_size d)
theorem rs_load {w : World} {b : Nat} {d : Rs} (h : w.rangeAt b 0 d.cells) : (loadVar 39 ⟨b, 0, none⟩).run Tryz.prog w = .ok (.agg d.cells.toArray) w :=
  run_loadVar_mid (P := Tryz.prog) w b 0 39 d.cells _ h Tryz.underlying39 rfl (rs_size d)
set_option maxRecDepth 100000 in
theorem eqDg (a b : Dig) (w : World) : (Op.equalIn 10000 23 (.agg (digC a).toArray) (.agg (digC b).toArray)).run Tryz.prog w = .ok (decide (a = b)) w := by
  obtain ⟨r, hr, hi⟩ := run_equal_deep w (m := 2) (by omega) (k := 23) (of_decide_eq_true (by kernel_rfl)) (by kernel_rfl) (dig_key a) (dig_key b); have hr' : (Op.equalIn 10000 23 (.agg (digC a).toArray) (.agg (digC b).toArray)).run Tryz.prog w = .ok r w := hr; refine hr'.trans ?_; congr 1; rw [Bool.eq_iff_iff, hi, decide_eq_true_eq]; constructor
  · intro h; exact Subtype.ext (by injection h)
  · rintro rfl; rfl
theorem int_litsK (D : Nat) (n : Int) (hn : -9223372036854775808 ≤ n ∧ n ≤ 9223372036854775807) : Tryz.prog.keyLits (D + 1) 3 [.int .i64 n] = some [.int .i64 n] := by
  unfold Program.keyLits; rw [Tryz.underlying3]
  have : (Lit.int .i64 n).wf = true := by
    simp [Lit.wf, IntKind.min, IntKind.max, IntKind.signed, IntKind.bits]; omega
  simp [this]
theorem str_litsK (D : Nat) (l : List UInt8) (hl : l.length ≤ maxLen) : Tryz.prog.keyLits (D + 1) 9 [.string (S l)] = some [.string l] := by
  unfold Program.keyLits; rw [Tryz.underlying9]; have h1 := S_size l; have h2 : (S l).data.toList = l := rfl; simp [h1, h2, hl]
def goodRt (r : Rt) : Prop := r.repo.length ≤ maxLen ∧ r.tag.length ≤ maxLen ∧ -9223372036854775808 ≤ r.kind ∧ r.kind ≤ 9223372036854775807
def goodRs (r : Rs) : Prop := r.typ.length ≤ maxLen ∧ (-9223372036854775808 ≤ r.status ∧ r.status ≤ 9223372036854775807) ∧ (-9223372036854775808 ≤ r.size ∧ r.size ≤ 9223372036854775807) ∧ (-9223372036854775808 ≤ r.at_ ∧ r.at_ ≤ 9223372036854775807)
def rtLits (r : Rt) : List Lit := [.int .i64 r.kind, .string r.repo, .string r.tag] ++ (r.dig.1.map fun b => .int .u8 (b.toNat : Nat))
def rsLits (r : Rs) : List Lit := [.int .i64 r.status] ++ (r.dig.1.map fun b => .int .u8 (b.toNat : Nat)) ++ [.string r.typ, .int .i64 r.size, .int .i64 r.at_]
theorem digL_inj {a b : Dig} (h : (a.1.map fun b => Lit.int .u8 (b.toNat : Nat)) = b.1.map fun b => Lit.int .u8 (b.toNat : Nat)) : a = b :=
  Subtype.ext (map_inj (fun x y hxy => by simp at hxy; exact UInt8.toNat_inj.1 (by omega)) _ _ h)
theorem rtLits_inj {a b : Rt} (h : rtLits a = rtLits b) : a = b := by
  unfold rtLits at h; obtain ⟨h1, h2⟩ := List.append_inj h rfl; simp at h1; have e := digL_inj h2; cases a; cases b; simp at *; exact ⟨h1.1, h1.2.1, h1.2.2, e⟩
theorem rsLits_inj {a b : Rs} (h : rsLits a = rsLits b) : a = b := by
  unfold rsLits at h; rw [List.append_assoc, List.append_assoc] at h; obtain ⟨h1, h2⟩ := List.append_inj h rfl; obtain ⟨h3, h4⟩ := List.append_inj h2 (by simp [a.dig.2, b.dig.2]); have e := digL_inj h3; simp at h1 h4; cases a; cases b; simp at *; exact ⟨h1, e, h4.1, h4.2.1, h4.2.2⟩
set_option maxRecDepth 100000 in
theorem rt_lits (D : Nat) (r : Rt) (hr : goodRt r) : Tryz.prog.keyLits (D + 3) 77 r.cells = some (rtLits r) := by
  have hc : Tryz.prog.cellsOf 77 = 35 := by kernel_rfl
  have h1 : Tryz.prog.cellsOf 5 = 1 := by kernel_rfl
  have hd : Tryz.prog.cellsOf 23 = 32 := by kernel_rfl
  have hs : Tryz.prog.cellsOf 9 = 1 := by kernel_rfl
  have hi : Tryz.prog.cellsOf 3 = 1 := by kernel_rfl
  have hl := digC_length r.dig
  have p0 : Tryz.prog.keyLits (D + 2) 3 ((r.cells.drop 0).take 1) = some [.int .i64 r.kind] := by
    have e : (r.cells.drop 0).take 1 = [.int .i64 r.kind] := rfl; rw [e]; exact int_litsK _ _ hr.2.2
  have p1 : Tryz.prog.keyLits (D + 2) 9 ((r.cells.drop 1).take 1) = some [.string r.repo] := by
    have e : (r.cells.drop 1).take 1 = [.string (S r.repo)] := rfl; rw [e]; exact str_litsK _ _ hr.1
  have p2 : Tryz.prog.keyLits (D + 2) 9 ((r.cells.drop 2).take 1) = some [.string r.tag] := by
    have e : (r.cells.drop 2).take 1 = [.string (S r.tag)] := rfl; rw [e]; exact str_litsK _ _ hr.2.1
  have p3 : Tryz.prog.keyLits (D + 2) 23 ((r.cells.drop 3).take 32) = some (r.dig.1.map fun b => .int .u8 (b.toNat : Nat)) := by
    have e : (r.cells.drop 3).take 32 = r.dig.1.map fun b => Value.int .u8 (b.toNat : Nat) := by
      show (digC r.dig).take 32 = _; rw [List.take_of_length_le (by rw [hl]; exact Nat.le_refl _)]; rfl
    rw [e]; exact keyLits_bytes Tryz.underlying23 Tryz.underlying5 h1 hd D r.dig.1 r.dig.2
  unfold Program.keyLits; rw [Tryz.underlying77]; simp only; rw [if_pos ⟨by rw [hc]; exact r.len, by kernel_rfl⟩]; simp only [List.mapM_cons, List.mapM_nil, hd, hs, hi, p0, p1, p2, p3]; simp [rtLits]
set_option maxRecDepth 100000 in
theorem rs_lits (D : Nat) (r : Rs) (hr : goodRs r) : Tryz.prog.keyLits (D + 3) 39 r.cells = some (rsLits r) := by
  have hc : Tryz.prog.cellsOf 39 = 36 := by kernel_rfl
  have h1 : Tryz.prog.cellsOf 5 = 1 := by kernel_rfl
  have hd : Tryz.prog.cellsOf 23 = 32 := by kernel_rfl
  have hs : Tryz.prog.cellsOf 9 = 1 := by kernel_rfl
  have hi : Tryz.prog.cellsOf 3 = 1 := by kernel_rfl
  have hl := digC_length r.dig
  have p0 : Tryz.prog.keyLits (D + 2) 3 ((r.cells.drop 0).take 1) = some [.int .i64 r.status] := by
    have e : (r.cells.drop 0).take 1 = [.int .i64 r.status] := rfl; rw [e]; exact int_litsK _ _ hr.2.1
  have p1 : Tryz.prog.keyLits (D + 2) 23 ((r.cells.drop 1).take 32) = some (r.dig.1.map fun b => .int .u8 (b.toNat : Nat)) := by
    have e : (r.cells.drop 1).take 32 = r.dig.1.map fun b => Value.int .u8 (b.toNat : Nat) := by
      show (digC r.dig ++ _).take 32 = _; rw [List.take_left' hl]; rfl
    rw [e]; exact keyLits_bytes Tryz.underlying23 Tryz.underlying5 h1 hd D r.dig.1 r.dig.2
  have ed : r.cells.drop 33 = [.string (S r.typ), .int .i64 r.size, .int .i64 r.at_] := by
    show (digC r.dig ++ _).drop 32 = _; rw [List.drop_left' hl]
  have p2 : Tryz.prog.keyLits (D + 2) 9 ((r.cells.drop 33).take 1) = some [.string r.typ] := by
    rw [ed]; exact str_litsK _ _ hr.1
  have p3 : Tryz.prog.keyLits (D + 2) 3 ((r.cells.drop 34).take 1) = some [.int .i64 r.size] := by
    have e : (r.cells.drop 34).take 1 = [.int .i64 r.size] := by rw [show 34 = 33 + 1 from rfl, ← List.drop_drop, ed]; rfl
    rw [e]; exact int_litsK _ _ hr.2.2.1
  have p4 : Tryz.prog.keyLits (D + 2) 3 ((r.cells.drop 35).take 1) = some [.int .i64 r.at_] := by
    have e : (r.cells.drop 35).take 1 = [.int .i64 r.at_] := by rw [show 35 = 33 + 2 from rfl, ← List.drop_drop, ed]; rfl
    rw [e]; exact int_litsK _ _ hr.2.2.2
  unfold Program.keyLits; rw [Tryz.underlying39]; simp only; rw [if_pos ⟨by rw [hc]; exact r.len, by kernel_rfl⟩]; simp only [List.mapM_cons, List.mapM_nil, hd, hs, hi, p0, p1, p2, p3, p4]; rfl
set_option maxRecDepth 100000 in
theorem eqRt (a b : Rt) (ha : goodRt a) (hb : goodRt b) (w : World) : (Op.equalIn 10000 77 (.agg a.cells.toArray) (.agg b.cells.toArray)).run Tryz.prog w = .ok (decide (a = b)) w := by
  have hc : Tryz.prog.cellsOf 77 = 35 := by kernel_rfl
  have hf : ∀ j : Rt, Value.formed Tryz.prog 77 (.agg j.cells.toArray) = true := fun j => by
    unfold Value.formed; rw [Tryz.underlying77]; simp [hc, Rt.len]
  obtain ⟨r, hr, hi⟩ := run_equalIn_deep (P := Tryz.prog) 9997 3 77 (of_decide_eq_true (by kernel_rfl)) w 3 3 (.agg a.cells.toArray) (.agg b.cells.toArray) (rtLits a) (rtLits b) (hf a) (hf b) (rt_lits 0 a ha) (rt_lits 0 b hb); refine (show (Op.equalIn 10000 77 (.agg a.cells.toArray) (.agg b.cells.toArray)).run Tryz.prog w = .ok r w from hr).trans ?_; congr 1; rw [Bool.eq_iff_iff, hi, decide_eq_true_eq]; exact ⟨rtLits_inj, fun e => by rw [e]⟩
set_option maxRecDepth 100000 in
theorem eqRs (a b : Rs) (ha : goodRs a) (hb : goodRs b) (w : World) : (Op.equalIn 10000 39 (.agg a.cells.toArray) (.agg b.cells.toArray)).run Tryz.prog w = .ok (decide (a = b)) w := by
  have hc : Tryz.prog.cellsOf 39 = 36 := by kernel_rfl
  have hf : ∀ j : Rs, Value.formed Tryz.prog 39 (.agg j.cells.toArray) = true := fun j => by
    unfold Value.formed; rw [Tryz.underlying39]; simp [hc, Rs.len]
  obtain ⟨r, hr, hi⟩ := run_equalIn_deep (P := Tryz.prog) 9997 3 39 (of_decide_eq_true (by kernel_rfl)) w 3 3 (.agg a.cells.toArray) (.agg b.cells.toArray) (rsLits a) (rsLits b) (hf a) (hf b) (rs_lits 0 a ha) (rs_lits 0 b hb); refine (show (Op.equalIn 10000 39 (.agg a.cells.toArray) (.agg b.cells.toArray)).run Tryz.prog w = .ok r w from hr).trans ?_; congr 1; rw [Bool.eq_iff_iff, hi, decide_eq_true_eq]; exact ⟨rsLits_inj, fun e => by rw [e]⟩
def lastS : List UInt8 → Option Nat
  | [] => none
  | c :: r => match lastS r with
    | some q => some (q + 1)
    | none => if c = 47 then some 0 else none
theorem lastS_none : ∀ {s : List UInt8}, lastS s = none ↔ ∀ j : Nat, s[j]? ≠ some (47 : UInt8)
  | [] => by simp [lastS]
  | c :: r => by
    have ih := lastS_none (s := r); unfold lastS
    cases h : lastS r with
    | some q =>
      rw [h] at ih; simp only [reduceCtorEq, false_iff] at ih ⊢; intro hn; exact ih fun j => hn (j + 1)
    | none =>
      rw [h] at ih; simp only [true_iff] at ih; by_cases hc : c = 47
      · simp only [hc, if_true, reduceCtorEq, false_iff]; intro hn; exact hn 0 rfl
      · simp only [hc, if_false, true_iff]; intro j
        cases j with
        | zero => simpa using hc
        | succ j => exact ih j
theorem lastS_some : ∀ {s : List UInt8} {q : Nat}, lastS s = some q ↔ s[q]? = some (47 : UInt8) ∧ ∀ j : Nat, q < j → s[j]? ≠ some (47 : UInt8)
  | [], q => by simp [lastS]
  | c :: r, q => by
    have ih := fun q => lastS_some (s := r) (q := q)
    unfold lastS
    cases h : lastS r with
    | some p =>
      have hp := (ih p).1 h; simp only [Option.some.injEq]; constructor
      · rintro rfl; refine ⟨hp.1, fun j hj => ?_⟩
        cases j with
        | zero => omega
        | succ j => exact hp.2 j (by omega)
      · rintro ⟨h1, h2⟩
        cases q with
        | zero => exact absurd hp.1 (h2 (p + 1) (by omega))
        | succ q =>
          have := (ih q).2 ⟨h1, fun j hj => h2 (j + 1) (by omega)⟩; rw [h] at this; injection this with this
          omega
    | none =>
      have hn := lastS_none.1 h; by_cases hc : c = 47
      · simp only [hc, if_true, Option.some.injEq]; constructor
        · rintro rfl; refine ⟨rfl, fun j hj => ?_⟩
          cases j with
          | zero => omega
          | succ j => exact hn j
        · rintro ⟨h1, _⟩
          cases q with
          | zero => rfl
          | succ q => exact absurd h1 (hn q)
      · simp only [hc, if_false, reduceCtorEq, false_iff]; rintro ⟨h1, _⟩
        cases q with
        | zero => exact hc (by simpa using h1)
        | succ q => exact hn q h1
def lastI (s : List UInt8) : Int := match lastS s with
  | none => -1
  | some q => (q : Nat)
theorem lastI_of {s : List UInt8} {k : Int} (h : LastIs s k) : k = lastI s := by
  unfold lastI; rcases h with ⟨rfl, h⟩ | ⟨q, rfl, h1, h2⟩
  · rw [lastS_none.2 h]
  · rw [lastS_some.2 ⟨h1, h2⟩]
def cutL (s : List UInt8) : Option (List UInt8 × List UInt8) := (lastS s).map fun q => (s.take q, s.drop (q + 1))
theorem cutL_app (a b : List UInt8) (h : ∀ j : Nat, b[j]? ≠ some (47 : UInt8)) : cutL (a ++ 47 :: b) = some (a, b) := by
  have hl : lastS (a ++ 47 :: b) = some a.length := lastS_some.2 ⟨by simp, fun j hj => by
    rw [List.getElem?_append_right (by omega)]; obtain ⟨i, hi⟩ : ∃ i, j - a.length = i + 1 := ⟨j - a.length - 1, by omega⟩
    rw [hi, List.getElem?_cons_succ]
    exact h i⟩
  unfold cutL; rw [hl]; simp
theorem cutL_back {s a b : List UInt8} (h : cutL s = some (a, b)) : s = a ++ 47 :: b := by
  unfold cutL at h
  cases hl : lastS s with
  | none => rw [hl] at h; simp at h
  | some q =>
    rw [hl] at h; simp only [Option.map_some, Option.some.injEq, Prod.mk.injEq] at h; obtain ⟨rfl, rfl⟩ := h; have hq := (lastS_some.1 hl).1; have hlt := (List.getElem?_eq_some_iff.1 hq).1; have hg : s[q] = 47 := by rw [List.getElem?_eq_getElem hlt] at hq; simpa using hq
    rw [← hg, ← List.drop_eq_getElem_cons hlt, List.take_append_drop]
def rootB : List UInt8 := [47, 118, 50, 47]
def maniB : List UInt8 := [109, 97, 110, 105, 102, 101, 115, 116, 115]
def blobB : List UInt8 := [98, 108, 111, 98, 115]
def rt0 : Rt := ⟨0, [], [], zeroD⟩
def rt1 : Rt := ⟨1, [], [], zeroD⟩
def goodRtM (r : Rt) : Bool :=
  if r.kind = 1 then decide (r = rt1)
  else if r.kind = 2 then isRepoM r.repo && (isTagM r.tag && decide (r.dig = zeroD))
  else if r.kind = 3 ∨ r.kind = 4 then isRepoM r.repo && r.tag.isEmpty
  else false
def rtWord (r : Rt) : List UInt8 := if r.kind = 4 then blobB else maniB
def rtRef (r : Rt) : List UInt8 := if r.kind = 2 then r.tag else stampM r.dig.1
def rtText (r : Rt) : List UInt8 := if r.kind = 1 then rootB else rootB ++ r.repo ++ [47] ++ rtWord r ++ [47] ++ rtRef r
def referM (repo word ref : List UInt8) : Rt × Int :=
  if word = maniB ∧ Lib.hasPrefix ref pfxD = false then (if isTagM ref then (⟨2, repo, ref, zeroD⟩, 0) else (rt0, 3))
  else match behindO ref with
    | none => (rt0, 3)
    | some d => (⟨if word = blobB then 4 else 3, repo, [], d⟩, 0)
def parseR (t : List UInt8) : Rt × Int :=
  match cutL t with
  | none => (rt0, 7)
  | some (a, ref) => match cutL a with
    | none => (rt0, 7)
    | some (repo, word) => if word ≠ maniB ∧ word ≠ blobB then (rt0, 7) else if isRepoM repo then referM repo word ref else (rt0, 10)
def parseP (t : List UInt8) : Rt × Int :=
  if Lib.hasPrefix t rootB then (if t.drop 4 = [] then (rt1, 0) else parseR (t.drop 4)) else (rt0, 7)
theorem refer_good {repo word ref : List UInt8} {x : Rt} (hr : isRepoM repo = true) (h : referM repo word ref = (x, 0)) : goodRtM x = true := by
  unfold referM at h
  split at h
  · split at h
    · rename_i ht; injection h with h _
      subst h; simp [goodRtM, hr, ht]
    · injection h with _ h; exact absurd h (by decide)
  · split at h
    · injection h with _ h; exact absurd h (by decide)
    · injection h with h _
      subst h
      split <;> simp [goodRtM, hr]
theorem parse_good {t : List UInt8} {x : Rt} (h : parseP t = (x, 0)) : goodRtM x = true := by
  unfold parseP at h
  split at h
  · split at h
    · injection h with h _
      subst h; rfl
    · unfold parseR at h
      split at h
      · injection h with _ h; exact absurd h (by decide)
      · split at h
        · injection h with _ h; exact absurd h (by decide)
        · split at h
          · injection h with _ h; exact absurd h (by decide)
          · split at h
            · rename_i hr; exact refer_good hr h
            · injection h with _ h; exact absurd h (by decide)
  · injection h with _ h; exact absurd h (by decide)
theorem no_slash {l : List UInt8} (h : l.all (fun b => b != 47) = true) (j : Nat) : l[j]? ≠ some (47 : UInt8) := fun hj => by
  have := List.all_eq_true.1 h 47 (List.mem_of_getElem? hj); simp at this
theorem dg_noslash {n : Nat} (h : n < 16) : (dgH n != 47) = true := by
  have : ∀ n : Fin 16, (dgH n.1 != 47) = true := by decide +kernel
  exact this ⟨n, h⟩
theorem hex_noslash : ∀ l : List UInt8, (hexS l).all (fun b => b != 47) = true
  | [] => rfl
  | b :: r => by
    have ih := hex_noslash r; have hb := b.toNat_lt; have e : hexS (b :: r) = [dgH (b.toNat / 16), dgH (b.toNat % 16)] ++ hexS r := rfl; rw [e, List.all_append, ih, List.all_cons, List.all_cons, dg_noslash (by omega), dg_noslash (by omega)]; rfl
theorem stamp_noslash (l : List UInt8) : (stampM l).all (fun b => b != 47) = true := by
  unfold stampM; rw [List.all_append, hex_noslash]; rfl
theorem tag_chars {l : List UInt8} (h : isTagM l = true) : l.all tagsB.contains = true := by
  unfold isTagM at h; simp only [Bool.and_eq_true] at h; exact h.2
theorem tag_noslash {l : List UInt8} (h : isTagM l = true) : l.all (fun b => b != 47) = true := by
  rw [List.all_eq_true]; intro b hb; have := List.all_eq_true.1 (tag_chars h) b hb
  have h2 : ∀ b : UInt8, tagsB.contains b = true → (b != 47) = true := fun b => by
    refine all_u8 (p := fun b => tagsB.contains b = true → (b != 47) = true) ?_ b; decide +kernel
  exact h2 b this
theorem tag_nopfx {l : List UInt8} (h : isTagM l = true) : Lib.hasPrefix l pfxD = false := by
  rw [Bool.eq_false_iff]; intro hp; have ht := pfx_take.1 hp
  have h58 : (58 : UInt8) ∈ l := by
    have : (58 : UInt8) ∈ l.take 7 := by rw [ht]; decide
    exact List.mem_of_mem_take this
  have := List.all_eq_true.1 (tag_chars h) 58 h58; revert this; decide +kernel
theorem stamp_pfx (l : List UInt8) : Lib.hasPrefix (stampM l) pfxD = true := pfx_take.2 rfl
theorem behind_stamp (d : Dig) : behindO (stampM d.1) = some d := by
  unfold behindO; rw [if_pos (stamp_pfx _)]; have : (stampM d.1).drop 7 = hexS d.1 := rfl; rw [this, unhex_hex]; exact digO_dig d
theorem root_pfx (l : List UInt8) : Lib.hasPrefix (rootB ++ l) rootB = true := by
  unfold Lib.hasPrefix; rw [List.isPrefixOf_iff_prefix]; exact List.prefix_append _ _
theorem text_behind (r : Rt) (h1 : r.kind ≠ 1) : rtText r = rootB ++ (r.repo ++ 47 :: rtWord r ++ 47 :: rtRef r) := by
  unfold rtText; rw [if_neg h1]; simp
theorem parse_text (r : Rt) (h : goodRtM r = true) : parseP (rtText r) = (r, 0) := by
  by_cases h1 : r.kind = 1
  · unfold goodRtM at h; rw [if_pos h1, decide_eq_true_eq] at h; subst h; rfl
  · rw [text_behind r h1]; unfold parseP; rw [if_pos (root_pfx _)]; have hd : (rootB ++ (r.repo ++ 47 :: rtWord r ++ 47 :: rtRef r)).drop 4 = r.repo ++ 47 :: rtWord r ++ 47 :: rtRef r := rfl; rw [hd, if_neg (by simp)]; unfold goodRtM at h; rw [if_neg h1] at h; have hw : ∀ j : Nat, (rtWord r)[j]? ≠ some (47 : UInt8) := no_slash (by unfold rtWord; split <;> rfl)
    have hw2 : ¬ (rtWord r ≠ maniB ∧ rtWord r ≠ blobB) := by unfold rtWord; split <;> simp
    have hm : maniB ≠ blobB := by decide
    by_cases h2 : r.kind = 2
    · rw [if_pos h2] at h; simp only [Bool.and_eq_true, decide_eq_true_eq] at h; have hrf : rtRef r = r.tag := by unfold rtRef; rw [if_pos h2]
      have hwd : rtWord r = maniB := by unfold rtWord; rw [if_neg (by omega)]
      unfold parseR; rw [hrf, cutL_app _ _ (no_slash (tag_noslash h.2.1))]; simp only; rw [cutL_app _ _ hw]; simp only; rw [if_neg hw2, if_pos h.1]; unfold referM; rw [if_pos ⟨hwd, tag_nopfx h.2.1⟩, if_pos h.2.1]; cases r
      simp_all
    · rw [if_neg h2] at h; by_cases h34 : r.kind = 3 ∨ r.kind = 4
      · rw [if_pos h34] at h; simp only [Bool.and_eq_true, List.isEmpty_iff] at h; have hrf : rtRef r = stampM r.dig.1 := by unfold rtRef; rw [if_neg h2]
        unfold parseR; rw [hrf, cutL_app _ _ (no_slash (stamp_noslash _))]; simp only; rw [cutL_app _ _ hw]; simp only; rw [if_neg hw2, if_pos h.1]; unfold referM; rw [if_neg (by rw [stamp_pfx]; simp), behind_stamp]; rcases h34 with h3 | h4
        · have hwd : rtWord r = maniB := by unfold rtWord; rw [if_neg (by omega)]
          rw [hwd]; simp only [hm, if_false]; cases r
          simp_all
        · have hwd : rtWord r = blobB := by unfold rtWord; rw [if_pos h4]
          rw [hwd]; simp only [if_true]; cases r
          simp_all
      · rw [if_neg h34] at h; exact absurd h (by decide)
theorem print_law (r : Rt) : (parseP (rtText r)).2 = 0 ∧ (parseP (rtText r)).1 = r ↔ goodRtM r = true := by
  constructor
  · rintro ⟨h1, h2⟩; have := parse_good (t := rtText r) (x := r) (Prod.ext h2 h1); exact this
  · intro h; rw [parse_text r h]; exact ⟨rfl, rfl⟩
theorem rtText_len (r : Rt) : (rtText r).length ≤ r.repo.length + r.tag.length + 100 := by
  unfold rtText
  split
  · simp [rootB] <;> omega
  · have h1 : (rtWord r).length ≤ 9 := by unfold rtWord; split <;> decide
    have h2 : (rtRef r).length ≤ r.tag.length + 71 := by unfold rtRef; split; (omega); rw [stampM_len]; omega
    have h3 : rootB.length = 4 := rfl; simp only [List.length_append, List.length_cons, List.length_nil, h3]; omega
end Go.Proofs.YtlhnjkekjbbhcaaGreatDoor
namespace Go.Proofs.YtlhnjkekjbbhcaaGreatDoor
open Go.RowKit
theorem lowB_tchar (b : UInt8) : tchar (lowB b) = tchar b := by
  refine all_u8 (p := fun b => tchar (lowB b) = tchar b) ?_ b; decide +kernel
theorem lowB_slash (b : UInt8) : (lowB b == 47) = (b == 47) := by
  refine all_u8 (p := fun b => (lowB b == 47) = (b == 47)) ?_ b; decide +kernel
theorem isTok_low (l : List UInt8) : isTok (lowW l) = isTok l := by
  unfold isTok lowW; rw [List.all_map]; have : (tchar ∘ lowB) = tchar := funext lowB_tchar; rw [this]; simp
theorem low_len (l : List UInt8) : (lowW l).length = l.length := by simp [lowW]
theorem low_slash (l : List UInt8) : Lib.indexByte (lowW l) 47 = Lib.indexByte l 47 := by
  have h : ∀ (l : List UInt8) (i : Nat), (lowW l)[i]? = some (47 : UInt8) ↔ l[i]? = some (47 : UInt8) := fun l i => by
    unfold lowW; rw [List.getElem?_map]
    cases l[i]? with
    | none => simp
    | some b =>
      have := lowB_slash b; rw [Bool.eq_iff_iff, beq_iff_eq, beq_iff_eq] at this; simpa using this
  have g1 := Lib.indexByte_ge (lowW l) 47; have g2 := Lib.indexByte_ge l 47; by_cases h1 : Lib.indexByte l 47 = -1
  · rw [h1]; by_cases h2 : Lib.indexByte (lowW l) 47 = -1
    · exact h2
    · obtain ⟨i, hi⟩ : ∃ i : Nat, Lib.indexByte (lowW l) 47 = i := ⟨(Lib.indexByte (lowW l) 47).toNat, by omega⟩
      exact absurd ((h l i).1 (Lib.indexByte_some hi).1) (Lib.indexByte_none h1 i)
  · obtain ⟨i, hi⟩ : ∃ i : Nat, Lib.indexByte l 47 = i := ⟨(Lib.indexByte l 47).toNat, by omega⟩
    rw [hi]; exact indexByte_at ((h l i).2 (Lib.indexByte_some hi).1) (fun j hj h3 => (Lib.indexByte_some hi).2 j hj ((h l j).1 h3))
def typA (l : List UInt8) : List UInt8 := l.take (Lib.indexByte l 47).toNat
def typB (l : List UInt8) : List UInt8 := l.drop ((Lib.indexByte l 47).toNat + 1)
def isTypeM (l : List UInt8) : Bool := decide (0 ≤ Lib.indexByte l 47) && isTok (typA l) && isTok (typB l) && decide (l.length ≤ 100)
theorem low_cut (l : List UInt8) : Lib.cut (lowW l) [47] = if 0 ≤ Lib.indexByte l 47 then (lowW (typA l), lowW (typB l), true) else (lowW l, [], false) := by
  unfold Lib.cut; rw [Lib.index_one, low_slash]; by_cases h : 0 ≤ Lib.indexByte l 47
  · rw [if_pos h, if_pos h]; simp [typA, typB, lowW, List.map_take, List.map_drop]
  · rw [if_neg h, if_neg h]
theorem isType_cut (l : List UInt8) : isTypeM l = ((Lib.cut (lowW l) [47]).2.2 && isTok (Lib.cut (lowW l) [47]).1 && isTok (Lib.cut (lowW l) [47]).2.1 && decide (l.length ≤ 100)) := by
  rw [low_cut]; unfold isTypeM; by_cases h : 0 ≤ Lib.indexByte l 47
  · rw [if_pos h, decide_eq_true h]; simp only [isTok_low]
  · rw [if_neg h, decide_eq_false h]; simp
def GT : Int := 4611686018427387904
end Go.Proofs.YtlhnjkekjbbhcaaGreatDoor
namespace Go.Proofs.YtlhnjkekjbbhcaaGreatDoor
open Go.RowKit Go.Shelf
theorem drop_atG {α : Type} {l : List α} {k : Nat} {c : α} (h : l[k]? = some c) : l.drop k = c :: l.drop (k + 1) := by
  obtain ⟨hl, hc⟩ := List.getElem?_eq_some_iff.1 h; rw [List.drop_eq_getElem_cons hl, hc]
theorem trimW_len (l : List UInt8) : (trimW l).length ≤ l.length := by
  unfold trimW Lib.trimS Lib.trimLeftS Lib.trimRightS; refine Nat.le_trans (List.dropWhile_sublist _).length_le ?_; rw [List.length_reverse]; refine Nat.le_trans (List.dropWhile_sublist _).length_le ?_; simp
theorem cutM_elem (b : UInt8) (m : Nat) : ∀ (l : List UInt8) (q : Bool) (p : List UInt8), p.length + l.length ≤ m → ∀ x ∈ cutM b l q p, x.length ≤ m
  | [], q, p, h, x, hx => by
    simp [cutM] at hx; subst hx; have := trimW_len p; simp at h; omega
  | [c], q, p, h, x, hx => by
    rw [cutM.eq_def] at hx; dsimp only at hx
    split at hx
    · exact cutM_elem b m [] _ _ (by simp at h ⊢; omega) x hx
    · split at hx
      · simp at hx; subst hx; have := trimW_len (p ++ [c]); simp at h this; omega
      · split at hx
        · rcases List.mem_cons.1 hx with rfl | hx
          · have := trimW_len p; simp at h; omega
          · exact cutM_elem b m [] _ _ (by simp at h ⊢) x hx
        · exact cutM_elem b m [] _ _ (by simp at h ⊢; omega) x hx
  | c :: d :: r, q, p, h, x, hx => by
    rw [cutM.eq_def] at hx; dsimp only at hx
    split at hx
    · exact cutM_elem b m (d :: r) _ _ (by simp at h ⊢; omega) x hx
    · split at hx
      · exact cutM_elem b m r _ _ (by simp at h ⊢; omega) x hx
      · split at hx
        · rcases List.mem_cons.1 hx with rfl | hx
          · have := trimW_len p; simp at h; omega
          · exact cutM_elem b m (d :: r) _ _ (by simp at h ⊢; omega) x hx
        · exact cutM_elem b m (d :: r) _ _ (by simp at h ⊢; omega) x hx
theorem cutW_elem {l : List UInt8} {b : UInt8} {x : List UInt8} (h : x ∈ cutW l b) : x.length ≤ l.length := cutM_elem b l.length l false [] (by simp) x h
def protB : List UInt8 := [72, 84, 84, 80, 47, 49, 46, 49]
def laidOk (L : List Fld) : Bool := decide (L.length ≤ 32) && L.all goodF
def laidE (st : List UInt8) (L : List Fld) : Int := if laidOk L then (if (headT st L).length ≤ 4096 then 0 else 4) else 1
def laidS (st : List UInt8) (L : List Fld) : List UInt8 := if laidE st L = 0 then headT st L else []
def tgtB (b : UInt8) : Bool := decide (33 ≤ b.toNat) && decide (b.toNat ≤ 126)
def isTgt (l : List UInt8) : Bool := l.all tgtB && !l.isEmpty
def httpB : List UInt8 := [72, 84, 84, 80, 47]
def digB (b : UInt8) : Bool := decide (48 ≤ b.toNat) && decide (b.toNat ≤ 57)
def verOk (l : List UInt8) : Bool := decide (l.length = 8) && decide (l.take 5 = httpB) && digB (l.getD 5 0) && (l.getD 6 0 == 46) && digB (l.getD 7 0)
def minS (l : List UInt8) : Int := if verOk l then (if l.getD 5 0 = 49 ∧ (l.getD 7 0).toNat ≤ 49 then 200 else 505) else 400
def minV (l : List UInt8) : Int := if minS l = 200 then ((l.getD 7 0).toNat : Int) - 48 else 0
structure Ln where
  m : List UInt8
  t : List UInt8
  v : Int
  s : Int
def lnM (l : List UInt8) : Ln :=
  let c := Lib.cut l [32]
  let d := Lib.cut c.2.1 [32]
  if c.2.2 && d.2.2 && isTok c.1 && isTgt d.1 then (if minS d.2.1 = 200 then ⟨c.1, d.1, minV d.2.1, 200⟩ else ⟨[], [], 0, minS d.2.1⟩) else ⟨[], [], 0, 400⟩
def askT (m t : List UInt8) : List UInt8 := m ++ [32] ++ t ++ [32] ++ protB
def askOk (m t : List UInt8) : Bool := decide ((lnM (askT m t)).s = 200) && decide ((askT m t).length ≤ 1024)
def askE (m t : List UInt8) (L : List Fld) : Int := if askOk m t then laidE (askT m t) L else 1
def askS (m t : List UInt8) (L : List Fld) : List UInt8 := if askOk m t then laidS (askT m t) L else []
set_option maxHeartbeats 1000000 in
theorem outlet_Bodyless (s : Int) (h : Bool) (w : World) :
    Calls Tryz.prog 154 #[.int .i64 s, .bool h] w fun e w' => e = .returned (.bool (h || (decide (100 ≤ s) && decide (s < 200)) || decide (s = 204) || decide (s = 304))) ∧ w' = w := by
  cases h with
  | true =>
    go_enter Tryz.func154, Tryz.ntmps154; go_wp2_with fail; go_ret; exact ⟨by simp, rfl⟩
  | false =>
    by_cases h1 : 100 ≤ s ∧ s < 200
    · obtain ⟨ha, hb⟩ := h1; have ha' : decide (s ≥ 100) = true := by simp; omega
      go_enter Tryz.func154, Tryz.ntmps154; go_wp2_with fail; go_ret; exact ⟨by simp [ha, hb], rfl⟩
    · have hx : (decide (100 ≤ s) && decide (s < 200)) = false := by simp; omega
      rw [hx]; by_cases ha : 100 ≤ s
      · have hb : decide (s < 200) = false := by simp; omega
        by_cases h4 : s = 204
        · have h4' := (int_eq h4).1; clear h1 hx; go_enter Tryz.func154, Tryz.ntmps154; go_wp2_with fail; go_ret; exact ⟨by simp [h4], rfl⟩
        · have h4' := (int_ne h4).1; clear h1 hx; go_enter Tryz.func154, Tryz.ntmps154; go_wp2_with fail
          all_goals (go_ret; refine ⟨?_, rfl⟩)
          all_goals (by_cases h5 : s = 304 <;> simp [h4, h5])
      · by_cases h4 : s = 204
        · omega
        · have h4' := (int_ne h4).1; clear h1 hx; go_enter Tryz.func154, Tryz.ntmps154; go_wp2_with fail
          all_goals (go_ret; refine ⟨?_, rfl⟩)
          all_goals (by_cases h5 : s = 304 <;> simp [h5])
set_option maxHeartbeats 400000 in
theorem inlet_isDigit (b : UInt8) (w : World) :
    Calls Tryz.prog 175 #[.int .u8 b.toNat] w fun e w' => e = .returned (.bool (digB b)) ∧ w = w' := by
  have hb := u8_nat b; by_cases h1 : 48 ≤ b.toNat
  · by_cases h2 : b.toNat ≤ 57
    · go_enter Tryz.func175, Tryz.ntmps175; go_wp2_with fail; go_ret; exact ⟨by simp [digB, h1, h2] <;> omega, rfl⟩
    · go_enter Tryz.func175, Tryz.ntmps175; go_wp2_with fail; go_ret; exact ⟨by simp [digB, h1, h2] <;> omega, rfl⟩
  · go_enter Tryz.func175, Tryz.ntmps175; go_wp2_with fail; go_ret; exact ⟨by simp [digB, h1], rfl⟩
set_option maxRecDepth 100000 in
set_option maxHeartbeats 1000000 in
theorem inlet_isTarget (l : List UInt8) (w : World) (hs : l.length ≤ maxLen) :
    Calls Tryz.prog 132 #[.string (S l)] w fun e w' => e = .returned (.bool (isTgt l)) ∧ Keep [] w w' := by
  have hs' : l.length ≤ 9223372036854775807 := hs; have hcv := conv_run w (S l); have hcell : Hid (∀ (k : Nat) (c : UInt8), l[k]? = some c → _) := fun k c h => conv_at w 5 h
  have hkp := conv_keep w 5 (S l); generalize Lib.bytesWorld w 5 (S l) = wb at hcv hcell hkp; have hsz := S_size l; have hte := S_toList l; clear hs; go_enter Tryz.func132, Tryz.ntmps132; go_wp2_with fail
  go_loop [8] (fun i => ∃ k : Nat, i = .int .i64 k ∧ k ≤ l.length ∧ Hid ((l.take k).all tgtB = true)) (fun i => l.length - (intOf i).toNat)
  case atStart => exact ⟨0, rfl, Nat.zero_le _, by simp [Hid]⟩
  case round =>
    obtain ⟨k, rfl, hk, hall⟩ := hrel; by_cases hlt : k < l.length
    · obtain ⟨c, hg⟩ : ∃ c, l[k]? = some c := ⟨_, List.getElem?_eq_getElem hlt⟩
      have hc := hcell.out k c hg; have hc8 := u8_nat c; have HG := Lib.hid hg; clear hg; by_cases ht : tgtB c = true
      · have h1 : 33 ≤ c.toNat ∧ c.toNat ≤ 126 := by simpa [tgtB] using ht
        have h2 : ¬ c.toNat ≤ 32 := by omega
        have h3 : ¬ 126 < c.toNat := by omega
        have HT := Lib.hid ht; clear ht h1; go_wp2_with fail
        go_round
        case rel => exact ⟨k + 1, by go_num, by omega, by rw [Hid, take_snoc HG.out, List.all_append, hall.out]; simp [HT.out]⟩
        case measure => simp [intOf]; omega
      · have this : isTgt l = false := by
          unfold isTgt; rw [show l.all tgtB = false from by rw [List.all_eq_false]; exact ⟨c, List.mem_of_getElem? HG.out, ht⟩]; rfl
        have H := Lib.hid this; by_cases h2 : c.toNat ≤ 32
        · clear this ht; go_wp2_with fail; go_ret; exact ⟨ret_bool H.out.symm, hkp⟩
        · have h3 : 126 < c.toNat := by
            simp [tgtB] at ht; omega
          clear this ht; go_wp2_with fail; go_ret; exact ⟨ret_bool H.out.symm, hkp⟩
    · have e : l.take k = l := List.take_of_length_le (by omega); rw [e] at hall; clear e; go_wp2_with fail; go_ret; refine ⟨ret_bool ?_, hkp⟩; unfold isTgt; rw [hall.out]; simp
theorem take5_prefix (l : List UInt8) : Lib.hasPrefix l httpB = decide (l.take 5 = httpB) := by
  rw [Bool.eq_iff_iff]; unfold Lib.hasPrefix; rw [List.isPrefixOf_iff_prefix, List.prefix_iff_eq_take]; constructor
  · intro h; exact decide_eq_true h.symm
  · intro h; exact (of_decide_eq_true h).symm
theorem ver_no {l : List UInt8} (h : Lib.hasPrefix l httpB = false ∨ l.length ≠ 8) : minS l = 400 ∧ minV l = 0 := by
  have hv : verOk l = false := by
    unfold verOk; rcases h with h | h
    · rw [take5_prefix] at h; rw [h]; simp
    · simp [h]
  have hs : minS l = 400 := by unfold minS; rw [hv]; rfl
  exact ⟨hs, by unfold minV; rw [hs]; rfl⟩
theorem ver_of (a p c : UInt8) : minS (httpB ++ [a, p, c]) = (if digB a && (p == 46) && digB c then (if a = 49 ∧ c.toNat ≤ 49 then 200 else 505) else 400) ∧ minV (httpB ++ [a, p, c]) = (if digB a && (p == 46) && digB c then (if a = 49 ∧ c.toNat ≤ 49 then (c.toNat : Int) - 48 else 0) else 0) := by
  have hv : verOk (httpB ++ [a, p, c]) = (digB a && (p == 46) && digB c) := by
    unfold verOk; simp [httpB]
  have hs : minS (httpB ++ [a, p, c]) = (if digB a && (p == 46) && digB c then (if a = 49 ∧ c.toNat ≤ 49 then 200 else 505) else 400) := by
    unfold minS; rw [hv]; rfl
  refine ⟨hs, ?_⟩; unfold minV; rw [hs]; by_cases h1 : (digB a && (p == 46) && digB c) = true
  · by_cases h2 : a = 49 ∧ c.toNat ≤ 49
    · rw [if_pos h1, if_pos h2, if_pos rfl, if_pos h1, if_pos h2]; rfl
    · rw [if_pos h1, if_neg h2, if_neg (by decide), if_pos h1, if_neg h2]
  · rw [if_neg h1, if_neg (by decide), if_neg h1]
set_option maxRecDepth 100000 in
set_option maxHeartbeats 2000000 in
theorem inlet_minor (l : List UInt8) (w : World) (hl : l.length ≤ maxLen) :
    Calls Tryz.prog 133 #[.string (S l)] w fun e w' => e = .returned (.tuple #[.int .i64 (minV l), .int .i64 (minS l)]) ∧ Keep [] w w' := by
  have hl' : l.length ≤ 9223372036854775807 := hl
  have hP : Calls Tryz.prog 74 #[.string (S l), .string ⟨#[72, 84, 84, 80, 47]⟩] w fun e w' => e = .returned (.tuple #[.string (S (Lib.trimPrefix l httpB)), .bool (Lib.hasPrefix l httpB)]) ∧ w' = w := by
    have := Tryz.strings_CutPrefix (S l) ⟨#[72, 84, 84, 80, 47]⟩ w; rw [S_list] at this; exact this
  have hsz := S_size l
  cases hpf : Lib.hasPrefix l httpB with
  | false =>
    obtain ⟨e1, e2⟩ := ver_no (.inl hpf); rw [e1, e2]; rw [hpf] at hP; have HP := Lib.hid hP; clear hP hpf e1 e2; go_enter Tryz.func133, Tryz.ntmps133; go_wp2_with fail; refine HP.out.mono ?_; rintro e w1 ⟨rfl, rfl⟩; go_wp2_with fail; go_ret2; exact ⟨rfl, Keep.refl _ _⟩
  | true =>
    rw [hpf] at hP; by_cases h8 : l.length = 8
    · have hle : l = httpB ++ l.drop 5 := by
        rw [take5_prefix] at hpf; have := of_decide_eq_true hpf; rw [← this, List.take_append_drop]
      have htr : Lib.trimPrefix l httpB = l.drop 5 := by unfold Lib.trimPrefix; rw [if_pos hpf]; rfl
      have hr3 : (l.drop 5).length = 3 := by rw [List.length_drop, h8]
      rw [htr] at hP; generalize l.drop 5 = r at *
      obtain ⟨a, p, c, rfl⟩ : ∃ a p c, r = [a, p, c] := by
        match r, hr3 with
        | [a, p, c], _ => exact ⟨a, p, c, rfl⟩
      have g0 := S_get (l := [a, p, c]) (k := 0) (c := a) rfl; have g1 := S_get (l := [a, p, c]) (k := 1) (c := p) rfl; have g2 := S_get (l := [a, p, c]) (k := 2) (c := c) rfl; have hs3 : (S [a, p, c]).size = 3 := S_size _; obtain ⟨hms, hmv⟩ := ver_of a p c; rw [← hle] at hms hmv; generalize minS l = ms at hms ⊢; generalize minV l = mv at hmv ⊢; have h8' : ((l.length : Nat) : Int) = 8 := by omega
      have h8q := (int_eq h8').2; have HP := Lib.hid hP; have Da := Lib.hid (fun w1 => inlet_isDigit a w1); have Dc := Lib.hid (fun w1 => inlet_isDigit c w1); have ca := u8_nat a; have cp := u8_nat p; have cc := u8_nat c; generalize S [a, p, c] = sr at *; clear hP hpf hle htr hr3 h8 h8'
      cases hda : digB a with
      | false =>
        rw [hda] at Da hms hmv; have HX := Lib.hid (show mv = 0 ∧ ms = 400 from ⟨by simpa using hmv, by simpa using hms⟩); clear hms hmv hda; go_enter Tryz.func133, Tryz.ntmps133; go_wp2_with fail; refine HP.out.mono ?_; rintro e w1 ⟨rfl, rfl⟩; go_wp2_with (first | (go_at_call 175; refine (Da.out _).mono ?_; rintro e w2 ⟨rfl, rfl⟩) | (go_at_call 175; refine (Dc.out _).mono ?_; rintro e w2 ⟨rfl, rfl⟩)); go_ret2; exact ⟨by rw [HX.out.1, HX.out.2]; rfl, Keep.refl _ _⟩
      | true =>
        by_cases hp : p = 46
        · have hpb : (p == 46) = true := by simp [hp]
          have hpn : ((p.toNat : Nat) : Int) = 46 := by rw [hp]; rfl
          have hpq := (int_eq hpn).2; rw [hda, hpb] at hms hmv; rw [hda] at Da; clear hpn hp hpb
          cases hdc : digB c with
          | false =>
            rw [hdc] at Dc hms hmv; have HX := Lib.hid (show mv = 0 ∧ ms = 400 from ⟨by simpa using hmv, by simpa using hms⟩); clear hms hmv hda hdc; go_enter Tryz.func133, Tryz.ntmps133; go_wp2_with fail; refine HP.out.mono ?_; rintro e w1 ⟨rfl, rfl⟩; go_wp2_with (first | (go_at_call 175; refine (Da.out _).mono ?_; rintro e w2 ⟨rfl, rfl⟩) | (go_at_call 175; refine (Dc.out _).mono ?_; rintro e w2 ⟨rfl, rfl⟩)); go_ret2; exact ⟨by rw [HX.out.1, HX.out.2]; rfl, Keep.refl _ _⟩
          | true =>
            rw [hdc] at Dc hms hmv; simp only [Bool.and_self, if_true] at hms hmv; have hc9 : 48 ≤ c.toNat ∧ c.toNat ≤ 57 := by simpa [digB] using hdc
            obtain ⟨hc0, hc1⟩ := hc9; by_cases ha : a = 49
            · have han : ((a.toNat : Nat) : Int) = 49 := by rw [ha]; rfl
              have haq := (int_eq han).2; by_cases hc : c.toNat ≤ 49
              · rw [if_pos ⟨ha, hc⟩] at hms hmv; have hcq : decide (((c.toNat : Nat) : Int) > 49) = false := by simp; omega
                have hwr := IntWalk.u8_in ((c.toNat : Int) - 48) (by omega); have hwi := IntWalk.i64_in ((c.toNat : Int) - 48) (by omega); have HX := Lib.hid (And.intro hmv hms); clear hms hmv hda hdc ha han; go_enter Tryz.func133, Tryz.ntmps133; go_wp2_with fail; refine HP.out.mono ?_; rintro e w1 ⟨rfl, rfl⟩; go_wp2_with (first | (go_at_call 175; refine (Da.out _).mono ?_; rintro e w2 ⟨rfl, rfl⟩) | (go_at_call 175; refine (Dc.out _).mono ?_; rintro e w2 ⟨rfl, rfl⟩)); go_ret2; exact ⟨by rw [HX.out.1, HX.out.2]; rfl, Keep.refl _ _⟩
              · rw [if_neg (fun h => hc h.2)] at hms hmv; have hcq : decide (((c.toNat : Nat) : Int) > 49) = true := by simp; omega
                have HX := Lib.hid (And.intro hmv hms); clear hms hmv hda hdc ha han; go_enter Tryz.func133, Tryz.ntmps133; go_wp2_with fail; refine HP.out.mono ?_; rintro e w1 ⟨rfl, rfl⟩; go_wp2_with (first | (go_at_call 175; refine (Da.out _).mono ?_; rintro e w2 ⟨rfl, rfl⟩) | (go_at_call 175; refine (Dc.out _).mono ?_; rintro e w2 ⟨rfl, rfl⟩)); go_ret2; exact ⟨by rw [HX.out.1, HX.out.2]; rfl, Keep.refl _ _⟩
            · rw [if_neg (fun h => ha h.1)] at hms hmv; have han : ((a.toNat : Nat) : Int) ≠ 49 := fun e => ha (UInt8.toNat_inj.1 (by show a.toNat = 49; omega))
              have haq := (int_ne han).2; have HX := Lib.hid (And.intro hmv hms); clear hms hmv hda hdc ha han; go_enter Tryz.func133, Tryz.ntmps133; go_wp2_with fail; refine HP.out.mono ?_; rintro e w1 ⟨rfl, rfl⟩; go_wp2_with (first | (go_at_call 175; refine (Da.out _).mono ?_; rintro e w2 ⟨rfl, rfl⟩) | (go_at_call 175; refine (Dc.out _).mono ?_; rintro e w2 ⟨rfl, rfl⟩)); go_ret2; exact ⟨by rw [HX.out.1, HX.out.2]; rfl, Keep.refl _ _⟩
        · have hpb : (p == 46) = false := by simp [hp]
          have hpn : ((p.toNat : Nat) : Int) ≠ 46 := fun e => hp (UInt8.toNat_inj.1 (by show p.toNat = 46; omega))
          have hpq := (int_ne hpn).2; rw [hda, hpb] at hms hmv; rw [hda] at Da; have HX := Lib.hid (show mv = 0 ∧ ms = 400 from ⟨by simpa using hmv, by simpa using hms⟩); clear hms hmv hda hpn hp hpb; go_enter Tryz.func133, Tryz.ntmps133; go_wp2_with fail; refine HP.out.mono ?_; rintro e w1 ⟨rfl, rfl⟩; go_wp2_with (first | (go_at_call 175; refine (Da.out _).mono ?_; rintro e w2 ⟨rfl, rfl⟩) | (go_at_call 175; refine (Dc.out _).mono ?_; rintro e w2 ⟨rfl, rfl⟩)); go_ret2; exact ⟨by rw [HX.out.1, HX.out.2]; rfl, Keep.refl _ _⟩
    · obtain ⟨e1, e2⟩ := ver_no (.inr h8); rw [e1, e2]; have h8' : ((l.length : Nat) : Int) ≠ 8 := by omega
      have h8q := (int_ne h8').2; have HP := Lib.hid hP; clear hP hpf e1 e2 h8 h8'; go_enter Tryz.func133, Tryz.ntmps133; go_wp2_with fail; refine HP.out.mono ?_; rintro e w1 ⟨rfl, rfl⟩; go_wp2_with fail; go_ret2; exact ⟨rfl, Keep.refl _ _⟩
theorem res4 {fn : Func} {t u v x : Tmp} (h : fn.results = #[.tmp t, .tmp u, .tmp v, .tmp x]) (tmps : Array Value) (P : Program) (w : World) :
    (results fn tmps).run P w = .ok (.tuple #[tmps.getD t undef, tmps.getD u undef, tmps.getD v undef, tmps.getD x undef]) w := by
  simp [results, h]
def Ln.out (r : Ln) : Value := .tuple #[.string (S r.m), .string (S r.t), .int .i64 r.v, .int .i64 r.s]
theorem ln_no {l : List UInt8} (h : ((Lib.cut l [32]).2.2 && (Lib.cut (Lib.cut l [32]).2.1 [32]).2.2 && isTok (Lib.cut l [32]).1 && isTgt (Lib.cut (Lib.cut l [32]).2.1 [32]).1) = false) : lnM l = ⟨[], [], 0, 400⟩ := by
  unfold lnM; dsimp only; rw [h]; rfl
theorem ln_yes {l : List UInt8} (h : ((Lib.cut l [32]).2.2 && (Lib.cut (Lib.cut l [32]).2.1 [32]).2.2 && isTok (Lib.cut l [32]).1 && isTgt (Lib.cut (Lib.cut l [32]).2.1 [32]).1) = true) :
    lnM l = if minS (Lib.cut (Lib.cut l [32]).2.1 [32]).2.1 = 200 then ⟨(Lib.cut l [32]).1, (Lib.cut (Lib.cut l [32]).2.1 [32]).1, minV (Lib.cut (Lib.cut l [32]).2.1 [32]).2.1, 200⟩ else ⟨[], [], 0, minS (Lib.cut (Lib.cut l [32]).2.1 [32]).2.1⟩ := by
  unfold lnM; dsimp only; rw [h]; rfl
set_option maxRecDepth 100000 in
set_option maxHeartbeats 2000000 in
theorem inlet_Line (l : List UInt8) (w : World) (hm : ML w) (hl : l.length < 4294967281) :
    Calls Tryz.prog 84 #[.string (S l)] w fun e w' => e = .returned (lnM l).out ∧ Keep [] w w' := by
  have hC1 : Calls Tryz.prog 130 #[.string (S l), .string ⟨#[32]⟩] w fun e w' => e = .returned (.tuple #[.string (S (Lib.cut l [32]).1), .string (S (Lib.cut l [32]).2.1), .bool (Lib.cut l [32]).2.2]) ∧ Keep [] w w' := strings_Cut l ⟨#[32]⟩ w hm hl
  have hl1 := cut_len l [32]; have hno := ln_no (l := l); have hyes := ln_yes (l := l); generalize lnM l = R at *; generalize Lib.cut l [32] = c1 at *; obtain ⟨xm, r, ok1⟩ := c1; dsimp only at *; have hC2 := fun w1 (k : Keep [] w w1) => show Calls Tryz.prog 130 #[.string (S r), .string ⟨#[32]⟩] w1 fun e w' => e = .returned (.tuple #[.string (S (Lib.cut r [32]).1), .string (S (Lib.cut r [32]).2.1), .bool (Lib.cut r [32]).2.2]) ∧ Keep [] w1 w' from strings_Cut r ⟨#[32]⟩ w1 (hm.keep k (by simp)) (by omega)
  have hl2 := cut_len r [32]; generalize Lib.cut r [32] = c2 at *; obtain ⟨xt, xl, ok2⟩ := c2; dsimp only at *; have HT := Lib.hid (fun w' => field_IsToken xm w' (show xm.length ≤ 9223372036854775807 by omega)); have HG := Lib.hid (fun w' => inlet_isTarget xt w' (show xt.length ≤ 9223372036854775807 by omega)); have HM := Lib.hid (fun w' => inlet_minor xl w' (show xl.length ≤ 9223372036854775807 by omega)); have HC1 := Lib.hid hC1; have HC2 := Lib.hid hC2; clear hC1 hC2 hl1 hl2
  cases ok1 with
  | false =>
    have HR := Lib.hid (hno rfl); clear hno hyes; go_enter Tryz.func84, Tryz.ntmps84; go_wp2_with fail; refine HC1.out.mono ?_; rintro e w1 ⟨rfl, k1⟩; go_wp2_with fail; refine (HC2.out _ k1).mono ?_; rintro e w2 ⟨rfl, k2⟩; go_wp2_with fail; refine bodyPost_ret (res4 rfl _ _ _) rfl ⟨?_, k1.trans k2⟩; rw [HR.out]; rfl
  | true =>
    cases ok2 with
    | false =>
      have HR := Lib.hid (hno rfl); clear hno hyes; go_enter Tryz.func84, Tryz.ntmps84; go_wp2_with fail; refine HC1.out.mono ?_; rintro e w1 ⟨rfl, k1⟩; go_wp2_with fail; refine (HC2.out _ k1).mono ?_; rintro e w2 ⟨rfl, k2⟩; go_wp2_with fail; refine bodyPost_ret (res4 rfl _ _ _) rfl ⟨?_, k1.trans k2⟩; rw [HR.out]; rfl
    | true =>
      cases htk : isTok xm with
      | false =>
        rw [htk] at HT hno; have HR := Lib.hid (hno rfl); clear hno hyes htk; go_enter Tryz.func84, Tryz.ntmps84; go_wp2_with fail; refine HC1.out.mono ?_; rintro e w1 ⟨rfl, k1⟩; go_wp2_with fail; refine (HC2.out _ k1).mono ?_; rintro e w2 ⟨rfl, k2⟩; go_wp2_with fail; refine (HT.out _).mono ?_; rintro e w3 ⟨rfl, k3⟩; go_wp2_with fail; refine bodyPost_ret (res4 rfl _ _ _) rfl ⟨?_, (k1.trans k2).trans k3⟩; rw [HR.out]; rfl
      | true =>
        rw [htk] at HT hno hyes
        cases htg : isTgt xt with
        | false =>
          rw [htg] at HG hno; have HR := Lib.hid (hno rfl); clear hno hyes htk htg; go_enter Tryz.func84, Tryz.ntmps84; go_wp2_with fail; refine HC1.out.mono ?_; rintro e w1 ⟨rfl, k1⟩; go_wp2_with fail; refine (HC2.out _ k1).mono ?_; rintro e w2 ⟨rfl, k2⟩; go_wp2_with fail; refine (HT.out _).mono ?_; rintro e w3 ⟨rfl, k3⟩; go_wp2_with fail; refine (HG.out _).mono ?_; rintro e w4 ⟨rfl, k4⟩; go_wp2_with fail; refine bodyPost_ret (res4 rfl _ _ _) rfl ⟨?_, ((k1.trans k2).trans k3).trans k4⟩; rw [HR.out]; rfl
        | true =>
          rw [htg] at HG hyes; have hR := hyes rfl; clear hno hyes htk htg; generalize minS xl = ms at *; generalize minV xl = mv at *; by_cases h2 : ms = 200
          · rw [if_pos h2] at hR; have q := (int_eq h2).2; have HR := Lib.hid hR; clear hR h2; go_enter Tryz.func84, Tryz.ntmps84; go_wp2_with fail; refine HC1.out.mono ?_; rintro e w1 ⟨rfl, k1⟩; go_wp2_with fail; refine (HC2.out _ k1).mono ?_; rintro e w2 ⟨rfl, k2⟩; go_wp2_with fail; refine (HT.out _).mono ?_; rintro e w3 ⟨rfl, k3⟩; go_wp2_with fail; refine (HG.out _).mono ?_; rintro e w4 ⟨rfl, k4⟩; go_wp2_with fail; refine (HM.out _).mono ?_; rintro e w5 ⟨rfl, k5⟩; go_wp2_with fail; refine bodyPost_ret (res4 rfl _ _ _) rfl ⟨?_, (((k1.trans k2).trans k3).trans k4).trans k5⟩; rw [HR.out]; rfl
          · rw [if_neg h2] at hR; have q := (int_ne h2).2; have HR := Lib.hid hR; clear hR h2; go_enter Tryz.func84, Tryz.ntmps84; go_wp2_with fail; refine HC1.out.mono ?_; rintro e w1 ⟨rfl, k1⟩; go_wp2_with fail; refine (HC2.out _ k1).mono ?_; rintro e w2 ⟨rfl, k2⟩; go_wp2_with fail; refine (HT.out _).mono ?_; rintro e w3 ⟨rfl, k3⟩; go_wp2_with fail; refine (HG.out _).mono ?_; rintro e w4 ⟨rfl, k4⟩; go_wp2_with fail; refine (HM.out _).mono ?_; rintro e w5 ⟨rfl, k5⟩; go_wp2_with fail; refine bodyPost_ret (res4 rfl _ _ _) rfl ⟨?_, (((k1.trans k2).trans k3).trans k4).trans k5⟩; rw [HR.out]; rfl
theorem cut_by (a b : List UInt8) (c : UInt8) (h : c ∉ a) : Lib.cut (a ++ c :: b) [c] = (a, b, true) := by
  unfold Lib.cut
  have hi : Lib.index (a ++ c :: b) [c] = (a.length : Int) := by
    rw [Lib.index_one]; refine indexByte_at (by simp) (fun j hj => ?_); rw [List.getElem?_append_left hj]; intro e; exact h (List.mem_of_getElem? e)
  rw [hi, if_pos (by omega)]; simp
end Go.Proofs.YtlhnjkekjbbhcaaGreatDoor
