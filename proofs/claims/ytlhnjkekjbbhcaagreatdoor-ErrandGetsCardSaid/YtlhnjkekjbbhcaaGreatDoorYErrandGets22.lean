/- Parts of the proof of ErrandGets, in order. No conditions but those that each theorem states. -/
import Derived.Test.YtlhnjkekjbbhcaaGreatDoorYErrandGets0
import Derived.Lib.LastIndexByte
import Derived.Lib.SlBytesConst
import Derived.DeepKeys4
import Derived.Test.YtlhnjkekjbbhcaaGreatDoorYErrandGets19
import Derived.Test.YtlhnjkekjbbhcaaGreatDoorYErrandGets21
set_option linter.unusedSimpArgs false
set_option linter.unusedVariables false
namespace Go.Proofs.YtlhnjkekjbbhcaaGreatDoor
open Go.RowKit Go.Shelf
structure Ky where
  kind : Int
  repo : List UInt8
  tag : List UInt8
  dig : Dig
  blob : Bool
deriving DecidableEq
def Ky.cells (k : Ky) : List Value := [.int .i64 k.kind, .string (S k.repo), .string (S k.tag)] ++ digC k.dig ++ [.bool k.blob]
structure Rt where
  kind : Int
  repo : List UInt8
  tag : List UInt8
  dig : Dig
deriving DecidableEq
def Rt.cells (r : Rt) : List Value := [.int .i64 r.kind, .string (S r.repo), .string (S r.tag)] ++ digC r.dig
structure Tk where
  repo : List UInt8
  tag : List UInt8
  found : Bool
  dig : Dig
  typ : List UInt8
  size : Int
  at_ : Int
deriving DecidableEq
def Tk.cells (t : Tk) : List Value := [.string (S t.repo), .string (S t.tag), .bool t.found] ++ digC t.dig ++ [.string (S t.typ), .int .i64 t.size, .int .i64 t.at_]
structure Rs where
  status : Int
  dig : Dig
  typ : List UInt8
  size : Int
  at_ : Int
deriving DecidableEq
def Rs.cells (r : Rs) : List Value := [.int .i64 r.status] ++ digC r.dig ++ [.string (S r.typ), .int .i64 r.size, .int .i64 r.at_]
theorem Ky.len (k : Ky) : k.cells.length = 36 := by simp [Ky.cells, digC_length]
theorem Rt.len (k : Rt) : k.cells.length = 35 := by simp [Rt.cells, digC_length]
theorem Tk.len (k : Tk) : k.cells.length = 38 := by simp [Tk.cells, digC_length]
theorem Rs.len (k : Rs) : k.cells.length = 36 := by simp [Rs.cells, digC_length]
theorem Ky.at_dig (k : Ky) : ∀ j v, (digC k.dig)[j]? = some v → k.cells[3 + j]? = some v := fun j v hv => by
  have hj : j < 32 := by have := (List.getElem?_eq_some_iff.1 hv).1; rwa [digC_length] at this
  unfold Ky.cells; rw [List.getElem?_append_left (by simp [digC_length]; omega), List.getElem?_append_right (by simp)]; simpa using hv
theorem Ky.at_blob (k : Ky) : k.cells[35]? = some (.bool k.blob) := by
  unfold Ky.cells; rw [List.getElem?_append_right (by simp [digC_length])]; simp [digC_length]
theorem Rt.at_dig (k : Rt) : ∀ j v, (digC k.dig)[j]? = some v → k.cells[3 + j]? = some v := fun j v hv => by
  unfold Rt.cells; rw [List.getElem?_append_right (by simp)]; simpa using hv
theorem Tk.at_dig (k : Tk) : ∀ j v, (digC k.dig)[j]? = some v → k.cells[3 + j]? = some v := fun j v hv => by
  have hj : j < 32 := by have := (List.getElem?_eq_some_iff.1 hv).1; rwa [digC_length] at this
  unfold Tk.cells; rw [List.getElem?_append_left (by simp [digC_length]; omega), List.getElem?_append_right (by simp)]; simpa using hv
theorem Tk.at_typ (k : Tk) : k.cells[35]? = some (.string (S k.typ)) := by
  unfold Tk.cells; rw [List.getElem?_append_right (by simp [digC_length])]; simp [digC_length]
theorem Tk.at_size (k : Tk) : k.cells[36]? = some (.int .i64 k.size) := by
  unfold Tk.cells; rw [List.getElem?_append_right (by simp [digC_length])]; simp [digC_length]
theorem Ky.one (k : Ky) : ∀ v ∈ k.cells, v.oneCell' = true := by
  intro v hv; simp only [Ky.cells, List.mem_append, List.mem_cons, List.not_mem_nil, or_false] at hv; rcases hv with ((rfl | rfl | rfl) | h) | rfl
  · rfl
  · rfl
  · rfl
  · exact dig_one _ v h
  · rfl
theorem Rt.one (k : Rt) : ∀ v ∈ k.cells, v.oneCell' = true := by
  intro v hv; simp only [Rt.cells, List.mem_append, List.mem_cons, List.not_mem_nil, or_false] at hv; rcases hv with (rfl | rfl | rfl) | h
  · rfl
  · rfl
  · rfl
  · exact dig_one _ v h
theorem Rs.one (k : Rs) : ∀ v ∈ k.cells, v.oneCell' = true := by
  intro v hv; simp only [Rs.cells, List.mem_append, List.mem_cons, List.not_mem_nil, or_false] at hv; rcases hv with (rfl | h) | (rfl | rfl | rfl)
  · rfl
  · exact dig_one _ v h
  · rfl
  · rfl
  · rfl
theorem ky_size (k : Ky) : (Tryz.prog.info? 25).map (·.size) = some k.cells.length := by rw [k.len]; kernel_rfl
theorem rt_size (k : Rt) : (Tryz.prog.info? 77).map (·.size) = some k.cells.length := by rw [k.len]; kernel_rfl
theorem tk_size (k : Tk) : (Tryz.prog.info? 27).map (·.size) = some k.cells.length := by rw [k.len]; kernel_rfl
theorem rs_size (k : Rs) : (Tryz.prog.info? 39).map (·.size) = some k.cells.length := by rw [k.len]; kernel_rfl
theorem rt_load {w : World} {b : Nat} {d : Rt} (h : w.rangeAt b 0 d.cells) : (loadVar 77 ⟨b, 0, none⟩).run Tryz.prog w = .ok (.agg d.cells.toArray) w :=
  run_loadVar_mid (P := Tryz.prog) w b 0 77 d.cells _ h Tryz.underlying77 rfl (rt_size d)
theorem rs_load {w : World} {b : Nat} {d : Rs} (h : w.rangeAt b 0 d.cells) : (loadVar 39 ⟨b, 0, none⟩).run Tryz.prog w = .ok (.agg d.cells.toArray) w :=
  run_loadVar_mid (P := Tryz.prog) w b 0 39 d.cells _ h Tryz.underlying39 rfl (rs_size d)
set_option maxRecDepth 100000 in
theorem eqDg (a b : Dig) (w : World) : (Op.equalIn 10000 23 (.agg (digC a).toArray) (.agg (digC b).toArray)).run Tryz.prog w = .ok (decide (a = b)) w := by
  obtain ⟨r, hr, hi⟩ := run_equal_deep w (m := 2) (by omega) (k := 23) (of_decide_eq_true (by kernel_rfl)) (by kernel_rfl) (dig_key a) (dig_key b); have hr' : (Op.equalIn 10000 23 (.agg (digC a).toArray) (.agg (digC b).toArray)).run Tryz.prog w = .ok r w := hr; refine hr'.trans ?_; congr 1; rw [Bool.eq_iff_iff, hi, decide_eq_true_eq]; constructor
  · intro h; exact Subtype.ext (by injection h)
  · rintro rfl; rfl
theorem int_litsK (D : Nat) (n : Int) (hn : -9223372036854775808 ≤ n ∧ n ≤ 9223372036854775807) : Tryz.prog.keyLits (D + 1) 3 [.int .i64 n] = some [.int .i64 n] := by
  unfold Program.keyLits; rw [Tryz.underlying3]
  have : (Lit.int .i64 n).wf = true := by
    simp [Lit.wf, IntKind.min, IntKind.max, IntKind.signed, IntKind.bits]; omega
  simp [this]
theorem str_litsK (D : Nat) (l : List UInt8) (hl : l.length ≤ maxLen) : Tryz.prog.keyLits (D + 1) 9 [.string (S l)] = some [.string l] := by
  unfold Program.keyLits; rw [Tryz.underlying9]; have h1 := S_size l; have h2 : (S l).data.toList = l := rfl; simp [h1, h2, hl]
def goodRt (r : Rt) : Prop := r.repo.length ≤ maxLen ∧ r.tag.length ≤ maxLen ∧ -9223372036854775808 ≤ r.kind ∧ r.kind ≤ 9223372036854775807
def goodRs (r : Rs) : Prop := r.typ.length ≤ maxLen ∧ (-9223372036854775808 ≤ r.status ∧ r.status ≤ 9223372036854775807) ∧ (-9223372036854775808 ≤ r.size ∧ r.size ≤ 9223372036854775807) ∧ (-9223372036854775808 ≤ r.at_ ∧ r.at_ ≤ 9223372036854775807)
def rtLits (r : Rt) : List Lit := [.int .i64 r.kind, .string r.repo, .string r.tag] ++ (r.dig.1.map fun b => .int .u8 (b.toNat : Nat))
def rsLits (r : Rs) : List Lit := [.int .i64 r.status] ++ (r.dig.1.map fun b => .int .u8 (b.toNat : Nat)) ++ [.string r.typ, .int .i64 r.size, .int .i64 r.at_]
theorem digL_inj {a b : Dig} (h : (a.1.map fun b => Lit.int .u8 (b.toNat : Nat)) = b.1.map fun b => Lit.int .u8 (b.toNat : Nat)) : a = b :=
  Subtype.ext (map_inj (fun x y hxy => by simp at hxy; exact UInt8.toNat_inj.1 (by omega)) _ _ h)
theorem rtLits_inj {a b : Rt} (h : rtLits a = rtLits b) : a = b := by
  unfold rtLits at h; obtain ⟨h1, h2⟩ := List.append_inj h rfl; simp at h1; have e := digL_inj h2; cases a; cases b; simp at *; exact ⟨h1.1, h1.2.1, h1.2.2, e⟩
theorem rsLits_inj {a b : Rs} (h : rsLits a = rsLits b) : a = b := by
  unfold rsLits at h; rw [List.append_assoc, List.append_assoc] at h; obtain ⟨h1, h2⟩ := List.append_inj h rfl; obtain ⟨h3, h4⟩ := List.append_inj h2 (by simp [a.dig.2, b.dig.2]); have e := digL_inj h3; simp at h1 h4; cases a; cases b; simp at *; exact ⟨h1, e, h4.1, h4.2.1, h4.2.2⟩
set_option maxRecDepth 100000 in
theorem rt_lits (D : Nat) (r : Rt) (hr : goodRt r) : Tryz.prog.keyLits (D + 3) 77 r.cells = some (rtLits r) := by
  have hc : Tryz.prog.cellsOf 77 = 35 := by kernel_rfl
  have h1 : Tryz.prog.cellsOf 5 = 1 := by kernel_rfl
  have hd : Tryz.prog.cellsOf 23 = 32 := by kernel_rfl
  have hs : Tryz.prog.cellsOf 9 = 1 := by kernel_rfl
  have hi : Tryz.prog.cellsOf 3 = 1 := by kernel_rfl
  have hl := digC_length r.dig
  have p0 : Tryz.prog.keyLits (D + 2) 3 ((r.cells.drop 0).take 1) = some [.int .i64 r.kind] := by
    have e : (r.cells.drop 0).take 1 = [.int .i64 r.kind] := rfl; rw [e]; exact int_litsK _ _ hr.2.2
  have p1 : Tryz.prog.keyLits (D + 2) 9 ((r.cells.drop 1).take 1) = some [.string r.repo] := by
    have e : (r.cells.drop 1).take 1 = [.string (S r.repo)] := rfl; rw [e]; exact str_litsK _ _ hr.1
  have p2 : Tryz.prog.keyLits (D + 2) 9 ((r.cells.drop 2).take 1) = some [.string r.tag] := by
    have e : (r.cells.drop 2).take 1 = [.string (S r.tag)] := rfl; rw [e]; exact str_litsK _ _ hr.2.1
  have p3 : Tryz.prog.keyLits (D + 2) 23 ((r.cells.drop 3).take 32) = some (r.dig.1.map fun b => .int .u8 (b.toNat : Nat)) := by
    have e : (r.cells.drop 3).take 32 = r.dig.1.map fun b => Value.int .u8 (b.toNat : Nat) := by
      show (digC r.dig).take 32 = _; rw [List.take_of_length_le (by rw [hl]; exact Nat.le_refl _)]; rfl
    rw [e]; exact keyLits_bytes Tryz.underlying23 Tryz.underlying5 h1 hd D r.dig.1 r.dig.2
  unfold Program.keyLits; rw [Tryz.underlying77]; simp only; rw [if_pos ⟨by rw [hc]; exact r.len, by kernel_rfl⟩]; simp only [List.mapM_cons, List.mapM_nil, hd, hs, hi, p0, p1, p2, p3]; simp [rtLits]
set_option maxRecDepth 100000 in
theorem rs_lits (D : Nat) (r : Rs) (hr : goodRs r) : Tryz.prog.keyLits (D + 3) 39 r.cells = some (rsLits r) := by
  have hc : Tryz.prog.cellsOf 39 = 36 := by kernel_rfl
  have h1 : Tryz.prog.cellsOf 5 = 1 := by kernel_rfl
  have hd : Tryz.prog.cellsOf 23 = 32 := by kernel_rfl
  have hs : Tryz.prog.cellsOf 9 = 1 := by kernel_rfl
  have hi : Tryz.prog.cellsOf 3 = 1 := by kernel_rfl
  have hl := digC_length r.dig
  have p0 : Tryz.prog.keyLits (D + 2) 3 ((r.cells.drop 0).take 1) = some [.int .i64 r.status] := by
    have e : (r.cells.drop 0).take 1 = [.int .i64 r.status] := rfl; rw [e]; exact int_litsK _ _ hr.2.1
  have p1 : Tryz.prog.keyLits (D + 2) 23 ((r.cells.drop 1).take 32) = some (r.dig.1.map fun b => .int .u8 (b.toNat : Nat)) := by
    have e : (r.cells.drop 1).take 32 = r.dig.1.map fun b => Value.int .u8 (b.toNat : Nat) := by
      show (digC r.dig ++ _).take 32 = _; rw [List.take_left' hl]; rfl
    rw [e]; exact keyLits_bytes Tryz.underlying23 Tryz.underlying5 h1 hd D r.dig.1 r.dig.2
  have ed : r.cells.drop 33 = [.string (S r.typ), .int .i64 r.size, .int .i64 r.at_] := by
    show (digC r.dig ++ _).drop 32 = _; rw [List.drop_left' hl]
  have p2 : Tryz.prog.keyLits (D + 2) 9 ((r.cells.drop 33).take 1) = some [.string r.typ] := by
    rw [ed]; exact str_litsK _ _ hr.1
  have p3 : Tryz.prog.keyLits (D + 2) 3 ((r.cells.drop 34).take 1) = some [.int .i64 r.size] := by
    have e : (r.cells.drop 34).take 1 = [.int .i64 r.size] := by rw [show 34 = 33 + 1 from rfl, ← List.drop_drop, ed]; rfl
    rw [e]; exact int_litsK _ _ hr.2.2.1
  have p4 : Tryz.prog.keyLits (D + 2) 3 ((r.cells.drop 35).take 1) = some [.int .i64 r.at_] := by
    have e : (r.cells.drop 35).take 1 = [.int .i64 r.at_] := by rw [show 35 = 33 + 2 from rfl, ← List.drop_drop, ed]; rfl
    rw [e]; exact int_litsK _ _ hr.2.2.2
  unfold Program.keyLits; rw [Tryz.underlying39]; simp only; rw [if_pos ⟨by rw [hc]; exact r.len, by kernel_rfl⟩]; simp only [List.mapM_cons, List.mapM_nil, hd, hs, hi, p0, p1, p2, p3, p4]; rfl
set_option maxRecDepth 100000 in
theorem eqRt (a b : Rt) (ha : goodRt a) (hb : goodRt b) (w : World) : (Op.equalIn 10000 77 (.agg a.cells.toArray) (.agg b.cells.toArray)).run Tryz.prog w = .ok (decide (a = b)) w := by
  have hc : Tryz.prog.cellsOf 77 = 35 := by kernel_rfl
  have hf : ∀ j : Rt, Value.formed Tryz.prog 77 (.agg j.cells.toArray) = true := fun j => by
    unfold Value.formed; rw [Tryz.underlying77]; simp [hc, Rt.len]
  obtain ⟨r, hr, hi⟩ := run_equalIn_deep (P := Tryz.prog) 9997 3 77 (of_decide_eq_true (by kernel_rfl)) w 3 3 (.agg a.cells.toArray) (.agg b.cells.toArray) (rtLits a) (rtLits b) (hf a) (hf b) (rt_lits 0 a ha) (rt_lits 0 b hb); refine (show (Op.equalIn 10000 77 (.agg a.cells.toArray) (.agg b.cells.toArray)).run Tryz.prog w = .ok r w from hr).trans ?_; congr 1; rw [Bool.eq_iff_iff, hi, decide_eq_true_eq]; exact ⟨rtLits_inj, fun e => by rw [e]⟩
set_option maxRecDepth 100000 in
theorem eqRs (a b : Rs) (ha : goodRs a) (hb : goodRs b) (w : World) : (Op.equalIn 10000 39 (.agg a.cells.toArray) (.agg b.cells.toArray)).run Tryz.prog w = .ok (decide (a = b)) w := by
  have hc : Tryz.prog.cellsOf 39 = 36 := by kernel_rfl
  have hf : ∀ j : Rs, Value.formed Tryz.prog 39 (.agg j.cells.toArray) = true := fun j => by
    unfold Value.formed; rw [Tryz.underlying39]; simp [hc, Rs.len]
  obtain ⟨r, hr, hi⟩ := run_equalIn_deep (P := Tryz.prog) 9997 3 39 (of_decide_eq_true (by kernel_rfl)) w 3 3 (.agg a.cells.toArray) (.agg b.cells.toArray) (rsLits a) (rsLits b) (hf a) (hf b) (rs_lits 0 a ha) (rs_lits 0 b hb); refine (show (Op.equalIn 10000 39 (.agg a.cells.toArray) (.agg b.cells.toArray)).run Tryz.prog w = .ok r w from hr).trans ?_; congr 1; rw [Bool.eq_iff_iff, hi, decide_eq_true_eq]; exact ⟨rsLits_inj, fun e => by rw [e]⟩
def rootB : List UInt8 := [47, 118, 50, 47]
def maniB : List UInt8 := [109, 97, 110, 105, 102, 101, 115, 116, 115]
def blobB : List UInt8 := [98, 108, 111, 98, 115]
def rt0 : Rt := ⟨0, [], [], zeroD⟩
def rt1 : Rt := ⟨1, [], [], zeroD⟩
def goodRtM (r : Rt) : Bool :=
  if r.kind = 1 then decide (r = rt1)
  else if r.kind = 2 then isRepoM r.repo && (isTagM r.tag && decide (r.dig = zeroD))
  else if r.kind = 3 ∨ r.kind = 4 then isRepoM r.repo && r.tag.isEmpty
  else false
def rtWord (r : Rt) : List UInt8 := if r.kind = 4 then blobB else maniB
def rtRef (r : Rt) : List UInt8 := if r.kind = 2 then r.tag else stampM r.dig.1
def rtText (r : Rt) : List UInt8 := if r.kind = 1 then rootB else rootB ++ r.repo ++ [47] ++ rtWord r ++ [47] ++ rtRef r
theorem rtText_len (r : Rt) : (rtText r).length ≤ r.repo.length + r.tag.length + 100 := by
  unfold rtText
  split
  · simp [rootB] <;> omega
  · have h1 : (rtWord r).length ≤ 9 := by unfold rtWord; split <;> decide
    have h2 : (rtRef r).length ≤ r.tag.length + 71 := by unfold rtRef; split; (omega); rw [stampM_len]; omega
    have h3 : rootB.length = 4 := rfl; simp only [List.length_append, List.length_cons, List.length_nil, h3]; omega
end Go.Proofs.YtlhnjkekjbbhcaaGreatDoor
namespace Go.Proofs.YtlhnjkekjbbhcaaGreatDoor
open Go.RowKit
theorem lowB_tchar (b : UInt8) : tchar (lowB b) = tchar b := by
  refine all_u8 (p := fun b => tchar (lowB b) = tchar b) ?_ b; decide +kernel
theorem lowB_slash (b : UInt8) : (lowB b == 47) = (b == 47) := by
  refine all_u8 (p := fun b => (lowB b == 47) = (b == 47)) ?_ b; decide +kernel
theorem isTok_low (l : List UInt8) : isTok (lowW l) = isTok l := by
  unfold isTok lowW; rw [List.all_map]; have : (tchar ∘ lowB) = tchar := funext lowB_tchar; rw [this]; simp
theorem low_len (l : List UInt8) : (lowW l).length = l.length := by simp [lowW]
theorem low_slash (l : List UInt8) : Lib.indexByte (lowW l) 47 = Lib.indexByte l 47 := by
  have h : ∀ (l : List UInt8) (i : Nat), (lowW l)[i]? = some (47 : UInt8) ↔ l[i]? = some (47 : UInt8) := fun l i => by
    unfold lowW; rw [List.getElem?_map]
    cases l[i]? with
    | none => simp
    | some b =>
      have := lowB_slash b; rw [Bool.eq_iff_iff, beq_iff_eq, beq_iff_eq] at this; simpa using this
  have g1 := Lib.indexByte_ge (lowW l) 47; have g2 := Lib.indexByte_ge l 47; by_cases h1 : Lib.indexByte l 47 = -1
  · rw [h1]; by_cases h2 : Lib.indexByte (lowW l) 47 = -1
    · exact h2
    · obtain ⟨i, hi⟩ : ∃ i : Nat, Lib.indexByte (lowW l) 47 = i := ⟨(Lib.indexByte (lowW l) 47).toNat, by omega⟩
      exact absurd ((h l i).1 (Lib.indexByte_some hi).1) (Lib.indexByte_none h1 i)
  · obtain ⟨i, hi⟩ : ∃ i : Nat, Lib.indexByte l 47 = i := ⟨(Lib.indexByte l 47).toNat, by omega⟩
    rw [hi]; exact indexByte_at ((h l i).2 (Lib.indexByte_some hi).1) (fun j hj h3 => (Lib.indexByte_some hi).2 j hj ((h l j).1 h3))
def typA (l : List UInt8) : List UInt8 := l.take (Lib.indexByte l 47).toNat
def typB (l : List UInt8) : List UInt8 := l.drop ((Lib.indexByte l 47).toNat + 1)
def isTypeM (l : List UInt8) : Bool := decide (0 ≤ Lib.indexByte l 47) && isTok (typA l) && isTok (typB l) && decide (l.length ≤ 100)
theorem low_cut (l : List UInt8) : Lib.cut (lowW l) [47] = if 0 ≤ Lib.indexByte l 47 then (lowW (typA l), lowW (typB l), true) else (lowW l, [], false) := by
  unfold Lib.cut; rw [Lib.index_one, low_slash]; by_cases h : 0 ≤ Lib.indexByte l 47
  · rw [if_pos h, if_pos h]; simp [typA, typB, lowW, List.map_take, List.map_drop]
  · rw [if_neg h, if_neg h]
theorem isType_cut (l : List UInt8) : isTypeM l = ((Lib.cut (lowW l) [47]).2.2 && isTok (Lib.cut (lowW l) [47]).1 && isTok (Lib.cut (lowW l) [47]).2.1 && decide (l.length ≤ 100)) := by
  rw [low_cut]; unfold isTypeM; by_cases h : 0 ≤ Lib.indexByte l 47
  · rw [if_pos h, decide_eq_true h]; simp only [isTok_low]
  · rw [if_neg h, decide_eq_false h]; simp
end Go.Proofs.YtlhnjkekjbbhcaaGreatDoor
namespace Go.Proofs.YtlhnjkekjbbhcaaGreatDoor
open Go.RowKit Go.Shelf
def acceptB : List UInt8 := [65, 99, 99, 101, 112, 116]
def inmB : List UInt8 := [73, 102, 45, 78, 111, 110, 101, 45, 77, 97, 116, 99, 104]
def methHead : List UInt8 := [72, 69, 65, 68]
def methGet : List UInt8 := [71, 69, 84]
def ctB : List UInt8 := [67, 111, 110, 116, 101, 110, 116, 45, 84, 121, 112, 101]
def dcdB : List UInt8 := [68, 111, 99, 107, 101, 114, 45, 67, 111, 110, 116, 101, 110, 116, 45, 68, 105, 103, 101, 115, 116]
def accB : List UInt8 := [97, 112, 112, 108, 105, 99, 97, 116, 105, 111, 110, 47, 118, 110, 100, 46, 111, 99, 105, 46, 105, 109, 97, 103, 101, 46, 109, 97, 110, 105, 102, 101, 115, 116, 46, 118, 49, 43, 106, 115, 111, 110, 44, 32, 97, 112, 112, 108, 105, 99, 97, 116, 105, 111, 110, 47, 118, 110, 100, 46, 111, 99, 105, 46, 105, 109, 97, 103, 101, 46, 105, 110, 100, 101, 120, 46, 118, 49, 43, 106, 115, 111, 110, 44, 32, 42, 47, 42, 59, 113, 61, 48, 46, 53]
def goodKyM (k : Ky) : Bool := isRepoM k.repo && (if k.kind = 1 then isTagM k.tag && (decide (k.dig = zeroD) && !k.blob) else decide (k.kind = 2 ∨ k.kind = 3) && k.tag.isEmpty)
def routeM (k : Ky) : Rt := ⟨if k.kind = 1 then 2 else if k.blob = true then 4 else 3, k.repo, k.tag, k.dig⟩
theorem route_good {k : Ky} (h : goodKyM k = true) : goodRtM (routeM k) = true := by
  unfold goodKyM at h; rw [Bool.and_eq_true] at h; obtain ⟨h1, h2⟩ := h; by_cases hk : k.kind = 1
  · rw [if_pos hk] at h2; simp only [Bool.and_eq_true, decide_eq_true_eq] at h2; simp [goodRtM, routeM, hk, h1, h2.1, h2.2.1]
  · rw [if_neg hk] at h2; simp only [Bool.and_eq_true, decide_eq_true_eq, List.isEmpty_iff] at h2; cases hb : k.blob <;> simp [goodRtM, routeM, hk, hb, h1, h2.2]
def inmF (t : Tk) : Fld := ⟨inmB, [34] ++ stampM t.dig.1 ++ [34]⟩
def askF (k : Ky) (host : List UInt8) (t : Tk) : List Fld := [⟨nHost, host⟩] ++ (if k.blob = true then [] else [⟨acceptB, accB⟩]) ++ (if k.kind = 1 ∧ t.found = true then [inmF t] else [])
def methB (k : Ky) : List UInt8 := if k.kind = 2 then methGet else methHead
def askedE (k : Ky) (host : List UInt8) (t : Tk) : Int := if goodKyM k = true ∧ askE (methB k) (rtText (routeM k)) (askF k host t) = 0 then 0 else 1
def askedS (k : Ky) (host : List UInt8) (t : Tk) : List UInt8 := if askedE k host t = 0 then askS (methB k) (rtText (routeM k)) (askF k host t) else []
theorem asked_bad {k : Ky} {host : List UInt8} {t : Tk} (h : goodKyM k = false) : askedE k host t = 1 ∧ askedS k host t = [] := by
  have h1 : askedE k host t = 1 := by unfold askedE; rw [if_neg (by rw [h]; simp)]
  exact ⟨h1, by unfold askedS; rw [h1]; rfl⟩
theorem asked_no {k : Ky} {host : List UInt8} {t : Tk} (h : askE (methB k) (rtText (routeM k)) (askF k host t) ≠ 0) : askedE k host t = 1 ∧ askedS k host t = [] := by
  have h1 : askedE k host t = 1 := by unfold askedE; rw [if_neg (fun hh => h hh.2)]
  exact ⟨h1, by unfold askedS; rw [h1]; rfl⟩
theorem asked_yes {k : Ky} {host : List UInt8} {t : Tk} (hg : goodKyM k = true) (h : askE (methB k) (rtText (routeM k)) (askF k host t) = 0) : askedE k host t = 0 ∧ askedS k host t = askS (methB k) (rtText (routeM k)) (askF k host t) := by
  have h1 : askedE k host t = 0 := by unfold askedE; rw [if_pos ⟨hg, h⟩]
  exact ⟨h1, by unfold askedS; rw [h1]; rfl⟩
def typM (F : List Fld) : List UInt8 := if isTypeM (getV F ctB) = true then getV F ctB else []
def sizM (n : Int) : Int := if n < 0 ∨ 1048576 < n then 0 else n
def rs0 : Rs := ⟨0, zeroD, [], 0, 0⟩
def rsBad : Rs := ⟨502, zeroD, [], 0, 0⟩
def shownM (a : Ans) : Option Dig := behindO (getV a.F dcdB)
def foundM (k : Ky) (a : Ans) (at_ : Int) : Rs :=
  if k.kind = 1 ∧ getN a.F dcdB = 1 ∧ (shownM a).isSome = true then ⟨200, (shownM a).getD zeroD, typM a.F, sizM a.len, at_⟩
  else if k.kind = 3 ∧ (getN a.F dcdB = 0 ∨ (shownM a).isSome = true ∧ (shownM a).getD zeroD = k.dig) then ⟨200, k.dig, typM a.F, sizM a.len, at_⟩
  else rsBad
def judgeV (k : Ky) (a : Ans) : Int := if a.st = 404 then 1 else if a.st = 429 ∨ (500 ≤ a.st ∧ a.st ≤ 599) then 2 else if a.st = 200 ∧ k.kind = 2 then 3 else 1
def judgeR (k : Ky) (t : Tk) (a : Ans) (at_ : Int) : Rs :=
  if a.st = 404 then ⟨404, zeroD, [], 0, at_⟩
  else if a.st = 429 ∨ (500 ≤ a.st ∧ a.st ≤ 599) then rs0
  else if a.st = 200 then (if k.kind = 2 then rs0 else foundM k a at_)
  else if a.st = 304 ∧ k.kind = 1 ∧ t.found = true then ⟨304, t.dig, t.typ, t.size, at_⟩
  else rsBad
end Go.Proofs.YtlhnjkekjbbhcaaGreatDoor
namespace Go.Proofs.YtlhnjkekjbbhcaaGreatDoor
open Go.RowKit
def textX : List UInt8 := [116, 101, 120, 116, 47, 120]
def glL (l : Nat) : List Fld := [⟨ctB, textX⟩, ⟨nCL, Lib.decDigits l⟩]
def gtL : List Fld := [⟨ctB, textX⟩, ⟨nTE, nChunked⟩]
theorem gl_good (l : Nat) : ∀ f ∈ glL l, goodF f = true := by
  intro f hf; rcases List.mem_cons.1 hf with rfl | hf
  · decide +kernel
  · exact cl_good l f hf
theorem gl_typ (l : Nat) : typM (glL l) = textX := by
  have g : getV (glL l) ctB = textX := by kernel_rfl
  unfold typM; rw [g, if_pos (by decide +kernel)]
theorem gt_typ : typM gtL = textX := by decide +kernel
theorem gl_closes (l : Nat) : closesM (glL l) 1 = false := by
  have g : elsM (glL l) nConn = [] := by kernel_rfl
  unfold closesM; rw [g]; decide +kernel
theorem gt_closes : closesM gtL 1 = false := by decide +kernel
theorem gl_frame (l m : Nat) (h : l ≤ m) (hm : m ≤ 4611686018427387904) : (frameM (glL l) (m : Nat)).n = (l : Nat) ∧ (frameM (glL l) (m : Nat)).ch = false ∧ (frameM (glL l) (m : Nat)).e = 0 := by
  obtain ⟨u1, u2⟩ := undec_dec l (m : Nat) (by omega) (by omega); have g1 : getN (glL l) nTE = 0 := by kernel_rfl
  have g2 : getN (glL l) nCL = 1 := by kernel_rfl
  have g3 : getV (glL l) nCL = Lib.decDigits l := by kernel_rfl
  unfold frameM; rw [g1, g2, g3, if_neg (by omega), if_neg (by omega), if_neg (by omega)]; dsimp only; rw [u1, u2]; exact ⟨rfl, rfl, rfl⟩
theorem gt_frame (m : Int) : (frameM gtL m).ch = true ∧ (frameM gtL m).e = 0 := by
  have g1 : getN gtL nTE = 1 := by kernel_rfl
  have g2 : getN gtL nCL = 0 := by kernel_rfl
  have g3 : lowW (getV gtL nTE) = nChunked := by kernel_rfl
  unfold frameM; rw [g1, g2, if_neg (by omega), if_pos rfl, if_pos g3]; exact ⟨rfl, rfl⟩
theorem gframe_len {P : ReS} {c : Nat} {l : Nat} {cl : Bool} (hb : noBody (c : Nat) P.head = false) (hl : l ≤ P.most) (hm : P.most ≤ 4611686018427387904) : reFrame P ⟨(c : Nat), glL l, 0, false, cl⟩ = ⟨{ P with st := 2, left := l }, ⟨(c : Nat), glL l, (l : Nat), false, cl⟩, true⟩ := by
  obtain ⟨f1, f2, f3⟩ := gl_frame l P.most hl hm; unfold reFrame; rw [if_neg (by simp [hb]), if_neg (by simp [f3]), if_neg (by simp [f2]), if_neg (by rw [f1]; omega)]; simp only [f1, Int.toNat_natCast]
theorem gframe_chunks {P : ReS} {c : Nat} {cl : Bool} (hb : noBody (c : Nat) P.head = false) : reFrame P ⟨(c : Nat), gtL, 0, false, cl⟩ = ⟨{ P with st := 1, chk := some (ck0 P.most) }, ⟨(c : Nat), gtL, 0, true, cl⟩, true⟩ := by
  obtain ⟨f1, f2⟩ := gt_frame (P.most : Nat); unfold reFrame; rw [if_neg (by simp [hb]), if_neg (by simp [f2]), if_pos f1]
structure Whole (T : List UInt8) (a : Ans) (b : List UInt8) : Prop where
  st : (reAll ((reNew false 1048576).add T)).st = 4
  ans : (reAll ((reNew false 1048576).add T)).ans = some a
  dat : (reAll ((reNew false 1048576).add T)).dat = b
  inp : (reAll ((reNew false 1048576).add T)).inp = []
theorem in64_most : in64 1048576 := by unfold in64; omega
theorem whole_len {s b : List UInt8} (h : HeadOf s 200 (glL b.length)) (hb : b.length ≤ 4096) : Whole (s ++ b) ⟨200, glL b.length, (b.length : Nat), false, false⟩ b := by
  have hmn : (reNew false 1048576).most = 1048576 := rfl; have hf := gframe_len (P := { reNew false 1048576 with inp := b }) (c := 200) (l := b.length) (cl := closesM (glL b.length) 1) (by show noBody ((200 : Nat) : Int) false = false; decide) (by show b.length ≤ 1048576; omega) (by show (1048576 : Nat) ≤ _; omega); obtain ⟨h1, h2⟩ := h.read false b in64_most _ _ hf; generalize hX : ({ ({ ({ reNew false 1048576 with inp := b } : ReS) with st := 2, left := b.length } : ReS) with ans := some ⟨((200 : Nat) : Int), glL b.length, (b.length : Nat), false, closesM (glL b.length) 1⟩ } : ReS) = X at h1 h2; have x1 : X.st = 2 := by rw [← hX]
  have x2 : X.left = b.length := by rw [← hX]
  have x3 : X.inp = b := by rw [← hX]
  have x4 : X.dat = [] := by rw [← hX]; rfl
  have x5 : X.ans = some ⟨((200 : Nat) : Int), glL b.length, (b.length : Nat), false, closesM (glL b.length) 1⟩ := by rw [← hX]
  have hXok : X.ok (2 * (s.length + b.length)) := by
    rw [← hX]; refine ⟨?_, (reNew_ok false in64_most).big, (reNew_ok false in64_most).size, ?_, ?_, fun hh => absurd (show (2 : Nat) = 0 from hh) (by decide), fun hh => absurd (show (2 : Nat) = 1 from hh) (by decide)⟩
    · rw [wt_of (show (2 : Nat) ≠ 1 by decide)]; show 2 * b.length + 0 ≤ _; omega
    · show ((b.length : Nat) : Int) ≤ _; omega
    · show 2 ≤ 5; omega
  rw [all_length hXok x1, x2, x3, if_pos (Nat.le_refl _)] at h1; refine ⟨?_, ?_, ?_, ?_⟩ <;> rw [h1]
  · rfl
  · show X.ans = _; rw [x5, gl_closes]; rfl
  · show X.dat ++ X.inp.take b.length = b; rw [x4, x3, List.take_length]; rfl
  · show X.inp.drop b.length = []; rw [x3, List.drop_length]
theorem chunks_full (b : List UInt8) (hb : b.length ≤ 4096) : addC (ck0 1048576) (wrT 4096 b) = ⟨4, 0, 1048576, 0, [], b, 0⟩ := by
  have hr := runs_write 4096 1048576 [] 0 b.length b [] 0 (Nat.le_refl _) (by omega) (by show 0 + _ ≤ _; omega)
  have e1 : (ck0 1048576).add (wrT 4096 b) = ⟨0, 0, 1048576, 0, wrL 4096 b ++ (endC ++ []), [], 0⟩ := by
    rw [List.append_nil]; rfl
  rw [← e1] at hr; rw [addC_of_runs rfl (ck0_ok _) hr]; simp
theorem whole_chunks {s b : List UInt8} (h : HeadOf s 200 gtL) (hb : b.length ≤ 4096) : Whole (s ++ wrT 4096 b) ⟨200, gtL, 0, true, false⟩ b := by
  have hp := wrT_pos 4096 b; have hfull := chunks_full b hb; have hf := gframe_chunks (P := { reNew false 1048576 with inp := wrT 4096 b }) (c := 200) (cl := closesM gtL 1) (by show noBody ((200 : Nat) : Int) false = false; decide); obtain ⟨h1, h2⟩ := h.read false (wrT 4096 b) in64_most _ _ hf; generalize wrT 4096 b = x at *; generalize hX : ({ ({ ({ reNew false 1048576 with inp := x } : ReS) with st := 1, chk := some (ck0 ({ reNew false 1048576 with inp := x } : ReS).most) } : ReS) with ans := some ⟨((200 : Nat) : Int), gtL, 0, true, closesM gtL 1⟩ } : ReS) = X at h1 h2; have x1 : X.st = 1 := by rw [← hX]
  have x2 : X.chk = some (ck0 1048576) := by rw [← hX]; rfl
  have x3 : X.inp = x := by rw [← hX]
  have x4 : X.dat = [] := by rw [← hX]; rfl
  have x5 : X.ans = some ⟨((200 : Nat) : Int), gtL, 0, true, closesM gtL 1⟩ := by rw [← hX]
  have hXok : X.ok (2 * (s.length + x.length)) := by
    refine ⟨?_, ?_, ?_, ?_, by omega, fun hh => by omega, fun _ => ⟨_, x2, ?_, rfl, ?_⟩⟩
    · unfold ReS.wt; rw [if_pos x1, x2, x3, x4]; simp [ckW, ck0]; omega
    · rw [← hX]; exact (reNew_ok false in64_most).big
    · rw [← hX]; exact (reNew_ok false in64_most).size
    · rw [← hX]; exact (reNew_ok false in64_most).left
    · simp only [ck0]; omega
    · simp [Ck.ok, ck0]
  have hne : x ≠ [] := by intro hh; rw [hh] at hp; simp at hp
  rw [all_chunks hXok x1 x2 (by rw [x3]; exact hne) (by rw [x3, hfull]), x3, hfull, if_pos rfl] at h1; refine ⟨?_, ?_, ?_, ?_⟩ <;> rw [h1]
  · rfl
  · show X.ans = _; rw [x5, gt_closes]; rfl
  · show X.dat ++ List.drop (ck0 1048576).dat.length b = b; rw [x4]; rfl
  · rfl
def chT (b : List UInt8) : List UInt8 := (if b = [] then [] else hexL b.length ++ crlfC ++ b ++ crlfC) ++ endC
theorem chT_eq (b : List UInt8) (hb : b.length ≤ 4096) : wrT 4096 b = chT b := by
  unfold wrT chT; by_cases h0 : b = []
  · subst h0; rw [wrL_nil, if_pos rfl]
  · rw [wrL, dif_neg h0, if_neg h0, show min (4096 + 1) b.length = b.length by omega, List.take_of_length_le (by omega), List.drop_of_length_le (by omega), wrL_nil, List.append_nil]; simp only [List.append_assoc]
theorem gl_head {l : Nat} (h : ansE 200 (glL l) = 0) : HeadOf (ansS 200 (glL l)) 200 (glL l) := head_of (c := 200) h (by omega) (by omega)
theorem gt_head (h : ansE 200 gtL = 0) : HeadOf (ansS 200 gtL) 200 gtL := head_of (c := 200) h (by omega) (by omega)
end Go.Proofs.YtlhnjkekjbbhcaaGreatDoor
