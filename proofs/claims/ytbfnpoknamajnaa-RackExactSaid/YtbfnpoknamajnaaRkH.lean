/- Layer 21: jars are compared; the document's Drop. No conditions. -/
import Derived.Test.YtbfnpoknamajnaaRkF
import Derived.Test.YtbfnpoknamajnaaRkR
namespace Go.Proofs.Ytbfnpoknamajnaa
open Go.RowKit Go.Maps

def jarLits (j : Jar) : List Lit := (j.dig.1.map fun b => .int .u8 (b.toNat : Nat)) ++ [.string j.typ, .int .i64 j.size, .int .i64 j.pins]
theorem jarLits_inj {a b : Jar} (h : jarLits a = jarLits b) : a = b := by
  unfold jarLits at h
  obtain ⟨h1, h2⟩ := List.append_inj h (by simp [a.dig.2, b.dig.2])
  simp at h2
  obtain ⟨e1, e2, e3⟩ := h2
  have e0 : a.dig = b.dig := Subtype.ext (map_inj (fun x y hxy => by simp at hxy; exact UInt8.toNat_inj.1 (by omega)) _ _ h1)
  cases a; cases b; simp at *; exact ⟨e0, e1, e2, e3⟩
theorem int_lits (D : Nat) (n : Int) (hn : in64 n) : Try.prog.keyLits (D + 1) 3 [.int .i64 n] = some [.int .i64 n] := by
  unfold Program.keyLits
  rw [Try.underlying3]
  have : (Lit.int .i64 n).wf = true := by
    unfold in64 at hn
    simp [Lit.wf, IntKind.min, IntKind.max, IntKind.signed, IntKind.bits]; omega
  simp [this]
theorem str_lits (D : Nat) (l : List UInt8) (hl : l.length ≤ maxLen) : Try.prog.keyLits (D + 1) 9 [.string (S l)] = some [.string l] := by
  unfold Program.keyLits
  rw [Try.underlying9]
  have h1 := S_size l
  have h2 : (S l).data.toList = l := rfl
  simp [h1, h2, hl]
set_option maxRecDepth 100000 in
theorem jar_lits (D : Nat) (j : Jar) (hj : goodIn j) : Try.prog.keyLits (D + 3) 46 j.cells = some (jarLits j) := by
  have hc : Try.prog.cellsOf 46 = 35 := by kernel_rfl
  have h1 : Try.prog.cellsOf 5 = 1 := by kernel_rfl
  have hd : Try.prog.cellsOf 44 = 32 := by kernel_rfl
  have hs : Try.prog.cellsOf 9 = 1 := by kernel_rfl
  have hi : Try.prog.cellsOf 3 = 1 := by kernel_rfl
  have hl := digC_length j.dig
  have p0 : Try.prog.keyLits (D + 2) 44 ((j.cells.drop 0).take 32) = some (j.dig.1.map fun b => .int .u8 (b.toNat : Nat)) := by
    have e : (j.cells.drop 0).take 32 = j.dig.1.map fun b => Value.int .u8 (b.toNat : Nat) := by
      rw [List.drop_zero]; unfold Jar.cells; rw [List.take_left' hl]; rfl
    rw [e]
    exact keyLits_bytes Try.underlying44 Try.underlying5 h1 hd D j.dig.1 j.dig.2
  have p1 : Try.prog.keyLits (D + 2) 9 ((j.cells.drop 32).take 1) = some [.string j.typ] := by
    have e : (j.cells.drop 32).take 1 = [.string (S j.typ)] := by unfold Jar.cells; rw [List.drop_left' hl]; rfl
    rw [e]
    exact str_lits _ _ hj.1
  have p2 : Try.prog.keyLits (D + 2) 3 ((j.cells.drop 33).take 1) = some [.int .i64 j.size] := by
    have e : (j.cells.drop 33).take 1 = [.int .i64 j.size] := by unfold Jar.cells; rw [show 33 = 32 + 1 from rfl, ← List.drop_drop, List.drop_left' hl]; rfl
    rw [e]
    exact int_lits _ _ hj.2.1
  have p3 : Try.prog.keyLits (D + 2) 3 ((j.cells.drop 34).take 1) = some [.int .i64 j.pins] := by
    have e : (j.cells.drop 34).take 1 = [.int .i64 j.pins] := by unfold Jar.cells; rw [show 34 = 32 + 2 from rfl, ← List.drop_drop, List.drop_left' hl]; rfl
    rw [e]
    exact int_lits _ _ hj.2.2
  unfold Program.keyLits
  rw [Try.underlying46]
  simp only
  rw [if_pos ⟨by rw [hc]; exact Jar.cells_length j, by kernel_rfl⟩]
  simp only [List.mapM_cons, List.mapM_nil, hd, hs, hi, p0, p1, p2, p3]
  rfl
set_option maxRecDepth 100000 in
theorem eqJar (a b : Jar) (ha : goodIn a) (hb : goodIn b) (w : World) : (Op.equalIn 10000 46 (.agg a.cells.toArray) (.agg b.cells.toArray)).run Try.prog w = .ok (decide (a = b)) w := by
  have hc : Try.prog.cellsOf 46 = 35 := by kernel_rfl
  have hf : ∀ j : Jar, Value.formed Try.prog 46 (.agg j.cells.toArray) = true := fun j => by
    unfold Value.formed
    rw [Try.underlying46]
    simp [hc, Jar.cells_length]
  obtain ⟨r, hr, hi⟩ := run_equalIn_deep (P := Try.prog) 9997 3 46 (of_decide_eq_true (by kernel_rfl)) w 3 3 (.agg a.cells.toArray) (.agg b.cells.toArray) (jarLits a) (jarLits b) (hf a) (hf b) (jar_lits 0 a ha) (jar_lits 0 b hb)
  refine (show (Op.equalIn 10000 46 (.agg a.cells.toArray) (.agg b.cells.toArray)).run Try.prog w = .ok r w from hr).trans ?_
  congr 1
  rw [Bool.eq_iff_iff, hi, decide_eq_true_eq]
  exact ⟨jarLits_inj, fun e => by rw [e]⟩
theorem put_done3 {w w2 wE : World} {u : Nat} {v vE : Value} {L M : List Jar} {budget : Int} (h : Dk w u v L budget) (hk : Keep [] w w2) (hk2 : Keep [] w2 wE) (hoE : Own Jar.cells 35 0 46 wE vE M) (hvE : ∀ g, vE.ownBlock = some g → w2.heap.size ≤ g) :
    Done w (wE.setCell ⟨u, 0, none⟩ vE) u v M budget := by
  have hs := hk.size
  have hu := h.blk.lt
  have hks : Keep [u] wE (wE.setCell ⟨u, 0, none⟩ vE) := (Keep.refl _ _).setCell _ _ (by simp)
  have hn : ∀ g, vE.ownBlock = some g → w.heap.size ≤ g := fun g hg => Nat.le_trans hs (hvE g hg)
  refine ⟨vE, ⟨(h.keep0 (hk.trans hk2)).blk.set 0 _, hoE.keep hks (fun g hg' => by simp; have := hn g hg'; omega), fun e => by have := hn u e; omega⟩, ?_, fun g hg' => .inr (hn g hg')⟩
  exact ((hk.trans hk2).mono (by simp)).setCell _ _ (fun _ => by simp)
set_option maxRecDepth 100000 in
set_option maxHeartbeats 2000000 in
theorem ref_Drop21 (u : Nat) (v : Value) (L : List Jar) (budget : Int) (d : Dig) (w : World) (h : Dk w u v L budget) (hL : L.length ≤ 64) (k : Nat) (x : Jar) (hk : posL L d = (k : Nat)) (hx : L[k]? = some x) :
    Calls Try.prog 40 #[.pointer (some ⟨u, 0, none⟩), .agg (digC d).toArray] w fun e w' => e = .returned (.int .i64 (if 0 < x.pins then 8 else 0)) ∧ Done w w' u v (if 0 < x.pins then L else L.take k ++ L.drop (k + 1)) budget := by
  have hkl : k < L.length := (List.getElem?_eq_some_iff.1 hx).1
  have hb := Blk.newA w (digC d).toArray 44
  have hkA := (Keep.refl [] w).alloc (.cells (digC d).toArray 44)
  generalize hwA : w.alloc (.cells (digC d).toArray 44) = wA at hb hkA
  obtain ⟨g', cap, hv, hle, hcm, _⟩ := own_at h.own hx
  subst hv
  have HDB := Lib.hid (hb.rangeAt)
  have HP1 := Lib.hid (ref_Place u _ L budget d wA (h.keep0 hkA))
  rw [hk] at HP1
  have HD0 := Lib.hid (fun w' (k : Keep [] w w') => h.keep0 k)
  have H := Lib.hid h
  have HK := Lib.hid hkA
  have HDL := Lib.hid (digC_length d)
  have HR := Lib.hid (fun w' (hk : Keep [] w w') => by
    obtain ⟨g2, cap2, hv2, _, _, hr⟩ := own_at (h.keep0 hk).own hx
    cases hv2
    exact hr 34 (.int .i64 x.pins) (by simp [Jar.cells, digC_length, List.getElem?_append]))
  have h0 : ¬ (k : Int) < 0 := by omega
  have h1 : (k : Int) < (L.length : Int) := by omega
  generalize digC d = dc at *
  have HW := Lib.hid (fun w' (kk : Keep [] w w') => ref_without u _ L budget k w' (h.keep0 kk) hkl hL)
  obtain ⟨M, hM⟩ : ∃ M, M = L.take k ++ L.drop (k + 1) := ⟨_, rfl⟩
  rw [← hM] at HW ⊢
  generalize x.pins = xp at *
  clear hb hkA h hx hk hle hcm hM
  by_cases hp : 0 < xp
  · have hp' : decide (0 < xp) = true := decide_eq_true hp
    rw [if_pos hp, if_pos hp]
    clear hp
    go_enter Try.func40, Try.ntmps40
    go_wp2_with (first
      | (refine wpList_load_mid rfl 44 (.tmp 3) rfl w.heap.size 0 (by rfl) dc _ HDB.out Try.underlying44 rfl (by rw [HDL.out]; exact dig_size) ?_)
      | fail)
    refine HP1.out.mono ?_
    rintro e w2 ⟨rfl, k2⟩
    have K2 := Lib.hid (HK.out.trans k2)
    have c0 := (HD0.out w2 K2.out).blk.get (k := 0) rfl
    have c34 := HR.out w2 K2.out
    clear k2
    go_wp2_with fail
    go_ret
    exact ⟨rfl, Done.same H.out K2.out⟩
  · have hp' : decide (0 < xp) = false := decide_eq_false hp
    rw [if_neg hp, if_neg hp]
    clear hp
    go_enter Try.func40, Try.ntmps40
    go_wp2_with (first
      | (refine wpList_load_mid rfl 44 (.tmp 3) rfl w.heap.size 0 (by rfl) dc _ HDB.out Try.underlying44 rfl (by rw [HDL.out]; exact dig_size) ?_)
      | fail)
    refine HP1.out.mono ?_
    rintro e w2 ⟨rfl, k2⟩
    have K2 := Lib.hid (HK.out.trans k2)
    have c0 := (HD0.out w2 K2.out).blk.get (k := 0) rfl
    have c34 := HR.out w2 K2.out
    clear k2
    go_wp2_with fail
    refine (HW.out _ K2.out).mono ?_
    rintro e wE ⟨vE, rfl, hoE, hvE, hkE⟩
    have hbE := (HD0.out wE (K2.out.trans hkE)).blk
    have e0 := hbE.get (k := 0) rfl
    have ef := hbE.frozen
    have HC := Lib.hid (put_done3 H.out K2.out hkE hoE hvE)
    obtain ⟨aE, cE, rfl, _⟩ := hoE.shape
    clear hbE c0 c34 hoE hvE hkE
    go_wp2_with fail
    go_ret
    exact ⟨rfl, HC.out⟩
end Go.Proofs.Ytbfnpoknamajnaa
