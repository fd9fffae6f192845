/- Parts of the proof of InletPipes, in order. No conditions but those that each theorem states. -/
import Derived.Test.YtpimfoohpfkciaaDoorZB5
/- Layer 12: Line, of a text of whatever length. No conditions. -/
namespace Go.Proofs.YtpimfoohpfkciaaDoor
open Go.RowKit Go.Shelf

theorem index_one (c : UInt8) : ∀ l : List UInt8, Lib.index l [c] = Lib.indexByte l c
  | [] => rfl
  | b :: l => by
    unfold Lib.index Lib.indexByte
    rw [index_one c l]
    have : ([c] : List UInt8).isPrefixOf (b :: l) = (b == c) := by
      show (c == b && true) = (b == c)
      rw [Bool.and_true, Bool.eq_iff_iff]
      simp only [beq_iff_eq]
      exact eq_comm
    rw [this]
theorem indexByte_self (c : UInt8) : Lib.indexByte [c] c = 0 := by unfold Lib.indexByte; simp
theorem indexByte_m1 (c : UInt8) : ∀ l : List UInt8, -1 ≤ Lib.indexByte l c
  | [] => by unfold Lib.indexByte; omega
  | b :: l => by
    have := indexByte_m1 c l
    unfold Lib.indexByte
    split
    · omega
    · split <;> omega
theorem indexByte_in (c : UInt8) : ∀ l : List UInt8, Lib.indexByte l c < 0 ∨ ∃ k : Nat, Lib.indexByte l c = (k : Nat) ∧ k < l.length
  | [] => .inl (by unfold Lib.indexByte; omega)
  | b :: l => by
    have h1 := indexByte_m1 c l
    unfold Lib.indexByte
    split
    · exact .inr ⟨0, rfl, by simp⟩
    · rcases indexByte_in c l with h | ⟨k, h, hk⟩
      · rw [show Lib.indexByte l c = -1 by omega]
        exact .inl (by decide)
      · rw [h, if_neg (by simp <;> omega)]
        exact .inr ⟨k + 1, by omega, Nat.succ_lt_succ hk⟩
set_option maxRecDepth 100000 in
set_option maxHeartbeats 2000000 in
theorem slite_Index32 (l : List UInt8) (w : World) (_hl : l.length ≤ 9223372036854775807) :
    Calls Tryd.prog 40 #[.string (S l), .string ⟨#[32]⟩] w fun e w' => e = .returned (.int .i64 (Lib.indexByte l 32)) ∧ w = w' := by
  have HI := Lib.hid (show Calls Tryd.prog 54 #[.string (S l), .int .u8 32] w fun e w' => e = .returned (.int .i64 (Lib.indexByte l 32)) ∧ w' = w from by
    have := Tryd.stringslite_IndexByte (S l) 32 w
    rw [S_list] at this
    exact this)
  have s0 := S_size l
  have tl := S_toList l
  by_cases h1 : l = [32]
  · have HE := Lib.hid (show Lib.indexByte l 32 = 0 by rw [h1]; exact indexByte_self 32)
    have t1 : (([32] : List UInt8) == l) = true := by rw [h1]; rfl
    have t2 : (l == ([32] : List UInt8)) = true := by rw [h1]; rfl
    clear HI h1
    go_enter Tryd.func40, Tryd.ntmps40
    go_wp2_with fail
    go_ret
    exact ⟨by rw [HE.out]; rfl, rfl⟩
  · have t1 : (([32] : List UInt8) == l) = false := by simp; intro hh; exact h1 hh.symm
    have t2 : (l == ([32] : List UInt8)) = false := by simp [h1]
    clear h1
    go_enter Tryd.func40, Tryd.ntmps40
    go_wp2_with fail
    refine HI.out.mono ?_
    rintro e w1 ⟨rfl, rfl⟩
    go_wp2_with fail
    go_ret
    exact ⟨rfl, rfl⟩
set_option maxRecDepth 100000 in
set_option maxHeartbeats 2000000 in
theorem slite_Cut32 (l : List UInt8) (w : World) (hl : l.length ≤ 9223372036854775807) :
    Calls Tryd.prog 27 #[.string (S l), .string ⟨#[32]⟩] w fun e w' => e = .returned (.tuple #[.string (S (Lib.cut l [32]).1), .string (S (Lib.cut l [32]).2.1), .bool (Lib.cut l [32]).2.2]) ∧ Keep [] w w' := by
  have HI := Lib.hid (slite_Index32 l w hl)
  have hc : Lib.cut l [32] = if 0 ≤ Lib.indexByte l 32 then (l.take (Lib.indexByte l 32).toNat, l.drop ((Lib.indexByte l 32).toNat + 1), true) else (l, [], false) := by unfold Lib.cut; rw [index_one]; rfl
  have s0 := S_size l
  rcases indexByte_in 32 l with h | ⟨k, h, hk⟩
  · rw [if_neg (by omega)] at hc
    have HC := Lib.hid hc
    generalize Lib.indexByte l 32 = i at HI h
    have q : decide (i ≥ 0) = false := by simp; omega
    clear hc h
    go_enter Tryd.func27, Tryd.ntmps27
    go_wp2_with fail
    refine HI.out.mono ?_
    rintro e w1 ⟨rfl, rfl⟩
    go_wp2_with fail
    go_ret3
    exact ⟨by rw [HC.out]; rfl, Keep.refl _ _⟩
  · rw [h, if_pos (by omega), Int.toNat_natCast] at hc
    rw [h] at HI
    have HC := Lib.hid hc
    have q : decide ((k : Int) ≥ 0) = true := by simp
    have hx1 : (S l).extract 0 k = S (l.take k) := by rw [S_extract, List.drop_zero]
    have hx2 : (S l).extract (k + 1) l.length = S (l.drop (k + 1)) := by rw [S_extract, List.take_length]
    have wk := IntWalk.i64_in ((k : Int) + 1) (by omega)
    have i0 : (0 : Int) ≤ (k : Int) := by omega
    have i1 : (k : Int) ≤ (l.length : Int) := by omega
    have i2 : (0 : Int) ≤ (k : Int) + 1 := by omega
    have i3 : (k : Int) + 1 ≤ (l.length : Int) := by omega
    have i4 : ((k : Int) + 1).toNat = k + 1 := by omega
    clear hc h
    go_enter Tryd.func27, Tryd.ntmps27
    go_wp2_with fail
    refine HI.out.mono ?_
    rintro e w1 ⟨rfl, rfl⟩
    go_wp2_with fail
    go_quiet (fail)
    go_wp2_with fail
    go_ret3
    rw [HC.out]
    exact ⟨rfl, (Keep.refl _ _).drewN _⟩
set_option maxRecDepth 100000 in
set_option maxHeartbeats 2000000 in
theorem strings_Cut32 (l : List UInt8) (w : World) (hl : l.length ≤ 9223372036854775807) :
    Calls Tryd.prog 16 #[.string (S l), .string ⟨#[32]⟩] w fun e w' => e = .returned (.tuple #[.string (S (Lib.cut l [32]).1), .string (S (Lib.cut l [32]).2.1), .bool (Lib.cut l [32]).2.2]) ∧ Keep [] w w' := by
  have HI := Lib.hid (slite_Cut32 l w hl)
  generalize Lib.cut l [32] = c at HI
  obtain ⟨a, b, d⟩ := c
  dsimp only at HI ⊢
  go_enter Tryd.func16, Tryd.ntmps16
  go_wp2_with fail
  refine HI.out.mono ?_
  rintro e w1 ⟨rfl, k1⟩
  go_wp2_with fail
  go_ret3
  exact ⟨rfl, k1⟩
set_option maxRecDepth 100000 in
set_option maxHeartbeats 2000000 in
theorem inlet_LineL (l : List UInt8) (w : World) (hl : l.length ≤ 9223372036854775807) :
    Calls Tryd.prog 7 #[.string (S l)] w fun e w' => e = .returned (lnM l).out ∧ Keep [] w w' := by
  have hC1 : Calls Tryd.prog 16 #[.string (S l), .string ⟨#[32]⟩] w fun e w' => e = .returned (.tuple #[.string (S (Lib.cut l [32]).1), .string (S (Lib.cut l [32]).2.1), .bool (Lib.cut l [32]).2.2]) ∧ Keep [] w w' := strings_Cut32 l w hl
  have hl1 := cut_len l [32]
  have hno := ln_no (l := l)
  have hyes := ln_yes (l := l)
  generalize lnM l = R at *
  generalize Lib.cut l [32] = c1 at *
  obtain ⟨xm, r, ok1⟩ := c1
  dsimp only at *
  have hC2 := fun w1 (_ : Keep [] w w1) => show Calls Tryd.prog 16 #[.string (S r), .string ⟨#[32]⟩] w1 fun e w' => e = .returned (.tuple #[.string (S (Lib.cut r [32]).1), .string (S (Lib.cut r [32]).2.1), .bool (Lib.cut r [32]).2.2]) ∧ Keep [] w1 w' from strings_Cut32 r w1 (by omega)
  have hl2 := cut_len r [32]
  generalize Lib.cut r [32] = c2 at *
  obtain ⟨xt, xl, ok2⟩ := c2
  dsimp only at *
  have HT := Lib.hid (fun w' => field_IsToken xm w' (show xm.length ≤ 9223372036854775807 by omega))
  have HG := Lib.hid (fun w' => inlet_isTarget xt w' (show xt.length ≤ 9223372036854775807 by omega))
  have HM := Lib.hid (fun w' => inlet_minor xl w' (show xl.length ≤ 9223372036854775807 by omega))
  have HC1 := Lib.hid hC1
  have HC2 := Lib.hid hC2
  clear hC1 hC2 hl1 hl2
  cases ok1 with
  | false =>
    have HR := Lib.hid (hno rfl)
    clear hno hyes
    go_enter Tryd.func7, Tryd.ntmps7
    go_wp2_with fail
    refine HC1.out.mono ?_
    rintro e w1 ⟨rfl, k1⟩
    go_wp2_with fail
    refine (HC2.out _ k1).mono ?_
    rintro e w2 ⟨rfl, k2⟩
    go_wp2_with fail
    refine bodyPost_ret (res4 rfl _ _ _) rfl ⟨?_, k1.trans k2⟩
    rw [HR.out]
    rfl
  | true =>
    cases ok2 with
    | false =>
      have HR := Lib.hid (hno rfl)
      clear hno hyes
      go_enter Tryd.func7, Tryd.ntmps7
      go_wp2_with fail
      refine HC1.out.mono ?_
      rintro e w1 ⟨rfl, k1⟩
      go_wp2_with fail
      refine (HC2.out _ k1).mono ?_
      rintro e w2 ⟨rfl, k2⟩
      go_wp2_with fail
      refine bodyPost_ret (res4 rfl _ _ _) rfl ⟨?_, k1.trans k2⟩
      rw [HR.out]
      rfl
    | true =>
      cases htk : isTok xm with
      | false =>
        rw [htk] at HT hno
        have HR := Lib.hid (hno rfl)
        clear hno hyes htk
        go_enter Tryd.func7, Tryd.ntmps7
        go_wp2_with fail
        refine HC1.out.mono ?_
        rintro e w1 ⟨rfl, k1⟩
        go_wp2_with fail
        refine (HC2.out _ k1).mono ?_
        rintro e w2 ⟨rfl, k2⟩
        go_wp2_with fail
        refine (HT.out _).mono ?_
        rintro e w3 ⟨rfl, k3⟩
        go_wp2_with fail
        refine bodyPost_ret (res4 rfl _ _ _) rfl ⟨?_, (k1.trans k2).trans k3⟩
        rw [HR.out]
        rfl
      | true =>
        rw [htk] at HT hno hyes
        cases htg : isTgt xt with
        | false =>
          rw [htg] at HG hno
          have HR := Lib.hid (hno rfl)
          clear hno hyes htk htg
          go_enter Tryd.func7, Tryd.ntmps7
          go_wp2_with fail
          refine HC1.out.mono ?_
          rintro e w1 ⟨rfl, k1⟩
          go_wp2_with fail
          refine (HC2.out _ k1).mono ?_
          rintro e w2 ⟨rfl, k2⟩
          go_wp2_with fail
          refine (HT.out _).mono ?_
          rintro e w3 ⟨rfl, k3⟩
          go_wp2_with fail
          refine (HG.out _).mono ?_
          rintro e w4 ⟨rfl, k4⟩
          go_wp2_with fail
          refine bodyPost_ret (res4 rfl _ _ _) rfl ⟨?_, ((k1.trans k2).trans k3).trans k4⟩
          rw [HR.out]
          rfl
        | true =>
          rw [htg] at HG hyes
          have hR := hyes rfl
          clear hno hyes htk htg
          generalize minS xl = ms at *
          generalize minV xl = mv at *
          by_cases h2 : ms = 200
          · rw [if_pos h2] at hR
            have q := (int_eq h2).2
            have HR := Lib.hid hR
            clear hR h2
            go_enter Tryd.func7, Tryd.ntmps7
            go_wp2_with fail
            refine HC1.out.mono ?_
            rintro e w1 ⟨rfl, k1⟩
            go_wp2_with fail
            refine (HC2.out _ k1).mono ?_
            rintro e w2 ⟨rfl, k2⟩
            go_wp2_with fail
            refine (HT.out _).mono ?_
            rintro e w3 ⟨rfl, k3⟩
            go_wp2_with fail
            refine (HG.out _).mono ?_
            rintro e w4 ⟨rfl, k4⟩
            go_wp2_with fail
            refine (HM.out _).mono ?_
            rintro e w5 ⟨rfl, k5⟩
            go_wp2_with fail
            refine bodyPost_ret (res4 rfl _ _ _) rfl ⟨?_, (((k1.trans k2).trans k3).trans k4).trans k5⟩
            rw [HR.out]
            rfl
          · rw [if_neg h2] at hR
            have q := (int_ne h2).2
            have HR := Lib.hid hR
            clear hR h2
            go_enter Tryd.func7, Tryd.ntmps7
            go_wp2_with fail
            refine HC1.out.mono ?_
            rintro e w1 ⟨rfl, k1⟩
            go_wp2_with fail
            refine (HC2.out _ k1).mono ?_
            rintro e w2 ⟨rfl, k2⟩
            go_wp2_with fail
            refine (HT.out _).mono ?_
            rintro e w3 ⟨rfl, k3⟩
            go_wp2_with fail
            refine (HG.out _).mono ?_
            rintro e w4 ⟨rfl, k4⟩
            go_wp2_with fail
            refine (HM.out _).mono ?_
            rintro e w5 ⟨rfl, k5⟩
            go_wp2_with fail
            refine bodyPost_ret (res4 rfl _ _ _) rfl ⟨?_, (((k1.trans k2).trans k3).trans k4).trans k5⟩
            rw [HR.out]
            rfl
end Go.Proofs.YtpimfoohpfkciaaDoor

/- Layer 12: the walk of the statement InletPipes. No conditions. -/
namespace Go.Proofs.YtpimfoohpfkciaaDoor
open Go.RowKit Go.Shelf

theorem pmsg_parts (t b : List UInt8) : ([71, 69, 84, 32] ++ t ++ [32, 72, 84, 84, 80, 47, 49, 46, 49, 13, 10, 72, 111, 115, 116, 58, 32, 104, 13, 10, 67, 111, 110, 116, 101, 110, 116, 45, 76, 101, 110, 103, 116, 104, 58, 32] ++ sizeL b.length ++ [13, 10, 13, 10] ++ b) = pmsg t b := by
  unfold pmsg headT askT pK bodyT printF
  simp [getB, protB, nHost, nCL]
theorem askT_parts (t : List UInt8) : [71, 69, 84, 32] ++ t ++ [32, 72, 84, 84, 80, 47, 49, 46, 49] = askT getB t := by
  unfold askT
  simp [getB, protB]
theorem sizeL_len (n : Nat) : (sizeL n).length ≤ 3 := by unfold sizeL; split; (simp); split <;> simp
/-- the inlet with all that was sent, and the row of what was sent -/
structure PpS (w0 : World) (p : Nat) (k : Nat) (vs : Value) (Ms : List (List UInt8 × List UInt8)) (wr : World) : Prop where
  own : Own strC 1 w0.heap.size 9 wr vs (Ms.map (·.1))
  it : It w0.heap.size wr p [p] [] { in0 with inp := flatM Ms }
  kp : Keep [] w0 wr
  gd : ∀ m ∈ Ms, goodM m
  ln : Ms.length ≤ k ∧ (flatM Ms).length ≤ 250 * Ms.length
  sp : ∀ g, vs.ownBlock = some g → g ≠ p
theorem PpS.keep0 {w0 wr w' : World} {p k k' : Nat} {vs : Value} {Ms : List (List UInt8 × List UInt8)} (h : PpS w0 p k vs Ms wr) (kk : Keep [] wr w') (hk : k ≤ k') : PpS w0 p k' vs Ms w' :=
  ⟨h.own.keep0 kk, h.it.keep0 kk, h.kp.trans kk, h.gd, ⟨Nat.le_trans h.ln.1 hk, h.ln.2⟩, h.sp⟩
theorem pp_Add {w0 wr : World} {p k : Nat} {vs : Value} {Ms : List (List UInt8 × List UInt8)} (h : PpS w0 p k vs Ms wr) (t b : List UInt8) (hk : k < 40) (hg : goodM (t, b)) :
    Calls Tryd.prog 9 #[.pointer (some ⟨p, 0, none⟩), .string (S (pmsg t b))] wr fun e w' => e = .returned (.int .i64 0) ∧ It w0.heap.size w' p [p] [] { in0 with inp := flatM (Ms ++ [(t, b)]) } ∧ Own strC 1 w0.heap.size 9 w' vs (Ms.map (·.1)) ∧ Keep [] w0 w' := by
  have h1 := pmsg_len t b hg.2.1 hg.2.2
  have h2 := h.ln
  have he : inAdd { in0 with inp := flatM Ms } (pmsg t b) = ({ in0 with inp := flatM (Ms ++ [(t, b)]) }, 0) := by
    unfold inAdd
    rw [if_neg (by show ¬ ((0 : Int) ≠ 0); simp), if_neg (by show ¬ ((16384 : Int) - (((flatM Ms).length + 0 : Nat) : Int) < ((pmsg t b).length : Int)); omega), flatM_snoc]
  have hA := inlet_Add (pmsg t b) h.it (by show (flatM Ms).length + 0 ≤ 1048576; omega) (by omega)
  rw [he] at hA
  refine hA.mono ?_
  rintro e w' ⟨rfl, hi, kk⟩
  exact ⟨rfl, hi, h.own.keep kk (fun g hg => by simpa using h.sp g hg), h.kp.above kk (fun x hx => by have h1 : x = p := (by simpa using hx); rw [h1]; exact h.it.base)⟩
theorem pp_more {w0 wr w1 w' : World} {p k : Nat} {vs v' : Value} {Ms : List (List UInt8 × List UInt8)} {t b : List UInt8} (h : PpS w0 p k vs Ms wr) (hg : goodM (t, b)) (hi : It w0.heap.size w1 p [p] [] { in0 with inp := flatM (Ms ++ [(t, b)]) }) (kp : Keep [] w0 w1)
    (g1 : Own strC 1 w0.heap.size 9 w' v' (Ms.map (·.1) ++ [t])) (g2 : w1.grownBy w' vs.ownBlock) (g4 : v'.ownBlock = vs.ownBlock ∨ v'.ownBlock = some w1.heap.size) : PpS w0 p (k + 1) v' (Ms ++ [(t, b)]) w' := by
  have h1 := pmsg_len t b hg.2.1 hg.2.2
  have h2 := h.ln
  have kk := Keep.ofGrown g2
  refine ⟨by rw [List.map_append]; exact g1, hi.keep kk (fun x hx hh => ?_) (by simp), kp.above kk (fun x hx => ?_), fun m hm => ?_, ?_, fun g hg2 => ?_⟩
  · have e1 : x = p := by simpa using hx
    exact h.sp x (by simpa using hh) e1
  · exact (h.own.lt x (by simpa using hx)).1
  · rcases List.mem_append.1 hm with hm | hm
    · exact h.gd m hm
    · have : m = (t, b) := by simpa using hm
      rw [this]; exact hg
  · rw [flatM_snoc]
    simp only [List.length_append, List.length_cons, List.length_nil]
    omega
  · rcases g4 with e | e
    · rw [e] at hg2; exact h.sp g hg2
    · rw [e] at hg2
      have e3 : w1.heap.size = g := by simpa using hg2
      have := hi.lt
      omega
theorem str_row {w : World} {t : List UInt8} : ∀ j u, (rows strC [t])[j]? = some u → (w.alloc (.cells #[.string (S t)] 9)).cell? ((⟨w.heap.size, 0, none⟩ : Addr).add j) = some u := by
  intro j u hj
  have hA : Blk (w.alloc (.cells #[.string (S t)] 9)) w.heap.size 9 (strC t) := Blk.newA w #[.string (S t)] _
  have e1 : rows strC [t] = strC t := by simp [rows]
  rw [e1] at hj
  have : (⟨w.heap.size, 0, none⟩ : Addr).add j = ⟨w.heap.size, j, none⟩ := by unfold Addr.add; split <;> simp_all
  rw [this, hA.cell j]
  exact hj
set_option maxRecDepth 100000 in
set_option maxHeartbeats 8000000 in
theorem inletPipes_walk (va : Value) (P : List (List UInt8)) (vb : Value) (Q : List (List UInt8)) (w : World) (hm : ML w) (ha : Sl strC 1 w va P) (hp : ∀ x ∈ P, x.length ≤ 140737488351232) (hb : Sl strC 1 w vb Q) (hq : ∀ x ∈ Q, x.length ≤ maxLen) :
    Calls Tryd.prog 3 #[va, vb] w fun e w' => e = .returned (.bool true) ∧ Keep [] w w' := by
  obtain ⟨is, Hs⟩ := strinfo'
  obtain ⟨aa, ca, rfl, hal⟩ := ha.shape
  obtain ⟨ab, cb, rfl, hbl⟩ := hb.shape
  have hal' : P.length ≤ 9223372036854775807 := hal
  have hbl' : Q.length ≤ 9223372036854775807 := hbl
  have HP := Lib.hid ha
  have HQ := Lib.hid hb
  have HPG := Lib.hid hp
  have HQG := Lib.hid hq
  have HAw := Lib.hid (inlet_awake w hm)
  have hbig := hm.lt
  have HM := Lib.hid hm
  have HN := Lib.hid (fun w' (k : Keep [] w w') => inlet_New w.heap.size w' k.size)
  clear ha hb hm hal hbl hp hq
  go_enter Tryd.func3, Tryd.ntmps3
  go_wp2_with fail
  refine HAw.out.mono ?_
  rintro e w1 ⟨rfl, k1⟩
  have K1 := Lib.hid k1
  clear k1
  go_wp2_with fail
  refine (HN.out _ K1.out).mono ?_
  rintro e w2 ⟨p, rfl, hpp, hx, k2⟩
  have kA := (K1.out.trans k2).alloc (.cells #[] 9)
  have oA := Own.none strC 1 9 (base := w.heap.size) (w := w2) (K1.out.trans k2).size
  have hi := hx.keep0 ((Keep.refl [] w2).alloc (.cells #[] 9))
  have hpl := hx.lt
  have HS0 := Lib.hid (show PpS w p 0 (.slice (some ⟨w2.heap.size, 0, none⟩) 0 0) [] (w2.alloc (.cells #[] 9)) from ⟨oA, hi, kA, by simp, ⟨Nat.le_refl _, by simp [flatM]⟩, fun g hg => by have e3 : w2.heap.size = g := (by simpa [Value.ownBlock] using hg); omega⟩)
  clear k2 hx kA oA hi HN HAw K1 hpl hpp
  generalize hwA : w2.alloc (.cells #[] 9) = wA at *
  go_wp2_with fail
  clear hwA
  go_loopg [6, 7] 40 (fun g sv iv wr => ∃ (k : Nat) (vs : Value) (Ms : List (List UInt8 × List UInt8)), sv = vs ∧ iv = .int .i64 (k : Nat) ∧ k ≤ 40 ∧ g = 40 - k ∧ Hid (PpS w p k vs Ms wr))
  case atStart => exact ⟨0, _, [], rfl, rfl, by omega, rfl, HS0⟩
  case round =>
    obtain ⟨k, vs, Ms, hvs, rfl, hk, hg, HS⟩ := hrel
    have hvs2 := hvs.symm
    clear hvs
    subst hvs2
    have wk := IntWalk.i64_in ((k : Int) + 1) (by omega)
    by_cases hlt : k < P.length
    · by_cases hk40 : k < 40
      · obtain ⟨x, hx⟩ : ∃ x, P[k]? = some x := ⟨_, List.getElem?_eq_getElem hlt⟩
        have hxm := HPG.out x (List.mem_of_getElem? hx)
        have sX := S_size x
        obtain ⟨b1, o1, c1, e1, l1, m1, x1⟩ := HP.out.cell hx
        simp only [Value.slice.injEq] at e1
        obtain ⟨rfl, _, rfl⟩ := e1
        have a0 := x1 0 (by omega)
        simp only [strC, List.getElem?_cons_zero, Nat.add_zero, Nat.mul_one] at a0
        have ar := HS.out.kp.load a0
        obtain ⟨t, ht⟩ : ∃ t, [47] ++ x = t := ⟨_, rfl⟩
        have hcat0 : (⟨#[47]⟩ : ByteArray) ++ S x = S t := by rw [← ht]; exact S_append [47] x
        have tl : t.length = x.length + 1 := by rw [← ht]; simp
        have sT := S_size t
        obtain ⟨d1, hd1⟩ : ∃ d, [71, 69, 84, 32] ++ t = d := ⟨_, rfl⟩
        have hcat1 : (⟨#[71, 69, 84, 32]⟩ : ByteArray) ++ S t = S d1 := by rw [← hd1]; exact S_append [71, 69, 84, 32] t
        have dl1 : d1.length = t.length + 4 := by rw [← hd1]; simp
        have sD1 := S_size d1
        have hcat2 : S d1 ++ (⟨#[32, 72, 84, 84, 80, 47, 49, 46, 49]⟩ : ByteArray) = S (askT getB t) := by rw [← askT_parts, hd1]; exact S_append d1 [32, 72, 84, 84, 80, 47, 49, 46, 49]
        have hal3 := ask_len getB t
        rw [show getB.length = 3 from rfl] at hal3
        have hov0 : ¬ 9223372036854775807 < 1 + x.length := by omega
        have hov1 : ¬ 9223372036854775807 < 4 + t.length := by omega
        have hov2 : ¬ 9223372036854775807 < d1.length + 9 := by omega
        have HLi := Lib.hid (fun w' => inlet_LineL (askT getB t) w' (by omega))
        have HGd := Lib.hid (fun (h1 : (lnM (askT getB t)).s = 200) (h2 : t.length ≤ 100) (b : List UInt8) (h3 : b.length ≤ 100) => show goodM (t, b) from ⟨h1, h2, h3⟩)
        have HD1 := Lib.hid hd1
        have sA := S_size (askT getB t)
        unfold Ln.out at HLi
        generalize lnM (askT getB t) = R at *
        obtain ⟨rm, rt, rv, rs⟩ := R
        dsimp only at HLi HGd
        generalize askT getB t = lin at *
        clear hx x1 l1 m1 ht hd1
        go_wp2_with fail
        refine (HLi.out _).mono ?_
        rintro e w3 ⟨rfl, k3⟩
        have K3 := Lib.hid k3
        have HS3 := Lib.hid (HS.out.keep0 k3 (Nat.le_refl _))
        clear k3 HLi ar hcat0 hov0
        by_cases hrs : rs = 200
        case neg =>
          have q1 := (int_ne hrs).2
          clear hrs hcat1 hcat2
          go_wp2_with fail
          go_roundg (40 - (k + 1))
          case measure => omega
          case rel => exact ⟨k + 1, _, Ms, rfl, by go_num, by omega, rfl, Lib.hid (HS3.out.keep0 (Keep.refl _ _) (by omega))⟩
        have q1 := (int_eq hrs).2
        by_cases ht100 : t.length ≤ 100
        case neg =>
          have q2 : decide ((t.length : Int) > 100) = true := by simp; omega
          clear hrs ht100 hcat1 hcat2 tl dl1 hal3
          go_wp2_with fail
          go_roundg (40 - (k + 1))
          case measure => omega
          case rel => exact ⟨k + 1, _, Ms, rfl, by go_num, by omega, rfl, Lib.hid (HS3.out.keep0 (Keep.refl _ _) (by omega))⟩
        have q2 : decide ((t.length : Int) > 100) = false := by simp; omega
        have HGb := Lib.hid (fun b h3 => HGd.out hrs ht100 b h3)
        subst hrs
        clear HGd hcat2 hov2
        go_upto_if 59 with fail
        go_cut [13] from 25 to 84 (fun bv wx => ∃ b : List UInt8, bv = .string (S b) ∧ b.length ≤ 9223372036854775807 ∧ w3 = wx)
        case first =>
          by_cases hkq : k < Q.length
          · obtain ⟨y, hy⟩ : ∃ y, Q[k]? = some y := ⟨_, List.getElem?_eq_getElem hkq⟩
            have hym := HQG.out y (List.mem_of_getElem? hy)
            obtain ⟨b2, o2, c2, e2, l2, m2, y1⟩ := HQ.out.cell hy
            simp only [Value.slice.injEq] at e2
            obtain ⟨rfl, _, rfl⟩ := e2
            have a1 := y1 0 (by omega)
            simp only [strC, List.getElem?_cons_zero, Nat.add_zero, Nat.mul_one] at a1
            have ar1 := HS3.out.kp.load a1
            have HY := Lib.hid hym
            clear hy y1 l2 m2 hym a1
            go_wp2_with fail
            go_meet
            exact ⟨y, rfl, HY.out, rfl⟩
          · go_wp2_with fail
            go_meet
            exact ⟨[], rfl, by simp, rfl⟩
        case rest =>
        obtain ⟨b, rfl, hb, rfl⟩ := hcut
        have sB := S_size b
        by_cases hb100 : 100 < b.length
        · have q3 : decide ((b.length : Int) > 100) = true := by simp; omega
          clear hb100
          go_wp2_with fail
          go_ret
          exact ⟨rfl, HS3.out.kp⟩
        have q3 : decide ((b.length : Int) > 100) = false := by simp; omega
        have hgd := HGb.out b (by omega)
        have HGD := Lib.hid hgd
        have hsz := sizeL_len b.length
        have HSz := Lib.hid (fun w' => law12_size b.length (by omega) w')
        have hpm := pmsg_parts t b
        have HAd := Lib.hid (pp_Add HS3.out t b hk40 hgd)
        generalize sizeL b.length = sz at *
        have sZ := S_size sz
        obtain ⟨d2, hd2⟩ : ∃ d, d1 ++ [32, 72, 84, 84, 80, 47, 49, 46, 49, 13, 10, 72, 111, 115, 116, 58, 32, 104, 13, 10, 67, 111, 110, 116, 101, 110, 116, 45, 76, 101, 110, 103, 116, 104, 58, 32] = d := ⟨_, rfl⟩
        have hcat2 : S d1 ++ (⟨#[32, 72, 84, 84, 80, 47, 49, 46, 49, 13, 10, 72, 111, 115, 116, 58, 32, 104, 13, 10, 67, 111, 110, 116, 101, 110, 116, 45, 76, 101, 110, 103, 116, 104, 58, 32]⟩ : ByteArray) = S d2 := by rw [← hd2]; exact S_append _ _
        have dl2 : d2.length = d1.length + 36 := by rw [← hd2]; simp
        have sD2 := S_size d2
        obtain ⟨d3, hd3⟩ : ∃ d, d2 ++ sz = d := ⟨_, rfl⟩
        have hcat3 : S d2 ++ S sz = S d3 := by rw [← hd3]; exact S_append _ _
        have dl3 : d3.length = d2.length + sz.length := by rw [← hd3]; simp
        have sD3 := S_size d3
        obtain ⟨d4, hd4⟩ : ∃ d, d3 ++ [13, 10, 13, 10] = d := ⟨_, rfl⟩
        have hcat4 : S d3 ++ (⟨#[13, 10, 13, 10]⟩ : ByteArray) = S d4 := by rw [← hd4]; exact S_append _ _
        have dl4 : d4.length = d3.length + 4 := by rw [← hd4]; simp
        have sD4 := S_size d4
        have hcat5 : S d4 ++ S b = S (pmsg t b) := by rw [← hpm, HD1.out, hd2, hd3, hd4]; exact S_append _ _
        generalize pmsg t b = pm at *
        have hov2 : ¬ 9223372036854775807 < d1.length + 36 := by omega
        have hov3 : ¬ 9223372036854775807 < d2.length + sz.length := by omega
        have hov4 : ¬ 9223372036854775807 < d3.length + 4 := by omega
        have hov5 : ¬ 9223372036854775807 < d4.length + b.length := by omega
        clear hgd hd2 hd3 hd4 hpm hb100 HGb
        go_wp2_with fail
        refine (HSz.out _).mono ?_
        rintro e w4 ⟨rfl, rfl⟩
        go_wp2_with fail
        refine HAd.out.mono ?_
        rintro e w5 ⟨rfl, hi5, ho5, k5⟩
        have HI5 := Lib.hid hi5
        have K5 := Lib.hid k5
        have OC := Lib.hid (ho5.alloc (.cells #[.string (S t)] 9))
        have kC := (Keep.refl [] w5).alloc (.cells #[.string (S t)] 9)
        have hMm := str_row (w := w5) (t := t)
        have hBC : w.heap.size ≤ (w5.alloc (.cells #[.string (S t)] 9)).heap.size := by have h1 := k5.size; have h2 := kC.size; omega
        have h63 : (Ms.map (·.1)).length + [t].length ≤ maxLen := by have := HS.out.ln; simp only [List.length_map, List.length_cons, List.length_nil]; unfold maxLen; omega
        have hbytes : ((Ms.map (·.1)).length + [t].length) * 16 ≤ 140737488355328 := by have := HS.out.ln; simp only [List.length_map, List.length_cons, List.length_nil]; omega
        generalize hwC : w5.alloc (.cells #[.string (S t)] 9) = wC at kC hMm hBC OC
        have HF2 := Lib.hid (fun (v' : Value) (w6 : World) (g1 : Own strC 1 w.heap.size 9 w6 v' (Ms.map (·.1) ++ [t])) (g2 : wC.grownBy w6 vs.ownBlock) (g4 : v'.ownBlock = vs.ownBlock ∨ v'.ownBlock = some wC.heap.size) => pp_more HS.out HGD.out (HI5.out.keep0 kC) (K5.out.trans kC) g1 g2 g4)
        have HMm := Lib.hid hMm
        have HKC := Lib.hid kC
        clear hi5 ho5 k5 hMm kC HAd HS3 hcat1 hcat2 hcat3 hcat4 hcat5
        go_wp2_with (first
          | (at_builtin; go_must (refine wpList_append_any rfl _ _ 22 rfl is _ 16 Tryd.underlying22 Hs (by rfl) (by decide) strC_length strC_one hBC (by rfl) OC.out [t] ⟨w5.heap.size, 0, none⟩ _ (by rfl) HMm.out h63 hbytes ?_); intro v' w6 hown' hgr' hnil' hat'; have HX := Lib.hid (HF2.out _ _ hown' hgr' hat'); clear hown' hgr' hnil' hat')
          | fail)
        go_roundg (40 - (k + 1))
        case measure => omega
        case rel => exact ⟨k + 1, _, Ms ++ [(t, b)], rfl, by go_num, by omega, rfl, HX⟩
      · have q : decide ((k : Int) < 40) = false := by simp; omega
        have HAl := Lib.hid (inlet_all HS.out.it (HM.out.keep HS.out.kp (by simp)) HS.out.kp.size hbig (inp_ok (by have := HS.out.ln; omega)) rfl (by show (flatM Ms).length + 0 ≤ 16000; have := HS.out.ln; omega))
        unfold AllOut at HAl
        obtain ⟨L, hL1, hL2, hL3⟩ := pipes_all Ms HS.out.gd
        have HL := Lib.hid (And.intro hL1 (And.intro hL2 hL3))
        have hMn : Ms.length ≤ 40 := by have := HS.out.ln; omega
        clear hL1 hL2 hL3
        go_wp2_with fail
        refine HAl.out.mono ?_
        rintro e w3 ⟨vo, Z, EL, L', n, J', X', R', rfl, hal2, hi3, k3, n3, r3, hrs3, hz3, hv3, _, _⟩
        obtain ⟨e1, e2, e3⟩ := alls_det HL.out.1 hal2
        subst e1 e2 e3
        have hK3 := HS.out.kp.above k3 (fun x hx => by have h1 : x = p := (by simpa using hx); rw [h1]; exact HS.out.it.base)
        have K3 := Lib.hid hK3
        have I3 := Lib.hid hi3
        have SO := (HS.out.own.keep k3 (fun g hg => by simpa using HS.out.sp g hg))
        have HRS := Lib.hid hrs3
        obtain ⟨gs, cs, rfl, hsl⟩ := SO.shape
        obtain ⟨gx, cx, hvo, hxl⟩ := hrs3.own.shape
        have hEl := hrs3.len
        rw [hEl] at hvo
        have HSO := Lib.hid SO
        subst hvo
        have HLm := Lib.hid (show L.length = Ms.length from by have h1 := congrArg List.length HL.out.2.1; simpa using h1)
        have q5 := (nat_eq HLm.out).2
        have HLf := Lib.hid (inlet_Left I3.out (by decide))
        have hl0 : in0.left = 0 := rfl
        rw [hl0] at HLf
        clear hal2 hi3 k3 n3 r3 hrs3 hz3 hv3 hK3 SO hsl hxl HAl hl0 hEl
        go_wp2_with fail
        refine HLf.out.mono ?_
        rintro e w4 ⟨rfl, k4⟩
        have K4 := Lib.hid (K3.out.trans k4)
        have RS4 := Lib.hid (HRS.out.keep0 k4)
        have SO4 := Lib.hid (HSO.out.keep0 k4)
        clear k4 HLf HRS HSO K3 I3 q5 HS
        go_wp2_with fail
        go_loopg [17] L.length (fun g iv wx => ∃ i : Nat, iv = .int .i64 (i : Nat) ∧ i ≤ L.length ∧ g = L.length - i ∧ Hid (Keep [] w4 wx))
        case atStart => exact ⟨0, rfl, Nat.zero_le _, rfl, Lib.hid (Keep.refl _ _)⟩
        case round =>
          obtain ⟨i, rfl, hi, hg2, KX⟩ := hrel
          by_cases hil : i < L.length
          · obtain ⟨q0, hq0⟩ : ∃ q0, L[i]? = some q0 := ⟨_, List.getElem?_eq_getElem hil⟩
            obtain ⟨ex, hex⟩ : ∃ ex, EL[i]? = some ex := ⟨_, List.getElem?_eq_getElem (by rw [RS4.out.len]; exact hil)⟩
            obtain ⟨f1, f2, f3, _⟩ := RS4.out.el i ex q0 hex hq0
            have hqm := HL.out.2.2 q0 (List.mem_of_getElem? hq0)
            have hms : (Ms.map (·.1))[i]? = some q0.t := by rw [← HL.out.2.1, List.getElem?_map, hq0]; rfl
            obtain ⟨bx, ox, cx2, ex2, _, _, hcx⟩ := (RS4.out.own.sl RqE.len).cell hex
            obtain ⟨bs, os, cs2, es2, _, _, hcs⟩ := (SO4.out.sl strC_length).cell hms
            simp only [Value.slice.injEq] at ex2 es2
            obtain ⟨rfl, _, rfl⟩ := ex2
            obtain ⟨rfl, _, rfl⟩ := es2
            have t0 := hcx 0 (by omega)
            have t1 := hcx 1 (by omega)
            have t2 := hcs 0 (by omega)
            simp only [RqE.cells, reqC, strC, List.getElem?_cons_zero, List.getElem?_cons_succ, Nat.add_zero, Nat.mul_one, f1, f2, hqm] at t0 t1 t2
            have u0 := KX.out.load t0
            have u1 := KX.out.load t1
            have u2 := KX.out.load t2
            have tg := S_toList getB
            have hi40 : i < 40 := by have h1 := HLm.out; omega
            have wi := IntWalk.i64_in ((i : Int) + 1) (by omega)
            have hil2 : i < Ms.length := by rw [← HLm.out]; exact hil
            clear hcx hcs t0 t1 t2 f1 f2 f3 hq0 hex hqm hms
            unfold getB at u0 tg
            go_wp2_with fail
            go_quiet (fail)
            go_wp2_with fail
            go_roundg (L.length - (i + 1))
            case measure => omega
            case rel => exact ⟨i + 1, by go_num, by omega, rfl, Lib.hid (KX.out.drewN _)⟩
          · have q6 : decide ((i : Int) < (L.length : Int)) = false := by simp; omega
            have HN0 := Lib.hid (fun w' => nilI_Next w')
            have HA0 := Lib.hid (fun w' => nilI_Add [120] w')
            have HL0 := Lib.hid (fun w' => nilI_Left w')
            go_wp2_with fail
            refine (HN0.out _).mono ?_
            rintro e w6 ⟨rfl, k6⟩
            have kB := (Keep.refl [] w6).alloc (.cells reqZ.toArray 37)
            generalize hwB : w6.alloc (.cells reqZ.toArray 37) = wB at kB
            have KB := Lib.hid (((K4.out.trans KX.out).trans k6).trans kB)
            have HO2 := Lib.hid (reqC_one [] [] (v := .slice none 0 0) false rfl)
            clear k6 kB
            go_wp2_with (first
              | (with_reducible (show wpList _ _ _ ((⟨none, .store _ (.tmp 19) (.tmp 131), _, _, _, none⟩ : Oper) :: _) _ _)
                 refine wpList_store_fresh rfl 37 (.tmp 19) (.tmp 131) rfl _ reqZ (by rfl) (by rfl) req_size (by rfl) HO2.out ?_
                 rw [hwB]
                 try simp only [Act.put])
              | fail)
            refine (HA0.out _).mono ?_
            rintro e w7 ⟨rfl, rfl⟩
            go_wp2_with fail
            refine (HL0.out _).mono ?_
            rintro e w8 ⟨rfl, rfl⟩
            go_wp2_with fail
            go_ret
            exact ⟨rfl, KB.out⟩
    · have q : decide ((k : Int) < (P.length : Int)) = false := by simp; omega
      have HAl := Lib.hid (inlet_all HS.out.it (HM.out.keep HS.out.kp (by simp)) HS.out.kp.size hbig (inp_ok (by have := HS.out.ln; omega)) rfl (by show (flatM Ms).length + 0 ≤ 16000; have := HS.out.ln; omega))
      unfold AllOut at HAl
      obtain ⟨L, hL1, hL2, hL3⟩ := pipes_all Ms HS.out.gd
      have HL := Lib.hid (And.intro hL1 (And.intro hL2 hL3))
      have hMn : Ms.length ≤ 40 := by have := HS.out.ln; omega
      clear hL1 hL2 hL3
      go_wp2_with fail
      refine HAl.out.mono ?_
      rintro e w3 ⟨vo, Z, EL, L', n, J', X', R', rfl, hal2, hi3, k3, n3, r3, hrs3, hz3, hv3, _, _⟩
      obtain ⟨e1, e2, e3⟩ := alls_det HL.out.1 hal2
      subst e1 e2 e3
      have hK3 := HS.out.kp.above k3 (fun x hx => by have h1 : x = p := (by simpa using hx); rw [h1]; exact HS.out.it.base)
      have K3 := Lib.hid hK3
      have I3 := Lib.hid hi3
      have SO := (HS.out.own.keep k3 (fun g hg => by simpa using HS.out.sp g hg))
      have HRS := Lib.hid hrs3
      obtain ⟨gs, cs, rfl, hsl⟩ := SO.shape
      obtain ⟨gx, cx, hvo, hxl⟩ := hrs3.own.shape
      have hEl := hrs3.len
      rw [hEl] at hvo
      have HSO := Lib.hid SO
      subst hvo
      have HLm := Lib.hid (show L.length = Ms.length from by have h1 := congrArg List.length HL.out.2.1; simpa using h1)
      have q5 := (nat_eq HLm.out).2
      have HLf := Lib.hid (inlet_Left I3.out (by decide))
      have hl0 : in0.left = 0 := rfl
      rw [hl0] at HLf
      clear hal2 hi3 k3 n3 r3 hrs3 hz3 hv3 hK3 SO hsl hxl HAl hl0 hEl
      go_wp2_with fail
      refine HLf.out.mono ?_
      rintro e w4 ⟨rfl, k4⟩
      have K4 := Lib.hid (K3.out.trans k4)
      have RS4 := Lib.hid (HRS.out.keep0 k4)
      have SO4 := Lib.hid (HSO.out.keep0 k4)
      clear k4 HLf HRS HSO K3 I3 q5 HS
      go_wp2_with fail
      go_loopg [17] L.length (fun g iv wx => ∃ i : Nat, iv = .int .i64 (i : Nat) ∧ i ≤ L.length ∧ g = L.length - i ∧ Hid (Keep [] w4 wx))
      case atStart => exact ⟨0, rfl, Nat.zero_le _, rfl, Lib.hid (Keep.refl _ _)⟩
      case round =>
        obtain ⟨i, rfl, hi, hg2, KX⟩ := hrel
        by_cases hil : i < L.length
        · obtain ⟨q0, hq0⟩ : ∃ q0, L[i]? = some q0 := ⟨_, List.getElem?_eq_getElem hil⟩
          obtain ⟨ex, hex⟩ : ∃ ex, EL[i]? = some ex := ⟨_, List.getElem?_eq_getElem (by rw [RS4.out.len]; exact hil)⟩
          obtain ⟨f1, f2, f3, _⟩ := RS4.out.el i ex q0 hex hq0
          have hqm := HL.out.2.2 q0 (List.mem_of_getElem? hq0)
          have hms : (Ms.map (·.1))[i]? = some q0.t := by rw [← HL.out.2.1, List.getElem?_map, hq0]; rfl
          obtain ⟨bx, ox, cx2, ex2, _, _, hcx⟩ := (RS4.out.own.sl RqE.len).cell hex
          obtain ⟨bs, os, cs2, es2, _, _, hcs⟩ := (SO4.out.sl strC_length).cell hms
          simp only [Value.slice.injEq] at ex2 es2
          obtain ⟨rfl, _, rfl⟩ := ex2
          obtain ⟨rfl, _, rfl⟩ := es2
          have t0 := hcx 0 (by omega)
          have t1 := hcx 1 (by omega)
          have t2 := hcs 0 (by omega)
          simp only [RqE.cells, reqC, strC, List.getElem?_cons_zero, List.getElem?_cons_succ, Nat.add_zero, Nat.mul_one, f1, f2, hqm] at t0 t1 t2
          have u0 := KX.out.load t0
          have u1 := KX.out.load t1
          have u2 := KX.out.load t2
          have tg := S_toList getB
          have hi40 : i < 40 := by have h1 := HLm.out; omega
          have wi := IntWalk.i64_in ((i : Int) + 1) (by omega)
          have hil2 : i < Ms.length := by rw [← HLm.out]; exact hil
          clear hcx hcs t0 t1 t2 f1 f2 f3 hq0 hex hqm hms
          unfold getB at u0 tg
          go_wp2_with fail
          go_quiet (fail)
          go_wp2_with fail
          go_roundg (L.length - (i + 1))
          case measure => omega
          case rel => exact ⟨i + 1, by go_num, by omega, rfl, Lib.hid (KX.out.drewN _)⟩
        · have q6 : decide ((i : Int) < (L.length : Int)) = false := by simp; omega
          have HN0 := Lib.hid (fun w' => nilI_Next w')
          have HA0 := Lib.hid (fun w' => nilI_Add [120] w')
          have HL0 := Lib.hid (fun w' => nilI_Left w')
          go_wp2_with fail
          refine (HN0.out _).mono ?_
          rintro e w6 ⟨rfl, k6⟩
          have kB := (Keep.refl [] w6).alloc (.cells reqZ.toArray 37)
          generalize hwB : w6.alloc (.cells reqZ.toArray 37) = wB at kB
          have KB := Lib.hid (((K4.out.trans KX.out).trans k6).trans kB)
          have HO2 := Lib.hid (reqC_one [] [] (v := .slice none 0 0) false rfl)
          clear k6 kB
          go_wp2_with (first
            | (with_reducible (show wpList _ _ _ ((⟨none, .store _ (.tmp 19) (.tmp 131), _, _, _, none⟩ : Oper) :: _) _ _)
               refine wpList_store_fresh rfl 37 (.tmp 19) (.tmp 131) rfl _ reqZ (by rfl) (by rfl) req_size (by rfl) HO2.out ?_
               rw [hwB]
               try simp only [Act.put])
            | fail)
          refine (HA0.out _).mono ?_
          rintro e w7 ⟨rfl, rfl⟩
          go_wp2_with fail
          refine (HL0.out _).mono ?_
          rintro e w8 ⟨rfl, rfl⟩
          go_wp2_with fail
          go_ret
          exact ⟨rfl, KB.out⟩
end Go.Proofs.YtpimfoohpfkciaaDoor

/- An argument that is a slice of strings, read. No conditions. -/
namespace Go.Proofs.YtpimfoohpfkciaaDoor
open Go.ChangeShapes Go.WideShapes Go.ChangeAt Go.RowKit

theorem read_strC {H : Type} {enc : TypeId × Value → H} {w : World} {base : Nat} {spare : Nat → Bool} {held : Bool} (m : Nat) (cs : List Value) (x : DataW H × List MemPlace)
    (h : DataW.trod enc Tryd.prog w base spare held m 9 cs = some x) : ∃ a : List UInt8, cs = strC a ∧ a.length ≤ maxLen := by
  obtain ⟨a, c0, _, la⟩ := DataW.trod_string Tryd.underlying9 h
  exact ⟨a.data.toList, by rw [strC, S_of]; exact c0, by rw [Array.length_toList]; exact la⟩
end Go.Proofs.YtpimfoohpfkciaaDoor

/- What the row's own reach says of a slice of strings that is read. No conditions. -/
namespace Go.Proofs.YtpimfoohpfkciaaDoor
open Go.ChangeShapes Go.WideShapes Go.ChangeAt Go.RowKit

theorem read_strW {H : Type} {enc : TypeId × Value → H} {w : World} {base : Nat} {spare : Nat → Bool} {held : Bool} (m : Nat) (cs : List Value) (x : DataW H × List MemPlace)
    (h : DataW.trod enc Tryd.prog w base spare held m 9 cs = some x) (hf : Fits Tryd.prog 9 x.1) : ∃ a : List UInt8, cs = strC a ∧ a.length ≤ 140737488351232 := by
  obtain ⟨s0, c0, d0, _⟩ := DataW.trod_string Tryd.underlying9 h
  rw [d0] at hf
  have g0 := fits_string hf
  exact ⟨s0.data.toList, by rw [c0]; simp [strC, S_of], g0⟩
end Go.Proofs.YtpimfoohpfkciaaDoor
