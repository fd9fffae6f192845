/- Parts of the proof of OutletBack, in order. No conditions but those that each theorem states. -/
import Derived.Test.YtmfnciocnlmceaaDoorZOutletBack2
import Derived.OpenShut
/- Layer 10: Frame. No conditions but on lengths. -/
namespace Go.Proofs.YtmfnciocnlmceaaDoor
open Go.RowKit Go.Shelf

def nTE : List UInt8 := [84, 114, 97, 110, 115, 102, 101, 114, 45, 69, 110, 99, 111, 100, 105, 110, 103]
def nCL : List UInt8 := [67, 111, 110, 116, 101, 110, 116, 45, 76, 101, 110, 103, 116, 104]
def nChunked : List UInt8 := [99, 104, 117, 110, 107, 101, 100]
/-- how a body is framed: its length, whether in chunks, the error -/
structure Frm where
  n : Int
  ch : Bool
  e : Int
def frameM (L : List Fld) (most : Int) : Frm :=
  if 1 < getN L nTE ∨ 1 < getN L nCL ∨ 1 < getN L nTE + getN L nCL then ⟨0, false, 3⟩
  else if getN L nTE = 1 then (if lowW (getV L nTE) = nChunked then ⟨0, true, 0⟩ else ⟨0, false, 3⟩)
  else if getN L nCL = 0 then ⟨-1, false, 0⟩
  else ⟨undecV (getV L nCL) most, false, if undecE (getV L nCL) most = 14 then 4 else undecE (getV L nCL) most⟩
theorem frm_ret {a c : Int} {b d : Bool} {x y : Int} (h : a = c) (h2 : b = d) (h3 : x = y) : Ending.returned (.tuple #[.int .i64 a, .bool b, .int .i64 x]) = .returned (.tuple #[.int .i64 c, .bool d, .int .i64 y]) := by rw [h, h2, h3]
theorem getV_len {L : List Fld} {n : List UInt8} {m : Nat} (h : ∀ x ∈ L, x.value.length ≤ m) : (getV L n).length ≤ m := by
  unfold getV
  cases hg : getS L n with
  | nil => simp
  | cons f r =>
    have : f ∈ getS L n := by rw [hg]; simp
    exact h f (List.mem_filter.1 this).1

set_option maxRecDepth 100000 in
set_option maxHeartbeats 1000000 in
theorem field_Frame (va : Value) (L : List Fld) (most : Int) (w : World) (ha : Sl Fld.cells 2 w va L) (hg : ∀ x ∈ L, x.name.length ≤ maxLen) (hv : ∀ x ∈ L, x.value.length ≤ maxLen) (_ : L.length ≤ 4611686018427387904) :
    Calls Tryd.prog 95 #[va, .int .i64 most] w fun e w' => e = .returned (.tuple #[.int .i64 (frameM L most).n, .bool (frameM L most).ch, .int .i64 (frameM L most).e]) ∧ Keep [] w w' := by
  have HG1 := Lib.hid (field_Get va L nTE w ha hg (by decide))
  have HG2 := Lib.hid (fun w1 (k : Keep [] w w1) => field_Get va L nCL w1 (ha.keep Fld.cells_length (by omega) ha k (by simp) (Nat.le_refl _)) hg (by decide))
  have hL := fun w1 => field_low (getV L nTE) w1 (getV_len hv)
  have hU := fun w1 => hexa_Undec (getV L nCL) most w1 (getV_len hv)
  have hF : frameM L most = if 1 < getN L nTE ∨ 1 < getN L nCL ∨ 1 < getN L nTE + getN L nCL then ⟨0, false, 3⟩
    else if getN L nTE = 1 then (if lowW (getV L nTE) = nChunked then ⟨0, true, 0⟩ else ⟨0, false, 3⟩)
    else if getN L nCL = 0 then ⟨-1, false, 0⟩
    else ⟨undecV (getV L nCL) most, false, if undecE (getV L nCL) most = 14 then 4 else undecE (getV L nCL) most⟩ := rfl
  have b1 := getN_le L nTE
  have b2 := getN_le L nCL
  unfold GetOut at HG1 HG2
  generalize frameM L most = f at hF
  generalize getV L nTE = tv at hL hF HG1
  generalize getV L nCL = cv at hU hF HG2
  generalize getN L nTE = tn at hF b1 HG1
  generalize getN L nCL = cn at hF b2 HG2
  obtain ⟨fn, fc, fe⟩ := f
  dsimp only
  clear ha hg hv
  by_cases h1 : 1 < tn ∨ 1 < cn ∨ 1 < tn + cn
  · rw [if_pos h1] at hF
    have HF := Lib.hid hF
    clear hF hL hU
    by_cases t1 : 1 < tn
    · clear h1
      go_enter Tryd.func95, Tryd.ntmps95
      go_wp2_with fail
      refine HG1.out.mono ?_
      rintro e w1 ⟨rfl, hk1⟩
      have K1 := Lib.hid hk1
      clear hk1
      go_wp2_with fail
      refine (HG2.out _ K1.out).mono ?_
      rintro e w2 ⟨rfl, hk2⟩
      have K2 := Lib.hid (K1.out.trans hk2)
      clear hk2
      go_wp2_with fail
      go_ret3
      exact ⟨frm_ret (by cases HF.out; rfl) (by cases HF.out; rfl) (by cases HF.out; rfl), K2.out⟩
    · by_cases t2 : 1 < cn
      · clear h1
        go_enter Tryd.func95, Tryd.ntmps95
        go_wp2_with fail
        refine HG1.out.mono ?_
        rintro e w1 ⟨rfl, hk1⟩
        have K1 := Lib.hid hk1
        clear hk1
        go_wp2_with fail
        refine (HG2.out _ K1.out).mono ?_
        rintro e w2 ⟨rfl, hk2⟩
        have K2 := Lib.hid (K1.out.trans hk2)
        clear hk2
        go_wp2_with fail
        go_ret3
        exact ⟨frm_ret (by cases HF.out; rfl) (by cases HF.out; rfl) (by cases HF.out; rfl), K2.out⟩
      · have t3 : 1 < tn + cn := by omega
        clear h1
        go_enter Tryd.func95, Tryd.ntmps95
        go_wp2_with fail
        refine HG1.out.mono ?_
        rintro e w1 ⟨rfl, hk1⟩
        have K1 := Lib.hid hk1
        clear hk1
        go_wp2_with fail
        refine (HG2.out _ K1.out).mono ?_
        rintro e w2 ⟨rfl, hk2⟩
        have K2 := Lib.hid (K1.out.trans hk2)
        clear hk2
        go_wp2_with fail
        go_ret3
        exact ⟨frm_ret (by cases HF.out; rfl) (by cases HF.out; rfl) (by cases HF.out; rfl), K2.out⟩
  · rw [if_neg h1] at hF
    have t1 : tn ≤ 1 := by omega
    have t2 : cn ≤ 1 := by omega
    have t3 : tn + cn ≤ 1 := by omega
    clear h1
    by_cases t4 : tn = 1
    · rw [if_pos t4] at hF
      obtain ⟨q1, q2⟩ := int_eq (show ((tn : Nat) : Int) = 1 by omega)
      have q5 := S_toList (lowW tv)
      by_cases hc : lowW tv = nChunked
      · rw [if_pos hc] at hF
        have q3 : (lowW tv == [99, 104, 117, 110, 107, 101, 100]) = true := by rw [hc]; rfl
        have q4 : (lowW tv != [99, 104, 117, 110, 107, 101, 100]) = false := by rw [hc]; rfl
        have HF := Lib.hid hF
        have HL := Lib.hid hL
        clear hF hL hU t4 hc
        go_enter Tryd.func95, Tryd.ntmps95
        go_wp2_with fail
        refine HG1.out.mono ?_
        rintro e w1 ⟨rfl, hk1⟩
        have K1 := Lib.hid hk1
        clear hk1
        go_wp2_with fail
        refine (HG2.out _ K1.out).mono ?_
        rintro e w2 ⟨rfl, hk2⟩
        have K2 := Lib.hid (K1.out.trans hk2)
        clear hk2
        go_wp2_with fail
        refine (HL.out _).mono ?_
        rintro e w3 ⟨rfl, hk3⟩
        have K3 := Lib.hid (K2.out.trans hk3)
        clear hk3
        go_wp2_with fail
        go_ret3
        exact ⟨frm_ret (by cases HF.out; rfl) (by cases HF.out; rfl) (by cases HF.out; rfl), K3.out⟩
      · rw [if_neg hc] at hF
        have q3 : (lowW tv == [99, 104, 117, 110, 107, 101, 100]) = false := beq_eq_false_iff_ne.2 hc
        have q4 : (lowW tv != [99, 104, 117, 110, 107, 101, 100]) = true := bne_iff_ne.2 hc
        have HF := Lib.hid hF
        have HL := Lib.hid hL
        clear hF hL hU t4 hc
        go_enter Tryd.func95, Tryd.ntmps95
        go_wp2_with fail
        refine HG1.out.mono ?_
        rintro e w1 ⟨rfl, hk1⟩
        have K1 := Lib.hid hk1
        clear hk1
        go_wp2_with fail
        refine (HG2.out _ K1.out).mono ?_
        rintro e w2 ⟨rfl, hk2⟩
        have K2 := Lib.hid (K1.out.trans hk2)
        clear hk2
        go_wp2_with fail
        refine (HL.out _).mono ?_
        rintro e w3 ⟨rfl, hk3⟩
        have K3 := Lib.hid (K2.out.trans hk3)
        clear hk3
        go_wp2_with fail
        go_ret3
        exact ⟨frm_ret (by cases HF.out; rfl) (by cases HF.out; rfl) (by cases HF.out; rfl), K3.out⟩
    · rw [if_neg t4] at hF
      obtain ⟨q1, q2⟩ := int_ne (show ((tn : Nat) : Int) ≠ 1 by omega)
      by_cases t5 : cn = 0
      · rw [if_pos t5] at hF
        obtain ⟨q3, q4⟩ := int_eq (show ((cn : Nat) : Int) = 0 by omega)
        have HF := Lib.hid hF
        clear hF hL hU t4 t5
        go_enter Tryd.func95, Tryd.ntmps95
        go_wp2_with fail
        refine HG1.out.mono ?_
        rintro e w1 ⟨rfl, hk1⟩
        have K1 := Lib.hid hk1
        clear hk1
        go_wp2_with fail
        refine (HG2.out _ K1.out).mono ?_
        rintro e w2 ⟨rfl, hk2⟩
        have K2 := Lib.hid (K1.out.trans hk2)
        clear hk2
        go_wp2_with fail
        go_ret3
        exact ⟨frm_ret (by cases HF.out; rfl) (by cases HF.out; rfl) (by cases HF.out; rfl), K2.out⟩
      · rw [if_neg t5] at hF
        obtain ⟨q3, q4⟩ := int_ne (show ((cn : Nat) : Int) ≠ 0 by omega)
        generalize undecV cv most = uv at hF hU
        generalize undecE cv most = ue at hF hU
        have HU := Lib.hid hU
        by_cases h14 : ue = 14
        · rw [if_pos h14] at hF
          obtain ⟨q5, q6⟩ := int_eq h14
          have HF := Lib.hid hF
          clear hF hL hU t4 t5 h14
          go_enter Tryd.func95, Tryd.ntmps95
          go_wp2_with fail
          refine HG1.out.mono ?_
          rintro e w1 ⟨rfl, hk1⟩
          have K1 := Lib.hid hk1
          clear hk1
          go_wp2_with fail
          refine (HG2.out _ K1.out).mono ?_
          rintro e w2 ⟨rfl, hk2⟩
          have K2 := Lib.hid (K1.out.trans hk2)
          clear hk2
          go_wp2_with fail
          refine (HU.out _).mono ?_
          rintro e w3 ⟨rfl, hk3⟩
          have K3 := Lib.hid (K2.out.trans hk3)
          clear hk3
          go_wp2_with fail
          go_ret3
          exact ⟨frm_ret (by cases HF.out; rfl) (by cases HF.out; rfl) (by cases HF.out; rfl), K3.out⟩
        · rw [if_neg h14] at hF
          obtain ⟨q5, q6⟩ := int_ne h14
          have HF := Lib.hid hF
          clear hF hL hU t4 t5 h14
          go_enter Tryd.func95, Tryd.ntmps95
          go_wp2_with fail
          refine HG1.out.mono ?_
          rintro e w1 ⟨rfl, hk1⟩
          have K1 := Lib.hid hk1
          clear hk1
          go_wp2_with fail
          refine (HG2.out _ K1.out).mono ?_
          rintro e w2 ⟨rfl, hk2⟩
          have K2 := Lib.hid (K1.out.trans hk2)
          clear hk2
          go_wp2_with fail
          refine (HU.out _).mono ?_
          rintro e w3 ⟨rfl, hk3⟩
          have K3 := Lib.hid (K2.out.trans hk3)
          clear hk3
          go_wp2_with fail
          go_ret3
          exact ⟨frm_ret (by cases HF.out; rfl) (by cases HF.out; rfl) (by cases HF.out; rfl), K3.out⟩

theorem frame_cases (L : List Fld) (most : Int) :
    ((1 < getN L nTE ∨ 1 < getN L nCL ∨ 1 < getN L nTE + getN L nCL) ∧ frameM L most = ⟨0, false, 3⟩) ∨ (getN L nTE = 1 ∧ getN L nCL = 0 ∧ frameM L most = ⟨0, true, 0⟩) ∨
    (((getN L nTE = 1 ∧ getN L nCL = 0) ∨ (getN L nTE = 0 ∧ getN L nCL = 1)) ∧ ∃ x, x ≠ 0 ∧ frameM L most = ⟨0, false, x⟩) ∨ (getN L nTE = 0 ∧ getN L nCL = 0 ∧ frameM L most = ⟨-1, false, 0⟩) ∨
    (getN L nTE = 0 ∧ getN L nCL = 1 ∧ ∃ v, 0 ≤ v ∧ v ≤ most ∧ frameM L most = ⟨v, false, 0⟩) := by
  have h := undec_range (getV L nCL) most
  unfold frameM
  by_cases h1 : 1 < getN L nTE ∨ 1 < getN L nCL ∨ 1 < getN L nTE + getN L nCL
  · exact .inl ⟨h1, if_pos h1⟩
  · rw [if_neg h1]
    by_cases t4 : getN L nTE = 1
    · rw [if_pos t4]
      by_cases hc : lowW (getV L nTE) = nChunked
      · rw [if_pos hc]; exact .inr (.inl ⟨t4, by omega, rfl⟩)
      · rw [if_neg hc]; exact .inr (.inr (.inl ⟨.inl ⟨t4, by omega⟩, 3, by omega, rfl⟩))
    · rw [if_neg t4]
      by_cases t5 : getN L nCL = 0
      · rw [if_pos t5]; exact .inr (.inr (.inr (.inl ⟨by omega, t5, rfl⟩)))
      · rw [if_neg t5]
        by_cases he : undecE (getV L nCL) most = 0
        · rw [if_neg (by omega), he]
          exact .inr (.inr (.inr (.inr ⟨by omega, by omega, _, (h.1 he).1, (h.1 he).2, rfl⟩)))
        · obtain ⟨h2, h3⟩ := h.2 he
          rw [h2]
          refine .inr (.inr (.inl ⟨.inr ⟨by omega, by omega⟩, _, ?_, rfl⟩))
          split <;> omega
end Go.Proofs.YtmfnciocnlmceaaDoor

/- Layers 1 and 10: the document's Undec and Frame. No conditions but on lengths. -/
namespace Go.Proofs.YtmfnciocnlmceaaDoor
open Go.RowKit Go.Shelf

theorem digV_dec {c : UInt8} (h : 48 ≤ c.toNat ∧ c.toNat ≤ 57) : digV c = (c.toNat : Int) - 48 := by
  unfold digV
  rw [if_pos h]
/-- where the document's loop over digits stands -/
def UStage (l : List UInt8) (k : Nat) (n : Int) (b : Bool) : Prop :=
  (l.take k).all decB = true ∧ 0 ≤ n ∧ n ≤ 4611686018427387913 ∧ ((b = true ∧ gatherM 10 l 0 = none) ∨ (b = false ∧ ((gatherM 10 l 0 = gatherM 10 (l.drop k) n ∧ n ≤ 4611686018427387904) ∨ (gatherM 10 l 0 = none ∧ 4611686018427387904 < n))))

end Go.Proofs.YtmfnciocnlmceaaDoor

/- Layer 16: the document's Dec, Print, Read. No conditions but on lengths. -/
namespace Go.Proofs.YtmfnciocnlmceaaDoor
open Go.RowKit Go.Shelf

theorem dig_cut16 {r : Nat} (h : r < 10) : (⟨#[48, 49, 50, 51, 52, 53, 54, 55, 56, 57, 97, 98, 99, 100, 101, 102]⟩ : ByteArray).extract r (r + 1) = S [UInt8.ofNat (48 + r)] := by
  have : ∀ r : Fin 10, (⟨#[48, 49, 50, 51, 52, 53, 54, 55, 56, 57, 97, 98, 99, 100, 101, 102]⟩ : ByteArray).extract r.1 (r.1 + 1) = S [UInt8.ofNat (48 + r.1)] := by decide +kernel
  exact this ⟨r, h⟩
def decP (n : Nat) : List UInt8 := if 0 < n then Lib.decDigits n else []
theorem decP_step (n : Nat) (h : 0 < n) : decP n = decP (n / 10) ++ [UInt8.ofNat (48 + n % 10)] := by
  have := decI_step false n (.inr h)
  unfold decI at this
  unfold decP
  simpa using this
theorem dec_first (n : Nat) : Lib.decDigits n = decP (n / 10) ++ [UInt8.ofNat (48 + n % 10)] := by
  have := decI_step true n (.inl rfl)
  unfold decI at this
  unfold decP
  simpa using this

set_option maxHeartbeats 2000000 in
theorem ref_Dec (m : Nat) (w : World) (hm : (m : Int) ≤ 9223372036854775807) : Calls Tryd.prog 49 #[.int .i64 (m : Nat)] w fun e w' => e = .returned (.string (S (Lib.decDigits m))) ∧ w' = w := by
  have hlen : (Lib.decDigits m).length ≤ 21 := by rw [← Lib.itoa_nonneg]; exact itoa_len _ ⟨by omega, by omega⟩
  have hf := dec_first m
  have hmd := nat_mod m
  have hdv := nat_div m
  have hr10 : m % 10 < 10 := Nat.mod_lt _ (by omega)
  have hcut := dig_cut16 hr10
  have hq : m / 10 ≤ m := Nat.div_le_self _ _
  have hneg : ((m : Int) == -9223372036854775808) = false := beq_eq_false_iff_ne.2 (by omega)
  have hlz : decide ((m : Int) < 0) = false := decide_eq_false (by omega)
  generalize hL : Lib.decDigits m = L at hf hlen ⊢
  generalize m % 10 = r0 at *
  generalize m / 10 = q0 at *
  have hw0 := IntWalk.i64_in ((r0 : Int) + 1) (by omega)
  have htn0 : ((r0 : Int) + 1).toNat = r0 + 1 := by omega
  have hr00 : (0 : Int) ≤ (r0 : Int) := by omega
  have hr01 : (r0 : Int) + 1 ≤ 16 := by omega
  have hr02 : (r0 : Int) ≤ (r0 : Int) + 1 := by omega
  generalize UInt8.ofNat (48 + r0) = dg0 at *
  have HF := Lib.hid hf
  have HLL := Lib.hid hlen
  clear hf hL hlen
  go_enter Tryd.func49, Tryd.ntmps49
  go_wp2_with fail
  go_loopg [0, 3] q0 (fun g s0 s3 wr => ∃ (n : Nat) (acc : List UInt8), s0 = .int .i64 n ∧ s3 = .string (S acc) ∧ g = n ∧ (n : Int) ≤ 9223372036854775807 ∧ wr = w ∧ Hid (L = decP n ++ acc))
  case atStart => exact ⟨q0, _, rfl, rfl, rfl, by omega, rfl, HF⟩
  case round =>
    obtain ⟨n, acc, rfl, rfl, hg, hn, rfl, HI⟩ := hrel
    clear hmd hdv hcut hw0 htn0 hr00 hr01 hr02 HF hneg hlz
    by_cases hgo : 0 < n
    · have hI := HI.out
      rw [decP_step n hgo, List.append_assoc, List.singleton_append] at hI
      have hl2 := congrArg List.length hI
      simp only [List.length_append, List.length_cons] at hl2
      have hll := HLL.out
      have hmd := nat_mod n
      have hdv := nat_div n
      have hr10 : n % 10 < 10 := Nat.mod_lt _ (by omega)
      have hcut := dig_cut16 hr10
      have hap : S [UInt8.ofNat (48 + n % 10)] ++ S acc = S (UInt8.ofNat (48 + n % 10) :: acc) := S_append _ _
      have hq2 : n / 10 < n := Nat.div_lt_self hgo (by omega)
      have hn1 : decide ((n : Int) > 0) = true := by simp; omega
      have HN := Lib.hid hI
      clear hI HI
      generalize n % 10 = r at *
      generalize n / 10 = q at *
      have hs1 := S_size acc
      have hs2 := S_size [UInt8.ofNat (48 + r)]
      generalize UInt8.ofNat (48 + r) = dg at *
      simp only [List.length_singleton] at hs2
      have hw := IntWalk.i64_in ((r : Int) + 1) (by omega)
      have htn : ((r : Int) + 1).toNat = r + 1 := by omega
      have hr0 : (0 : Int) ≤ (r : Int) := by omega
      have hr1 : (r : Int) + 1 ≤ 16 := by omega
      have hr2 : (r : Int) ≤ (r : Int) + 1 := by omega
      go_wp2_with fail
      go_roundg q
      case measure => omega
      case rel => exact ⟨q, dg :: acc, rfl, rfl, rfl, by omega, rfl, HN⟩
    · have hn0 : n = 0 := by omega
      have hI := HI.out
      subst hn0
      rw [show decP 0 = [] from rfl, List.nil_append] at hI
      have HN := Lib.hid hI
      clear HI hI hgo
      go_wp2_with fail
      go_ret
      exact ⟨by rw [HN.out]; rfl, rfl⟩
theorem ref_DecI (n : Int) (w : World) (h0 : 0 ≤ n) (h1 : n ≤ 9223372036854775807) : Calls Tryd.prog 49 #[.int .i64 n] w fun e w' => e = .returned (.string (S (Lib.itoa n))) ∧ Keep [] w w' := by
  have := ref_Dec n.toNat w (by omega)
  rw [← Lib.itoa_nonneg, show ((n.toNat : Nat) : Int) = n by omega] at this
  exact this.mono fun e w' ⟨h, h2⟩ => ⟨h, by rw [h2]; exact Keep.refl _ _⟩
end Go.Proofs.YtmfnciocnlmceaaDoor

/- Layer 13: Answer, Ask: the program's; the document's laid, Answer. No conditions but on lengths and the library's table. -/
namespace Go.Proofs.YtmfnciocnlmceaaDoor
open Go.RowKit Go.Shelf

theorem Sl.keep0 {α : Type} {enc : α → List Value} {n : Nat} {w w' : World} {v : Value} {L : List α} (h : Sl enc n w v L) (hn : ∀ x, (enc x).length = n) (h0 : 0 < n) (k : Keep [] w w') : Sl enc n w' v L := h.keep hn h0 h k (by simp) (Nat.le_refl _)
/-- 'HTTP/1.1 ' -/
def protSp : List UInt8 := [72, 84, 84, 80, 47, 49, 46, 49, 32]
theorem ans_no {s : Int} {L : List Fld} (h : statOk s = false) : ansE s L = 1 ∧ ansS s L = [] := by unfold ansE ansS; rw [h]; exact ⟨rfl, rfl⟩
theorem ans_yes {s : Int} {L : List Fld} (h : statOk s = true) : ansE s L = laidE (stOf s) L ∧ ansS s L = laidS (stOf s) L := by unfold ansE ansS; rw [h]; exact ⟨rfl, rfl⟩
theorem fin_ext {l : List UInt8} {e : Int} {x y : Value} (h1 : x = .string (S l)) (h2 : y = .int .i64 e) : Ending.returned (.tuple #[x, y]) = Ending.returned (fin l e) := by subst h1 h2; rfl

set_option maxRecDepth 100000 in
set_option maxHeartbeats 1000000 in
theorem outlet_Answer (s : Int) (va : Value) (L : List Fld) (w : World) (hs : in64 s) (hp : P10 w) (ha : Sl Fld.cells 2 w va L) (hg : L.length ≤ 32 → ∀ x ∈ L, x.name.length + x.value.length ≤ 1048576) :
    Calls Tryd.prog 14 #[.int .i64 s, va] w fun e w' => e = .returned (fin (ansS s L) (ansE s L)) ∧ Keep [] w w' := by
  by_cases h1 : s < 100
  · have HX := Lib.hid (ans_no (s := s) (L := L) (by unfold statOk; simp; omega))
    clear ha hg hp
    go_enter Tryd.func14, Tryd.ntmps14
    go_wp2_with fail
    go_ret2
    exact ⟨by rw [HX.out.1, HX.out.2]; rfl, Keep.refl _ _⟩
  · by_cases h2 : 599 < s
    · have HX := Lib.hid (ans_no (s := s) (L := L) (by unfold statOk; simp; omega))
      have h2' : decide (s > 599) = true := by simp; omega
      clear ha hg hp h2
      go_enter Tryd.func14, Tryd.ntmps14
      go_wp2_with fail
      go_ret2
      exact ⟨by rw [HX.out.1, HX.out.2]; rfl, Keep.refl _ _⟩
    · have HX := Lib.hid (ans_yes (s := s) (L := L) (by unfold statOk; simp; omega))
      have h2' : decide (s > 599) = false := by simp; omega
      have h1' : decide (s < 100) = false := by simp; omega
      have hst : stOf s = protSp ++ Lib.itoa s ++ [32] ++ reasonM s := rfl
      have hlen := stOf_len s hs
      have HD := Lib.hid (hexa_Dec s w hs hp)
      have HR := Lib.hid (fun w' => outlet_Reason s w')
      have li := itoa_len s hs
      have lr := reason_len s
      generalize stOf s = st at *
      generalize Lib.itoa s = ia at *
      generalize reasonM s = re at *
      have q1 : (⟨#[72, 84, 84, 80, 47, 49, 46, 49, 32]⟩ : ByteArray) ++ S ia = S (protSp ++ ia) := S_append protSp ia
      have q2 : S (protSp ++ ia) ++ (⟨#[32]⟩ : ByteArray) = S (protSp ++ ia ++ [32]) := S_append _ [32]
      have q3 : S (protSp ++ ia ++ [32]) ++ S re = S st := by rw [S_append, hst]
      have t1 : (protSp ++ ia).length = 9 + ia.length := by simp [protSp]; omega
      have t2 : (protSp ++ ia ++ [32]).length = 10 + ia.length := by simp [protSp]; omega
      generalize protSp ++ ia ++ [32] = x2 at *
      generalize protSp ++ ia = x1 at *
      have s1 := S_size ia
      have s2 := S_size re
      have s3 := S_size x1
      have s4 := S_size x2
      have HL := Lib.hid (fun w' (k : Keep [] w w') => outlet_laid st va L w' (ha.keep0 Fld.cells_length (by omega) k) hg (by omega))
      clear ha hg hp h1 h2 hst
      go_enter Tryd.func14, Tryd.ntmps14
      go_wp2_with fail
      refine HD.out.mono ?_
      rintro e w1 ⟨rfl, k1⟩
      go_wp2_with fail
      refine (HR.out _).mono ?_
      rintro e w2 ⟨rfl, rfl⟩
      go_wp2_with fail
      refine (HL.out _ k1).mono ?_
      rintro e w3 ⟨rfl, k3⟩
      unfold fin
      go_wp2_with fail
      go_ret2
      exact ⟨by rw [HX.out.1, HX.out.2]; rfl, k1.trans k3⟩

theorem ask_no {m t : List UInt8} {L : List Fld} (h : askOk m t = false) : askE m t L = 1 ∧ askS m t L = [] := by unfold askE askS; rw [h]; exact ⟨rfl, rfl⟩
theorem ask_yes {m t : List UInt8} {L : List Fld} (h : askOk m t = true) : askE m t L = laidE (askT m t) L ∧ askS m t L = laidS (askT m t) L := by unfold askE askS; rw [h]; exact ⟨rfl, rfl⟩

set_option maxRecDepth 100000 in
set_option maxHeartbeats 1000000 in
theorem outlet_Ask (m t : List UInt8) (va : Value) (L : List Fld) (w : World) (hm : ML w) (hl : m.length + t.length ≤ 1048000) (ha : Sl Fld.cells 2 w va L) (hg : L.length ≤ 32 → ∀ x ∈ L, x.name.length + x.value.length ≤ 1048576) :
    Calls Tryd.prog 16 #[.string (S m), .string (S t), va] w fun e w' => e = .returned (fin (askS m t L) (askE m t L)) ∧ Keep [] w w' := by
  have hst : askT m t = m ++ [32] ++ t ++ [32] ++ protB := rfl
  have hok : askOk m t = (decide ((lnM (askT m t)).s = 200) && decide ((askT m t).length ≤ 1024)) := rfl
  have hno := ask_no (m := m) (t := t) (L := L)
  have hyes := ask_yes (m := m) (t := t) (L := L)
  have hlen : (askT m t).length = m.length + t.length + 10 := by rw [hst]; simp [protB]; omega
  have HLi := Lib.hid (inlet_Line (askT m t) w hm (by omega))
  have HL := Lib.hid (fun w' (k : Keep [] w w') => outlet_laid (askT m t) va L w' (ha.keep0 Fld.cells_length (by omega) k) hg (by omega))
  generalize askE m t L = ae at *
  generalize askS m t L = av at *
  generalize askOk m t = ok at *
  generalize askT m t = st at *
  have q1 : S m ++ (⟨#[32]⟩ : ByteArray) = S (m ++ [32]) := S_append _ [32]
  have q2 : S (m ++ [32]) ++ S t = S (m ++ [32] ++ t) := S_append _ _
  have q3 : S (m ++ [32] ++ t) ++ (⟨#[32]⟩ : ByteArray) = S (m ++ [32] ++ t ++ [32]) := S_append _ [32]
  have q4 : S (m ++ [32] ++ t ++ [32]) ++ (⟨#[72, 84, 84, 80, 47, 49, 46, 49]⟩ : ByteArray) = S st := by rw [hst]; exact S_append _ protB
  have t1 : (m ++ [32]).length = m.length + 1 := by simp
  have t2 : (m ++ [32] ++ t).length = m.length + t.length + 1 := by simp; omega
  have t3 : (m ++ [32] ++ t ++ [32]).length = m.length + t.length + 2 := by simp; omega
  generalize m ++ [32] ++ t ++ [32] = x3 at *
  generalize m ++ [32] ++ t = x2 at *
  generalize m ++ [32] = x1 at *
  have s0 := S_size m
  have s1 := S_size t
  have s2 := S_size x1
  have s3 := S_size x2
  have s4 := S_size x3
  have s5 := S_size st
  generalize lnM st = R at *
  obtain ⟨rm, rt, rv, rs⟩ := R
  dsimp only at hok
  unfold Ln.out at HLi
  dsimp only at HLi
  clear ha hg hst
  by_cases h2 : rs = 200
  · have h2' := (int_eq h2).2
    by_cases h3 : st.length ≤ 1024
    · have h3' : decide (((st.length : Nat) : Int) > 1024) = false := by simp; omega
      have HX := Lib.hid (hyes (by rw [hok]; simp [h2, h3]))
      clear hok hno hyes h2 h3 hlen
      go_enter Tryd.func16, Tryd.ntmps16
      go_wp2_with fail
      refine HLi.out.mono ?_
      rintro e w1 ⟨rfl, k1⟩
      go_wp2_with fail
      refine (HL.out _ k1).mono ?_
      rintro e w3 ⟨rfl, k3⟩
      unfold fin
      go_wp2_with fail
      go_ret2
      exact ⟨by rw [HX.out.1, HX.out.2]; rfl, k1.trans k3⟩
    · have h3' : decide (((st.length : Nat) : Int) > 1024) = true := by simp; omega
      have HX := Lib.hid (hno (by rw [hok]; simp [h3]))
      clear hok hno hyes h2 h3 hlen
      go_enter Tryd.func16, Tryd.ntmps16
      go_wp2_with fail
      refine HLi.out.mono ?_
      rintro e w1 ⟨rfl, k1⟩
      go_wp2_with fail
      go_ret2
      exact ⟨by rw [HX.out.1, HX.out.2]; rfl, k1⟩
  · have h2' := (int_ne h2).2
    have HX := Lib.hid (hno (by rw [hok]; simp [h2]))
    clear hok hno hyes h2 hlen
    go_enter Tryd.func16, Tryd.ntmps16
    go_wp2_with fail
    refine HLi.out.mono ?_
    rintro e w1 ⟨rfl, k1⟩
    go_wp2_with fail
    go_ret2
    exact ⟨by rw [HX.out.1, HX.out.2]; rfl, k1⟩
end Go.Proofs.YtmfnciocnlmceaaDoor

/- Layer 13: the document's laid, Answer. No conditions but on lengths. -/
namespace Go.Proofs.YtmfnciocnlmceaaDoor
open Go.RowKit Go.Shelf

set_option maxRecDepth 100000 in
set_option maxHeartbeats 2000000 in
theorem ref_laid (st : List UInt8) (va : Value) (L : List Fld) (w : World) (ha : Sl Fld.cells 2 w va L) (hg : L.length ≤ 32 → ∀ x ∈ L, x.name.length + x.value.length ≤ 1048576) (hst : st.length ≤ 1048576) :
    Calls Tryd.prog 48 #[.string (S st), va] w fun e w' => e = .returned (fin (laidS st L) (laidE st L)) ∧ Keep [] w w' := by
  obtain ⟨aa, ca, rfl, hal⟩ := ha.shape
  have hal' : L.length ≤ 9223372036854775807 := hal
  by_cases h32 : 32 < L.length
  · have h := laid_many (st := st) h32
    have HX := Lib.hid h
    clear h ha hg
    go_enter Tryd.func48, Tryd.ntmps48
    go_wp2_with fail
    go_ret2
    exact ⟨by rw [HX.out.1, HX.out.2]; rfl, Keep.refl _ _⟩
  · have hst2 : S st ++ ⟨#[13, 10]⟩ = S (st ++ [13, 10]) := S_append st [13, 10]
    have hsz := S_size st
    have HG := Lib.hid (hg (by omega))
    have HA := Lib.hid ha
    clear ha hg hal
    go_enter Tryd.func48, Tryd.ntmps48
    go_wp2_with fail
    clear hst2
    go_loopg [6, 7] L.length (fun g si i wr => ∃ (k : Nat) (T : List UInt8), si = .string (S T) ∧ i = .int .i64 k ∧ k ≤ L.length ∧ g = L.length - k ∧ T.length ≤ 1048578 + k * 1048580 ∧ Hid (T = st ++ [13, 10] ++ bodyT (L.take k) ∧ (L.take k).all goodF = true) ∧ Hid (Keep [] w wr))
    case atStart => exact ⟨0, st ++ [13, 10], rfl, rfl, Nat.zero_le _, by omega, by simp; omega, Lib.hid ⟨by simp [bodyT], by simp⟩, Lib.hid (Keep.refl _ _)⟩
    case round =>
      obtain ⟨k, T, rfl, rfl, hk, hgk, hT, HE, HK⟩ := hrel
      have sT := S_size T
      by_cases hlt : k < L.length
      · obtain ⟨x, hx⟩ : ∃ x, L[k]? = some x := ⟨_, List.getElem?_eq_getElem hlt⟩
        have hxl := HG.out x (List.mem_of_getElem? hx)
        have har := HA.out.keep0 Fld.cells_length (by omega) HK.out
        obtain ⟨ba, oa, ca', hva, _, hca, hcell⟩ := har.cell hx
        cases hva
        have hc0 := hcell 0 (by omega)
        have hc1 := hcell 1 (by omega)
        simp only [Fld.cells, List.getElem?_cons_zero, List.getElem?_cons_succ, Nat.add_zero] at hc0 hc1
        have hca' : ca ≤ 9223372036854775807 := hca
        have hh0 : (0 : Int) ≤ (k : Int) := by omega
        have hh1 : (k : Int) < (L.length : Int) := by omega
        have hkw := IntWalk.i64_in ((k : Int) + 1) (by omega)
        have HT := Lib.hid (fun w1 => ref_IsToken x.name w1 (show x.name.length ≤ 9223372036854775807 by omega))
        have HTx := Lib.hid (fun w1 => ref_Text x.value w1 (show x.value.length ≤ 9223372036854775807 by omega))
        have HTr := Lib.hid (fun w1 => ref_Trim x.value w1 (show x.value.length ≤ 9223372036854775807 by omega))
        have HX := Lib.hid hx
        have hkA := (Keep.refl [] wr).alloc (.cells #[.string (S x.name), .string (S x.value)] 26)
        have hbA : Blk (wr.alloc (.cells #[.string (S x.name), .string (S x.value)] 26)) wr.heap.size 26 x.cells := Blk.newA wr _ _
        have hGd : goodF x = (isTok x.name && isTxt x.value && (trimW x.value == x.value)) := rfl
        have sn := S_size x.name
        have sv := S_size x.value
        have c1 := S_append T x.name
        have c2 : S (T ++ x.name) ++ (⟨#[58, 32]⟩ : ByteArray) = S (T ++ x.name ++ [58, 32]) := S_append _ [58, 32]
        have c3 := S_append (T ++ x.name ++ [58, 32]) x.value
        have c4 : S (T ++ x.name ++ [58, 32] ++ x.value) ++ (⟨#[13, 10]⟩ : ByteArray) = S (T ++ x.name ++ [58, 32] ++ x.value ++ [13, 10]) := S_append _ [13, 10]
        have l1 : (T ++ x.name).length = T.length + x.name.length := by simp
        have l2 : (T ++ x.name ++ [58, 32]).length = T.length + x.name.length + 2 := by simp; omega
        have l3 : (T ++ x.name ++ [58, 32] ++ x.value).length = T.length + x.name.length + x.value.length + 2 := by simp; omega
        have l4 : (T ++ x.name ++ [58, 32] ++ x.value ++ [13, 10]).length = T.length + x.name.length + x.value.length + 4 := by simp; omega
        have e4 : T ++ x.name ++ [58, 32] ++ x.value ++ [13, 10] = T ++ (printF x ++ [13, 10]) := by simp [printF]
        have HCat := Lib.hid (And.intro c1 (And.intro c2 (And.intro c3 c4)))
        have HLen := Lib.hid (And.intro l1 (And.intro l2 (And.intro l3 l4)))
        have HE4 := Lib.hid e4
        clear c1 c2 c3 c4 l1 l2 l3 l4 e4 hx hcell har hca
        go_upto_region 8 with fail
        generalize hwA : wr.alloc (.cells #[.string (S x.name), .string (S x.value)] 26) = wA at *
        try rw [hwA]
        generalize hnb : wr.heap.size = nb at *
        clear hwA hnb
        have hA0 : ∀ n, (ext wA n).cell? ⟨nb, 0, none⟩ = some (.string (S x.name)) := fun n => ((ext_keep _ n).blk hbA (by simp)).get rfl
        have hA1 : ∀ n, (ext wA n).cell? ⟨nb, 1, none⟩ = some (.string (S x.value)) := fun n => ((ext_keep _ n).blk hbA (by simp)).get rfl
        have HBA := Lib.hid hbA
        have HKA := Lib.hid (HK.out.trans hkA)
        clear hbA hkA hc0 hc1
        go_cut [41] (fun v wx => v = .bool (!goodF x) ∧ Hid (Keep [] wA wx))
        case first =>
          cases htk : isTok x.name with
          | false =>
            rw [htk] at HT hGd
            have HGd := Lib.hid hGd
            clear hGd htk
            refine wp_region_ext_lit (by kernel_rfl) (by kernel_rfl) ?_
            repeat (go_big_quiet_step ((go_at_call 66; exact Calls.quiet_ext_same (HT.out _))))
            refine wpQuiet_nil ?_
            intro _ hw'
            obtain ⟨nq, hw''⟩ := hw'
            subst hw''
            go_wp2_with fail
            go_meet
            exact ⟨by rw [HGd.out]; rfl, Lib.hid (ext_keep _ nq)⟩
          | true =>
            rw [htk] at HT hGd
            cases htx : isTxt x.value with
            | false =>
              rw [htx] at HTx hGd
              have HGd := Lib.hid hGd
              clear hGd htk htx
              refine wp_region_ext_lit (by kernel_rfl) (by kernel_rfl) ?_
              repeat (go_big_quiet_step (first | (go_at_call 66; exact Calls.quiet_ext_same (HT.out _)) | (go_at_call 76; exact Calls.quiet_ext_same (HTx.out _))))
              refine wpQuiet_nil ?_
              intro _ hw'
              obtain ⟨nq, hw''⟩ := hw'
              subst hw''
              go_wp2_with fail
              go_meet
              exact ⟨by rw [HGd.out]; rfl, Lib.hid (ext_keep _ nq)⟩
            | true =>
              rw [htx] at HTx hGd
              have t1 := S_toList (trimW x.value)
              have t2 := S_toList x.value
              have HGd := Lib.hid hGd
              clear hGd htk htx
              refine wp_region_ext_lit (by kernel_rfl) (by kernel_rfl) ?_
              repeat (go_big_quiet_step (first | (go_at_call 66; exact Calls.quiet_ext_same (HT.out _)) | (go_at_call 76; exact Calls.quiet_ext_same (HTx.out _)) | (go_at_call 77; exact Calls.quiet_ext_same (HTr.out _))))
              refine wpQuiet_nil ?_
              intro _ hw'
              obtain ⟨nq, hw''⟩ := hw'
              subst hw''
              go_wp2_with fail
              go_meet
              exact ⟨by rw [HGd.out]; rfl, Lib.hid (ext_keep _ nq)⟩
        case rest =>
          obtain ⟨rfl, HKx⟩ := hcut
          have hb2 := HKx.out.blk HBA.out (by simp)
          have d0 := hb2.get (k := 0) rfl
          have d1 := hb2.get (k := 1) rfl
          have HK2 := Lib.hid (HKA.out.trans HKx.out)
          clear hb2 hGd HT HTx HTr hA0 hA1 HBA HKA HKx
          cases hgx : goodF x with
          | false =>
            have HF := Lib.hid (laid_bad (st := st) (List.mem_of_getElem? HX.out) hgx)
            clear hgx
            go_wp2_with fail
            go_ret2
            exact ⟨by rw [HF.out.1, HF.out.2]; rfl, HK2.out⟩
          | true =>
            have HGX := Lib.hid hgx
            clear hgx
            obtain ⟨c1, c2, c3, c4⟩ := HCat.out
            obtain ⟨l1, l2, l3, l4⟩ := HLen.out
            have e4 := HE4.out
            generalize T ++ x.name ++ [58, 32] ++ x.value ++ [13, 10] = x4 at *
            generalize T ++ x.name ++ [58, 32] ++ x.value = x3 at *
            generalize T ++ x.name ++ [58, 32] = x2 at *
            generalize T ++ x.name = x1 at *
            have s1 := S_size x1
            have s2 := S_size x2
            have s3 := S_size x3
            have HE4 := Lib.hid e4
            clear e4 HCat HLen
            go_wp2_with fail
            go_roundg (L.length - (k + 1))
            case measure => omega
            case rel =>
              refine ⟨k + 1, x4, rfl, by go_num, by omega, rfl, by omega, Lib.hid ⟨?_, ?_⟩, HK2⟩
              · rw [HE4.out, body_take HX.out, HE.out.1]; simp
              · rw [show L.take (k + 1) = L.take k ++ [x] from by rw [List.take_add_one, HX.out]; rfl, List.all_append, HE.out.2]; simp [HGX.out]
      · have hkl : k = L.length := by omega
        have hE := HE.out
        rw [hkl, List.take_length] at hE
        have hhd : T ++ [13, 10] = headT st L := by unfold headT; rw [hE.1]
        have hlay := laid_good (st := st) (show L.length ≤ 32 by omega) hE.2
        rw [← hhd] at hlay
        have HL := Lib.hid hlay
        have hT' : (T ++ [13, 10]).length ≤ 70000000 := by simp; omega
        have hca : S T ++ (⟨#[13, 10]⟩ : ByteArray) = S (T ++ [13, 10]) := S_append T [13, 10]
        have hge : ¬ (k : Int) < (L.length : Int) := by omega
        clear hE hhd hlay HE
        generalize T ++ [13, 10] = H at HL hT' hca
        have sH := S_size H
        by_cases h4 : H.length ≤ 4096
        · have h4' : decide (4096 < ((H.length : Nat) : Int)) = false := by simp; omega
          have hl := HL.out
          rw [if_pos h4, if_pos h4] at hl
          have HL := Lib.hid hl
          clear hl h4 hkl
          go_wp2_with fail
          go_ret2
          exact ⟨by rw [HL.out.1, HL.out.2]; rfl, HK.out⟩
        · have h4' : decide (4096 < ((H.length : Nat) : Int)) = true := by simp; omega
          have hl := HL.out
          rw [if_neg h4, if_neg h4] at hl
          have HL := Lib.hid hl
          clear hl h4 hkl
          go_wp2_with fail
          go_ret2
          exact ⟨by rw [HL.out.1, HL.out.2]; rfl, HK.out⟩
end Go.Proofs.YtmfnciocnlmceaaDoor

/- Layer 12, the document's Line; layer 13, the document's Answer, Ask. No conditions but on lengths. -/
namespace Go.Proofs.YtmfnciocnlmceaaDoor
open Go.RowKit Go.Shelf

set_option maxRecDepth 100000 in
set_option maxHeartbeats 1000000 in
theorem ref13_Answer (s : Int) (va : Value) (L : List Fld) (w : World) (hs : in64 s) (ha : Sl Fld.cells 2 w va L) (hg : L.length ≤ 32 → ∀ x ∈ L, x.name.length + x.value.length ≤ 1048576) :
    Calls Tryd.prog 15 #[.int .i64 s, va] w fun e w' => e = .returned (fin (ansS s L) (ansE s L)) ∧ Keep [] w w' := by
  by_cases h1 : s < 100
  · have HX := Lib.hid (ans_no (s := s) (L := L) (by unfold statOk; simp; omega))
    clear ha hg
    go_enter Tryd.func15, Tryd.ntmps15
    go_wp2_with fail
    go_ret2
    exact ⟨by rw [HX.out.1, HX.out.2]; rfl, Keep.refl _ _⟩
  · by_cases h2 : 599 < s
    · have HX := Lib.hid (ans_no (s := s) (L := L) (by unfold statOk; simp; omega))
      have h2' : decide (s > 599) = true := by simp; omega
      clear ha hg h2
      go_enter Tryd.func15, Tryd.ntmps15
      go_wp2_with fail
      go_ret2
      exact ⟨by rw [HX.out.1, HX.out.2]; rfl, Keep.refl _ _⟩
    · have HX := Lib.hid (ans_yes (s := s) (L := L) (by unfold statOk; simp; omega))
      have h2' : decide (s > 599) = false := by simp; omega
      have h1' : decide (s < 100) = false := by simp; omega
      have hst : stOf s = protSp ++ Lib.itoa s ++ [32] ++ reasonM s := rfl
      have hlen := stOf_len s hs
      have HD := Lib.hid (ref_DecI s w (by omega) (by omega))
      have HR := Lib.hid (fun w' => ref_Reason s w')
      have li := itoa_len s hs
      have lr := reason_len s
      generalize stOf s = st at *
      generalize Lib.itoa s = ia at *
      generalize reasonM s = re at *
      have q1 : (⟨#[72, 84, 84, 80, 47, 49, 46, 49, 32]⟩ : ByteArray) ++ S ia = S (protSp ++ ia) := S_append protSp ia
      have q2 : S (protSp ++ ia) ++ (⟨#[32]⟩ : ByteArray) = S (protSp ++ ia ++ [32]) := S_append _ [32]
      have q3 : S (protSp ++ ia ++ [32]) ++ S re = S st := by rw [S_append, hst]
      have t1 : (protSp ++ ia).length = 9 + ia.length := by simp [protSp]; omega
      have t2 : (protSp ++ ia ++ [32]).length = 10 + ia.length := by simp [protSp]; omega
      generalize protSp ++ ia ++ [32] = x2 at *
      generalize protSp ++ ia = x1 at *
      have s1 := S_size ia
      have s2 := S_size re
      have s3 := S_size x1
      have s4 := S_size x2
      have HL := Lib.hid (fun w' (k : Keep [] w w') => ref_laid st va L w' (ha.keep0 Fld.cells_length (by omega) k) hg (by omega))
      clear ha hg h1 h2 hst
      go_enter Tryd.func15, Tryd.ntmps15
      go_wp2_with fail
      refine HD.out.mono ?_
      rintro e w1 ⟨rfl, k1⟩
      go_wp2_with fail
      refine (HR.out _).mono ?_
      rintro e w2 ⟨rfl, rfl⟩
      go_wp2_with fail
      refine (HL.out _ k1).mono ?_
      rintro e w3 ⟨rfl, k3⟩
      unfold fin
      go_wp2_with fail
      go_ret2
      exact ⟨by rw [HX.out.1, HX.out.2]; rfl, k1.trans k3⟩

theorem cut_at {l : List UInt8} {c : UInt8} {k : Nat} (h : Lib.indexByte l c = (k : Nat)) : Lib.cut l [c] = (l.take k, l.drop (k + 1), true) := by
  unfold Lib.cut
  rw [Lib.index_one, h, if_pos (by omega)]
  simp
theorem cut_none {l : List UInt8} {c : UInt8} (h : Lib.indexByte l c = -1) : (Lib.cut l [c]).2.2 = false := by
  unfold Lib.cut
  rw [Lib.index_one, h, if_neg (by decide)]
def lnBad : Ln := ⟨[], [], 0, 400⟩
theorem ln_k {l : List UInt8} (h : Lib.indexByte l 32 = -1) : lnM l = lnBad := ln_no (by rw [cut_none h]; rfl)
theorem ln_tok {l : List UInt8} {k : Nat} (h : Lib.indexByte l 32 = (k : Nat)) (ht : isTok (l.take k) = false) : lnM l = lnBad := ln_no (by rw [cut_at h]; simp [ht])
theorem ln_n {l : List UInt8} {k : Nat} (h : Lib.indexByte l 32 = (k : Nat)) (hn : Lib.indexByte (l.drop (k + 1)) 32 = -1) : lnM l = lnBad := ln_no (by rw [cut_at h]; simp [cut_none hn])
theorem ln_tgt {l : List UInt8} {k n : Nat} (h : Lib.indexByte l 32 = (k : Nat)) (hn : Lib.indexByte (l.drop (k + 1)) 32 = (n : Nat)) (ht : isTgt ((l.drop (k + 1)).take n) = false) : lnM l = lnBad := ln_no (by rw [cut_at h]; simp only; rw [cut_at hn]; simp [ht])
theorem ln_min {l : List UInt8} {k n : Nat} (h : Lib.indexByte l 32 = (k : Nat)) (hn : Lib.indexByte (l.drop (k + 1)) 32 = (n : Nat)) (hm : minS ((l.drop (k + 1)).drop (n + 1)) = 400) : lnM l = lnBad := by
  by_cases hb : (isTok (l.take k) && isTgt ((l.drop (k + 1)).take n)) = true
  · rw [ln_yes (by rw [cut_at h]; simp only; rw [cut_at hn]; simpa using hb)]
    rw [cut_at h]
    simp only
    rw [cut_at hn]
    simp only [hm]
    rfl
  · exact ln_no (by rw [cut_at h]; simp only; rw [cut_at hn]; simpa using hb)
theorem ln_all {l : List UInt8} {k n : Nat} (h : Lib.indexByte l 32 = (k : Nat)) (hn : Lib.indexByte (l.drop (k + 1)) 32 = (n : Nat)) (ht : isTok (l.take k) = true) (hg : isTgt ((l.drop (k + 1)).take n) = true) :
    lnM l = if minS ((l.drop (k + 1)).drop (n + 1)) = 200 then ⟨l.take k, (l.drop (k + 1)).take n, minV ((l.drop (k + 1)).drop (n + 1)), 200⟩ else ⟨[], [], 0, minS ((l.drop (k + 1)).drop (n + 1))⟩ := by
  rw [ln_yes (by rw [cut_at h]; simp only; rw [cut_at hn]; simp [ht, hg])]
  rw [cut_at h]
  simp only
  rw [cut_at hn]
theorem min_http {l : List UInt8} (h : l.take 5 ≠ httpB) : minS l = 400 := (ver_no (.inl (by rw [take5_prefix]; simp [h]))).1
theorem min_len {l : List UInt8} (h : l.length ≠ 8) : minS l = 400 := (ver_no (.inr h)).1

set_option maxRecDepth 100000 in
set_option maxHeartbeats 2000000 in
theorem ref12_Line (l : List UInt8) (w : World) (hl : l.length ≤ 1048576) :
    Calls Tryd.prog 35 #[.string (S l)] w fun e w' => e = .returned (lnM l).out ∧ Keep [] w w' := by
  have hsz := S_size l
  have hF := Lib.hid (fun w1 => ref_Find l 32 w1 (show l.length ≤ 9223372036854775807 by omega))
  have hge := Lib.indexByte_ge l 32
  by_cases hk : Lib.indexByte l 32 = -1
  · have HX := Lib.hid (ln_k hk)
    rw [hk] at hF
    clear hk hge
    go_enter Tryd.func35, Tryd.ntmps35
    go_wp2_with fail
    refine (hF.out _).mono ?_
    rintro e w1 ⟨rfl, rfl⟩
    go_wp2_with fail
    refine bodyPost_ret (res4 rfl _ _ _) rfl ⟨?_, Keep.refl _ _⟩
    rw [HX.out]
    rfl
  · obtain ⟨k, hk'⟩ : ∃ k : Nat, Lib.indexByte l 32 = k := ⟨(Lib.indexByte l 32).toNat, by omega⟩
    rw [hk'] at hF
    have hkl : k < l.length := (List.getElem?_eq_some_iff.1 (Lib.indexByte_some hk').1).1
    have hx1 : (S l).extract 0 k = S (l.take k) := by rw [S_extract]; simp
    have hx2 : (S l).extract (k + 1) l.length = S (l.drop (k + 1)) := by rw [S_extract, List.take_of_length_le (Nat.le_refl _)]
    have hT := Lib.hid (fun w1 => ref_IsToken (l.take k) w1 (by show _ ≤ 9223372036854775807; simp; omega))
    cases htk : isTok (l.take k) with
    | false =>
      rw [htk] at hT
      have HX := Lib.hid (ln_tok hk' htk)
      clear hk hk' hge htk
      go_enter Tryd.func35, Tryd.ntmps35
      go_wp2_with fail
      refine (hF.out _).mono ?_
      rintro e w1 ⟨rfl, rfl⟩
      go_wp2_with fail
      refine (hT.out _).mono ?_
      rintro e w1 ⟨rfl, rfl⟩
      go_wp2_with fail
      refine bodyPost_ret (res4 rfl _ _ _) rfl ⟨?_, Keep.refl _ _⟩
      rw [HX.out]
      rfl
    | true =>
      rw [htk] at hT
      have hF2 := Lib.hid (fun w1 => ref_Find (l.drop (k + 1)) 32 w1 (by show _ ≤ 9223372036854775807; simp; omega))
      have hge2 := Lib.indexByte_ge (l.drop (k + 1)) 32
      have hrl : (l.drop (k + 1)).length ≤ 1048576 := by simp; omega
      by_cases hn : Lib.indexByte (l.drop (k + 1)) 32 = -1
      · have HX := Lib.hid (ln_n hk' hn)
        rw [hn] at hF2
        have hsr := S_size (l.drop (k + 1))
        generalize l.drop (k + 1) = r at *
        clear hk hk' hge hge2 htk hn
        go_enter Tryd.func35, Tryd.ntmps35
        go_wp2_with fail
        refine (hF.out _).mono ?_
        rintro e w1 ⟨rfl, rfl⟩
        go_wp2_with fail
        refine (hT.out _).mono ?_
        rintro e w1 ⟨rfl, rfl⟩
        go_wp2_with fail
        refine (hF2.out _).mono ?_
        rintro e w1 ⟨rfl, rfl⟩
        go_wp2_with fail
        refine bodyPost_ret (res4 rfl _ _ _) rfl ⟨?_, Keep.refl _ _⟩
        rw [HX.out]
        rfl
      · obtain ⟨n, hn'⟩ : ∃ n : Nat, Lib.indexByte (l.drop (k + 1)) 32 = n := ⟨(Lib.indexByte (l.drop (k + 1)) 32).toNat, by omega⟩
        rw [hn'] at hF2
        have hnl : n < (l.drop (k + 1)).length := (List.getElem?_eq_some_iff.1 (Lib.indexByte_some hn').1).1
        by_cases hn0 : n = 0
        · have HX := Lib.hid (ln_tgt hk' hn' (by subst hn0; simp [isTgt]))
          have hn1 : decide ((n : Int) < 1) = true := by simp; omega
          have hsr := S_size (l.drop (k + 1))
          generalize l.drop (k + 1) = r at *
          clear hk hk' hge hge2 htk hn hn' hn0
          go_enter Tryd.func35, Tryd.ntmps35
          go_wp2_with fail
          refine (hF.out _).mono ?_
          rintro e w1 ⟨rfl, rfl⟩
          go_wp2_with fail
          refine (hT.out _).mono ?_
          rintro e w1 ⟨rfl, rfl⟩
          go_wp2_with fail
          refine (hF2.out _).mono ?_
          rintro e w1 ⟨rfl, rfl⟩
          go_wp2_with fail
          refine bodyPost_ret (res4 rfl _ _ _) rfl ⟨?_, Keep.refl _ _⟩
          rw [HX.out]
          rfl
        · have hn1 : decide ((n : Int) < 1) = false := by simp; omega
          have hlm := @ln_min l k n hk' hn'
          have hlt := @ln_tgt l k n hk' hn'
          have hla := @ln_all l k n hk' hn' htk
          have hsr := S_size (l.drop (k + 1))
          generalize lnM l = R at *
          generalize l.take k = xm at *
          generalize l.drop (k + 1) = r at *
          clear hk hk' hge hge2 htk hn hn'
          have hw0 := IntWalk.i64_in ((k : Int) + 1) (by omega)
          have hw1 := IntWalk.i64_in ((r.length : Int) - (n : Int)) (by omega)
          by_cases h9 : r.length - n = 9
          · have h9' : (r.length : Int) - (n : Int) = 9 := by omega
            have h9q := (int_eq h9').2
            have hx5 : (S r).extract (n + 1) (n + 6) = S ((r.drop (n + 1)).take 5) := by
              rw [S_extract, List.drop_take]
              congr 2
              omega
            by_cases h5 : (r.drop (n + 1)).take 5 = httpB
            · obtain ⟨a, p, c, hapc⟩ : ∃ a p c, r.drop (n + 1) = httpB ++ [a, p, c] := by
                have h8 : ((r.drop (n + 1)).drop 5).length = 3 := by simp; omega
                have e := List.take_append_drop 5 (r.drop (n + 1))
                rw [h5] at e
                generalize (r.drop (n + 1)).drop 5 = y at h8 e
                match y, h8 with
                | [a, p, c], _ => exact ⟨a, p, c, e.symm⟩
              have ga : r[n + 6]? = some a := by
                have : (r.drop (n + 1))[5]? = some a := by rw [hapc]; rfl
                rw [List.getElem?_drop] at this
                exact this
              have gp : r[n + 7]? = some p := by
                have : (r.drop (n + 1))[6]? = some p := by rw [hapc]; rfl
                rw [List.getElem?_drop] at this
                exact this
              have gc : r[n + 8]? = some c := by
                have : (r.drop (n + 1))[7]? = some c := by rw [hapc]; rfl
                rw [List.getElem?_drop] at this
                exact this
              obtain ⟨hms, hmv⟩ := ver_of a p c
              rw [← hapc] at hms hmv
              have q5 : ((r.drop (n + 1)).take 5 == [72, 84, 84, 80, 47]) = true := by rw [h5]; rfl
              generalize minS (r.drop (n + 1)) = ms at *
              generalize minV (r.drop (n + 1)) = mv at *
              generalize (r.drop (n + 1)).take 5 = x5 at *
              have hs5 := S_toList x5
              have ia := S_get ga
              have ip := S_get gp
              have ic := S_get gc
              have ca := u8_nat a
              have cp := u8_nat p
              have cc := u8_nat c
              have hw2 := IntWalk.i64_in ((n : Int) + 1) (by omega)
              have hw3 := IntWalk.i64_in ((n : Int) + 6) (by omega)
              have hw4 := IntWalk.i64_in ((n : Int) + 7) (by omega)
              have hw5 := IntWalk.i64_in ((n : Int) + 8) (by omega)
              have b1 : (n : Int) + 6 ≤ (r.length : Int) := by omega
              have b2 : (0 : Int) ≤ (n : Int) + 1 := by omega
              have b3 : (n : Int) + 1 ≤ (n : Int) + 6 := by omega
              have b0 : (0 : Int) ≤ (n : Int) + 6 := by omega
              have b4 : (n : Int) + 6 < (r.length : Int) := by omega
              have b5 : (n : Int) + 7 < (r.length : Int) := by omega
              have b6 : (n : Int) + 8 < (r.length : Int) := by omega
              have b7 : (0 : Int) ≤ (n : Int) + 7 := by omega
              have b8 : (0 : Int) ≤ (n : Int) + 8 := by omega
              clear hapc h9 h9' h5 ga gp gc
              by_cases hp : p = 46
              · have hpb : (p == 46) = true := by simp [hp]
                have hpn : ((p.toNat : Nat) : Int) = 46 := by rw [hp]; rfl
                have hpq := (int_eq hpn).2
                rw [hpb, Bool.and_true] at hms hmv
                have HMS := Lib.hid (And.intro hms hmv)
                have HLT := Lib.hid hlt
                have HLA := Lib.hid hla
                clear hp hpb hpn hms hmv hlm hlt hla
                go_enter Tryd.func35, Tryd.ntmps35
                go_wp2_with fail
                refine (hF.out _).mono ?_
                rintro e w1 ⟨rfl, rfl⟩
                go_wp2_with fail
                refine (hT.out _).mono ?_
                rintro e w1 ⟨rfl, rfl⟩
                go_wp2_with fail
                refine (hF2.out _).mono ?_
                rintro e w1 ⟨rfl, rfl⟩
                go_wp2_with fail
                clear hx5 hs5 q5 ip hpq cp
                go_loopg [9] n (fun g i wr => ∃ j : Nat, i = .int .i64 j ∧ j ≤ n ∧ g = n - j ∧ w = wr ∧ Hid ((r.take j).all tgtB = true))
                case atStart => exact ⟨0, rfl, Nat.zero_le _, by omega, rfl, by simp [Hid]⟩
                case round =>
                  obtain ⟨j, rfl, hj, hgj, rfl, hall⟩ := hrel
                  by_cases hlt : j < n
                  · obtain ⟨d, hd⟩ : ∃ d, r[j]? = some d := ⟨_, List.getElem?_eq_getElem (by omega)⟩
                    have id := S_get hd
                    have cd := u8_nat d
                    have j0 : (0 : Int) ≤ (j : Int) := by omega
                    have j1 : (j : Int) < (r.length : Int) := by omega
                    have HD := Lib.hid hd
                    clear hd
                    by_cases ht : tgtB d = true
                    · have h1 : 33 ≤ d.toNat ∧ d.toNat ≤ 126 := by simpa [tgtB] using ht
                      have h2 : ¬ d.toNat < 33 := by omega
                      have h3 : ¬ 126 < d.toNat := by omega
                      have HT := Lib.hid ht
                      have hkw := IntWalk.i64_in ((j : Int) + 1) (by omega)
                      clear ht h1
                      go_wp2_with fail
                      go_roundg (n - (j + 1))
                      case measure => omega
                      case rel => exact ⟨j + 1, by go_num, by omega, rfl, rfl, by rw [Hid, take_snoc HD.out, List.all_append, hall.out]; simp [HT.out]⟩
                    · have hbad : isTgt (r.take n) = false := by
                        unfold isTgt
                        rw [show (r.take n).all tgtB = false from by rw [List.all_eq_false]; exact ⟨d, List.mem_of_getElem? (i := j) (by rw [List.getElem?_take_of_lt hlt]; exact HD.out), ht⟩]
                        rfl
                      have HX := Lib.hid (HLT.out hbad)
                      by_cases h2 : d.toNat < 33
                      · clear ht hbad
                        go_wp2_with fail
                        refine bodyPost_ret (res4 rfl _ _ _) rfl ⟨?_, Keep.refl _ _⟩
                        rw [HX.out]
                        rfl
                      · have h3 : 126 < d.toNat := by
                          simp [tgtB] at ht
                          omega
                        clear ht hbad
                        go_wp2_with fail
                        refine bodyPost_ret (res4 rfl _ _ _) rfl ⟨?_, Keep.refl _ _⟩
                        rw [HX.out]
                        rfl
                  · have hjn : j = n := by omega
                    have hgt : isTgt (r.take n) = true := by
                      unfold isTgt
                      rw [← hjn, hall.out]
                      have : r.take j ≠ [] := by
                        intro e
                        have := congrArg List.length e
                        rw [List.length_take, List.length_nil] at this
                        omega
                      cases hq : r.take j with
                      | nil => exact absurd hq this
                      | cons _ _ => rfl
                    have hR := HLA.out hgt
                    have hge : ¬ (j : Int) < (n : Int) := by omega
                    clear hgt hjn hall hgj
                    have hx3 : (S r).extract 0 n = S (r.take n) := by rw [S_extract]; simp
                    generalize r.take n = xt at *
                    obtain ⟨hms, hmv⟩ := HMS.out
                    by_cases a1 : a.toNat < 48
                    · have hda : digB a = false := by simp [digB]; omega
                      rw [hda] at hms
                      have HX := Lib.hid (show R = lnBad by rw [hR, hms]; rfl)
                      clear hda
                      clear hR hms hmv
                      go_wp2_with fail
                      refine bodyPost_ret (res4 rfl _ _ _) rfl ⟨?_, Keep.refl _ _⟩
                      rw [HX.out]
                      rfl
                    · by_cases a2 : 57 < a.toNat
                      · have hda : digB a = false := by simp [digB]; omega
                        rw [hda] at hms
                        have HX := Lib.hid (show R = lnBad by rw [hR, hms]; rfl)
                        clear hda
                        clear hR hms hmv
                        go_wp2_with fail
                        refine bodyPost_ret (res4 rfl _ _ _) rfl ⟨?_, Keep.refl _ _⟩
                        rw [HX.out]
                        rfl
                      · have hda : digB a = true := by simp [digB]; omega
                        rw [hda] at hms hmv
                        by_cases c1 : c.toNat < 48
                        · have hdc : digB c = false := by simp [digB]; omega
                          rw [hdc] at hms
                          have HX := Lib.hid (show R = lnBad by rw [hR, hms]; rfl)
                          clear hda hdc
                          clear hR hms hmv
                          go_wp2_with fail
                          refine bodyPost_ret (res4 rfl _ _ _) rfl ⟨?_, Keep.refl _ _⟩
                          rw [HX.out]
                          rfl
                        · by_cases c2 : 57 < c.toNat
                          · have hdc : digB c = false := by simp [digB]; omega
                            rw [hdc] at hms
                            have HX := Lib.hid (show R = lnBad by rw [hR, hms]; rfl)
                            clear hda hdc
                            clear hR hms hmv
                            go_wp2_with fail
                            refine bodyPost_ret (res4 rfl _ _ _) rfl ⟨?_, Keep.refl _ _⟩
                            rw [HX.out]
                            rfl
                          · have hdc : digB c = true := by simp [digB]; omega
                            rw [hdc] at hms hmv
                            simp only [Bool.and_self, if_true] at hms hmv
                            by_cases ha : a = 49
                            · have han : ((a.toNat : Nat) : Int) = 49 := by rw [ha]; rfl
                              have haq := (int_eq han).2
                              by_cases hc : c.toNat ≤ 49
                              · rw [if_pos ⟨ha, hc⟩] at hms hmv
                                have hcq : decide (((c.toNat : Nat) : Int) > 49) = false := by simp; omega
                                have hwr := IntWalk.u8_in ((c.toNat : Int) - 48) (by omega)
                                have hwi := IntWalk.i64_in ((c.toNat : Int) - 48) (by omega)
                                have k0 : (0 : Int) ≤ (k : Int) := by omega
                                have k1 : (k : Int) ≤ (l.length : Int) := by omega
                                have n0 : (0 : Int) ≤ (n : Int) := by omega
                                have n1 : (n : Int) ≤ (r.length : Int) := by omega
                                have HX := Lib.hid (show R = ⟨xm, xt, (c.toNat : Int) - 48, 200⟩ by rw [hR, hms, if_pos rfl, hmv])
                                clear hda hdc ha han hR hms hmv
                                go_wp2_with fail
                                refine wp_region_quiet_lit (by kernel_rfl) (by kernel_rfl) ?_
                                repeat (go_big_quiet_step (fail))
                                refine wpQuiet_nil ?_
                                intro _ hw'
                                obtain ⟨nq, hw''⟩ := hw'
                                subst hw''
                                go_wp2_with fail
                                refine bodyPost_ret (res4 rfl _ _ _) rfl ⟨?_, (Keep.refl _ _).drewN _⟩
                                rw [HX.out]
                                rfl
                              · rw [if_neg (fun h => hc h.2)] at hms
                                have hcq : decide (((c.toNat : Nat) : Int) > 49) = true := by simp; omega
                                have HX := Lib.hid (show R = ⟨[], [], 0, 505⟩ by rw [hR, hms]; rfl)
                                clear hda hdc ha han
                                clear hR hms hmv
                                go_wp2_with fail
                                refine bodyPost_ret (res4 rfl _ _ _) rfl ⟨?_, Keep.refl _ _⟩
                                rw [HX.out]
                                rfl
                            · rw [if_neg (fun h => ha h.1)] at hms
                              have han : ((a.toNat : Nat) : Int) ≠ 49 := fun e => ha (UInt8.toNat_inj.1 (by show a.toNat = 49; omega))
                              have haq := (int_ne han).2
                              have HX := Lib.hid (show R = ⟨[], [], 0, 505⟩ by rw [hR, hms]; rfl)
                              clear hda hdc ha han
                              clear hR hms hmv
                              go_wp2_with fail
                              refine bodyPost_ret (res4 rfl _ _ _) rfl ⟨?_, Keep.refl _ _⟩
                              rw [HX.out]
                              rfl
              · have hpb : (p == 46) = false := by simp [hp]
                have hpn : ((p.toNat : Nat) : Int) ≠ 46 := fun e => hp (UInt8.toNat_inj.1 (by show p.toNat = 46; omega))
                have hpq := (int_ne hpn).2
                rw [hpb, Bool.and_false] at hms
                have HX := Lib.hid (hlm (hms.trans (by simp)))
                clear hlm hlt hla hp hpb hpn hms hmv
                go_enter Tryd.func35, Tryd.ntmps35
                go_wp2_with fail
                refine (hF.out _).mono ?_
                rintro e w1 ⟨rfl, rfl⟩
                go_wp2_with fail
                refine (hT.out _).mono ?_
                rintro e w1 ⟨rfl, rfl⟩
                go_wp2_with fail
                refine (hF2.out _).mono ?_
                rintro e w1 ⟨rfl, rfl⟩
                go_wp2_with fail
                refine bodyPost_ret (res4 rfl _ _ _) rfl ⟨?_, Keep.refl _ _⟩
                rw [HX.out]
                rfl
            · have HX := Lib.hid (hlm (min_http h5))
              have q5 : ((r.drop (n + 1)).take 5 == [72, 84, 84, 80, 47]) = false := by rw [beq_eq_false_iff_ne]; exact h5
              generalize (r.drop (n + 1)).take 5 = x5 at *
              have hs5 := S_toList x5
              have hw2 := IntWalk.i64_in ((n : Int) + 1) (by omega)
              have hw3 := IntWalk.i64_in ((n : Int) + 6) (by omega)
              have b1 : (n : Int) + 6 ≤ (r.length : Int) := by omega
              have b2 : (0 : Int) ≤ (n : Int) + 1 := by omega
              have b3 : (n : Int) + 1 ≤ (n : Int) + 6 := by omega
              have b0 : (0 : Int) ≤ (n : Int) + 6 := by omega
              clear hlm hlt hla h9 h9'
              go_enter Tryd.func35, Tryd.ntmps35
              go_wp2_with fail
              refine (hF.out _).mono ?_
              rintro e w1 ⟨rfl, rfl⟩
              go_wp2_with fail
              refine (hT.out _).mono ?_
              rintro e w1 ⟨rfl, rfl⟩
              go_wp2_with fail
              refine (hF2.out _).mono ?_
              rintro e w1 ⟨rfl, rfl⟩
              go_wp2_with fail
              refine bodyPost_ret (res4 rfl _ _ _) rfl ⟨?_, Keep.refl _ _⟩
              rw [HX.out]
              rfl
          · have h9' : (r.length : Int) - (n : Int) ≠ 9 := by omega
            have h9q := (int_ne h9').2
            have HX := Lib.hid (hlm (min_len (by simp; omega)))
            clear hlm hlt hla h9 h9'
            go_enter Tryd.func35, Tryd.ntmps35
            go_wp2_with fail
            refine (hF.out _).mono ?_
            rintro e w1 ⟨rfl, rfl⟩
            go_wp2_with fail
            refine (hT.out _).mono ?_
            rintro e w1 ⟨rfl, rfl⟩
            go_wp2_with fail
            refine (hF2.out _).mono ?_
            rintro e w1 ⟨rfl, rfl⟩
            go_wp2_with fail
            refine bodyPost_ret (res4 rfl _ _ _) rfl ⟨?_, Keep.refl _ _⟩
            rw [HX.out]
            rfl
end Go.Proofs.YtmfnciocnlmceaaDoor

/- Layer 13: the document's Ask; what the statements are awake to. No conditions but on lengths and the library's table. -/
namespace Go.Proofs.YtmfnciocnlmceaaDoor
open Go.RowKit Go.Shelf

/-- ' HTTP/1.1' -/
def spProt : List UInt8 := [32, 72, 84, 84, 80, 47, 49, 46, 49]
set_option maxRecDepth 100000 in
set_option maxHeartbeats 1000000 in
theorem ref13_Ask (m t : List UInt8) (va : Value) (L : List Fld) (w : World) (hl : m.length + t.length ≤ 1048000) (ha : Sl Fld.cells 2 w va L) (hg : L.length ≤ 32 → ∀ x ∈ L, x.name.length + x.value.length ≤ 1048576) :
    Calls Tryd.prog 17 #[.string (S m), .string (S t), va] w fun e w' => e = .returned (fin (askS m t L) (askE m t L)) ∧ Keep [] w w' := by
  have hst : askT m t = m ++ [32] ++ t ++ spProt := by unfold askT; rw [List.append_assoc]; rfl
  have hok : askOk m t = (decide ((lnM (askT m t)).s = 200) && decide ((askT m t).length ≤ 1024)) := rfl
  have hno := ask_no (m := m) (t := t) (L := L)
  have hyes := ask_yes (m := m) (t := t) (L := L)
  have hlen : (askT m t).length = m.length + t.length + 10 := by rw [hst]; simp [spProt]; omega
  have HLi := Lib.hid (ref12_Line (askT m t) w (by omega))
  have HL := Lib.hid (fun w' (k : Keep [] w w') => ref_laid (askT m t) va L w' (ha.keep0 Fld.cells_length (by omega) k) hg (by omega))
  generalize askE m t L = ae at *
  generalize askS m t L = av at *
  generalize askOk m t = ok at *
  generalize askT m t = st at *
  have q1 : S m ++ (⟨#[32]⟩ : ByteArray) = S (m ++ [32]) := S_append _ [32]
  have q2 : S (m ++ [32]) ++ S t = S (m ++ [32] ++ t) := S_append _ _
  have q4 : S (m ++ [32] ++ t) ++ (⟨#[32, 72, 84, 84, 80, 47, 49, 46, 49]⟩ : ByteArray) = S st := by rw [hst]; exact S_append _ spProt
  have t1 : (m ++ [32]).length = m.length + 1 := by simp
  have t2 : (m ++ [32] ++ t).length = m.length + t.length + 1 := by simp; omega
  generalize m ++ [32] ++ t = x2 at *
  generalize m ++ [32] = x1 at *
  have s0 := S_size m
  have s1 := S_size t
  have s2 := S_size x1
  have s3 := S_size x2
  have s5 := S_size st
  generalize lnM st = R at *
  obtain ⟨rm, rt, rv, rs⟩ := R
  dsimp only at hok
  unfold Ln.out at HLi
  dsimp only at HLi
  clear ha hg hst
  by_cases h2 : rs = 200
  · have h2' := (int_eq h2).2
    by_cases h3 : st.length ≤ 1024
    · have h3' : decide (((st.length : Nat) : Int) > 1024) = false := by simp; omega
      have HX := Lib.hid (hyes (by rw [hok]; simp [h2, h3]))
      clear hok hno hyes h2 h3 hlen
      go_enter Tryd.func17, Tryd.ntmps17
      go_wp2_with fail
      refine HLi.out.mono ?_
      rintro e w1 ⟨rfl, k1⟩
      go_wp2_with fail
      refine (HL.out _ k1).mono ?_
      rintro e w3 ⟨rfl, k3⟩
      unfold fin
      go_wp2_with fail
      go_ret2
      exact ⟨by rw [HX.out.1, HX.out.2]; rfl, k1.trans k3⟩
    · have h3' : decide (((st.length : Nat) : Int) > 1024) = true := by simp; omega
      have HX := Lib.hid (hno (by rw [hok]; simp [h3]))
      clear hok hno hyes h2 h3 hlen
      go_enter Tryd.func17, Tryd.ntmps17
      go_wp2_with fail
      refine HLi.out.mono ?_
      rintro e w1 ⟨rfl, k1⟩
      go_wp2_with fail
      go_ret2
      exact ⟨by rw [HX.out.1, HX.out.2]; rfl, k1⟩
  · have h2' := (int_ne h2).2
    have HX := Lib.hid (hno (by rw [hok]; simp [h2]))
    clear hok hno hyes h2 hlen
    go_enter Tryd.func17, Tryd.ntmps17
    go_wp2_with fail
    refine HLi.out.mono ?_
    rintro e w1 ⟨rfl, k1⟩
    go_wp2_with fail
    go_ret2
    exact ⟨by rw [HX.out.1, HX.out.2]; rfl, k1⟩

theorem itoa_200 : Lib.itoa 200 = [50, 48, 48] := by
  rw [show (200 : Int) = ((200 : Nat) : Int) from rfl, Lib.itoa_nonneg, dec_big (by omega), show 200 / 10 = 20 from rfl, dec_big (by omega), show 20 / 10 = 2 from rfl, dec_small (by omega)]
  rfl
def fAb : Fld := ⟨[65], [98]⟩
theorem awake13_plain : ansS 200 [fAb] = [72, 84, 84, 80, 47, 49, 46, 49, 32, 50, 48, 48, 32, 79, 75, 13, 10, 65, 58, 32, 98, 13, 10, 13, 10] ∧ ansE 200 [fAb] = 0 ∧
    askS [71, 69, 84] [47, 118, 50, 47] [] = [71, 69, 84, 32, 47, 118, 50, 47, 32, 72, 84, 84, 80, 47, 49, 46, 49, 13, 10, 13, 10] ∧ askE [71, 69, 84] [47, 118, 50, 47] [] = 0 ∧ askE [71, 69, 84] [47, 97, 32, 98] [] = 1 := by
  have h1 : stOf 200 = [72, 84, 84, 80, 47, 49, 46, 49, 32, 50, 48, 48, 32, 79, 75] := by unfold stOf; rw [itoa_200]; rfl
  have h2 : ansE 200 [fAb] = laidE (stOf 200) [fAb] ∧ ansS 200 [fAb] = laidS (stOf 200) [fAb] := ans_yes (by decide)
  rw [h1] at h2
  refine ⟨h2.2.trans ?_, h2.1.trans ?_, ?_, ?_, ?_⟩ <;> decide +kernel

set_option maxRecDepth 100000 in
set_option maxHeartbeats 2000000 in
theorem outlet_awake (w : World) (hm : ML w) (hp : P10 w) : Calls Tryd.prog 13 #[] w fun e w' => e = .returned (.bool true) ∧ Keep [] w w' := by
  obtain ⟨a1, a2, a3, a4, a5⟩ := awake13_plain
  have hb := Blk.newA w #[.string (S [65]), .string (S [98])] 26
  have hk := (Keep.refl [] w).alloc (.cells #[.string (S [65]), .string (S [98])] 26)
  have hsl : Sl Fld.cells 2 (w.alloc (.cells #[.string (S [65]), .string (S [98])] 26)) (.slice (some ⟨w.heap.size, 0, none⟩) 1 1) [fAb] := by
    refine .inr ⟨w.heap.size, 0, 1, rfl, Nat.le_refl _, by decide, fun i x hx k hk2 => ?_⟩
    cases i with
    | zero =>
      simp at hx
      subst hx
      have := hb.cell k
      rw [show 0 + 0 * 2 + k = k by omega]
      exact this
    | succ i => simp at hx
  have hA := outlet_Answer 200 _ [fAb] _ ⟨by omega, by omega⟩ (hp.keep0 hk) hsl (by intro _ x hx; simp at hx; subst hx; decide)
  have hB := fun w' (k : Keep [] w w') => outlet_Ask [71, 69, 84] [47, 118, 50, 47] (.slice none 0 0) [] w' (hm.keep k (by simp)) (by decide) (.inl ⟨none, 0, rfl, by omega, rfl⟩) (by intro _ x hx; cases hx)
  have hC := fun w' (k : Keep [] w w') => outlet_Ask [71, 69, 84] [47, 97, 32, 98] (.slice none 0 0) [] w' (hm.keep k (by simp)) (by decide) (.inl ⟨none, 0, rfl, by omega, rfl⟩) (by intro _ x hx; cases hx)
  rw [a1, a2] at hA
  rw [a3, a4] at hB
  rw [a5] at hC
  generalize askS [71, 69, 84] [47, 97, 32, 98] [] = sc at hC
  have HA := Lib.hid hA
  have HB := Lib.hid hB
  have HC := Lib.hid hC
  have HK := Lib.hid hk
  have HN := Lib.hid (fun w' => outlet_Bodyless 304 false w')
  have HO := Lib.hid (fun w' => outlet_Bodyless 200 false w')
  have t1 := S_toList [72, 84, 84, 80, 47, 49, 46, 49, 32, 50, 48, 48, 32, 79, 75, 13, 10, 65, 58, 32, 98, 13, 10, 13, 10]
  have t2 := S_toList [71, 69, 84, 32, 47, 118, 50, 47, 32, 72, 84, 84, 80, 47, 49, 46, 49, 13, 10, 13, 10]
  unfold fin at HA HB HC
  clear a1 a2 a3 a4 a5 hb hk hsl hA hB hC hm hp
  go_enter Tryd.func13, Tryd.ntmps13
  go_wp2_with fail
  refine HA.out.mono ?_
  rintro e w1 ⟨rfl, k1⟩
  have k1 := HK.out.trans k1
  go_wp2_with fail
  refine (HB.out w1 k1).mono ?_
  rintro e w2 ⟨rfl, k2⟩
  have k2 := k1.trans k2
  clear k1
  go_wp2_with fail
  refine (HC.out w2 k2).mono ?_
  rintro e w3 ⟨rfl, k3⟩
  have k3 := k2.trans k3
  clear k2
  go_wp2_with fail
  refine (HN.out w3).mono ?_
  rintro e w4 ⟨rfl, rfl⟩
  go_wp2_with fail
  refine (HO.out _).mono ?_
  rintro e w5 ⟨rfl, rfl⟩
  go_wp2_with fail
  go_ret
  exact ⟨rfl, k3⟩
end Go.Proofs.YtmfnciocnlmceaaDoor

/- The statement OutletExact: its function answers true for every input. No conditions but on the library's table. -/
namespace Go.Proofs.YtmfnciocnlmceaaDoor
open Go.RowKit Go.Shelf

theorem small_next {L : List Fld} {k n : Nat} {x : Fld} (hx : L[k]? = some x) (h : ∀ y ∈ L.take k, y.name.length ≤ n ∧ y.value.length ≤ n) (h1 : x.name.length ≤ n) (h2 : x.value.length ≤ n) : ∀ y ∈ L.take (k + 1), y.name.length ≤ n ∧ y.value.length ≤ n := by
  have e : L.take (k + 1) = L.take k ++ [x] := by rw [List.take_add_one, hx]; rfl
  rw [e]
  intro y hy
  rcases List.mem_append.1 hy with hy | hy
  · exact h y hy
  · have : y = x := by simpa using hy
    subst this
    exact ⟨h1, h2⟩
def bodyNo (s : Int) : Bool := (decide (100 ≤ s) && decide (s < 200)) || decide (s = 204) || decide (s = 304)

set_option maxRecDepth 100000 in
set_option maxHeartbeats 2000000 in
theorem outletExact_walk (s : Int) (m t : List UInt8) (va : Value) (L : List Fld) (w : World) (hm : ML w) (hp : P10 w) (hs : in64 s) (ml : m.length ≤ maxLen) (tl : t.length ≤ maxLen) (ha : Sl Fld.cells 2 w va L) (hg : ∀ x ∈ L, x.good) :
    Calls Tryd.prog 3 #[.int .i64 s, .agg #[.string (S m), .string (S t)], va] w fun e w' => e = .returned (.bool true) ∧ Keep [] w w' := by
  obtain ⟨aa, ca, rfl, hal⟩ := ha.shape
  have hal' : L.length ≤ 9223372036854775807 := hal
  have ml' : m.length ≤ 9223372036854775807 := ml
  have tl' : t.length ≤ 9223372036854775807 := tl
  have sm := S_size m
  have st := S_size t
  have hkA := (Keep.refl [] w).alloc (.cells #[.string (S m), .string (S t)] 22)
  have hbA : Blk (w.alloc (.cells #[.string (S m), .string (S t)] 22)) w.heap.size 22 [.string (S m), .string (S t)] := Blk.newA w _ _
  have HW := Lib.hid (outlet_awake _ (hm.keep hkA (by simp)) (hp.keep0 hkA))
  have HA := Lib.hid ha
  have HG := Lib.hid hg
  have HM := Lib.hid hm
  have HP := Lib.hid hp
  have HS := Lib.hid hs
  have HBA := Lib.hid (And.intro hbA hkA)
  clear ha hg hal ml tl hm hp hs hbA hkA
  by_cases hb : 60 < L.length ∨ 8192 < m.length ∨ 8192 < t.length
  · by_cases h1 : 60 < L.length
    · go_enter Tryd.func3, Tryd.ntmps3
      go_wp2_with fail
      refine HW.out.mono ?_
      rintro e w1 ⟨rfl, k1⟩
      have K1 := Lib.hid (HBA.out.2.trans k1)
      have B1 := k1.blk HBA.out.1 (by simp)
      have d0 := B1.get (k := 0) rfl
      have d1 := B1.get (k := 1) rfl
      clear k1 B1
      go_wp2_with fail
      go_ret
      exact ⟨rfl, K1.out⟩
    · by_cases h2 : 8192 < m.length
      · clear hb
        go_enter Tryd.func3, Tryd.ntmps3
        go_wp2_with fail
        refine HW.out.mono ?_
        rintro e w1 ⟨rfl, k1⟩
        have K1 := Lib.hid (HBA.out.2.trans k1)
        have B1 := k1.blk HBA.out.1 (by simp)
        have d0 := B1.get (k := 0) rfl
        have d1 := B1.get (k := 1) rfl
        clear k1 B1
        go_wp2_with fail
        go_ret
        exact ⟨rfl, K1.out⟩
      · have h3 : 8192 < t.length := by omega
        clear hb
        go_enter Tryd.func3, Tryd.ntmps3
        go_wp2_with fail
        refine HW.out.mono ?_
        rintro e w1 ⟨rfl, k1⟩
        have K1 := Lib.hid (HBA.out.2.trans k1)
        have B1 := k1.blk HBA.out.1 (by simp)
        have d0 := B1.get (k := 0) rfl
        have d1 := B1.get (k := 1) rfl
        clear k1 B1
        go_wp2_with fail
        go_ret
        exact ⟨rfl, K1.out⟩
  · have h1 : L.length ≤ 60 := by omega
    have h2 : m.length ≤ 8192 := by omega
    have h3 : t.length ≤ 8192 := by omega
    clear hb
    go_enter Tryd.func3, Tryd.ntmps3
    go_wp2_with fail
    refine HW.out.mono ?_
    rintro e w1 ⟨rfl, k1⟩
    have K1 := Lib.hid (HBA.out.2.trans k1)
    have B1 := Lib.hid (k1.blk HBA.out.1 (by simp))
    have d0 := B1.out.get (k := 0) rfl
    have d1 := B1.out.get (k := 1) rfl
    clear k1 HW HBA
    go_wp2_with fail
    generalize w.heap.size = nb at B1 d0 d1
    clear d0 d1
    go_loopg [7] L.length (fun g i wr => ∃ k : Nat, i = .int .i64 k ∧ k ≤ L.length ∧ g = L.length - k ∧ w1 = wr ∧ Hid (∀ x ∈ L.take k, x.name.length ≤ 8192 ∧ x.value.length ≤ 8192))
    case atStart => exact ⟨0, rfl, by omega, by omega, rfl, Lib.hid (by simp)⟩
    case round =>
      obtain ⟨k, rfl, hk, rfl, rfl, HE⟩ := hrel
      by_cases hlt : k < L.length
      · obtain ⟨x, hx⟩ : ∃ x, L[k]? = some x := ⟨_, List.getElem?_eq_getElem hlt⟩
        obtain ⟨x1, x2⟩ := HG.out x (List.mem_of_getElem? hx)
        have x1' : x.name.length ≤ 9223372036854775807 := x1
        have x2' : x.value.length ≤ 9223372036854775807 := x2
        have s1 := S_size x.name
        have s2 := S_size x.value
        obtain ⟨ba, oa, ca', hva, _, hca, hcell⟩ := (HA.out.keep0 Fld.cells_length (by omega) K1.out).cell hx
        cases hva
        have hc0 := hcell 0 (by omega)
        have hc1 := hcell 1 (by omega)
        simp only [Fld.cells, List.getElem?_cons_zero, List.getElem?_cons_succ, Nat.add_zero] at hc0 hc1
        have hca' : ca ≤ 9223372036854775807 := hca
        have HX := Lib.hid hx
        clear hcell hx hca x1 x2
        by_cases t1 : 8192 < x.name.length
        · go_wp2_with fail
          go_ret
          exact ⟨rfl, K1.out⟩
        · by_cases t2 : 8192 < x.value.length
          · go_wp2_with fail
            go_ret
            exact ⟨rfl, K1.out⟩
          · have HE2 := Lib.hid (small_next HX.out HE.out (by omega) (by omega))
            go_wp2_with fail
            go_roundg (L.length - (k + 1))
            case measure => omega
            case rel => exact ⟨k + 1, by go_num, by omega, rfl, rfl, HE2⟩
      · have hsm := HE.out
        rw [List.take_of_length_le (by omega)] at hsm
        have hgs : L.length ≤ 32 → ∀ x ∈ L, x.name.length + x.value.length ≤ 1048576 := fun _ x hx => by have := hsm x hx; omega
        have HA1 := Lib.hid (fun w' (k : Keep [] w w') => outlet_Answer s _ L w' HS.out (HP.out.keep0 k) (HA.out.keep0 Fld.cells_length (by omega) k) hgs)
        have HA2 := Lib.hid (fun w' (k : Keep [] w w') => ref13_Answer s _ L w' HS.out (HA.out.keep0 Fld.cells_length (by omega) k) hgs)
        have HA3 := Lib.hid (fun w' (k : Keep [] w w') => outlet_Ask m t _ L w' (HM.out.keep k (by simp)) (by omega) (HA.out.keep0 Fld.cells_length (by omega) k) hgs)
        have HA4 := Lib.hid (fun w' (k : Keep [] w w') => ref13_Ask m t _ L w' (by omega) (HA.out.keep0 Fld.cells_length (by omega) k) hgs)
        have HR1 := Lib.hid (fun w' => outlet_Reason s w')
        have HR2 := Lib.hid (fun w' => ref_Reason s w')
        have HN1 := Lib.hid (fun w' => outlet_Bodyless s false w')
        have HN2 := Lib.hid (fun w' => outlet_Bodyless s true w')
        generalize ansS s L = xs at *
        generalize ansE s L = xe at *
        generalize askS m t L = ys at *
        generalize askE m t L = ye at *
        generalize reasonM s = re at *
        unfold fin at HA1 HA2 HA3 HA4
        have hge : ¬ (k : Int) < (L.length : Int) := by omega
        have q1 := (int_eq (show xe = xe from rfl)).1
        have q2 := (int_eq (show ye = ye from rfl)).1
        clear hsm hgs HE hlt hk
        go_wp2_with fail
        refine (HA1.out _ K1.out).mono ?_
        rintro e w2 ⟨rfl, k2⟩
        have K2 := Lib.hid (K1.out.trans k2)
        have B2 := Lib.hid (k2.blk B1.out (by simp))
        clear k2
        go_wp2_with fail
        refine (HA2.out _ K2.out).mono ?_
        rintro e w3 ⟨rfl, k3⟩
        have K3 := Lib.hid (K2.out.trans k3)
        have B3 := Lib.hid (k3.blk B2.out (by simp))
        have d0 := B3.out.get (k := 0) rfl
        have d1 := B3.out.get (k := 1) rfl
        clear k3
        go_wp2_with fail
        refine (HA3.out _ K3.out).mono ?_
        rintro e w4 ⟨rfl, k4⟩
        have K4 := Lib.hid (K3.out.trans k4)
        have B4 := Lib.hid (k4.blk B3.out (by simp))
        clear d0 d1
        have d0 := B4.out.get (k := 0) rfl
        have d1 := B4.out.get (k := 1) rfl
        clear k4
        go_wp2_with fail
        refine (HA4.out _ K4.out).mono ?_
        rintro e w5 ⟨rfl, k5⟩
        have K5 := Lib.hid (K4.out.trans k5)
        clear k5 d0 d1
        go_upto_region 14 with fail
        go_cut [16] (fun v wx => v = .bool (bodyNo s) ∧ w5 = wx)
        case first =>
          by_cases p1 : 100 ≤ s
          · by_cases p2 : s ≤ 199
            · have hB : bodyNo s = true := by unfold bodyNo; simp; omega
              have HB := Lib.hid hB
              have p1' : decide (s ≥ 100) = true := by simp; omega
              clear hB
              go_wp2_with fail
              go_meet
              exact ⟨by rw [HB.out], rfl⟩
            · have p1' : decide (s ≥ 100) = true := by simp; omega
              by_cases p3 : s = 204
              · have hB : bodyNo s = true := by unfold bodyNo; simp; omega
                have HB := Lib.hid hB
                have p3' := (int_eq p3).1
                clear hB p3
                go_wp2_with fail
                go_meet
                exact ⟨by rw [HB.out], rfl⟩
              · have p3' := (int_ne p3).1
                by_cases p4 : s = 304
                · have hB : bodyNo s = true := by unfold bodyNo; simp; omega
                  have HB := Lib.hid hB
                  have p4' := (int_eq p4).1
                  clear hB p3 p4
                  go_wp2_with fail
                  go_meet
                  exact ⟨by rw [HB.out], rfl⟩
                · have p4' := (int_ne p4).1
                  have hB : bodyNo s = false := by unfold bodyNo; simp; omega
                  have HB := Lib.hid hB
                  clear hB p3 p4
                  go_wp2_with fail
                  go_meet
                  exact ⟨by rw [HB.out], rfl⟩
          · have p3' := (int_ne (show s ≠ 204 by omega)).1
            have p4' := (int_ne (show s ≠ 304 by omega)).1
            have p1' : decide (s ≥ 100) = false := by simp; omega
            have hB : bodyNo s = false := by unfold bodyNo; simp; omega
            have HB := Lib.hid hB
            clear hB
            go_wp2_with fail
            go_meet
            exact ⟨by rw [HB.out], rfl⟩
        case rest =>
          obtain ⟨rfl, rfl⟩ := hcut
          have hn1 : (false || (decide (100 ≤ s) && decide (s < 200)) || decide (s = 204) || decide (s = 304)) = bodyNo s := by unfold bodyNo; simp
          have hn2 : (true || (decide (100 ≤ s) && decide (s < 200)) || decide (s = 204) || decide (s = 304)) = true := by simp
          rw [hn1] at HN1
          rw [hn2] at HN2
          generalize bodyNo s = bn at *
          have q3 : (bn == bn) = true := by simp
          clear hn1 hn2
          go_wp2_with fail
          refine (HR1.out _).mono ?_
          rintro e w6 ⟨rfl, rfl⟩
          go_wp2_with fail
          refine (HR2.out _).mono ?_
          rintro e w7 ⟨rfl, rfl⟩
          go_wp2_with fail
          refine (HN1.out _).mono ?_
          rintro e w8 ⟨rfl, rfl⟩
          go_wp2_with fail
          refine (HN2.out _).mono ?_
          rintro e w9 ⟨rfl, rfl⟩
          go_wp2_with fail
          go_ret
          exact ⟨rfl, K5.out⟩
end Go.Proofs.YtmfnciocnlmceaaDoor

/- Layer 13, plain laws: a head that is written is read as it was; a request line that is written is read as it was. No program. No conditions but those that each theorem states. -/
namespace Go.Proofs.YtmfnciocnlmceaaDoor
open Go.RowKit Go.Shelf

theorem laid_ok {st : List UInt8} {L : List Fld} (h : laidE st L = 0) : laidS st L = headT st L ∧ L.length ≤ 32 ∧ (∀ f ∈ L, goodF f = true) ∧ (headT st L).length ≤ 4096 := by
  have hs : laidS st L = headT st L := by unfold laidS; rw [if_pos h]
  unfold laidE at h
  cases hk : laidOk L with
  | false => rw [hk] at h; simp at h
  | true =>
    rw [hk, if_pos rfl] at h
    have hl : (headT st L).length ≤ 4096 := by
      by_cases hl : (headT st L).length ≤ 4096
      · exact hl
      · rw [if_neg hl] at h; simp at h
    unfold laidOk at hk
    simp at hk
    exact ⟨hs, hk.1, hk.2, hl⟩
theorem clean_app {a b : List UInt8} (ha : clean a) (hb : clean b) : clean (a ++ b) := by
  intro x hx
  rcases List.mem_append.1 hx with h | h
  · exact ha x h
  · exact hb x h
theorem clean_ite {c : Prop} [Decidable c] {a b : List UInt8} (ha : clean a) (hb : clean b) : clean (if c then a else b) := by split <;> assumption
theorem reason_clean (s : Int) : clean (reasonM s) := by
  unfold reasonM
  repeat (refine clean_ite (by intro x hx; revert x; decide) ?_)
  intro x hx; revert x; decide
theorem dec_dig {n : Nat} (h1 : 100 ≤ n) (h2 : n ≤ 599) : (Lib.itoa (n : Int)).length = 3 ∧ clean (Lib.itoa (n : Int)) := by
  rw [Lib.itoa_nonneg, dec_big (by omega), dec_big (by omega), dec_small (by omega)]
  refine ⟨rfl, ?_⟩
  intro x hx
  have hd : ∀ y : Nat, y < 10 → UInt8.ofNat (48 + y) ≠ 13 ∧ UInt8.ofNat (48 + y) ≠ 10 := by decide
  rcases List.mem_append.1 hx with hx | hx
  · rcases List.mem_append.1 hx with hx | hx
    · rw [List.mem_singleton.1 hx]; exact hd _ (by omega)
    · rw [List.mem_singleton.1 hx]; exact hd _ (by omega)
  · rw [List.mem_singleton.1 hx]; exact hd _ (by omega)
theorem stOf_ok {s : Int} (h : statOk s = true) : clean (stOf s) ∧ 13 ≤ (stOf s).length ∧ (stOf s).length ≤ 1024 ∧ (stOf s).take 9 = [72, 84, 84, 80, 47, 49, 46, 49, 32] ∧ (stOf s).drop 13 = reasonM s := by
  unfold statOk at h
  simp at h
  obtain ⟨n, rfl⟩ : ∃ n : Nat, s = n := ⟨s.toNat, by omega⟩
  obtain ⟨h3, hc⟩ := dec_dig (n := n) (by omega) (by omega)
  have hr := reason_len (n : Int)
  have hcr := reason_clean (n : Int)
  unfold stOf
  generalize Lib.itoa (n : Int) = d at *
  generalize reasonM (n : Int) = r at *
  have hp : clean protB := by intro x hx; revert x; decide
  have h32 : clean [32] := by intro x hx; revert x; decide
  refine ⟨clean_app (clean_app (clean_app (clean_app hp h32) hc) h32) hcr, by simp [protB]; omega, by simp [protB]; omega, by simp [protB], ?_⟩
  match d, h3 with
  | [a, b, c], _ => rfl
theorem ans_read {s : Int} {L : List Fld} (more : List UInt8) (h : ansE s L = 0) : splitM (ansS s L ++ more) = ⟨stOf s, L, (ansS s L).length, 0⟩ ∧ (ansS s L).length ≤ 4096 ∧ 13 ≤ (stOf s).length ∧ (stOf s).take 9 = [72, 84, 84, 80, 47, 49, 46, 49, 32] ∧ (stOf s).drop 13 = reasonM s := by
  cases hs : statOk s with
  | false => rw [(ans_no (L := L) hs).1] at h; simp at h
  | true =>
    obtain ⟨h1, h2⟩ := ans_yes (L := L) hs
    rw [h1] at h
    obtain ⟨h3, h4, h5, h6⟩ := laid_ok h
    obtain ⟨c1, c2, c3, c4, c5⟩ := stOf_ok hs
    rw [h2, h3]
    exact ⟨split_head _ L more c1 (by intro h0; rw [h0] at c2; simp at c2) c3 h5 h4 h6, h6, c2, c4, c5⟩

theorem sep_inj : ∀ {a b c d : List UInt8}, (32 : UInt8) ∉ a → (32 : UInt8) ∉ b → a ++ 32 :: c = b ++ 32 :: d → a = b ∧ c = d
  | [], [], _, _, _, _, h => ⟨rfl, by simpa using h⟩
  | [], y :: b, _, _, _, hb, h => by
    simp at h
    exact absurd h.1 (by intro e; exact hb (by simp [e]))
  | x :: a, [], _, _, ha, _, h => by
    simp at h
    exact absurd h.1 (by intro e; exact ha (by simp [e]))
  | x :: a, y :: b, _, _, ha, hb, h => by
    simp at h
    obtain ⟨h1, h2⟩ := sep_inj (fun hh => ha (by simp [hh])) (fun hh => hb (by simp [hh])) h.2
    exact ⟨by rw [h.1, h1], h2⟩
theorem tok_no32 {l : List UInt8} (h : isTok l = true) : (32 : UInt8) ∉ l := by
  intro hm
  have := (isTok_parts h).1 32 hm
  revert this
  decide
theorem tgt_no {l : List UInt8} (h : isTgt l = true) : (∀ b ∈ l, 33 ≤ b.toNat ∧ b.toNat ≤ 126) ∧ l ≠ [] := by
  unfold isTgt at h
  simp [tgtB] at h
  exact ⟨h.1, h.2⟩
theorem cut_parts {l : List UInt8} {k : Nat} (h : Lib.indexByte l 32 = (k : Nat)) : l = l.take k ++ 32 :: l.drop (k + 1) := by
  have hk := (Lib.indexByte_some h).1
  obtain ⟨h1, h2⟩ := List.getElem?_eq_some_iff.1 hk
  have := List.drop_eq_getElem_cons h1
  rw [h2] at this
  rw [← this, List.take_append_drop]
theorem ask_read {m t : List UInt8} (h : (lnM (askT m t)).s = 200) : lnM (askT m t) = ⟨m, t, 1, 200⟩ ∧ isTok m = true ∧ isTgt t = true := by
  have hbad : (lnBad).s ≠ 200 := by decide
  have hdef : askT m t = (m ++ 32 :: t) ++ 32 :: protB := by unfold askT; simp
  have hge := Lib.indexByte_ge (askT m t) 32
  by_cases hk : Lib.indexByte (askT m t) 32 = -1
  · rw [ln_k hk] at h; exact absurd h hbad
  obtain ⟨k, hk'⟩ : ∃ k : Nat, Lib.indexByte (askT m t) 32 = k := ⟨(Lib.indexByte (askT m t) 32).toNat, by omega⟩
  cases ht : isTok ((askT m t).take k) with
  | false => rw [ln_tok hk' ht] at h; exact absurd h hbad
  | true =>
  have hp1 := cut_parts hk'
  have hge2 := Lib.indexByte_ge ((askT m t).drop (k + 1)) 32
  by_cases hn : Lib.indexByte ((askT m t).drop (k + 1)) 32 = -1
  · rw [ln_n hk' hn] at h; exact absurd h hbad
  obtain ⟨n, hn'⟩ : ∃ n : Nat, Lib.indexByte ((askT m t).drop (k + 1)) 32 = n := ⟨(Lib.indexByte ((askT m t).drop (k + 1)) 32).toNat, by omega⟩
  cases hg : isTgt (((askT m t).drop (k + 1)).take n) with
  | false => rw [ln_tgt hk' hn' hg] at h; exact absurd h hbad
  | true =>
  have hp2 := cut_parts hn'
  have hall := ln_all hk' hn' ht hg
  by_cases hl : (((askT m t).drop (k + 1)).drop (n + 1)).length ≠ 8
  · rw [ln_min hk' hn' (min_len hl)] at h; exact absurd h hbad
  have hl8 : (((askT m t).drop (k + 1)).drop (n + 1)).length = 8 := by omega
  rw [hp2] at hp1
  rw [hall] at h ⊢
  generalize ((askT m t).drop (k + 1)).drop (n + 1) = last at *
  generalize ((askT m t).drop (k + 1)).take n = b at *
  generalize (askT m t).take k = a at *
  have he : (m ++ 32 :: t) ++ 32 :: protB = (a ++ 32 :: b) ++ 32 :: last := by rw [← hdef, hp1]; simp
  obtain ⟨e1, e2⟩ := List.append_inj' he (by simp [protB, hl8])
  have e3 : protB = last := by simpa using e2
  have na := tok_no32 ht
  have nb : (32 : UInt8) ∉ b := fun hb => by have := (tgt_no hg).1 32 hb; revert this; decide
  have hc := congrArg (List.count (32 : UInt8)) e1
  rw [List.count_append, List.count_append, List.count_cons_self, List.count_cons_self, List.count_eq_zero.2 na, List.count_eq_zero.2 nb] at hc
  have nm : (32 : UInt8) ∉ m := List.count_eq_zero.1 (by omega)
  obtain ⟨f1, f2⟩ := sep_inj nm na e1
  subst f1 f2 e3
  have hs : minS protB = 200 := by decide
  rw [if_pos hs]
  exact ⟨by rw [show minV protB = 1 from by decide], ht, hg⟩
theorem askE_read {m t : List UInt8} {L : List Fld} (more : List UInt8) (h : askE m t L = 0) : splitM (askS m t L ++ more) = ⟨askT m t, L, (askS m t L).length, 0⟩ ∧ (askS m t L).length ≤ 4096 ∧ (askT m t).length ≤ 1024 ∧ lnM (askT m t) = ⟨m, t, 1, 200⟩ := by
  cases hs : askOk m t with
  | false => rw [(ask_no (L := L) hs).1] at h; simp at h
  | true =>
    obtain ⟨h1, h2⟩ := ask_yes (L := L) hs
    rw [h1] at h
    obtain ⟨h3, h4, h5, h6⟩ := laid_ok h
    unfold askOk at hs
    simp at hs
    obtain ⟨g1, g2, g3⟩ := ask_read hs.1
    rw [h2, h3]
    have hc : clean (askT m t) := by
      have hm : clean m := fun b hb => ⟨(tchar_clean ((isTok_parts g2).1 b hb)).1, (tchar_clean ((isTok_parts g2).1 b hb)).2.1⟩
      have ht : clean t := by
        intro b hb
        have := (tgt_no g3).1 b hb
        refine ⟨?_, ?_⟩ <;> (rintro rfl; revert this; decide)
      have hp : clean protB := by intro x hx; revert x; decide
      have h32 : clean [32] := by intro x hx; revert x; decide
      unfold askT
      exact clean_app (clean_app (clean_app (clean_app hm h32) ht) h32) hp
    exact ⟨split_head _ L more hc (by unfold askT; simp) hs.2 h5 h4 h6, h6, hs.2, g1⟩
end Go.Proofs.YtmfnciocnlmceaaDoor

/- The statement OutletBack: its function answers true for every input. No conditions but on the library's table. -/
namespace Go.Proofs.YtmfnciocnlmceaaDoor
open Go.RowKit Go.Shelf

set_option maxRecDepth 100000 in
set_option maxHeartbeats 2000000 in
theorem outletBack_walk (s : Int) (m t : List UInt8) (va : Value) (L : List Fld) (w : World) (hm : ML w) (hp : P10 w) (hs : in64 s) (ml : m.length ≤ maxLen) (tl : t.length ≤ maxLen) (ha : Sl Fld.cells 2 w va L) (hg : ∀ x ∈ L, x.good) :
    Calls Tryd.prog 4 #[.int .i64 s, .agg #[.string (S m), .string (S t)], va] w fun e w' => e = .returned (.bool true) ∧ Keep [] w w' := by
  obtain ⟨aa, ca, rfl, hal⟩ := ha.shape
  have hal' : L.length ≤ 9223372036854775807 := hal
  have ml' : m.length ≤ 9223372036854775807 := ml
  have tl' : t.length ≤ 9223372036854775807 := tl
  have sm := S_size m
  have st := S_size t
  have hkA := (Keep.refl [] w).alloc (.cells #[.string (S m), .string (S t)] 22)
  have hbA : Blk (w.alloc (.cells #[.string (S m), .string (S t)] 22)) w.heap.size 22 [.string (S m), .string (S t)] := Blk.newA w _ _
  have HW := Lib.hid (outlet_awake _ (hm.keep hkA (by simp)) (hp.keep0 hkA))
  have HA := Lib.hid ha
  have HG := Lib.hid hg
  have HM := Lib.hid hm
  have HP := Lib.hid hp
  have HS := Lib.hid hs
  have HBA := Lib.hid (And.intro hbA hkA)
  clear ha hg hal ml tl hm hp hs hbA hkA
  by_cases hb : 60 < L.length ∨ 8192 < m.length ∨ 8192 < t.length
  · by_cases h1 : 60 < L.length
    · go_enter Tryd.func4, Tryd.ntmps4
      go_wp2_with fail
      refine HW.out.mono ?_
      rintro e w1 ⟨rfl, k1⟩
      have K1 := Lib.hid (HBA.out.2.trans k1)
      have B1 := k1.blk HBA.out.1 (by simp)
      have d0 := B1.get (k := 0) rfl
      have d1 := B1.get (k := 1) rfl
      clear k1 B1
      go_wp2_with fail
      go_ret
      exact ⟨rfl, K1.out⟩
    · by_cases h2 : 8192 < m.length
      · clear hb
        go_enter Tryd.func4, Tryd.ntmps4
        go_wp2_with fail
        refine HW.out.mono ?_
        rintro e w1 ⟨rfl, k1⟩
        have K1 := Lib.hid (HBA.out.2.trans k1)
        have B1 := k1.blk HBA.out.1 (by simp)
        have d0 := B1.get (k := 0) rfl
        have d1 := B1.get (k := 1) rfl
        clear k1 B1
        go_wp2_with fail
        go_ret
        exact ⟨rfl, K1.out⟩
      · have h3 : 8192 < t.length := by omega
        clear hb
        go_enter Tryd.func4, Tryd.ntmps4
        go_wp2_with fail
        refine HW.out.mono ?_
        rintro e w1 ⟨rfl, k1⟩
        have K1 := Lib.hid (HBA.out.2.trans k1)
        have B1 := k1.blk HBA.out.1 (by simp)
        have d0 := B1.get (k := 0) rfl
        have d1 := B1.get (k := 1) rfl
        clear k1 B1
        go_wp2_with fail
        go_ret
        exact ⟨rfl, K1.out⟩
  · have h1 : L.length ≤ 60 := by omega
    have h2 : m.length ≤ 8192 := by omega
    have h3 : t.length ≤ 8192 := by omega
    clear hb
    go_enter Tryd.func4, Tryd.ntmps4
    go_wp2_with fail
    refine HW.out.mono ?_
    rintro e w1 ⟨rfl, k1⟩
    have K1 := Lib.hid (HBA.out.2.trans k1)
    have B1 := Lib.hid (k1.blk HBA.out.1 (by simp))
    have d0 := B1.out.get (k := 0) rfl
    have d1 := B1.out.get (k := 1) rfl
    clear k1 HW HBA
    go_wp2_with fail
    generalize w.heap.size = nb at B1 d0 d1
    clear d0 d1
    go_loopg [7] L.length (fun g i wr => ∃ k : Nat, i = .int .i64 k ∧ k ≤ L.length ∧ g = L.length - k ∧ w1 = wr ∧ Hid (∀ x ∈ L.take k, x.name.length ≤ 8192 ∧ x.value.length ≤ 8192))
    case atStart => exact ⟨0, rfl, by omega, by omega, rfl, Lib.hid (by simp)⟩
    case round =>
      obtain ⟨k, rfl, hk, rfl, rfl, HE⟩ := hrel
      by_cases hlt : k < L.length
      · obtain ⟨x, hx⟩ : ∃ x, L[k]? = some x := ⟨_, List.getElem?_eq_getElem hlt⟩
        obtain ⟨x1, x2⟩ := HG.out x (List.mem_of_getElem? hx)
        have x1' : x.name.length ≤ 9223372036854775807 := x1
        have x2' : x.value.length ≤ 9223372036854775807 := x2
        have s1 := S_size x.name
        have s2 := S_size x.value
        obtain ⟨ba, oa, ca', hva, _, hca, hcell⟩ := (HA.out.keep0 Fld.cells_length (by omega) K1.out).cell hx
        cases hva
        have hc0 := hcell 0 (by omega)
        have hc1 := hcell 1 (by omega)
        simp only [Fld.cells, List.getElem?_cons_zero, List.getElem?_cons_succ, Nat.add_zero] at hc0 hc1
        have hca' : ca ≤ 9223372036854775807 := hca
        have HX := Lib.hid hx
        clear hcell hx hca x1 x2
        by_cases t1 : 8192 < x.name.length
        · go_wp2_with fail
          go_ret
          exact ⟨rfl, K1.out⟩
        · by_cases t2 : 8192 < x.value.length
          · go_wp2_with fail
            go_ret
            exact ⟨rfl, K1.out⟩
          · have HE2 := Lib.hid (small_next HX.out HE.out (by omega) (by omega))
            go_wp2_with fail
            go_roundg (L.length - (k + 1))
            case measure => omega
            case rel => exact ⟨k + 1, by go_num, by omega, rfl, rfl, HE2⟩
      · have hsm := HE.out
        rw [List.take_of_length_le (by omega)] at hsm
        have hgs : L.length ≤ 32 → ∀ x ∈ L, x.name.length + x.value.length ≤ 1048576 := fun _ x hx => by have := hsm x hx; omega
        have HA1 := Lib.hid (fun w' (k : Keep [] w w') => outlet_Answer s _ L w' HS.out (HP.out.keep0 k) (HA.out.keep0 Fld.cells_length (by omega) k) hgs)
        have HA3 := Lib.hid (fun w' (k : Keep [] w w') => outlet_Ask m t _ L w' (HM.out.keep k (by simp)) (by omega) (HA.out.keep0 Fld.cells_length (by omega) k) hgs)
        have HR1 := Lib.hid (fun w' => outlet_Reason s w')
        have hge : ¬ (k : Int) < (L.length : Int) := by omega
        clear hsm hgs HE hlt hk
        by_cases hA : ansE s L = 0
        · obtain ⟨r1, r2, r3, r4, r5⟩ := ans_read [109, 111, 114, 101] hA
          have HS1 := Lib.hid (fun w' (k : Keep [] w w') => split_is HM.out k (by simp; omega) r1)
          have hcat : S (ansS s L) ++ (⟨#[109, 111, 114, 101]⟩ : ByteArray) = S (ansS s L ++ [109, 111, 114, 101]) := S_append _ [109, 111, 114, 101]
          have x9 : (S (stOf s)).extract 0 9 = S protSp := by rw [S_extract, List.drop_zero]; exact congrArg S r4
          have x13 : (S (stOf s)).extract 13 (stOf s).length = S (reasonM s) := by rw [S_extract, ← r5, List.take_of_length_le (Nat.le_refl _)]
          rw [hA] at HA1
          unfold fin at HA1
          generalize ansS s L = xs at *
          generalize stOf s = st2 at *
          generalize reasonM s = re at *
          have s2 := S_size xs
          have s3 := S_size st2
          have q4 := (nat_eq (show xs.length = xs.length from rfl)).2
          have q5 := S_toList protSp
          have q6 : (protSp == [72, 84, 84, 80, 47, 49, 46, 49, 32]) = true := by decide
          have q7 := S_toList re
          have q8 : (re == re) = true := by simp
          have i1 : decide (((st2.length : Nat) : Int) < 13) = false := by simp; omega
          have i2 : (9 : Int) ≤ ((st2.length : Nat) : Int) := by omega
          have i3 : (13 : Int) ≤ ((st2.length : Nat) : Int) := by omega
          have q9 : (protSp != [72, 84, 84, 80, 47, 49, 46, 49, 32]) = false := by decide
          have q10 : (re != re) = false := by simp
          clear r1 r4 r5 hA
          go_wp2_with fail
          refine (HA1.out _ K1.out).mono ?_
          rintro e w2 ⟨rfl, k2⟩
          have K2 := Lib.hid (K1.out.trans k2)
          have B2 := Lib.hid (k2.blk B1.out (by simp))
          clear k2
          go_wp2_with fail
          refine (HS1.out _ K2.out).mono ?_
          rintro e w3 ⟨v3, rfl, ho3, k3⟩
          have K3 := Lib.hid (K2.out.trans k3)
          have B3 := Lib.hid (k3.blk B2.out (by simp))
          have O3 := Lib.hid (ho3.sl Fld.cells_length)
          have A3 := Lib.hid (HA.out.keep0 Fld.cells_length (by omega) K3.out)
          clear k3 ho3
          go_upto_region 13 with fail
          go_cut [109] (fun v wx => v = .bool false ∧ Hid (Keep [] w wx) ∧ Hid (Blk wx nb 22 [.string (S m), .string (S t)]))
          case first =>
            have HSm := Lib.hid (fun n : Ext w3 => ref_Same _ _ _ _ (ext w3 n) (O3.out.keep0 Fld.cells_length (by omega) (ext_keep _ n)) (A3.out.keep0 Fld.cells_length (by omega) (ext_keep _ n)))
            have dT : decide (L = L) = true := by simp
            clear HS1 HA1 HA3
            refine wp_region_ext_lit (by kernel_rfl) (by kernel_rfl) ?_
            repeat (go_big_quiet_step (first | (go_at_call 22; exact Calls.quiet_ext (HSm.out _)) | (go_at_call 18; exact Calls.quiet_ext ((HR1.out _).mono fun _ _ hh => ⟨hh.1, hh.2 ▸ Keep.refl _ _⟩))))
            refine wpQuiet_nil ?_
            intro _ hw'
            obtain ⟨nq, hw''⟩ := hw'
            subst hw''
            have K4 := Lib.hid (K3.out.trans (ext_keep _ nq))
            have B4 := Lib.hid ((ext_keep _ nq).blk B3.out (by simp))
            go_wp2_with fail
            go_meet
            exact ⟨rfl, K4, B4⟩
          case rest =>
            obtain ⟨rfl, KJ, BJ⟩ := hcut
            clear HS1 O3 A3 K3 B3 K2 B2 q4 q5 q6 q7 q8 hcat x9 x13 HA1 HR1
            by_cases hB : askE m t L = 0
            · obtain ⟨r1, r2, r3, r4⟩ := askE_read [109, 111, 114, 101] hB
              have HS3 := Lib.hid (fun w' (k : Keep [] w w') => split_is HM.out k (by simp; omega) r1)
              have HLn := Lib.hid (fun w' (k : Keep [] w w') => inlet_Line (askT m t) w' (HM.out.keep k (by simp)) (by omega))
              have hcat : S (askS m t L) ++ (⟨#[109, 111, 114, 101]⟩ : ByteArray) = S (askS m t L ++ [109, 111, 114, 101]) := S_append _ [109, 111, 114, 101]
              rw [r4] at HLn
              unfold Ln.out at HLn
              dsimp only at HLn
              rw [hB] at HA3
              unfold fin at HA3
              generalize askS m t L = ys at *
              generalize askT m t = sa at *
              have s4 := S_size ys
              have s5 := S_size sa
              have q4 := (nat_eq (show ys.length = ys.length from rfl)).2
              have q5 := S_toList m
              have q6 := S_toList t
              have q7 : (m == m) = true := by simp
              have q8 : (t == t) = true := by simp
              clear r1 r4 hB
              have d0 := BJ.out.get (k := 0) rfl
              have d1 := BJ.out.get (k := 1) rfl
              go_wp2_with fail
              refine (HA3.out _ KJ.out).mono ?_
              rintro e w4 ⟨rfl, k4⟩
              have K4 := Lib.hid (KJ.out.trans k4)
              have B4 := Lib.hid (k4.blk BJ.out (by simp))
              clear k4 d0 d1
              go_wp2_with fail
              refine (HS3.out _ K4.out).mono ?_
              rintro e w5 ⟨v5, rfl, ho5, k5⟩
              have K5 := Lib.hid (K4.out.trans k5)
              have B5 := Lib.hid (k5.blk B4.out (by simp))
              have O5 := Lib.hid ho5
              clear k5 ho5
              go_wp2_with fail
              refine (HLn.out _ K5.out).mono ?_
              rintro e w6 ⟨rfl, k6⟩
              have K6 := Lib.hid (K5.out.trans k6)
              have B6 := Lib.hid (k6.blk B5.out (by simp))
              have O6 := Lib.hid ((O5.out.keep0 k6).sl Fld.cells_length)
              have A6 := Lib.hid (HA.out.keep0 Fld.cells_length (by omega) K6.out)
              clear k6
              go_wp2_with fail
              refine (ref_Same _ _ _ _ _ O6.out A6.out).mono ?_
              rintro e w7 ⟨rfl, k7⟩
              have K7 := Lib.hid (K6.out.trans k7)
              have B7 := k7.blk B6.out (by simp)
              have d0 := B7.get (k := 0) rfl
              have d1 := B7.get (k := 1) rfl
              clear k7 B7
              go_wp2_with fail
              go_ret
              exact ⟨rfl, K7.out⟩
            · have q2 := (int_ne hB).1
              unfold fin at HA3
              generalize askS m t L = ys at *
              generalize askE m t L = ye at *
              clear hB
              have d0 := BJ.out.get (k := 0) rfl
              have d1 := BJ.out.get (k := 1) rfl
              go_wp2_with fail
              refine (HA3.out _ KJ.out).mono ?_
              rintro e w4 ⟨rfl, k4⟩
              have K4 := Lib.hid (KJ.out.trans k4)
              have B4 := Lib.hid (k4.blk BJ.out (by simp))
              clear k4 d0 d1
              go_wp2_with fail
              go_ret
              exact ⟨rfl, K4.out⟩
        · have q1 := (int_ne hA).1
          unfold fin at HA1
          generalize ansS s L = xs at *
          generalize ansE s L = xe at *
          clear hA
          go_wp2_with fail
          refine (HA1.out _ K1.out).mono ?_
          rintro e w2 ⟨rfl, k2⟩
          have KJ := Lib.hid (K1.out.trans k2)
          have BJ := Lib.hid (k2.blk B1.out (by simp))
          clear k2
          by_cases hB : askE m t L = 0
          · obtain ⟨r1, r2, r3, r4⟩ := askE_read [109, 111, 114, 101] hB
            have HS3 := Lib.hid (fun w' (k : Keep [] w w') => split_is HM.out k (by simp; omega) r1)
            have HLn := Lib.hid (fun w' (k : Keep [] w w') => inlet_Line (askT m t) w' (HM.out.keep k (by simp)) (by omega))
            have hcat : S (askS m t L) ++ (⟨#[109, 111, 114, 101]⟩ : ByteArray) = S (askS m t L ++ [109, 111, 114, 101]) := S_append _ [109, 111, 114, 101]
            rw [r4] at HLn
            unfold Ln.out at HLn
            dsimp only at HLn
            rw [hB] at HA3
            unfold fin at HA3
            generalize askS m t L = ys at *
            generalize askT m t = sa at *
            have s4 := S_size ys
            have s5 := S_size sa
            have q4 := (nat_eq (show ys.length = ys.length from rfl)).2
            have q5 := S_toList m
            have q6 := S_toList t
            have q7 : (m == m) = true := by simp
            have q8 : (t == t) = true := by simp
            clear r1 r4 hB
            have d0 := BJ.out.get (k := 0) rfl
            have d1 := BJ.out.get (k := 1) rfl
            go_wp2_with fail
            refine (HA3.out _ KJ.out).mono ?_
            rintro e w4 ⟨rfl, k4⟩
            have K4 := Lib.hid (KJ.out.trans k4)
            have B4 := Lib.hid (k4.blk BJ.out (by simp))
            clear k4 d0 d1
            go_wp2_with fail
            refine (HS3.out _ K4.out).mono ?_
            rintro e w5 ⟨v5, rfl, ho5, k5⟩
            have K5 := Lib.hid (K4.out.trans k5)
            have B5 := Lib.hid (k5.blk B4.out (by simp))
            have O5 := Lib.hid ho5
            clear k5 ho5
            go_wp2_with fail
            refine (HLn.out _ K5.out).mono ?_
            rintro e w6 ⟨rfl, k6⟩
            have K6 := Lib.hid (K5.out.trans k6)
            have B6 := Lib.hid (k6.blk B5.out (by simp))
            have O6 := Lib.hid ((O5.out.keep0 k6).sl Fld.cells_length)
            have A6 := Lib.hid (HA.out.keep0 Fld.cells_length (by omega) K6.out)
            clear k6
            go_wp2_with fail
            refine (ref_Same _ _ _ _ _ O6.out A6.out).mono ?_
            rintro e w7 ⟨rfl, k7⟩
            have K7 := Lib.hid (K6.out.trans k7)
            have B7 := k7.blk B6.out (by simp)
            have d0 := B7.get (k := 0) rfl
            have d1 := B7.get (k := 1) rfl
            clear k7 B7
            go_wp2_with fail
            go_ret
            exact ⟨rfl, K7.out⟩
          · have q2 := (int_ne hB).1
            unfold fin at HA3
            generalize askS m t L = ys at *
            generalize askE m t L = ye at *
            clear hB
            have d0 := BJ.out.get (k := 0) rfl
            have d1 := BJ.out.get (k := 1) rfl
            go_wp2_with fail
            refine (HA3.out _ KJ.out).mono ?_
            rintro e w4 ⟨rfl, k4⟩
            have K4 := Lib.hid (KJ.out.trans k4)
            have B4 := Lib.hid (k4.blk BJ.out (by simp))
            clear k4 d0 d1
            go_wp2_with fail
            go_ret
            exact ⟨rfl, K4.out⟩
end Go.Proofs.YtmfnciocnlmceaaDoor

/- An argument that is an array of two strings, opened. No conditions. -/
namespace Go.Proofs.YtmfnciocnlmceaaDoor
open Go.ChangeShapes Go.WideShapes Go.ChangeAt Go.RowKit

theorem okWide_arrayS {P : Program} {w : World} {r : Reach} {base : Nat} {t : TypeId} {v : Value} {n : Nat} {e : TypeId} (ht : P.underlying t = some (.array n e)) (h : Value.okWide P w r base t v) : ∃ cs, v = .agg cs ∧ cs.size = P.cellsOf t := by
  simp only [Value.okWide, ht] at h
  obtain ⟨cs, h1, h2, _⟩ := h
  exact ⟨cs, h1, h2⟩
theorem read_arrS {H : Type} {enc : TypeId × Value → H} {P : Program} {w : World} {base : Nat} {spare : Nat → Bool} {held : Bool}
    {t e : TypeId} {v : Value} {d : DataW H} {ps : List MemPlace} (ht : P.underlying t = some (.array 2 e)) (he : P.underlying e = some .string) (hc : P.cellsOf e = 1) (hct : P.cellsOf t = 2)
    (h : DataW.Trod enc P w base spare held t v d ps) (hv : ∃ cs, v = .agg cs ∧ cs.size = P.cellsOf t) : ∃ a b : List UInt8, v = .agg #[.string (S a), .string (S b)] ∧ a.length ≤ maxLen ∧ b.length ≤ maxLen := by
  obtain ⟨fuel, hf⟩ := h
  obtain ⟨cs, rfl, _⟩ := hv
  obtain ⟨xs, m, _, _, hl, hn, hx⟩ := DataW.trod_array ht hf
  have hl' : cs.size = 2 := by simpa [Value.cells, hct] using hl
  obtain ⟨x0, y0⟩ : ∃ x, xs[0]? = some x := ⟨_, List.getElem?_eq_getElem (by omega)⟩
  obtain ⟨x1, y1⟩ : ∃ x, xs[1]? = some x := ⟨_, List.getElem?_eq_getElem (by omega)⟩
  have h0 := hx 0 (by omega)
  have h1 := hx 1 (by omega)
  rw [y0] at h0
  rw [y1] at h1
  obtain ⟨a, c0, _, la⟩ := DataW.trod_string he h0
  obtain ⟨b, c1, _, lb⟩ := DataW.trod_string he h1
  obtain ⟨l⟩ := cs
  rcases l with _ | ⟨p, _ | ⟨q, _ | ⟨s, l⟩⟩⟩
  · simp at hl'
  · simp at hl'
  · simp [Value.cells, hc] at c0 c1
    subst c0
    subst c1
    refine ⟨a.data.toList, b.data.toList, by rw [S_of, S_of], ?_, ?_⟩
    · rw [Array.length_toList]; exact la
    · rw [Array.length_toList]; exact lb
  · simp at hl'
end Go.Proofs.YtmfnciocnlmceaaDoor
