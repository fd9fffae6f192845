/- Layer 16: what the statements are awake to; the statements' own decimal numbers. No conditions but on sizes. -/
import Derived.Test.YthhnmfjfgbgjeaaDoorHexD
import Derived.Deep.LoopGhost
namespace Go.Proofs.YthhnmfjfgbgjeaaDoor
open Go.RowKit Go.Shelf

theorem cut_by (a b : List UInt8) (c : UInt8) (h : c ∉ a) : Lib.cut (a ++ c :: b) [c] = (a, b, true) := by
  unfold Lib.cut
  have hi : Lib.index (a ++ c :: b) [c] = (a.length : Int) := by
    rw [Lib.index_one]
    refine indexByte_at (by simp) (fun j hj => ?_)
    rw [List.getElem?_append_left hj]
    intro e
    exact h (List.mem_of_getElem? e)
  rw [hi, if_pos (by omega)]
  simp
theorem dec_no (u : Nat) {c : UInt8} (h : decB c = false) : c ∉ Lib.decDigits u := fun hm => by
  have := List.all_eq_true.1 (dec_all u) c hm
  rw [h] at this
  cases this
theorem unit_pre {u : List UInt8} (h6 : u.length = 6) (hu : (u.zip unitB).all (fun p => unitOk p.2 p.1) = true) (r : List UInt8) : isUnitM (u ++ r) = true ∧ (u ++ r).drop 6 = r := by
  refine ⟨?_, by rw [List.drop_append_of_le_length (by omega), List.drop_of_length_le (by omega)]; rfl⟩
  unfold isUnitM
  have : (u ++ r).zip unitB = u.zip unitB := by
    have e : unitB = unitB ++ [] := (List.append_nil _).symm
    rw [e, List.zip_append (by rw [h6]; rfl), List.zip_nil_right]
    simp
  rw [this, hu]
  simp; omega
/-- what a Range of two numbers is -/
theorem bds_of {u a b : List UInt8} (h6 : u.length = 6) (hu : (u.zip unitB).all (fun p => unitOk p.2 p.1) = true) (ha : (45 : UInt8) ∉ a) :
    bdsM (u ++ (a ++ 45 :: b)) = ⟨numN a, numI a, numN b, numI b, true && numK a && numK b && (numI a || numI b) && !(numI a && numI b && decide (numN b < numN a))⟩ := by
  unfold bdsM
  obtain ⟨h1, h2⟩ := unit_pre h6 hu (a ++ 45 :: b)
  rw [if_pos h1]
  simp only [h2, cut_by a b 45 ha]
theorem ask_get (l : List UInt8) : getV [⟨rangeB, l⟩] rangeB = l ∧ getN [⟨rangeB, l⟩] rangeB = 1 := by
  have : getS [⟨rangeB, l⟩] rangeB = [⟨rangeB, l⟩] := by
    unfold getS
    rw [List.filter_cons_of_pos (by simp [sameN]), List.filter_nil]
  unfold getV getN
  rw [this]
  exact ⟨rfl, rfl⟩
theorem ask_parse (l : List UInt8) (size : Int) : parseM [⟨rangeB, l⟩] size = prtM 1 (bdsM l) size := by
  unfold parseM
  rw [(ask_get l).1, (ask_get l).2]
  rfl

set_option maxHeartbeats 1000000 in
theorem law_ask (l : List UInt8) (w : World) : Calls Tryd.prog 10 #[.string (S l)] w fun e w' => ∃ v, e = .returned v ∧ Sl Fld.cells 2 w' v [⟨rangeB, l⟩] ∧ Keep [] w w' := by
  have hb := Blk.newA w #[.string (S rangeB), .string (S l)] 32
  have hk := (Keep.refl [] w).alloc (.cells #[.string (S rangeB), .string (S l)] 32)
  change Keep [] w (w.alloc (.cells #[.string ⟨#[82, 97, 110, 103, 101]⟩, .string (S l)] 32)) at hk
  change Blk (w.alloc (.cells #[.string ⟨#[82, 97, 110, 103, 101]⟩, .string (S l)] 32)) w.heap.size 32 [.string (S rangeB), .string (S l)] at hb
  go_enter Tryd.func10, Tryd.ntmps10
  go_wp2_with fail
  go_ret
  refine ⟨_, rfl, .inr ⟨w.heap.size, 0, 1, rfl, Nat.le_refl _, by decide, fun i x hx k hk2 => ?_⟩, hk⟩
  cases i with
  | zero =>
    simp at hx
    subst hx
    have := hb.cell k
    rw [show 0 + 0 * 2 + k = k by omega]
    exact this
  | succ i => simp at hx

/-- ask, and then Parse -/
theorem ask_Parse (l : List UInt8) (size : Int) (v : Value) (w : World) (hv : Sl Fld.cells 2 w v [⟨rangeB, l⟩]) (hm : ML w) (hl : l.length ≤ 1048576) (hs : in64 size) (r : Prt) (hr : prtM 1 (bdsM l) size = r) :
    Calls Tryd.prog 9 #[v, .int .i64 size] w fun e w' => e = .returned (.tuple #[.int .i64 r.kind, .int .i64 r.a, .int .i64 r.b]) ∧ Keep [] w w' := by
  have := slice_Parse v [⟨rangeB, l⟩] size w hv (by intro x hx; simp at hx; subst hx; show (5 : Nat) ≤ 9223372036854775807; omega) hm (by rw [(ask_get l).1]; exact hl) hs
  rw [ask_parse, hr] at this
  exact this

theorem nat_mod (n : Nat) : ((n : Int)).tmod 10 = ((n % 10 : Nat) : Int) := by rw [Int.tmod_eq_emod_of_nonneg (by omega)]; omega
theorem nat_div (n : Nat) : ((n : Int)).tdiv 10 = ((n / 10 : Nat) : Int) := by rw [Int.tdiv_eq_ediv_of_nonneg (by omega)]; omega
theorem dig_cut {r : Nat} (h : r < 10) : (⟨#[48, 49, 50, 51, 52, 53, 54, 55, 56, 57]⟩ : ByteArray).extract r (r + 1) = S [UInt8.ofNat (48 + r)] := by
  have : ∀ r : Fin 10, (⟨#[48, 49, 50, 51, 52, 53, 54, 55, 56, 57]⟩ : ByteArray).extract r.1 (r.1 + 1) = S [UInt8.ofNat (48 + r.1)] := by decide +kernel
  exact this ⟨r, h⟩
def decI (first : Bool) (n : Nat) : List UInt8 := if first = true ∨ 0 < n then Lib.decDigits n else []
theorem decI_step (first : Bool) (n : Nat) (h : first = true ∨ 0 < n) : decI first n = decI false (n / 10) ++ [UInt8.ofNat (48 + n % 10)] := by
  unfold decI
  rw [if_pos h]
  by_cases h1 : n < 10
  · rw [dec_small h1, if_neg (by simp; omega), Nat.mod_eq_of_lt h1]; rfl
  · rw [dec_big h1, if_pos (by right; omega)]

set_option maxHeartbeats 2000000 in
theorem law_dec (m : Nat) (w : World) (hm : (m : Int) ≤ 4611686018427387904) : Calls Tryd.prog 11 #[.int .i64 (m : Nat)] w fun e w' => e = .returned (.string (S (Lib.decDigits m))) ∧ w' = w := by
  have hlen : (Lib.decDigits m).length ≤ 21 := by rw [← Lib.itoa_nonneg]; exact itoa_len _ ⟨by omega, by omega⟩
  go_enter Tryd.func11, Tryd.ntmps11
  go_wp2_with fail
  go_loopg [0, 3, 4] (m + 1) (fun g s0 s3 s4 wr => ∃ (n : Nat) (acc : List UInt8) (first : Bool), s0 = .int .i64 n ∧ s3 = .string (S acc) ∧ s4 = .bool first ∧ g = n + (if first then 1 else 0) ∧ (n : Int) ≤ 4611686018427387904 ∧ wr = w ∧ Hid (Lib.decDigits m = decI first n ++ acc))
  case atStart => exact ⟨m, [], true, rfl, rfl, rfl, by simp, hm, rfl, Lib.hid (by simp [decI])⟩
  case round =>
    obtain ⟨n, acc, first, rfl, rfl, rfl, hg, hn, rfl, HI⟩ := hrel
    by_cases hgo : first = true ∨ 0 < n
    · have hstep := decI_step first n hgo
      have hI := HI.out
      rw [hstep, List.append_assoc, List.singleton_append] at hI
      have hl2 := congrArg List.length hI
      simp only [List.length_append, List.length_cons] at hl2
      have hmd := nat_mod n
      have hdv := nat_div n
      have hr10 : n % 10 < 10 := Nat.mod_lt _ (by omega)
      have hcut := dig_cut hr10
      have hap : S [UInt8.ofNat (48 + n % 10)] ++ S acc = S (UInt8.ofNat (48 + n % 10) :: acc) := S_append _ _
      have hq : n / 10 ≤ n := Nat.div_le_self _ _
      have hq2 : 0 < n → n / 10 < n := fun h => Nat.div_lt_self h (by omega)
      have HN := Lib.hid hI
      clear hI hstep HI
      generalize n % 10 = r at *
      generalize n / 10 = q at *
      have hs1 := S_size acc
      have hs2 := S_size [UInt8.ofNat (48 + r)]
      generalize UInt8.ofNat (48 + r) = dg at *
      simp only [List.length_singleton] at hs2
      have hw := IntWalk.i64_in ((r : Int) + 1) (by omega)
      have htn : ((r : Int) + 1).toNat = r + 1 := by omega
      have hr0 : (0 : Int) ≤ (r : Int) := by omega
      have hr1 : (r : Int) + 1 ≤ 10 := by omega
      have hr2 : (r : Int) ≤ (r : Int) + 1 := by omega
      cases first with
      | true =>
        go_wp2_with fail
        go_roundg (q + 0)
        case measure => simp at hg; omega
        case rel => exact ⟨q, dg :: acc, false, rfl, rfl, rfl, rfl, by omega, rfl, HN⟩
      | false =>
        have hn0 : 0 < n := by simpa using hgo
        have hn1 : decide ((n : Int) > 0) = true := by simp; omega
        go_wp2_with fail
        go_roundg (q + 0)
        case measure => have := hq2 hn0; simp at hg; omega
        case rel => exact ⟨q, dg :: acc, false, rfl, rfl, rfl, rfl, by omega, rfl, HN⟩
    · have hf : first = false := by cases first <;> simp_all
      have hn0 : n = 0 := by omega
      have hI := HI.out
      subst hf
      subst hn0
      have hd : decI false 0 = [] := rfl
      rw [hd, List.nil_append] at hI
      have HN := Lib.hid hI
      clear HI hI hgo hlen
      go_wp2_with fail
      go_ret
      exact ⟨by rw [HN.out]; rfl, rfl⟩
end Go.Proofs.YthhnmfjfgbgjeaaDoor
