/- Layer 16: the document's Dec, Print, Read. No conditions but on lengths. -/
import Derived.Test.YthhnmfjfgbgjeaaDoorSl8
import Derived.Test.YthhnmfjfgbgjeaaDoorFldRf
namespace Go.Proofs.YthhnmfjfgbgjeaaDoor
open Go.RowKit Go.Shelf

theorem dig_cut16 {r : Nat} (h : r < 10) : (⟨#[48, 49, 50, 51, 52, 53, 54, 55, 56, 57, 97, 98, 99, 100, 101, 102]⟩ : ByteArray).extract r (r + 1) = S [UInt8.ofNat (48 + r)] := by
  have : ∀ r : Fin 10, (⟨#[48, 49, 50, 51, 52, 53, 54, 55, 56, 57, 97, 98, 99, 100, 101, 102]⟩ : ByteArray).extract r.1 (r.1 + 1) = S [UInt8.ofNat (48 + r.1)] := by decide +kernel
  exact this ⟨r, h⟩
def decP (n : Nat) : List UInt8 := if 0 < n then Lib.decDigits n else []
theorem decP_step (n : Nat) (h : 0 < n) : decP n = decP (n / 10) ++ [UInt8.ofNat (48 + n % 10)] := by
  have := decI_step false n (.inr h)
  unfold decI at this
  unfold decP
  simpa using this
theorem dec_first (n : Nat) : Lib.decDigits n = decP (n / 10) ++ [UInt8.ofNat (48 + n % 10)] := by
  have := decI_step true n (.inl rfl)
  unfold decI at this
  unfold decP
  simpa using this

set_option maxHeartbeats 2000000 in
theorem ref_Dec (m : Nat) (w : World) (hm : (m : Int) ≤ 9223372036854775807) : Calls Tryd.prog 25 #[.int .i64 (m : Nat)] w fun e w' => e = .returned (.string (S (Lib.decDigits m))) ∧ w' = w := by
  have hlen : (Lib.decDigits m).length ≤ 21 := by rw [← Lib.itoa_nonneg]; exact itoa_len _ ⟨by omega, by omega⟩
  have hf := dec_first m
  have hmd := nat_mod m
  have hdv := nat_div m
  have hr10 : m % 10 < 10 := Nat.mod_lt _ (by omega)
  have hcut := dig_cut16 hr10
  have hq : m / 10 ≤ m := Nat.div_le_self _ _
  have hneg : ((m : Int) == -9223372036854775808) = false := beq_eq_false_iff_ne.2 (by omega)
  have hlz : decide ((m : Int) < 0) = false := decide_eq_false (by omega)
  generalize hL : Lib.decDigits m = L at hf hlen ⊢
  generalize m % 10 = r0 at *
  generalize m / 10 = q0 at *
  have hw0 := IntWalk.i64_in ((r0 : Int) + 1) (by omega)
  have htn0 : ((r0 : Int) + 1).toNat = r0 + 1 := by omega
  have hr00 : (0 : Int) ≤ (r0 : Int) := by omega
  have hr01 : (r0 : Int) + 1 ≤ 16 := by omega
  have hr02 : (r0 : Int) ≤ (r0 : Int) + 1 := by omega
  generalize UInt8.ofNat (48 + r0) = dg0 at *
  have HF := Lib.hid hf
  have HLL := Lib.hid hlen
  clear hf hL hlen
  go_enter Tryd.func25, Tryd.ntmps25
  go_wp2_with fail
  go_loopg [0, 3] q0 (fun g s0 s3 wr => ∃ (n : Nat) (acc : List UInt8), s0 = .int .i64 n ∧ s3 = .string (S acc) ∧ g = n ∧ (n : Int) ≤ 9223372036854775807 ∧ wr = w ∧ Hid (L = decP n ++ acc))
  case atStart => exact ⟨q0, _, rfl, rfl, rfl, by omega, rfl, HF⟩
  case round =>
    obtain ⟨n, acc, rfl, rfl, hg, hn, rfl, HI⟩ := hrel
    clear hmd hdv hcut hw0 htn0 hr00 hr01 hr02 HF hneg hlz
    by_cases hgo : 0 < n
    · have hI := HI.out
      rw [decP_step n hgo, List.append_assoc, List.singleton_append] at hI
      have hl2 := congrArg List.length hI
      simp only [List.length_append, List.length_cons] at hl2
      have hll := HLL.out
      have hmd := nat_mod n
      have hdv := nat_div n
      have hr10 : n % 10 < 10 := Nat.mod_lt _ (by omega)
      have hcut := dig_cut16 hr10
      have hap : S [UInt8.ofNat (48 + n % 10)] ++ S acc = S (UInt8.ofNat (48 + n % 10) :: acc) := S_append _ _
      have hq2 : n / 10 < n := Nat.div_lt_self hgo (by omega)
      have hn1 : decide ((n : Int) > 0) = true := by simp; omega
      have HN := Lib.hid hI
      clear hI HI
      generalize n % 10 = r at *
      generalize n / 10 = q at *
      have hs1 := S_size acc
      have hs2 := S_size [UInt8.ofNat (48 + r)]
      generalize UInt8.ofNat (48 + r) = dg at *
      simp only [List.length_singleton] at hs2
      have hw := IntWalk.i64_in ((r : Int) + 1) (by omega)
      have htn : ((r : Int) + 1).toNat = r + 1 := by omega
      have hr0 : (0 : Int) ≤ (r : Int) := by omega
      have hr1 : (r : Int) + 1 ≤ 16 := by omega
      have hr2 : (r : Int) ≤ (r : Int) + 1 := by omega
      go_wp2_with fail
      go_roundg q
      case measure => omega
      case rel => exact ⟨q, dg :: acc, rfl, rfl, rfl, by omega, rfl, HN⟩
    · have hn0 : n = 0 := by omega
      have hI := HI.out
      subst hn0
      rw [show decP 0 = [] from rfl, List.nil_append] at hI
      have HN := Lib.hid hI
      clear HI hI hgo
      go_wp2_with fail
      go_ret
      exact ⟨by rw [HN.out]; rfl, rfl⟩
theorem ref_DecI (n : Int) (w : World) (h0 : 0 ≤ n) (h1 : n ≤ 9223372036854775807) : Calls Tryd.prog 25 #[.int .i64 n] w fun e w' => e = .returned (.string (S (Lib.itoa n))) ∧ Keep [] w w' := by
  have := ref_Dec n.toNat w (by omega)
  rw [← Lib.itoa_nonneg, show ((n.toNat : Nat) : Int) = n by omega] at this
  exact this.mono fun e w' ⟨h, h2⟩ => ⟨h, by rw [h2]; exact Keep.refl _ _⟩
set_option maxRecDepth 100000 in
set_option maxHeartbeats 1000000 in
theorem ref16_Print (a b n : Int) (w : World) (ha : in64 a) (hb : in64 b) (hn : in64 n) : Calls Tryd.prog 21 #[.int .i64 a, .int .i64 b, .int .i64 n] w fun e w' => e = .returned (.tuple #[.string (S (prnS a b n)), .int .i64 (prnE a b n)]) ∧ Keep [] w w' := by
  have hE : prnE a b n = if prnOk a b n then 0 else 1 := rfl
  have hS : prnS a b n = if prnOk a b n then saidB ++ Lib.itoa a ++ [45] ++ Lib.itoa b ++ [47] ++ Lib.itoa n else [] := rfl
  have hO : prnOk a b n = (decide (0 ≤ a) && decide (a ≤ b) && decide (b < n) && decide (n ≤ 4611686018427387904)) := rfl
  generalize prnE a b n = pe at hE ⊢
  generalize prnS a b n = ps at hS ⊢
  generalize prnOk a b n = po at hE hS hO
  by_cases h1 : a < 0
  · have hp0 : po = false := by rw [hO]; simp; omega
    have HX := Lib.hid (And.intro (hE.trans (by rw [hp0]; try rfl)) (hS.trans (by rw [hp0]; try rfl)))
    clear hE hS hO hp0
    go_enter Tryd.func21, Tryd.ntmps21
    go_wp2_with fail
    go_ret2
    exact ⟨by rw [HX.out.1, HX.out.2]; rfl, Keep.refl _ _⟩
  · have h1' : decide (a < 0) = false := by simp; omega
    by_cases h2 : a > b
    · have hp0 : po = false := by rw [hO]; simp; omega
      have HX := Lib.hid (And.intro (hE.trans (by rw [hp0]; try rfl)) (hS.trans (by rw [hp0]; try rfl)))
      have h2' : decide (a > b) = true := by simp; omega
      clear hE hS hO hp0 h1 h2
      go_enter Tryd.func21, Tryd.ntmps21
      go_wp2_with fail
      go_ret2
      exact ⟨by rw [HX.out.1, HX.out.2]; rfl, Keep.refl _ _⟩
    · have h2' : decide (a > b) = false := by simp; omega
      by_cases h3 : b ≥ n
      · have hp0 : po = false := by rw [hO]; simp; omega
        have HX := Lib.hid (And.intro (hE.trans (by rw [hp0]; try rfl)) (hS.trans (by rw [hp0]; try rfl)))
        have h3' : decide (b ≥ n) = true := by simp; omega
        clear hE hS hO hp0 h1 h2 h3
        go_enter Tryd.func21, Tryd.ntmps21
        go_wp2_with fail
        go_ret2
        exact ⟨by rw [HX.out.1, HX.out.2]; rfl, Keep.refl _ _⟩
      · have h3' : decide (b ≥ n) = false := by simp; omega
        by_cases h4 : n > 4611686018427387904
        · have hp0 : po = false := by rw [hO]; simp; omega
          have HX := Lib.hid (And.intro (hE.trans (by rw [hp0]; try rfl)) (hS.trans (by rw [hp0]; try rfl)))
          have h4' : decide (n > 4611686018427387904) = true := by simp; omega
          clear hE hS hO hp0 h1 h2 h3 h4
          go_enter Tryd.func21, Tryd.ntmps21
          go_wp2_with fail
          go_ret2
          exact ⟨by rw [HX.out.1, HX.out.2]; rfl, Keep.refl _ _⟩
        · have h4' : decide (n > 4611686018427387904) = false := by simp; omega
          have hp1 : po = true := by rw [hO]; simp; omega
          rw [hp1, if_pos rfl] at hE hS
          have hDa := Lib.hid (fun w' (k : Keep [] w w') => ref_DecI a w' (by omega) (by omega))
          have hDb := Lib.hid (fun w' (k : Keep [] w w') => ref_DecI b w' (by omega) (by omega))
          have hDn := Lib.hid (fun w' (k : Keep [] w w') => ref_DecI n w' (by omega) (by omega))
          have la := itoa_len a ha
          have lb := itoa_len b hb
          have ln := itoa_len n hn
          generalize Lib.itoa a = ia at *
          generalize Lib.itoa b = ib at *
          generalize Lib.itoa n = ic at *
          have q1 : (⟨#[98, 121, 116, 101, 115, 32]⟩ : ByteArray) ++ S ia = S (saidB ++ ia) := S_append saidB ia
          have q2 : S (saidB ++ ia) ++ (⟨#[45]⟩ : ByteArray) = S (saidB ++ ia ++ [45]) := S_append _ [45]
          have q3 : S (saidB ++ ia ++ [45]) ++ S ib = S (saidB ++ ia ++ [45] ++ ib) := S_append _ _
          have q4 : S (saidB ++ ia ++ [45] ++ ib) ++ (⟨#[47]⟩ : ByteArray) = S (saidB ++ ia ++ [45] ++ ib ++ [47]) := S_append _ [47]
          have q5 : S (saidB ++ ia ++ [45] ++ ib ++ [47]) ++ S ic = S (saidB ++ ia ++ [45] ++ ib ++ [47] ++ ic) := S_append _ _
          rw [hE, hS]
          have t1 : (saidB ++ ia).length = 6 + ia.length := by simp [saidB]; omega
          have t2 : (saidB ++ ia ++ [45]).length = 7 + ia.length := by simp [saidB]; omega
          have t3 : (saidB ++ ia ++ [45] ++ ib).length = 7 + ia.length + ib.length := by simp [saidB]; omega
          have t4 : (saidB ++ ia ++ [45] ++ ib ++ [47]).length = 8 + ia.length + ib.length := by simp [saidB]; omega
          generalize saidB ++ ia ++ [45] ++ ib ++ [47] ++ ic = x5 at q5 ⊢
          generalize saidB ++ ia ++ [45] ++ ib ++ [47] = x4 at q4 q5 t4
          generalize saidB ++ ia ++ [45] ++ ib = x3 at q3 q4 t3
          generalize saidB ++ ia ++ [45] = x2 at q2 q3 t2
          generalize saidB ++ ia = x1 at q1 q2 t1
          have s1 := S_size ia
          have s2 := S_size ib
          have s3 := S_size ic
          have s4 := S_size x1
          have s5 := S_size x2
          have s6 := S_size x3
          have s7 := S_size x4
          clear hE hS hO hp1 h1 h2 h3 h4
          go_enter Tryd.func21, Tryd.ntmps21
          go_wp2_with fail
          refine (hDa.out _ (Keep.refl _ _)).mono ?_
          rintro e w1 ⟨rfl, k1⟩
          go_wp2_with fail
          refine (hDb.out _ k1).mono ?_
          rintro e w2 ⟨rfl, k2⟩
          have k12 := k1.trans k2
          clear k1 k2
          go_wp2_with fail
          refine (hDn.out _ k12).mono ?_
          rintro e w3 ⟨rfl, k3⟩
          go_wp2_with fail
          go_ret2
          exact ⟨rfl, k12.trans k3⟩
end Go.Proofs.YthhnmfjfgbgjeaaDoor
