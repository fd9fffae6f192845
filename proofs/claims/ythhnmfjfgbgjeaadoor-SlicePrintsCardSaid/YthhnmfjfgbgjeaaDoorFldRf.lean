/- Layers 1 and 10: the document's Undec and Frame. No conditions but on lengths. -/
import Derived.Test.YthhnmfjfgbgjeaaDoorFldFr
import Derived.Test.YthhnmfjfgbgjeaaDoorFldH
namespace Go.Proofs.YthhnmfjfgbgjeaaDoor
open Go.RowKit Go.Shelf

theorem digV_dec {c : UInt8} (h : 48 ≤ c.toNat ∧ c.toNat ≤ 57) : digV c = (c.toNat : Int) - 48 := by
  unfold digV
  rw [if_pos h]
/-- where the document's loop over digits stands -/
def UStage (l : List UInt8) (k : Nat) (n : Int) (b : Bool) : Prop :=
  (l.take k).all decB = true ∧ 0 ≤ n ∧ n ≤ 4611686018427387913 ∧ ((b = true ∧ gatherM 10 l 0 = none) ∨ (b = false ∧ ((gatherM 10 l 0 = gatherM 10 (l.drop k) n ∧ n ≤ 4611686018427387904) ∨ (gatherM 10 l 0 = none ∧ 4611686018427387904 < n))))

set_option maxRecDepth 100000 in
set_option maxHeartbeats 1000000 in
theorem ref_Undec (l : List UInt8) (most : Int) (w : World) (hs : l.length ≤ maxLen) :
    Calls Tryd.prog 39 #[.string (S l), .int .i64 most] w fun e w' => e = .returned (.tuple #[.int .i64 (undecV l most), .int .i64 (undecE l most)]) ∧ w = w' := by
  have hs' : l.length ≤ 9223372036854775807 := hs
  have hsz := S_size l
  have hV : undecV l most = if isDecM l then boundV 10 l most else 0 := rfl
  have hE : undecE l most = if isDecM l then boundE 10 l most else 3 := rfl
  have hD : isDecM l = (l.all decB && !l.isEmpty && (decide (l.length = 1) || decide (l.head? ≠ some 48))) := rfl
  generalize undecV l most = v at hV
  generalize undecE l most = e0 at hE
  clear hs
  by_cases hnil : l = []
  · subst hnil
    have q0 : (S []).toList = [] := S_toList []
    have HV : Hid (v = 0) := by rw [Hid, hV, hD]; rfl
    have HE : Hid (e0 = 3) := by rw [Hid, hE, hD]; rfl
    clear hV hE hD
    go_enter Tryd.func39, Tryd.ntmps39
    go_wp2_with fail
    go_ret2
    exact ⟨two_ret HV.out.symm HE.out.symm, rfl⟩
  · have hlen : 0 < l.length := List.length_pos_iff.2 hnil
    obtain ⟨b0, hg0⟩ : ∃ c, l[0]? = some c := ⟨_, List.getElem?_eq_getElem hlen⟩
    have q0 := S_toList l
    have q1 := S_get hg0
    have hb8 := u8_nat b0
    have hie : l.isEmpty = false := isEmpty_false hnil
    have hq0 : 0 < l.length := hlen
    have hhd : l.head? = some b0 := by rw [List.head?_eq_getElem?]; exact hg0
    rw [hie, hhd] at hD
    clear hnil hg0
    by_cases hz : 1 < l.length ∧ b0.toNat = 48
    · obtain ⟨hz1, hz2⟩ := hz
      have hb : b0 = 48 := UInt8.toNat_inj.1 hz2
      have HD : isDecM l = false := by rw [hD, hb]; simp; intro _; omega
      have HV : Hid (v = 0) := by rw [Hid, hV, HD]; rfl
      have HE : Hid (e0 = 3) := by rw [Hid, hE, HD]; rfl
      obtain ⟨z1, z2⟩ := int_eq (show ((b0.toNat : Nat) : Int) = 48 by omega)
      have hz1' : (1 : Int) < (l.length : Int) := by omega
      clear hV hE hD hhd HD hb hz2 hz1
      go_enter Tryd.func39, Tryd.ntmps39
      go_wp2_with fail
      go_ret2
      exact ⟨two_ret HV.out.symm HE.out.symm, rfl⟩
    · have hdec : l.all decB = true → isDecM l = true := fun h => by
        rw [hD, h]
        by_cases h1 : l.length = 1
        · simp [h1]
        · have : b0 ≠ 48 := fun e => hz ⟨by omega, by rw [e]; rfl⟩
          simp [this]
      have hnodec : l.all decB = false → isDecM l = false := fun h => by rw [hD, h]; simp
      have HY := Lib.hid (fun h => (show v = boundV 10 l most ∧ e0 = boundE 10 l most by rw [hV, hE, hdec h]; exact ⟨rfl, rfl⟩))
      have HN := Lib.hid (fun h => (show v = 0 ∧ e0 = 3 by rw [hV, hE, hnodec h]; exact ⟨rfl, rfl⟩))
      have hU0 : UStage l 0 0 false := ⟨rfl, by omega, by omega, .inr ⟨rfl, .inl ⟨by rw [List.drop_zero], by omega⟩⟩⟩
      have HU0 := Lib.hid hU0
      have hcase : (l.length = 1) ∨ (1 < l.length ∧ b0.toNat ≠ 48) := by
        by_cases h1 : l.length = 1
        · exact .inl h1
        · exact .inr ⟨by omega, fun e => hz ⟨by omega, e⟩⟩
      clear hV hE hD hhd hdec hnodec hU0 hz
      rcases hcase with h1 | ⟨h1, h48⟩
      · have y1 : ¬ (1 : Int) < (l.length : Int) := by omega
        go_enter Tryd.func39, Tryd.ntmps39
        go_wp2_with fail
        go_loopg [6, 7, 8] l.length (fun g nv gv i wr => ∃ (k : Nat) (n : Int) (b : Bool), i = .int .i64 k ∧ nv = .int .i64 n ∧ gv = .bool b ∧ k ≤ l.length ∧ g = l.length - k ∧ 0 ≤ n ∧ n ≤ 4611686018427387913 ∧ w = wr ∧ Hid (UStage l k n b))
        case atStart => exact ⟨0, 0, false, rfl, rfl, rfl, by omega, by omega, by omega, by omega, rfl, HU0⟩
        case round =>
          obtain ⟨k, n, b, rfl, rfl, rfl, hk, rfl, n0, n1, rfl, HS⟩ := hrel
          clear q0 q1 hb8 hq0 hie y1
          by_cases hlt : k < l.length
          · obtain ⟨c, hg⟩ : ∃ c, l[k]? = some c := ⟨_, List.getElem?_eq_getElem hlt⟩
            have hc8 := u8_nat c
            have hget := S_get hg
            by_cases hd : 48 ≤ c.toNat ∧ c.toNat ≤ 57
            · have hall : (l.take (k + 1)).all decB = true := by
                rw [take_snoc hg, List.all_append, HS.out.1]
                simp [decB, hd]
              obtain ⟨_, _, _, hst⟩ := HS.out
              rw [drop_at hg] at hst
              have hgm : gatherM 10 (c :: l.drop (k + 1)) n = if n * 10 + ((c.toNat : Int) - 48) ≤ 4611686018427387904 then gatherM 10 (l.drop (k + 1)) (n * 10 + ((c.toNat : Int) - 48)) else none := by
                conv => lhs; unfold gatherM
                rw [digV_dec hd]
              rw [hgm] at hst
              obtain ⟨d1, d2⟩ := hd
              clear hg hgm
              cases b with
              | true =>
                have HS2 : Hid (UStage l (k + 1) n true) := by
                  refine ⟨hall, n0, n1, .inl ⟨rfl, ?_⟩⟩
                  rcases hst with h | h
                  · exact h.2
                  · exact absurd h.1 (by simp)
                clear hst hall HS
                go_wp2_with fail
                go_roundg (l.length - (k + 1))
                case measure => omega
                case rel => exact ⟨k + 1, n, true, by go_num, rfl, rfl, by omega, rfl, n0, n1, rfl, HS2⟩
              | false =>
                have hst2 : (gatherM 10 l 0 = (if n * 10 + ((c.toNat : Int) - 48) ≤ 4611686018427387904 then gatherM 10 (l.drop (k + 1)) (n * 10 + ((c.toNat : Int) - 48)) else none) ∧ n ≤ 4611686018427387904) ∨ (gatherM 10 l 0 = none ∧ 4611686018427387904 < n) := by
                  rcases hst with h | h
                  · exact absurd h.1 (by simp)
                  · exact h.2
                by_cases hgr : 461168601842738790 < n
                · have HS2 : Hid (UStage l (k + 1) n true) := by
                    refine ⟨hall, n0, n1, .inl ⟨rfl, ?_⟩⟩
                    rcases hst2 with h | h
                    · rw [h.1, if_neg (by omega)]
                    · exact h.1
                  clear hst hst2 hall HS
                  go_wp2_with fail
                  go_roundg (l.length - (k + 1))
                  case measure => omega
                  case rel => exact ⟨k + 1, n, true, by go_num, rfl, rfl, by omega, rfl, n0, n1, rfl, HS2⟩
                · have HS2 : Hid (UStage l (k + 1) (n * 10 + ((c.toNat : Int) - 48)) false) := by
                    refine ⟨hall, by omega, by omega, .inr ⟨rfl, ?_⟩⟩
                    rcases hst2 with h | h
                    · by_cases hle : n * 10 + ((c.toNat : Int) - 48) ≤ 4611686018427387904
                      · rw [if_pos hle] at h; exact .inl ⟨h.1, hle⟩
                      · rw [if_neg hle] at h; exact .inr ⟨h.1, by omega⟩
                    · omega
                  have hm1 : n * 10 ≤ 4611686018427387900 := by omega
                  clear hst hst2 hall HS
                  go_wp2_with fail
                  go_roundg (l.length - (k + 1))
                  case measure => omega
                  case rel => exact ⟨k + 1, n * 10 + ((c.toNat : Int) - 48), false, by go_num, rfl, rfl, by omega, rfl, by omega, by omega, rfl, HS2⟩
            · have hno : l.all decB = false := by
                rw [List.all_eq_false]
                exact ⟨c, List.mem_of_getElem? hg, by simp [decB]; omega⟩
              have HF := Lib.hid (HN.out hno)
              clear hg hno HS
              by_cases h2 : c.toNat < 48
              · go_wp2_with fail
                go_ret2
                exact ⟨two_ret HF.out.1.symm HF.out.2.symm, rfl⟩
              · have h3 : 57 < c.toNat := by omega
                clear hd
                go_wp2_with fail
                go_ret2
                exact ⟨two_ret HF.out.1.symm HF.out.2.symm, rfl⟩
          · obtain ⟨hall, _, _, hst⟩ := HS.out
            rw [List.take_of_length_le (by omega)] at hall
            rw [List.drop_eq_nil_of_le (by omega), gatherM] at hst
            obtain ⟨hv, he⟩ := HY.out hall
            unfold boundV at hv
            unfold boundE at he
            cases b with
            | true =>
              have hg : gatherM 10 l 0 = none := by
                rcases hst with h | h
                · exact h.2
                · exact absurd h.1 (by simp)
              rw [hg] at hv he
              have HV := Lib.hid hv
              have HE := Lib.hid he
              clear hv he hg hst hall HS
              go_wp2_with fail
              go_ret2
              exact ⟨two_ret HV.out.symm HE.out.symm, rfl⟩
            | false =>
              have hst2 : (gatherM 10 l 0 = some n ∧ n ≤ 4611686018427387904) ∨ (gatherM 10 l 0 = none ∧ 4611686018427387904 < n) := by
                rcases hst with h | h
                · exact absurd h.1 (by simp)
                · exact h.2
              rcases hst2 with ⟨hg, hle⟩ | ⟨hg, hle⟩
              · rw [hg] at hv he
                dsimp only at hv he
                by_cases hmo : most < n
                · rw [if_pos hmo] at hv he
                  have HV := Lib.hid hv
                  have HE := Lib.hid he
                  clear hv he hg hst hall HS
                  go_wp2_with fail
                  go_ret2
                  exact ⟨two_ret HV.out.symm HE.out.symm, rfl⟩
                · rw [if_neg hmo] at hv he
                  have HV := Lib.hid hv
                  have HE := Lib.hid he
                  clear hv he hg hst hall HS
                  go_wp2_with fail
                  go_ret2
                  exact ⟨two_ret HV.out.symm HE.out.symm, rfl⟩
              · rw [hg] at hv he
                have HV := Lib.hid hv
                have HE := Lib.hid he
                clear hv he hg hst hall HS
                by_cases hmo : most < n
                all_goals
                  go_wp2_with fail
                  go_ret2
                  exact ⟨two_ret HV.out.symm HE.out.symm, rfl⟩
      · obtain ⟨y1, y2⟩ := int_ne (show ((b0.toNat : Nat) : Int) ≠ 48 by omega)
        have y3 : (1 : Int) < (l.length : Int) := by omega
        clear h48
        go_enter Tryd.func39, Tryd.ntmps39
        go_wp2_with fail
        go_loopg [6, 7, 8] l.length (fun g nv gv i wr => ∃ (k : Nat) (n : Int) (b : Bool), i = .int .i64 k ∧ nv = .int .i64 n ∧ gv = .bool b ∧ k ≤ l.length ∧ g = l.length - k ∧ 0 ≤ n ∧ n ≤ 4611686018427387913 ∧ w = wr ∧ Hid (UStage l k n b))
        case atStart => exact ⟨0, 0, false, rfl, rfl, rfl, by omega, by omega, by omega, by omega, rfl, HU0⟩
        case round =>
          obtain ⟨k, n, b, rfl, rfl, rfl, hk, rfl, n0, n1, rfl, HS⟩ := hrel
          clear q0 q1 hb8 hq0 hie y1 y2 y3
          by_cases hlt : k < l.length
          · obtain ⟨c, hg⟩ : ∃ c, l[k]? = some c := ⟨_, List.getElem?_eq_getElem hlt⟩
            have hc8 := u8_nat c
            have hget := S_get hg
            by_cases hd : 48 ≤ c.toNat ∧ c.toNat ≤ 57
            · have hall : (l.take (k + 1)).all decB = true := by
                rw [take_snoc hg, List.all_append, HS.out.1]
                simp [decB, hd]
              obtain ⟨_, _, _, hst⟩ := HS.out
              rw [drop_at hg] at hst
              have hgm : gatherM 10 (c :: l.drop (k + 1)) n = if n * 10 + ((c.toNat : Int) - 48) ≤ 4611686018427387904 then gatherM 10 (l.drop (k + 1)) (n * 10 + ((c.toNat : Int) - 48)) else none := by
                conv => lhs; unfold gatherM
                rw [digV_dec hd]
              rw [hgm] at hst
              obtain ⟨d1, d2⟩ := hd
              clear hg hgm
              cases b with
              | true =>
                have HS2 : Hid (UStage l (k + 1) n true) := by
                  refine ⟨hall, n0, n1, .inl ⟨rfl, ?_⟩⟩
                  rcases hst with h | h
                  · exact h.2
                  · exact absurd h.1 (by simp)
                clear hst hall HS
                go_wp2_with fail
                go_roundg (l.length - (k + 1))
                case measure => omega
                case rel => exact ⟨k + 1, n, true, by go_num, rfl, rfl, by omega, rfl, n0, n1, rfl, HS2⟩
              | false =>
                have hst2 : (gatherM 10 l 0 = (if n * 10 + ((c.toNat : Int) - 48) ≤ 4611686018427387904 then gatherM 10 (l.drop (k + 1)) (n * 10 + ((c.toNat : Int) - 48)) else none) ∧ n ≤ 4611686018427387904) ∨ (gatherM 10 l 0 = none ∧ 4611686018427387904 < n) := by
                  rcases hst with h | h
                  · exact absurd h.1 (by simp)
                  · exact h.2
                by_cases hgr : 461168601842738790 < n
                · have HS2 : Hid (UStage l (k + 1) n true) := by
                    refine ⟨hall, n0, n1, .inl ⟨rfl, ?_⟩⟩
                    rcases hst2 with h | h
                    · rw [h.1, if_neg (by omega)]
                    · exact h.1
                  clear hst hst2 hall HS
                  go_wp2_with fail
                  go_roundg (l.length - (k + 1))
                  case measure => omega
                  case rel => exact ⟨k + 1, n, true, by go_num, rfl, rfl, by omega, rfl, n0, n1, rfl, HS2⟩
                · have HS2 : Hid (UStage l (k + 1) (n * 10 + ((c.toNat : Int) - 48)) false) := by
                    refine ⟨hall, by omega, by omega, .inr ⟨rfl, ?_⟩⟩
                    rcases hst2 with h | h
                    · by_cases hle : n * 10 + ((c.toNat : Int) - 48) ≤ 4611686018427387904
                      · rw [if_pos hle] at h; exact .inl ⟨h.1, hle⟩
                      · rw [if_neg hle] at h; exact .inr ⟨h.1, by omega⟩
                    · omega
                  have hm1 : n * 10 ≤ 4611686018427387900 := by omega
                  clear hst hst2 hall HS
                  go_wp2_with fail
                  go_roundg (l.length - (k + 1))
                  case measure => omega
                  case rel => exact ⟨k + 1, n * 10 + ((c.toNat : Int) - 48), false, by go_num, rfl, rfl, by omega, rfl, by omega, by omega, rfl, HS2⟩
            · have hno : l.all decB = false := by
                rw [List.all_eq_false]
                exact ⟨c, List.mem_of_getElem? hg, by simp [decB]; omega⟩
              have HF := Lib.hid (HN.out hno)
              clear hg hno HS
              by_cases h2 : c.toNat < 48
              · go_wp2_with fail
                go_ret2
                exact ⟨two_ret HF.out.1.symm HF.out.2.symm, rfl⟩
              · have h3 : 57 < c.toNat := by omega
                clear hd
                go_wp2_with fail
                go_ret2
                exact ⟨two_ret HF.out.1.symm HF.out.2.symm, rfl⟩
          · obtain ⟨hall, _, _, hst⟩ := HS.out
            rw [List.take_of_length_le (by omega)] at hall
            rw [List.drop_eq_nil_of_le (by omega), gatherM] at hst
            obtain ⟨hv, he⟩ := HY.out hall
            unfold boundV at hv
            unfold boundE at he
            cases b with
            | true =>
              have hg : gatherM 10 l 0 = none := by
                rcases hst with h | h
                · exact h.2
                · exact absurd h.1 (by simp)
              rw [hg] at hv he
              have HV := Lib.hid hv
              have HE := Lib.hid he
              clear hv he hg hst hall HS
              go_wp2_with fail
              go_ret2
              exact ⟨two_ret HV.out.symm HE.out.symm, rfl⟩
            | false =>
              have hst2 : (gatherM 10 l 0 = some n ∧ n ≤ 4611686018427387904) ∨ (gatherM 10 l 0 = none ∧ 4611686018427387904 < n) := by
                rcases hst with h | h
                · exact absurd h.1 (by simp)
                · exact h.2
              rcases hst2 with ⟨hg, hle⟩ | ⟨hg, hle⟩
              · rw [hg] at hv he
                dsimp only at hv he
                by_cases hmo : most < n
                · rw [if_pos hmo] at hv he
                  have HV := Lib.hid hv
                  have HE := Lib.hid he
                  clear hv he hg hst hall HS
                  go_wp2_with fail
                  go_ret2
                  exact ⟨two_ret HV.out.symm HE.out.symm, rfl⟩
                · rw [if_neg hmo] at hv he
                  have HV := Lib.hid hv
                  have HE := Lib.hid he
                  clear hv he hg hst hall HS
                  go_wp2_with fail
                  go_ret2
                  exact ⟨two_ret HV.out.symm HE.out.symm, rfl⟩
              · rw [hg] at hv he
                have HV := Lib.hid hv
                have HE := Lib.hid he
                clear hv he hg hst hall HS
                by_cases hmo : most < n
                all_goals
                  go_wp2_with fail
                  go_ret2
                  exact ⟨two_ret HV.out.symm HE.out.symm, rfl⟩
end Go.Proofs.YthhnmfjfgbgjeaaDoor
