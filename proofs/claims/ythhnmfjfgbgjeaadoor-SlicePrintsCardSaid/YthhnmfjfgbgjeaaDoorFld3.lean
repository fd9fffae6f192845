/- Layer 10: low, Low: small letters. No conditions but on lengths. -/
import Derived.Test.YthhnmfjfgbgjeaaDoorFld2
namespace Go.Proofs.YthhnmfjfgbgjeaaDoor
open Go.RowKit Go.Shelf

/-- what stands in the bytes behind k rounds -/
def lowTo (l : List UInt8) (k : Nat) : List UInt8 := (l.take k).map lowB ++ l.drop k
theorem lowTo_length (l : List UInt8) (k : Nat) : (lowTo l k).length = l.length := by simp [lowTo]; omega
theorem lowTo_at {l : List UInt8} {k : Nat} {c : UInt8} (h : l[k]? = some c) : (lowTo l k)[k]? = some c := by
  have hlt := List.getElem?_eq_some_iff.1 h
  obtain ⟨hlt, _⟩ := hlt
  unfold lowTo
  rw [List.getElem?_append_right (by simp; omega)]
  simp
  rw [show k + (k - min k l.length) = k by omega]
  exact h
theorem lowTo_succ {l : List UInt8} {k : Nat} {c : UInt8} (h : l[k]? = some c) : lowTo l (k + 1) = (lowTo l k).set k (lowB c) := by
  have hlt := List.getElem?_eq_some_iff.1 h
  obtain ⟨hlt, hc⟩ := hlt
  unfold lowTo
  rw [take_snoc h, List.set_append_right _ _ (by simp; omega)]
  simp
  rw [show k - min k l.length = 0 by omega, List.drop_eq_getElem_cons hlt, hc]
  simp
theorem lowTo_end (l : List UInt8) : lowTo l l.length = lowW l := by simp [lowTo, lowW]
/-- the bytes l lie, writable, in block b -/
def Bytes (w : World) (b : Nat) (l : List UInt8) : Prop := (∀ (j : Nat) (c : UInt8), l[j]? = some c → w.cell? ⟨b, j, none⟩ = some (.int .u8 (c.toNat : Nat))) ∧ ∀ j, j < l.length → w.frozen? ⟨b, j, none⟩ = false
theorem Bytes.conv (w : World) (e : TypeId) (l : List UInt8) : Bytes (Lib.bytesWorld w e (S l)) w.heap.size l :=
  ⟨fun _ _ h => conv_at w e h, fun _ h => conv_free w e (S l) (by rw [S_size]; exact h)⟩
theorem Bytes.set {w : World} {b : Nat} {l : List UInt8} (h : Bytes w b l) (k : Nat) (hk : k < l.length) (c : UInt8) (v : Int) (hv : v = (c.toNat : Nat)) : Bytes (w.setCell ⟨b, k, none⟩ (.int .u8 v)) b (l.set k c) := by
  subst hv
  refine ⟨fun j d hd => ?_, fun j hj => ?_⟩
  · by_cases e : k = j
    · subst e
      simp [hk] at hd
      subst hd
      obtain ⟨x, hx⟩ : ∃ x, l[k]? = some x := ⟨_, List.getElem?_eq_getElem hk⟩
      exact World.cell?_setCell_same w _ _ (h.1 k x hx)
    · rw [World.cell?_setCell_other w _ _ _ (by intro h'; exact e (congrArg Addr.off h'))]
      rw [List.getElem?_set_ne e] at hd
      exact h.1 j d hd
  · rw [World.frozen?_setCell]
    exact h.2 j (by simpa using hj)
theorem Bytes.back {P : Program} {w : World} {b : Nat} {l : List UInt8} (h : Bytes w b l) (src dst e : TypeId) (n cap : Nat) (hn : n = l.length) (hs : P.underlying src = some (.slice e)) (he : P.underlying e = some (.int .u8)) (hd : P.underlying dst = some .string) :
    (convert src dst (.slice (some ⟨b, 0, none⟩) n cap)).run P w = .ok (.string (S l)) w := by
  subst hn
  refine run_convert_bytes_back w src dst e ⟨b, 0, none⟩ cap l hs he hd (fun j hj => ?_)
  have := h.1 j l[j] (List.getElem?_eq_getElem hj)
  have ha : (⟨b, 0, none⟩ : Addr).add j = ⟨b, j, none⟩ := by unfold Addr.add; split <;> simp_all
  rw [ha]
  exact this

set_option maxRecDepth 100000 in
set_option maxHeartbeats 400000 in
theorem field_low (l : List UInt8) (w : World) (hs : l.length ≤ maxLen) :
    Calls Tryd.prog 44 #[.string (S l)] w fun e w' => e = .returned (.string (S (lowW l))) ∧ Keep [] w w' := by
  have hs' : l.length ≤ 9223372036854775807 := hs
  have hcv := conv_run w (S l)
  have hby := Bytes.conv w 5 l
  have hkp := conv_keep w 5 (S l)
  have hsz := S_size l
  generalize Lib.bytesWorld w 5 (S l) = wb at hcv hby hkp
  generalize hX : w.heap.size = X at hcv hby
  have HX := Lib.hid hX
  clear hs hX
  go_enter Tryd.func44, Tryd.ntmps44
  go_wp2_with fail
  go_loopg [10] l.length (fun g i wr => ∃ k : Nat, i = .int .i64 k ∧ k ≤ l.length ∧ g = l.length - k ∧ Bytes wr X (lowTo l k) ∧ Keep [] w wr)
  case atStart => exact ⟨0, rfl, Nat.zero_le _, by omega, by simpa [lowTo] using hby, hkp⟩
  case round =>
    obtain ⟨k, rfl, hk, hgk, hbr, hkr⟩ := hrel
    by_cases hlt : k < l.length
    · obtain ⟨c, hg⟩ : ∃ c, l[k]? = some c := ⟨_, List.getElem?_eq_getElem hlt⟩
      have hc := hbr.1 k c (lowTo_at hg)
      have hf := hbr.2 k (by rw [lowTo_length]; exact hlt)
      have hc8 := u8_nat c
      have HG := Lib.hid hg
      have HB := Lib.hid hbr
      clear hg hbr hby hkp
      by_cases ht : 65 ≤ c.toNat ∧ c.toNat ≤ 90
      · obtain ⟨h1, h2⟩ := ht
        have hl : (lowB c).toNat = c.toNat + 32 := by
          unfold lowB
          rw [if_pos ⟨h1, h2⟩, UInt8.toNat_add]
          have : (32 : UInt8).toNat = 32 := rfl
          omega
        have HL := Lib.hid hl
        clear hl
        go_wp2_with fail
        go_roundg (l.length - (k + 1))
        case measure => omega
        case rel =>
          refine ⟨k + 1, by go_num, by omega, rfl, ?_, hkr.setCell _ _ (by have := HX.out; simp; omega)⟩
          rw [lowTo_succ HG.out]
          exact HB.out.set k (by rw [lowTo_length]; exact hlt) _ _ (by rw [HL.out]; omega)
      · have hl : lowB c = c := by unfold lowB; rw [if_neg ht]
        have HL := Lib.hid hl
        have HT := Lib.hid ht
        have hend : Bytes wr X (lowTo l (k + 1)) := by
          rw [lowTo_succ HG.out, hl, list_set_self _ _ _ (lowTo_at HG.out)]
          exact HB.out
        clear hl
        by_cases h1 : 65 ≤ c.toNat
        · have h2 : 90 < c.toNat := by omega
          clear ht
          go_wp2_with fail
          go_roundg (l.length - (k + 1))
          case measure => omega
          case rel => exact ⟨k + 1, by go_num, by omega, rfl, hend, hkr⟩
        · clear ht
          go_wp2_with fail
          go_roundg (l.length - (k + 1))
          case measure => omega
          case rel => exact ⟨k + 1, by go_num, by omega, rfl, hend, hkr⟩
    · have hke : k = l.length := by omega
      rw [hke, lowTo_end] at hbr
      have hback := hbr.back (P := Tryd.prog) 83 9 5 l.length (grownCap w l.length 0 5) (by simp [lowW]) Tryd.underlying83 Tryd.underlying5 Tryd.underlying9
      have HKE := Lib.hid hke
      clear hke hbr hby
      go_wp2_with fail
      go_ret
      exact ⟨rfl, hkr⟩
end Go.Proofs.YthhnmfjfgbgjeaaDoor
