/- Layer 10, the document's functions: Trim, Parse, Same, Texts. No conditions but on lengths. -/
import Derived.Test.YthhnmfjfgbgjeaaDoorFld5
namespace Go.Proofs.YthhnmfjfgbgjeaaDoor
open Go.RowKit Go.Shelf

theorem trimRight_cons (b : UInt8) (r cs : List UInt8) : Lib.trimRightS (b :: r) cs = if Lib.trimRightS r cs = [] ∧ cs.contains b = true then [] else b :: Lib.trimRightS r cs := by
  unfold Lib.trimRightS
  rw [List.reverse_cons, List.dropWhile_append]
  by_cases h : r.reverse.dropWhile (cs.contains ·) = []
  · simp only [h, List.isEmpty_nil, if_true, List.reverse_nil, true_and]
    by_cases hb : cs.contains b = true
    · rw [List.dropWhile_cons, if_pos hb, if_pos hb]; rfl
    · rw [List.dropWhile_cons, if_neg hb]; simp only [hb]; rfl
  · have h2 : (r.reverse.dropWhile (cs.contains ·)).isEmpty = false := by simpa [List.isEmpty_iff] using h
    rw [h2]
    have h3 : (r.reverse.dropWhile (cs.contains ·)).reverse ≠ [] := by simpa using h
    simp only [Bool.false_eq_true, if_false, List.reverse_append, List.reverse_cons, List.reverse_nil, List.nil_append, List.singleton_append]
    rw [if_neg (fun h => h3 h.1)]
theorem trim_comm (cs : List UInt8) : ∀ l : List UInt8, Lib.trimLeftS (Lib.trimRightS l cs) cs = Lib.trimRightS (Lib.trimLeftS l cs) cs
  | [] => rfl
  | b :: r => by
    have ih := trim_comm cs r
    rw [trimRight_cons]
    by_cases hb : cs.contains b = true
    · have e1 : Lib.trimLeftS (b :: r) cs = Lib.trimLeftS r cs := by unfold Lib.trimLeftS; rw [List.dropWhile_cons, if_pos hb]
      rw [e1, ← ih]
      by_cases h : Lib.trimRightS r cs = []
      · rw [if_pos ⟨h, hb⟩, h]
      · rw [if_neg (fun h' => h h'.1)]
        unfold Lib.trimLeftS
        rw [List.dropWhile_cons, if_pos hb]
    · have e1 : Lib.trimLeftS (b :: r) cs = b :: r := by unfold Lib.trimLeftS; rw [List.dropWhile_cons, if_neg hb]
      rw [e1, if_neg (fun h' => hb h'.2), trimRight_cons, if_neg (fun h' => hb h'.2)]
      unfold Lib.trimLeftS
      rw [List.dropWhile_cons, if_neg hb]
theorem trimW_eq (l : List UInt8) : trimW l = Lib.trimRightS (Lib.trimLeftS l [32, 9]) [32, 9] := trim_comm _ _
theorem trimL_cons (b : UInt8) (r : List UInt8) : Lib.trimLeftS (b :: r) [32, 9] = if b.toNat = 32 ∨ b.toNat = 9 then Lib.trimLeftS r [32, 9] else b :: r := by
  have e : ([32, 9] : List UInt8).contains b = true ↔ (b.toNat = 32 ∨ b.toNat = 9) := by
    simp only [List.contains_iff_mem, List.mem_cons, List.not_mem_nil, or_false, ← UInt8.toNat_inj]
    exact Iff.rfl
  unfold Lib.trimLeftS
  rw [List.dropWhile_cons]
  by_cases h : b.toNat = 32 ∨ b.toNat = 9
  · rw [if_pos h, if_pos (e.2 h)]
  · rw [if_neg h, if_neg (fun h' => h (e.1 h'))]
theorem trimR_snoc (b : UInt8) (r : List UInt8) : Lib.trimRightS (r ++ [b]) [32, 9] = if b.toNat = 32 ∨ b.toNat = 9 then Lib.trimRightS r [32, 9] else r ++ [b] := by
  have := trimL_cons b r.reverse
  unfold Lib.trimLeftS at this
  unfold Lib.trimRightS
  rw [List.reverse_append]
  simp only [List.reverse_cons, List.reverse_nil, List.nil_append, List.singleton_append]
  rw [this]
  split
  · rfl
  · simp

set_option maxRecDepth 100000 in
set_option maxHeartbeats 1000000 in
theorem ref_Trim (l : List UInt8) (w : World) (hs : l.length ≤ maxLen) :
    Calls Tryd.prog 55 #[.string (S l)] w fun e w' => e = .returned (.string (S (trimW l))) ∧ w = w' := by
  have hs' : l.length ≤ 9223372036854775807 := hs
  rw [trimW_eq]
  generalize hT : Lib.trimLeftS l [32, 9] = T
  have HT := Lib.hid hT.symm
  clear hs hT
  go_enter Tryd.func55, Tryd.ntmps55
  go_upto_block 0 with fail
  go_cut [0] (fun s wr => ∃ m : List UInt8, s = .string (S m) ∧ m.length ≤ l.length ∧ Hid (T = m) ∧ w = wr)
  case first =>
    go_wp2_with fail
    go_loopg [0] l.length (fun g s wr => ∃ m : List UInt8, s = .string (S m) ∧ m.length ≤ l.length ∧ g = m.length ∧ Hid (T = Lib.trimLeftS m [32, 9]) ∧ w = wr)
    case atStart => exact ⟨l, rfl, Nat.le_refl _, rfl, HT, rfl⟩
    case round =>
      obtain ⟨m, rfl, hml, rfl, hm, rfl⟩ := hrel
      have hsz := S_size m
      match m, hml, hm, hsz with
      | [], hml, hm, hsz =>
        go_wp2_with fail
        go_meet
        exact ⟨[], rfl, hml, hm, rfl⟩
      | b :: r, hml, hm, hsz =>
        have hget := S_get (l := b :: r) (k := 0) rfl
        have hcons := trimL_cons b r
        have hlen : (b :: r).length = r.length + 1 := rfl
        have hx : (S (b :: r)).extract 1 (r.length + 1) = S r := by rw [S_extract]; simp
        rw [hlen] at hml hsz
        by_cases h32 : b.toNat = 32
        · rw [if_pos (.inl h32)] at hcons
          have hr : Hid (T = Lib.trimLeftS r [32, 9]) := hm.out.trans hcons
          obtain ⟨q1, q2⟩ := int_eq (show ((b.toNat : Nat) : Int) = 32 by omega)
          clear hcons hm h32
          go_wp2_with fail
          go_roundg r.length
          case measure => simp
          case rel => exact ⟨r, by simp, by omega, rfl, hr, rfl⟩
        · obtain ⟨q1, q2⟩ := int_ne (show ((b.toNat : Nat) : Int) ≠ 32 by omega)
          by_cases h9 : b.toNat = 9
          · rw [if_pos (.inr h9)] at hcons
            have hr : Hid (T = Lib.trimLeftS r [32, 9]) := hm.out.trans hcons
            obtain ⟨q3, q4⟩ := int_eq (show ((b.toNat : Nat) : Int) = 9 by omega)
            clear hcons hm h32 h9
            go_wp2_with fail
            go_roundg r.length
            case measure => simp
            case rel => exact ⟨r, by simp, by omega, rfl, hr, rfl⟩
          · rw [if_neg (by omega)] at hcons
            have hr : Hid (T = b :: r) := hm.out.trans hcons
            obtain ⟨q3, q4⟩ := int_ne (show ((b.toNat : Nat) : Int) ≠ 9 by omega)
            clear hcons hm h32 h9
            go_wp2_with fail
            go_meet
            exact ⟨_, rfl, by rw [hlen]; exact hml, hr, rfl⟩
  case rest =>
    obtain ⟨t, rfl, htl, ht, rfl⟩ := hcut
    have ht' := ht.out
    subst ht'
    clear ht HT
    go_wp2_with fail
    go_loopg [0] T.length (fun g s wr => ∃ m : List UInt8, s = .string (S m) ∧ m.length ≤ l.length ∧ g = m.length ∧ Hid (Lib.trimRightS T [32, 9] = Lib.trimRightS m [32, 9]) ∧ w = wr)
    case atStart => exact ⟨T, rfl, htl, rfl, rfl, rfl⟩
    case round =>
      obtain ⟨m, rfl, hml, rfl, hm, rfl⟩ := hrel
      have hsz := S_size m
      rcases List.eq_nil_or_concat m with rfl | ⟨r, b, rfl⟩
      · go_wp2_with fail
        go_ret
        exact ⟨by rw [hm.out]; rfl, rfl⟩
      · rw [List.concat_eq_append] at *
        have hget := S_get (l := r ++ [b]) (k := r.length) (c := b) (by simp)
        have hsnoc := trimR_snoc b r
        have hlen : (r ++ [b]).length = r.length + 1 := by simp
        have hx : (S (r ++ [b])).extract 0 r.length = S r := by rw [S_extract]; simp
        rw [hlen] at hml hsz
        by_cases h32 : b.toNat = 32
        · rw [if_pos (.inl h32)] at hsnoc
          have hr : Hid (Lib.trimRightS T [32, 9] = Lib.trimRightS r [32, 9]) := hm.out.trans hsnoc
          obtain ⟨q1, q2⟩ := int_eq (show ((b.toNat : Nat) : Int) = 32 by omega)
          clear hsnoc hm h32
          go_wp2_with fail
          go_roundg r.length
          case measure => simp
          case rel => exact ⟨r, by simp, by omega, rfl, hr, rfl⟩
        · obtain ⟨q1, q2⟩ := int_ne (show ((b.toNat : Nat) : Int) ≠ 32 by omega)
          by_cases h9 : b.toNat = 9
          · rw [if_pos (.inr h9)] at hsnoc
            have hr : Hid (Lib.trimRightS T [32, 9] = Lib.trimRightS r [32, 9]) := hm.out.trans hsnoc
            obtain ⟨q3, q4⟩ := int_eq (show ((b.toNat : Nat) : Int) = 9 by omega)
            clear hsnoc hm h32 h9
            go_wp2_with fail
            go_roundg r.length
            case measure => simp
            case rel => exact ⟨r, by simp, by omega, rfl, hr, rfl⟩
          · rw [if_neg (by omega)] at hsnoc
            have hr : Hid (Lib.trimRightS T [32, 9] = r ++ [b]) := hm.out.trans hsnoc
            obtain ⟨q3, q4⟩ := int_ne (show ((b.toNat : Nat) : Int) ≠ 9 by omega)
            clear hsnoc hm h32 h9
            go_wp2_with fail
            go_ret
            exact ⟨ret_str (by rw [hr.out]), rfl⟩

theorem parseF_eq (l : List UInt8) : parseF l = if 0 ≤ Lib.indexByte l 58 ∧ isTok (l.take (Lib.indexByte l 58).toNat) = true ∧ isTxt (l.drop ((Lib.indexByte l 58).toNat + 1)) = true then some ⟨l.take (Lib.indexByte l 58).toNat, trimW (l.drop ((Lib.indexByte l 58).toNat + 1))⟩ else none := by
  unfold parseF Lib.cut
  rw [Lib.index_one]
  by_cases h : 0 ≤ Lib.indexByte l 58
  · simp only [if_pos h, List.length_singleton]
    by_cases h1 : isTok (l.take (Lib.indexByte l 58).toNat) = true
    · by_cases h2 : isTxt (l.drop ((Lib.indexByte l 58).toNat + 1)) = true
      · simp [h, h1, h2]
      · simp [h, h1, h2]
    · simp [h1]
  · simp only [if_neg h]
    simp [h]

theorem parse_none {l : List UInt8} (h : parseF l = none) : Ending.returned (.tuple #[.agg #[.string (S []), .string (S [])], .int .i64 3]) = .returned (.tuple #[.agg (parseV l).cells.toArray, .int .i64 (parseE l)]) := by
  unfold parseV parseE
  rw [h]
  rfl
theorem parse_some {l : List UInt8} {f : Fld} (h : parseF l = some f) : Ending.returned (.tuple #[.agg #[.string (S f.name), .string (S f.value)], .int .i64 0]) = .returned (.tuple #[.agg (parseV l).cells.toArray, .int .i64 (parseE l)]) := by
  unfold parseV parseE
  rw [h]
  rfl
/-- what ref.Parse hands back -/
def RefParse (l : List UInt8) (w : World) (e : Ending) (w' : World) : Prop := e = .returned (.tuple #[.agg (parseV l).cells.toArray, .int .i64 (parseE l)]) ∧ Keep [] w w'

@[go_sem] theorem eqFld (a b c d : ByteArray) (w : World) : (Op.equalIn 10000 32 (.agg #[.string a, .string b]) (.agg #[.string c, .string d])).run Tryd.prog w = .ok (a.toList == c.toList && b.toList == d.toList) w := by
  have u3 := Tryd.underlying9
  have a3 := Tryd.isAgg9
  have z3 := Tryd.sizeOf9
  have hS : Tryd.prog.underlying 32 = some (.struct (Tryd.prog.fieldsOf 32)) := by kernel_rfl
  have hp : Tryd.prog.stoodInHeld 32 = false := by kernel_rfl
  rw [show (10000 : Nat) = 9999 + 1 from rfl, run_equalIn_struct w 9999 32 _ _ hS hp]
  simp only [Program.fieldsOf, Tryd.underlying32]
  go_simp
  by_cases h1 : a.toList = c.toList <;> by_cases h2 : b.toList = d.toList <;> simp [h1, h2]

set_option maxRecDepth 100000 in
set_option maxHeartbeats 1000000 in
theorem ref_Same (va vb : Value) (A B : List Fld) (w : World) (ha : Sl Fld.cells 2 w va A) (hb : Sl Fld.cells 2 w vb B) :
    Calls Tryd.prog 27 #[va, vb] w fun e w' => e = .returned (.bool (decide (A = B))) ∧ Keep [] w w' := by
  obtain ⟨aa, ca, rfl, hal⟩ := ha.shape
  obtain ⟨ab, cb, rfl, hbl⟩ := hb.shape
  have hal' : A.length ≤ 9223372036854775807 := hal
  have hbl' : B.length ≤ 9223372036854775807 := hbl
  clear hal hbl
  have HA := Lib.hid ha
  have HB := Lib.hid hb
  clear ha hb
  by_cases hlen : A.length = B.length
  · obtain ⟨q1, q2⟩ := int_eq (show ((A.length : Nat) : Int) = ((B.length : Nat) : Int) by omega)
    have HL := Lib.hid hlen
    rw [hlen] at q1 q2
    rw [hlen]
    clear hlen
    go_enter Tryd.func27, Tryd.ntmps27
    go_wp2_with fail
    go_loopg [5] B.length (fun g i wr => ∃ k : Nat, i = .int .i64 k ∧ k ≤ B.length ∧ g = B.length - k ∧ Hid (A.take k = B.take k) ∧ (∃ n : Nat, wr = w.drewN n))
    case atStart => exact ⟨0, rfl, Nat.zero_le _, by omega, by simp [Hid], 0, rfl⟩
    case round =>
      obtain ⟨k, rfl, hk, hgk, hall, n, rfl⟩ := hrel
      by_cases hlt : k < B.length
      · obtain ⟨x, hx⟩ : ∃ x, A[k]? = some x := ⟨_, List.getElem?_eq_getElem (by rw [HL.out]; exact hlt)⟩
        obtain ⟨y, hy⟩ : ∃ y, B[k]? = some y := ⟨_, List.getElem?_eq_getElem hlt⟩
        obtain ⟨b1, o1, c1, e1, l1, m1, x1⟩ := HA.out.cell hx
        obtain ⟨b2, o2, c2, e2, l2, m2, x2⟩ := HB.out.cell hy
        simp only [Value.slice.injEq] at e1 e2
        obtain ⟨rfl, _, rfl⟩ := e1
        obtain ⟨rfl, _, rfl⟩ := e2
        have a0 := x1 0 (by omega)
        have a1 := x1 1 (by omega)
        have b0 := x2 0 (by omega)
        have b1' := x2 1 (by omega)
        simp only [Fld.cells, List.getElem?_cons_zero, List.getElem?_cons_succ, Nat.add_zero] at a0 a1 b0 b1'
        have HX := Lib.hid hx
        have HY := Lib.hid hy
        clear hx hy x1 x2 l1 l2 m1 m2
        by_cases hxy : x = y
        · subst hxy
          have HN := Lib.hid (show A.take (k + 1) = B.take (k + 1) by rw [List.take_add_one, List.take_add_one, HX.out, HY.out, hall.out])
          go_upto_region 6 with fail
          go_quiet (fail)
          go_wp2_with fail
          go_roundg (B.length - (k + 1))
          case measure => omega
          case rel => exact ⟨k + 1, by go_num, by omega, rfl, HN, _, rfl⟩
        · have HN := Lib.hid (show A ≠ B by rintro rfl; exact hxy (by have := HX.out.symm.trans HY.out; simpa using this))
          by_cases hn : x.name = y.name
          · have h1 : (S x.name).toList = (S y.name).toList := by rw [hn]
            have h2 : ¬ (S x.value).toList = (S y.value).toList := by
              rw [S_toList, S_toList]
              intro h
              apply hxy
              cases x; cases y
              simp_all
            clear hxy hn
            go_upto_region 6 with fail
            go_quiet (fail)
            go_wp2_with fail
            go_ret
            exact ⟨ret_bool (by simp [HN.out]), (((Keep.refl [] w).drewN _).drewN _)⟩
          · have h1 : ¬ (S x.name).toList = (S y.name).toList := by rw [S_toList, S_toList]; exact hn
            clear hxy hn
            go_upto_region 6 with fail
            go_quiet (fail)
            go_wp2_with fail
            go_ret
            exact ⟨ret_bool (by simp [HN.out]), (((Keep.refl [] w).drewN _).drewN _)⟩
      · have hab : A = B := by
          have := hall.out
          rwa [List.take_of_length_le (by have := HL.out; omega), List.take_of_length_le (by omega)] at this
        have HN := Lib.hid hab
        clear hab
        go_wp2_with fail
        go_ret
        exact ⟨ret_bool (by simp [HN.out]), ((Keep.refl [] w).drewN _)⟩
  · obtain ⟨q1, q2⟩ := int_ne (show ((A.length : Nat) : Int) ≠ ((B.length : Nat) : Int) by omega)
    have HN := Lib.hid (show A ≠ B by rintro rfl; exact hlen rfl)
    clear hlen
    go_enter Tryd.func27, Tryd.ntmps27
    go_wp2_with fail
    go_ret
    exact ⟨ret_bool (by simp [HN.out]), Keep.refl [] w⟩
end Go.Proofs.YthhnmfjfgbgjeaaDoor
