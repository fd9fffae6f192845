/- Parts of the proof of ErrandJudges, in order. No conditions but those that each theorem states. -/
import Derived.Test.YtlhnjkekjbbhcaaGreatDoorYErrandJudges0
import Derived.Deep.AppendLies
import Derived.Deep.RegionLaw
import Derived.Deep.DeepHandedRow
import Derived.Lib.SlTrimSet
import Derived.Test.YtlhnjkekjbbhcaaGreatDoorYErrandJudges2
namespace Go.Proofs.YtlhnjkekjbbhcaaGreatDoor
open Go.RowKit Go.Shelf
set_option maxRecDepth 100000 in
set_option maxHeartbeats 2000000 in
theorem field_Elements (va : Value) (L : List Fld) (n : List UInt8) (w : World) (ha : Sl Fld.cells 2 w va L) (hg : ∀ x ∈ L, x.name.length ≤ 1048576 ∧ x.value.length ≤ 1048576) (hn : n.length ≤ 1048576) (hl : L.length ≤ 1024) :
    Calls Tryz.prog 165 #[va, .string (S n)] w (Texts w (elsM L n)) := by
  obtain ⟨aa, ca, rfl, _⟩ := ha.shape; have HA := Lib.hid ha; have HG := Lib.hid hg; have HN := Lib.hid hn; obtain ⟨is, Hs⟩ := strinfo'; have HM := Lib.hid (show maxLen = 9223372036854775807 from rfl); clear ha hg hn; go_enter Tryz.func165, Tryz.ntmps165; go_wp2_with fail
  go_loopg [4, 11] L.length (fun g o i wr => ∃ k : Nat, i = .int .i64 k ∧ k ≤ L.length ∧ g = L.length - k ∧ Own strC 1 w.heap.size 9 wr o (elsM (L.take k) n) ∧ (elsM (L.take k) n).length ≤ k * 1048577 ∧ Keep [] w wr)
  case atStart => exact ⟨0, rfl, Nat.zero_le _, by omega, Own.nil strC 1 _ 9 w, Nat.zero_le _, Keep.refl [] w⟩
  case round =>
    obtain ⟨k, rfl, hk, hgk, ho, hol, hkr⟩ := hrel; have HO := Lib.hid ho; have HK := Lib.hid hkr; clear ho hkr; by_cases hlt : k < L.length
    · obtain ⟨x, hx⟩ : ∃ x, L[k]? = some x := ⟨_, List.getElem?_eq_getElem hlt⟩
      obtain ⟨b1, o1, c1, e1, l1, m1, x1⟩ := HA.out.cell hx; simp only [Value.slice.injEq] at e1; obtain ⟨rfl, _, rfl⟩ := e1; have a0 := x1 0 (by omega); have a1 := x1 1 (by omega); simp only [Fld.cells, List.getElem?_cons_zero, List.getElem?_cons_succ, Nat.add_zero] at a0 a1; have A0 := Lib.hid a0; have A1 := Lib.hid a1; have HX := Lib.hid hx; have hb := HG.out x (List.mem_of_getElem? hx); have HB := Lib.hid hb; clear hx x1 l1 m1 hb a0 a1; have d0 := HK.out.load A0.out; have hbA := Blk.newA wr #[.string (S x.name), .string (S x.value)] 89; have HBA := Lib.hid hbA; clear hbA; have d2 := HK.out.load A1.out
      go_upto_region 4 with fail
      go_wp2_with fail; refine (field_low x.name _ (show _ ≤ 9223372036854775807 by have := HB.out.1; omega)).mono ?_; rintro e w1 ⟨rfl, hk1⟩; go_wp2_with fail; refine (field_low n _ (show _ ≤ 9223372036854775807 by have := HN.out; omega)).mono ?_; rintro e w2 ⟨rfl, hk2⟩; have HKA := (Keep.refl [] wr).alloc (.cells #[.string (S x.name), .string (S x.value)] 89); have HK2 := Lib.hid (((HK.out.trans HKA).trans hk1).trans hk2); have HKK := Lib.hid ((HKA.trans hk1).trans hk2); have d1 := (hk1.trans hk2).load (HBA.out.get (k := 1) rfl); clear hk1 hk2 d0 d2 HKA; have HO2 := Lib.hid (HO.out.keep0 HKK.out); by_cases hs : lowW x.name = lowW n
      · have h1 : ((S (lowW x.name)).toList == (S (lowW n)).toList) = true := by rw [hs]; simp
        have HE := Lib.hid (els_yes HX.out hs); have HV := Lib.hid (Nat.le_trans (cutW_length x.value 44) (Nat.succ_le_succ HB.out.2)); clear hs; go_wp2_with fail; refine (field_cut x.value 44 _ HB.out.2).mono ?_; rintro e w3 ⟨vc, rfl, hc, hk3⟩; have hsep := Sep.of_base HO2.out hc (Nat.le_refl _); have HO3 := HO2.out.keep0 hk3; have HK3 := HK2.out.trans hk3; have hc3 := hc.lower (base' := w.heap.size) HK2.out.size; generalize hM : cutW x.value 44 = M at hc3 HE HV; clear hc hk3 hM; obtain ⟨ac, cc, rfl, hml⟩ := hc3.shape; have hml' : M.length ≤ 9223372036854775807 := hml; have H0 := Lib.hid (And.intro HO3 (And.intro hc3 (And.intro hsep HK3))); clear HO3 hc3 hsep HK3 hml; go_wp2_with fail
        go_loopg [4, 25] M.length (fun g o2 j wz => ∃ m : Nat, j = .int .i64 m ∧ m ≤ M.length ∧ g = M.length - m ∧ Own strC 1 w.heap.size 9 wz o2 (elsM (L.take k) n ++ full (M.take m)) ∧
          Own strC 1 w.heap.size 9 wz (.slice ac M.length cc) M ∧ Sep o2 (.slice ac M.length cc) ∧ Keep [] w wz)
        case atStart => exact ⟨0, rfl, Nat.zero_le _, by omega, by simpa [full] using H0.out.1, H0.out.2.1, H0.out.2.2.1, H0.out.2.2.2⟩
        case round =>
          obtain ⟨m, rfl, hm, hgm, ho2, hc2, hsep2, hkz⟩ := hrel; have HOz := Lib.hid ho2; have HCz := Lib.hid hc2; have HSz := Lib.hid hsep2; have HKz := Lib.hid hkz; clear ho2 hc2 hsep2 hkz; by_cases hlm : m < M.length
          · obtain ⟨s, hs⟩ : ∃ s, M[m]? = some s := ⟨_, List.getElem?_eq_getElem hlm⟩
            obtain ⟨b2, o2, c2, e2, _, _, x2⟩ := (HCz.out.sl strC_length).cell hs; simp only [Value.slice.injEq] at e2; obtain ⟨rfl, _, rfl⟩ := e2; have s0 := x2 0 (by omega); simp only [strC, List.getElem?_cons_zero, Nat.add_zero, Nat.mul_one] at s0; have hte := S_toList s; have HSS := Lib.hid hs; clear x2 hs; by_cases hse : s = []
            · have HF := Lib.hid (full_no HSS.out hse); subst hse; have hq : (S []).toList = [] := S_toList []; go_wp2_with fail
              go_roundg (M.length - (m + 1))
              case measure => omega
              case rel => exact ⟨m + 1, by go_num, by omega, rfl, by rw [HF.out]; exact HOz.out, HCz.out, HSz.out, HKz.out⟩
            · have HF := Lib.hid (full_yes HSS.out hse); have hie : s.isEmpty = false := by cases s <;> simp_all
              have hfl := full_length (M.take m); have hfl2 : (M.take m).length ≤ m := by simp; omega
              have hvv : M.length ≤ 1048577 := HV.out; clear HV
              go_wp2_with (first | (at_builtin; go_must (refine wpList_append2 rfl _ _ 201 rfl is (.string ⟨#[]⟩) 16 Tryz.underlying201 Hs rfl (by decide) strC_length strC_one w wr rfl HKz.out (by rfl) HOz.out s _ (strC_of rfl) _ rfl (by have := HM.out; simp; omega) (by simp; omega) ?_); intro v' w4 hown' hk4 hside) | fail); have h5 := hside HCz.out HSz.out
              go_roundg (M.length - (m + 1))
              case measure => omega
              case rel => exact ⟨m + 1, by go_num, by omega, rfl, by rw [HF.out, ← List.append_assoc]; exact hown', h5.1, h5.2, hk4⟩
          · have hme : M.take m = M := List.take_of_length_le (by omega); have hfl := full_length M; have hvv : M.length ≤ 1048577 := HV.out; clear HV; go_wp2_with fail
            go_roundg (L.length - (k + 1))
            case measure => omega
            case rel => exact ⟨k + 1, by go_num, by omega, rfl, by rw [HE.out, ← hme]; exact HOz.out, by rw [HE.out, List.length_append]; exact els_bound hol hfl hvv, HKz.out⟩
      · have h1 : ((S (lowW x.name)).toList == (S (lowW n)).toList) = false := by rw [S_toList, S_toList]; simpa using hs
        have HE := Lib.hid (els_no HX.out hs); clear hs; go_wp2_with fail
        go_roundg (L.length - (k + 1))
        case measure => omega
        case rel => exact ⟨k + 1, by go_num, by omega, rfl, by rw [HE.out]; exact HO2.out, by rw [HE.out]; exact els_bound0 hol, HK2.out⟩
    · have hke : L.take k = L := List.take_of_length_le (by omega); rw [hke] at HO; go_wp2_with fail; go_ret; exact ⟨_, rfl, HO.out, HK.out⟩
def seenM (s : List UInt8) (at' : Nat) : List UInt8 := (s.take 4096).drop at'
def lineM (l : List UInt8) : Option (List UInt8) :=
  if Lib.hasSuffix l [13, 10] = true ∧ Lib.indexByte (Lib.trimSuffix l [13, 10]) 13 < 0 then some (Lib.trimSuffix l [13, 10]) else none
def nextM (s : List UInt8) (at' : Nat) : List UInt8 × Nat × Int :=
  if Lib.indexByte (seenM s at') 10 < 0 then ([], at', if 4096 ≤ s.length then 4 else 17)
  else match lineM ((seenM s at').take ((Lib.indexByte (seenM s at') 10).toNat + 1)) with
    | none => ([], at' + ((Lib.indexByte (seenM s at') 10).toNat + 1), 3)
    | some l => (l, at' + ((Lib.indexByte (seenM s at') 10).toNat + 1), 0)
def Hd (W w : World) (b : Nat) (st : List UInt8) (F : List Fld) (at' : Nat) : Prop :=
  ∃ fv, Blk w b 196 [.string (S st), fv, .int .i64 at'] ∧ Own Fld.cells 2 W.heap.size 89 w fv F ∧ (∀ g, fv.ownBlock = some g → g ≠ b) ∧ W.heap.size ≤ b ∧ Keep [] W w
theorem Hd.step {W w w' : World} {b : Nat} {st : List UInt8} {F : List Fld} {at' : Nat} (h : Hd W w b st F at') (k : Keep [] w w') : Hd W w' b st F at' := by
  obtain ⟨fv, h1, h2, h3, h4, h5⟩ := h; exact ⟨fv, k.blk h1 (by simp), h2.keep0 k, h3, h4, h5.trans k⟩
set_option maxRecDepth 100000 in
set_option maxHeartbeats 1000000 in
theorem head_next (W : World) (s : List UInt8) (b : Nat) (st : List UInt8) (F : List Fld) (at' : Nat) (w : World) (h : Hd W w b st F at') (hs : s.length ≤ 1048576) (ha : at' ≤ s.length) (ha2 : at' ≤ 4096) :
    Calls Tryz.prog 195 #[.pointer (some ⟨b, 0, none⟩), .string (S s)] w fun e w' => e = .returned (.tuple #[.string (S (nextM s at').1), .int .i64 (nextM s at').2.2]) ∧ Hd W w' b st F (nextM s at').2.1 := by
  obtain ⟨fv, h1, h2, h3, h4, h5⟩ := h; have c0 := h1.get (k := 2) rfl; have f0 := h1.frozen; have hlt := h1.lt; have H := Lib.hid (And.intro h1 (And.intro h2 (And.intro h3 (And.intro h4 h5)))); clear h1 h2 h3 h4 h5; have hsz := S_size s
  have hx : (S s).extract at' (min ((s.length : Nat) : Int) 4096).toNat = S (seenM s at') := by
    have e : (min ((s.length : Nat) : Int) 4096).toNat = min s.length 4096 := by omega
    rw [e, S_extract]; unfold seenM; congr 2; rw [Nat.min_comm, List.take_eq_take_iff]; omega
  have hix := Tryz.strings_IndexByte (S (seenM s at')) 10; have ec : ((10 : Int)).toNat.toUInt8 = 10 := rfl; rw [ec, S_list] at hix; have hseen : (seenM s at').length + at' ≤ 4096 ∧ (seenM s at').length + at' ≤ s.length := by unfold seenM; simp; omega
  obtain ⟨hq1, hq2⟩ := hseen
  have hN : nextM s at' = (if Lib.indexByte (seenM s at') 10 < 0 then ([], at', if 4096 ≤ s.length then 4 else 17)
    else match lineM ((seenM s at').take ((Lib.indexByte (seenM s at') 10).toNat + 1)) with
      | none => ([], at' + ((Lib.indexByte (seenM s at') 10).toNat + 1), 3)
      | some l => (l, at' + ((Lib.indexByte (seenM s at') 10).toNat + 1), 0) : List UInt8 × Nat × Int) := rfl
  generalize seenM s at' = l at hx hix hq1 hq2 hN; have hsl := S_size l; have hge := Lib.indexByte_ge l 10; by_cases hi : Lib.indexByte l 10 = -1
  · rw [hi] at hix hN; rw [if_pos (by omega)] at hN; by_cases hbig : 4096 ≤ s.length
    · rw [if_pos hbig] at hN; have HN := Lib.hid hN; clear hN hi hge; go_enter Tryz.func195, Tryz.ntmps195; go_wp2_with fail; refine (hix _).mono ?_; rintro e w1 ⟨rfl, rfl⟩; go_wp2_with fail; go_ret2; rw [HN.out]; exact ⟨rfl, fv, H.out⟩
    · rw [if_neg hbig] at hN; have HN := Lib.hid hN; clear hN hi hge; go_enter Tryz.func195, Tryz.ntmps195; go_wp2_with fail; refine (hix _).mono ?_; rintro e w1 ⟨rfl, rfl⟩; go_wp2_with fail; go_ret2; rw [HN.out]; exact ⟨rfl, fv, H.out⟩
  · obtain ⟨o, ho⟩ : ∃ o : Nat, Lib.indexByte l 10 = o := ⟨(Lib.indexByte l 10).toNat, by omega⟩
    have hol := (List.getElem?_eq_some_iff.1 (Lib.indexByte_some ho).1).1; rw [ho] at hix hN; rw [if_neg (by omega), Int.toNat_natCast] at hN; have hx3 : (S l).extract 0 (o + 1) = S (l.take (o + 1)) := by rw [S_extract]; simp
    have hcs := fun w1 => Tryz.strings_CutSuffix (S (l.take (o + 1))) ⟨#[13, 10]⟩ w1 (by rw [S_size]; simp; omega)
    rw [S_list] at hcs; change ∀ w1, Calls Tryz.prog 222 #[.string (S (l.take (o + 1))), .string ⟨#[13, 10]⟩] w1 fun e w' => e = .returned (.tuple #[.string (S (Lib.trimSuffix (l.take (o + 1)) [13, 10])), .bool (Lib.hasSuffix (l.take (o + 1)) [13, 10])]) ∧ w' = w1 at hcs
    have hL : lineM (l.take (o + 1)) = if Lib.hasSuffix (l.take (o + 1)) [13, 10] = true ∧ Lib.indexByte (Lib.trimSuffix (l.take (o + 1)) [13, 10]) 13 < 0 then some (Lib.trimSuffix (l.take (o + 1)) [13, 10]) else none := rfl
    have hi2 := Tryz.strings_IndexByte (S (Lib.trimSuffix (l.take (o + 1)) [13, 10])) 13; have ec2 : ((13 : Int)).toNat.toUInt8 = 13 := rfl; rw [ec2, S_list] at hi2; generalize Lib.trimSuffix (l.take (o + 1)) [13, 10] = tl at hcs hi2 hL; have hge2 := Lib.indexByte_ge tl 13
    have hset : ∀ w1 : World, w1 = w → Hd W (w1.setCell ⟨b, 2, none⟩ (.int .i64 (((at' + (o + 1) : Nat) : Int)))) b st F (at' + (o + 1)) := by
      rintro w1 rfl; obtain ⟨h1, h2, h3, h4, h5⟩ := H.out; have hk : Keep [b] w1 (w1.setCell ⟨b, 2, none⟩ (.int .i64 (((at' + (o + 1) : Nat) : Int)))) := (Keep.refl [b] w1).setCell _ _ (by simp); exact ⟨fv, h1.set 2 _, h2.keep hk (fun g hg => by simpa using h3 g hg), h3, h4, h5.setCell _ _ (by simp; omega)⟩
    have HS := Lib.hid hset; clear hset hi hge ho
    cases hsf : Lib.hasSuffix (l.take (o + 1)) [13, 10] with
    | false =>
      rw [hsf, if_neg (by simp)] at hL; rw [hL] at hN; rw [hsf] at hcs; have HN := Lib.hid hN; clear hN hL hi2 hge2 hsf; go_enter Tryz.func195, Tryz.ntmps195; go_wp2_with fail; refine (hix _).mono ?_; rintro e w1 ⟨rfl, rfl⟩; go_wp2_with fail; refine (hcs _).mono ?_; rintro e w2 ⟨rfl, rfl⟩; go_wp2_with fail; go_ret2; rw [HN.out]; exact ⟨rfl, HS.out _ rfl⟩
    | true =>
      rw [hsf] at hL hcs; by_cases h13 : Lib.indexByte tl 13 < 0
      · rw [if_pos ⟨rfl, h13⟩] at hL; rw [hL] at hN; have HN := Lib.hid hN; have hm1 : Lib.indexByte tl 13 = -1 := by omega
        rw [hm1] at hi2; clear hN hL hge2 hsf h13 hm1; go_enter Tryz.func195, Tryz.ntmps195; go_wp2_with fail; refine (hix _).mono ?_; rintro e w1 ⟨rfl, rfl⟩; go_wp2_with fail; refine (hcs _).mono ?_; rintro e w2 ⟨rfl, rfl⟩; go_wp2_with fail; refine (hi2 _).mono ?_; rintro e w3 ⟨rfl, rfl⟩; go_wp2_with fail; go_ret2; rw [HN.out]; exact ⟨rfl, HS.out _ rfl⟩
      · rw [if_neg (fun h => h13 h.2)] at hL; rw [hL] at hN; have HN := Lib.hid hN; obtain ⟨o2, ho2⟩ : ∃ o : Nat, Lib.indexByte tl 13 = o := ⟨(Lib.indexByte tl 13).toNat, by omega⟩
        rw [ho2] at hi2; clear hN hL hge2 hsf h13 ho2; go_enter Tryz.func195, Tryz.ntmps195; go_wp2_with fail; refine (hix _).mono ?_; rintro e w1 ⟨rfl, rfl⟩; go_wp2_with fail; refine (hcs _).mono ?_; rintro e w2 ⟨rfl, rfl⟩; go_wp2_with fail; refine (hi2 _).mono ?_; rintro e w3 ⟨rfl, rfl⟩; go_wp2_with fail; go_ret2; rw [HN.out]; exact ⟨rfl, HS.out _ rfl⟩
theorem step_append3 {P : Program} {ops : Array Oper} {o : Oper} {a : Act} {w : World} {K : Act → World → Prop} {Q : Exit → Act → World → Prop} {X : Prop} (hgd : o.guard = none) (s x : Operand) (t : TypeId)
    (ho : o.op = .call { callee := .builtin .append, args := #[s, x], argTypes := #[t, t] })
    {α : Type} {enc : α → List Value} {n base : Nat} {E : TypeId} {L : List α} {v : Value}
    (i : TypeInfo) (z : Value) (bytes : Nat) (ht : P.underlying t = some (.slice E)) (HI : Hid (P.info? E = some i ∧ i.zero = some z ∧ i.size = n ∧ i.bytes = bytes)) (hzs : z.cells.size = n) (hn0 : 0 < n)
    (hn : ∀ x, (enc x).length = n) (h1 : ∀ x, ∀ u ∈ enc x, u.oneCell' = true)
    (hs : a.eval s = v) (hown : Own enc n base E w v L) (y : α) (B c : Nat) (hx : a.eval x = .slice (some ⟨B, 0, none⟩) 1 c) (hB : Blk w B E (enc y))
    (h63 : L.length + 1 ≤ maxLen) (hbytes : (L.length + 1) * bytes ≤ 140737488355328) (hbase : base ≤ w.heap.size)
    (h : ∀ g cap w', Own enc n base E w' (.slice (some ⟨g, 0, none⟩) (L.length + 1) cap) (L ++ [y]) → w.grownBy w' v.ownBlock → (v.ownBlock = some g ∨ g = w.heap.size) → K (a.put o.dst (.slice (some ⟨g, 0, none⟩) (L.length + 1) cap)) w') :
    if Region.wanted o (yielded ops a.tmps) = true then Oper.wp P o a w K Q else X := by
  refine step_append_lies _ hgd s x t ho base E i z n bytes ht HI.out.1 HI.out.2.1 HI.out.2.2.1 HI.out.2.2.2 hzs hn0 v L.length (rows enc L) hs hown ⟨B, 0, none⟩ 1 c (enc y) hx (by rw [hn]; omega) ?_ (h1 y) (by omega) h63 hbytes hbase _ rfl ?_
  · intro j u hj; have : (⟨B, 0, none⟩ : Addr).add j = ⟨B, j, none⟩ := by unfold Addr.add; split <;> simp_all
    rw [this, hB.cell j]; exact hj
  · intro g cap w' hown' hg hat _; refine h g cap w' ?_ hg hat; have : rows enc (L ++ [y]) = rows enc L ++ enc y := by simp [rows]
    unfold Own; rw [this, List.length_append]; exact hown'
def beginE (l : List UInt8) : Int := if l = [] then 3 else if 1024 < l.length then 4 else 0
set_option maxRecDepth 100000 in
set_option maxHeartbeats 1000000 in
theorem head_begin (W : World) (l : List UInt8) (b : Nat) (st : List UInt8) (F : List Fld) (at' : Nat) (w : World) (h : Hd W w b st F at') (hs : l.length ≤ 1048576) :
    Calls Tryz.prog 196 #[.pointer (some ⟨b, 0, none⟩), .string (S l)] w fun e w' => e = .returned (.int .i64 (beginE l)) ∧ Hd W w' b (if beginE l = 0 then l else st) F at' := by
  have hsz := S_size l; have hte := S_toList l; have H := Lib.hid h; obtain ⟨fv, h1, h2, h3, h4, h5⟩ := h; have c0 := h1.get (k := 0) rfl; have f0 := h1.frozen; have hlt := h1.lt
  have hset : Hd W (w.setCell ⟨b, 0, none⟩ (.string (S l))) b l F at' := by
    have hk : Keep [b] w (w.setCell ⟨b, 0, none⟩ (.string (S l))) := (Keep.refl [b] w).setCell _ _ (by simp); exact ⟨fv, h1.set 0 _, h2.keep hk (fun g hg => by simpa using h3 g hg), h3, h4, h5.setCell _ _ (by simp; omega)⟩
  have HS := Lib.hid hset; clear h1 h2 h3 h4 h5 hset; by_cases he : l = []
  · have hb : beginE l = 3 := if_pos he; have hee : l.isEmpty = true := by simp [he]
    rw [hb]; clear he; go_enter Tryz.func196, Tryz.ntmps196; go_wp2_with fail; go_ret; exact ⟨rfl, H.out⟩
  · have hee : l.isEmpty = false := by cases l <;> simp_all
    by_cases hl : 1024 < l.length
    · have hb : beginE l = 4 := by unfold beginE; rw [if_neg he, if_pos hl]
      rw [hb]; clear he; go_enter Tryz.func196, Tryz.ntmps196; go_wp2_with fail; go_ret; exact ⟨rfl, H.out⟩
    · have hb : beginE l = 0 := by unfold beginE; rw [if_neg he, if_neg hl]
      rw [hb]; clear he; go_enter Tryz.func196, Tryz.ntmps196; go_wp2_with fail; go_ret; exact ⟨rfl, HS.out⟩
theorem fldinfo : (Tryz.prog.info? 89).map (fun i => (i.zero, i.size, i.bytes)) = some (some (.agg #[.string ⟨#[]⟩, .string ⟨#[]⟩]), 2, 32) := by kernel_rfl
theorem fldinfo' : ∃ i0, Hid (Tryz.prog.info? 89 = some i0 ∧ i0.zero = some (.agg #[.string ⟨#[]⟩, .string ⟨#[]⟩]) ∧ i0.size = 2 ∧ i0.bytes = 32) := by
  obtain ⟨i0, hi, hz0, hz1, hz2⟩ := info_parts fldinfo; exact ⟨i0, hi, hz0, hz1, hz2⟩
theorem Fld.one (f : Fld) : ∀ u ∈ f.cells, u.oneCell' = true := by simp [Fld.cells, Value.oneCell']
def addM (F : List Fld) (l : List UInt8) : List Fld × Int :=
  match parseF l with
  | none => (F, 3)
  | some f => if 32 ≤ F.length then (F, 4) else (F ++ [f], 0)
set_option maxRecDepth 100000 in
set_option maxHeartbeats 1000000 in
theorem head_add (W : World) (hm : ML W) (l : List UInt8) (b : Nat) (st : List UInt8) (F : List Fld) (at' : Nat) (w : World) (h : Hd W w b st F at') (hs : l.length ≤ 1048576) :
    Calls Tryz.prog 197 #[.pointer (some ⟨b, 0, none⟩), .string (S l)] w fun e w' => e = .returned (.int .i64 (addM F l).2) ∧ Hd W w' b st (addM F l).1 at' := by
  have hP := field_Parse l w (hm.keep h.choose_spec.2.2.2.2 (by simp)) (by omega); have hA : addM F l = (match parseF l with | none => (F, 3) | some f => if 32 ≤ F.length then (F, 4) else (F ++ [f], 0)) := rfl; obtain ⟨is, Hs⟩ := fldinfo'
  cases hp : parseF l with
  | none =>
    have e1 : parseV l = ⟨[], []⟩ := by unfold parseV; rw [hp]; rfl
    have e2 : parseE l = 3 := by unfold parseE; rw [hp]; rfl
    rw [e1, e2] at hP; rw [hp] at hA; change Calls _ _ _ _ (fun e w' => e = .returned (.tuple #[.agg #[.string (S []), .string (S [])], .int .i64 3]) ∧ Keep [] w w') at hP; have H := Lib.hid h; have HA := Lib.hid hA; clear h hA hp e1 e2; go_enter Tryz.func197, Tryz.ntmps197; go_wp2_with fail; refine hP.mono ?_; rintro e w1 ⟨rfl, hk1⟩; have H1 := Lib.hid ((H.out.step hk1).step ((Keep.refl [] w1).alloc (.cells #[.string (S []), .string (S [])] 89))); clear hk1; go_wp2_with fail; go_ret; rw [HA.out]; exact ⟨rfl, H1.out⟩
  | some f =>
    have e1 : parseV l = f := by unfold parseV; rw [hp]; rfl
    have e2 : parseE l = 0 := by unfold parseE; rw [hp]; rfl
    rw [e1, e2] at hP; rw [hp] at hA; change Calls _ _ _ _ (fun e w' => e = .returned (.tuple #[.agg #[.string (S f.name), .string (S f.value)], .int .i64 0]) ∧ Keep [] w w') at hP; have H := Lib.hid h; clear h hp e1 e2; by_cases h32 : 32 ≤ F.length
    · dsimp only at hA; rw [if_pos h32] at hA; have HA := Lib.hid hA; clear hA; go_enter Tryz.func197, Tryz.ntmps197; go_wp2_with fail; refine hP.mono ?_; rintro e w1 ⟨rfl, hk1⟩; have H1 := Lib.hid ((H.out.step hk1).step ((Keep.refl [] w1).alloc (.cells #[.string (S f.name), .string (S f.value)] 89))); obtain ⟨fv, h1, h2, h3, h4, h5⟩ := H1.out; obtain ⟨fa, fc, rfl, hml⟩ := h2.shape; have hml' : F.length ≤ 9223372036854775807 := hml; have c1 := h1.get (k := 1) rfl; clear hk1 h1 h2 h3 h4 h5 hml; go_wp2_with fail; go_ret; rw [HA.out]; exact ⟨rfl, H1.out⟩
    · dsimp only at hA; rw [if_neg h32] at hA; have HA := Lib.hid hA; clear hA; go_enter Tryz.func197, Tryz.ntmps197; go_wp2_with fail; refine hP.mono ?_; rintro e w1 ⟨rfl, hk1⟩; have H1 := Lib.hid ((H.out.step hk1).step ((Keep.refl [] w1).alloc (.cells #[.string (S f.name), .string (S f.value)] 89))); have hbA := Blk.newA w1 #[.string (S f.name), .string (S f.value)] 89; generalize hwa : w1.alloc (.cells #[.string (S f.name), .string (S f.value)] 89) = wa at H1 hbA; obtain ⟨fv, h1, h2, h3, h4, h5⟩ := H1.out; obtain ⟨fa, fc, rfl, hml⟩ := h2.shape; have hml' : F.length ≤ 9223372036854775807 := hml; have c1 := h1.get (k := 1) rfl; have f1 := h1.frozen; have hlt := h1.lt; have d0 := hbA.get (k := 0) rfl; have d1 := hbA.get (k := 1) rfl
      go_upto_region 6 with fail
      have hoA := (h2.of_heap (w' := wa.drew) rfl).alloc (.cells #[.string (S f.name), .string (S f.value)] 89); have hbB := Blk.newA wa.drew #[.string (S f.name), .string (S f.value)] 89; have hbb := (h1.drew).alloc (.cells #[.string (S f.name), .string (S f.value)] 89); have hkB := (h5.drew).alloc (.cells #[.string (S f.name), .string (S f.value)] 89); have HOA := Lib.hid hoA; have HBB := Lib.hid hbB; have Hbb := Lib.hid hbb; have HKB := Lib.hid hkB; have HM := Lib.hid (show maxLen = 9223372036854775807 from rfl); have H3 := Lib.hid h3; have hWb := h4; clear hoA hbB hbb hkB h1 h2 h3 h5 hml hk1 hwa H1 hbA
      go_cut [] (fun wx => Hd W wx b st (F ++ [f]) at')
      case first =>
        go_region_law (
          refine step_append3 rfl (.tmp 27) (.tmp 29) 28 rfl is (.agg #[.string ⟨#[]⟩, .string ⟨#[]⟩]) 32 Tryz.underlying28 Hs rfl (by decide) Fld.cells_length Fld.one (by simp [Act.eval]) HOA.out f wa.heap.size 1 (by simp [Act.eval]) HBB.out (by have := HM.out; omega) (by omega) HKB.out.size ?_; intro g cap w2 hown hgrow hat; have hb2 : Blk w2 b 196 [.string (S st), .slice fa F.length fc, .int .i64 at'] := (hgrow.block b Hbb.out.lt (fun e => H3.out b e.symm rfl)).trans Hbb.out; have e1 := hb2.get (k := 1) rfl; have e2 := hb2.frozen; have e3 := hb2.lt)
        all_goals (
          go_wp2_with fail; go_meet; have hk2 : Keep [] W w2 := HKB.out.grown hgrow (fun k hk1 hk2 => absurd (HOA.out.lt k hk1).1 (by omega))
          have hgb : g ≠ b := by
            rcases hat with h | h
            · exact H3.out g h
            · intro e; have h' : g = wa.heap.size + 1 := h.trans (by simp); have : b < wa.heap.size := hlt; omega
          have hks : Keep [b] w2 (w2.setCell ⟨b, 1, none⟩ (.slice (some ⟨g, 0, none⟩) (F.length + 1) cap)) := (Keep.refl [b] w2).setCell _ _ (by simp); exact ⟨.slice (some ⟨g, 0, none⟩) (F.length + 1) cap, hb2.set 1 _, hown.keep hks (fun k hk => by simp [Value.ownBlock] at hk; subst hk; simpa using hgb), fun k hk => by simp [Value.ownBlock] at hk; subst hk; exact hgb, hWb, hk2.setCell _ _ (by simp; omega)⟩)
      case rest =>
        have HC := Lib.hid hcut; clear hcut; go_wp2_with fail; go_ret; rw [HA.out]; exact ⟨rfl, HC.out⟩
structure Rd where
  st : List UInt8
  F : List Fld
  n : Nat
  e : Int
  deriving Inhabited
def loopM (s st : List UInt8) : Nat → List Fld → Nat → Rd
  | 0, F, n => ⟨st, F, n, 17⟩
  | k + 1, F, n =>
    if (nextM s n).2.2 ≠ 0 then ⟨st, F, (nextM s n).2.1, (nextM s n).2.2⟩
    else if (nextM s n).1 = [] then ⟨st, F, (nextM s n).2.1, 0⟩
    else if (addM F (nextM s n).1).2 ≠ 0 then ⟨st, (addM F (nextM s n).1).1, (nextM s n).2.1, (addM F (nextM s n).1).2⟩
    else loopM s st k (addM F (nextM s n).1).1 (nextM s n).2.1
def readM (s : List UInt8) : Rd :=
  if (nextM s 0).2.2 ≠ 0 then ⟨[], [], (nextM s 0).2.1, (nextM s 0).2.2⟩
  else if beginE (nextM s 0).1 ≠ 0 then ⟨[], [], (nextM s 0).2.1, beginE (nextM s 0).1⟩
  else loopM s (nextM s 0).1 4097 [] (nextM s 0).2.1
def splitM (s : List UInt8) : Rd := if (readM s).e ≠ 0 then ⟨[], [], 0, (readM s).e⟩ else readM s
theorem lineM_length {l l' : List UInt8} (h : lineM l = some l') : l'.length ≤ l.length := by
  unfold lineM at h
  split at h
  · cases h; unfold Lib.trimSuffix
    split <;> simp
  · cases h
theorem next_bounds {s : List UInt8} {n : Nat} (h1 : n ≤ s.length) (h2 : n ≤ 4096) : (nextM s n).2.1 ≤ s.length ∧ (nextM s n).2.1 ≤ 4096 ∧ ((nextM s n).2.2 = 0 → n < (nextM s n).2.1) ∧ (nextM s n).1.length ≤ s.length := by
  have hq : (seenM s n).length + n ≤ 4096 ∧ (seenM s n).length + n ≤ s.length := by unfold seenM; simp; omega
  obtain ⟨q1, q2⟩ := hq; have hge := Lib.indexByte_ge (seenM s n) 10; unfold nextM; by_cases hi : Lib.indexByte (seenM s n) 10 < 0
  · rw [if_pos hi]; refine ⟨h1, h2, ?_, by simp⟩; dsimp only
    split <;> (intro h; cases h)
  · rw [if_neg hi]; obtain ⟨o, ho⟩ : ∃ o : Nat, Lib.indexByte (seenM s n) 10 = o := ⟨(Lib.indexByte (seenM s n) 10).toNat, by omega⟩
    have hol := (List.getElem?_eq_some_iff.1 (Lib.indexByte_some ho).1).1; rw [ho, Int.toNat_natCast]
    cases hl : lineM ((seenM s n).take (o + 1)) with
    | none => dsimp only; exact ⟨by omega, by omega, by omega, by simp⟩
    | some l =>
      have := lineM_length hl; dsimp only; exact ⟨by omega, by omega, by omega, by simp at this; omega⟩
set_option maxRecDepth 100000 in
set_option maxHeartbeats 1000000 in
theorem head_read (W : World) (hm : ML W) (s : List UInt8) (b : Nat) (w : World) (h : Hd W w b [] [] 0) (hs : s.length ≤ 1048576) :
    Calls Tryz.prog 163 #[.pointer (some ⟨b, 0, none⟩), .string (S s)] w fun e w' => e = .returned (.int .i64 (readM s).e) ∧ Hd W w' b (readM s).st (readM s).F (readM s).n := by
  have hN := head_next W s b [] [] 0 w h hs (Nat.zero_le _) (Nat.zero_le _); have hB := next_bounds (s := s) (n := 0) (Nat.zero_le _) (Nat.zero_le _)
  have hR : readM s = if (nextM s 0).2.2 ≠ 0 then ⟨[], [], (nextM s 0).2.1, (nextM s 0).2.2⟩
    else if beginE (nextM s 0).1 ≠ 0 then ⟨[], [], (nextM s 0).2.1, beginE (nextM s 0).1⟩
    else loopM s (nextM s 0).1 4097 [] (nextM s 0).2.1 := rfl
  generalize nextM s 0 = r at hN hB hR; obtain ⟨l, n, e0⟩ := r; dsimp only at hN hB hR; obtain ⟨b1, b2, b3, b4⟩ := hB; have HN := Lib.hid hN; clear hN h; by_cases he : e0 = 0
  · subst he; rw [if_neg (by simp)] at hR; have HG := Lib.hid (fun w1 (h : Hd W w1 b [] [] n) => head_begin W l b [] [] n w1 h (by omega)); go_enter Tryz.func163, Tryz.ntmps163; go_wp2_with fail; refine HN.out.mono ?_; rintro e w1 ⟨rfl, hd1⟩; have H1 := Lib.hid hd1; clear hd1; go_wp2_with fail; refine (HG.out _ H1.out).mono ?_; rintro e w2 ⟨rfl, hd2⟩
    have hst : ∃ st2, Hid (Hd W w2 b st2 [] n) ∧ Hid (readM s = if beginE l ≠ 0 then ⟨st2, [], n, beginE l⟩ else loopM s st2 4097 [] n) := by
      by_cases hz : beginE l = 0
      · exact ⟨l, by rw [if_pos hz] at hd2; exact hd2, by rw [hR]; simp [hz, Hid]⟩
      · exact ⟨[], by rw [if_neg hz] at hd2; exact hd2, by rw [hR]; simp [hz, Hid]⟩
    obtain ⟨st2, H2, HR⟩ := hst; clear hd2 hR; generalize beginE l = e2 at HR; go_wp2_with fail
    go_loopg [5, 6] (4097 - n) (fun g lv ev wr => ∃ (l' : List UInt8) (F : List Fld) (n' k : Nat) (e' : Int), lv = .string (S l') ∧ ev = .int .i64 e' ∧ n' ≤ s.length ∧ n' ≤ 4096 ∧ 4097 - n' ≤ k ∧ g = 4097 - n' ∧ Hid (Hd W wr b st2 F n') ∧
      Hid (readM s = if e' ≠ 0 then ⟨st2, F, n', e'⟩ else loopM s st2 k F n'))
    case atStart => exact ⟨l, [], n, 4097, e2, rfl, rfl, b1, b2, by omega, rfl, H2, HR⟩
    case round =>
      obtain ⟨l', F, n', k, e', rfl, rfl, c1, c2, c3, rfl, HD, HR2⟩ := hrel; by_cases hz : e' = 0
      · subst hz; obtain ⟨k', rfl⟩ : ∃ k', k = k' + 1 := ⟨k - 1, by omega⟩
        have hN2 := head_next W s b st2 F n' wr HD.out hs c1 c2; have hB2 := next_bounds c1 c2; have hR2 := HR2.out; rw [if_neg (by simp), loopM] at hR2; generalize nextM s n' = r2 at hN2 hB2 hR2; obtain ⟨l2, n2, e3⟩ := r2; dsimp only at hN2 hB2 hR2; obtain ⟨p1, p2, p3, p4⟩ := hB2; have HN2 := Lib.hid hN2; have hte := S_toList l2; clear hN2 HR HR2 H2 HG HN H1; by_cases h3 : e3 = 0
        · subst h3; have p5 := p3 rfl; rw [if_neg (by simp)] at hR2; by_cases hle : l2 = []
          · rw [if_pos hle] at hR2; have HR3 := Lib.hid hR2; subst hle; have hq : (S []).toList = [] := S_toList []; clear hR2 p3; go_wp2_with fail; refine HN2.out.mono ?_; rintro e w3 ⟨rfl, hd3⟩; have H3 := Lib.hid hd3; clear hd3; go_wp2_with fail; go_ret; rw [HR3.out]; exact ⟨rfl, H3.out⟩
          · rw [if_neg hle] at hR2; have hie : l2.isEmpty = false := by cases l2 <;> simp_all
            have HR3 := Lib.hid hR2; have HA := Lib.hid (fun w1 (h : Hd W w1 b st2 F n2) => head_add W hm l2 b st2 F n2 w1 h (by omega)); clear hR2 p3 hle; go_wp2_with fail; refine HN2.out.mono ?_; rintro e w3 ⟨rfl, hd3⟩; have H3 := Lib.hid hd3; clear hd3; go_wp2_with fail; refine (HA.out _ H3.out).mono ?_; rintro e w4 ⟨rfl, hd4⟩; have H4 := Lib.hid hd4; clear hd4; go_wp2_with fail
            go_roundg (4097 - n2)
            case measure => omega
            case rel => exact ⟨l2, (addM F l2).1, n2, k', (addM F l2).2, rfl, rfl, p1, p2, by omega, rfl, H4, HR3⟩
        · rw [if_pos h3] at hR2; have HR3 := Lib.hid hR2; have hq1 : (e3 == 0) = false := by simpa using h3
          clear hR2 p3; go_wp2_with fail; refine HN2.out.mono ?_; rintro e w3 ⟨rfl, hd3⟩; have H3 := Lib.hid hd3; clear hd3; go_wp2_with fail; go_ret; rw [HR3.out]; exact ⟨rfl, H3.out⟩
      · have hR2 := HR2.out; rw [if_pos hz] at hR2; have HR3 := Lib.hid hR2; clear hR2 HR HR2 H2 HG HN H1; go_wp2_with fail; go_ret; rw [HR3.out]; exact ⟨rfl, HD.out⟩
  · rw [if_pos he] at hR; have HR := Lib.hid hR; clear hR b3; go_enter Tryz.func163, Tryz.ntmps163; go_wp2_with fail; refine HN.out.mono ?_; rintro e w1 ⟨rfl, hd1⟩; have H1 := Lib.hid hd1; clear hd1; go_wp2_with fail
    go_loopg [5, 6] 1 (fun g lv ev wr => lv = .string (S l) ∧ ev = .int .i64 e0 ∧ wr = w1)
    case atStart => exact ⟨rfl, rfl, rfl⟩
    case round =>
      obtain ⟨rfl, rfl, rfl⟩ := hrel; go_wp2_with fail; go_ret; rw [HR.out]; exact ⟨rfl, H1.out⟩
theorem results_tmp4 {fn : Func} {t u v x : Tmp} (h : fn.results = #[.tmp t, .tmp u, .tmp v, .tmp x]) (tmps : Array Value) (P : Program) (w : World) :
    (results fn tmps).run P w = .ok (.tuple #[tmps.getD t undef, tmps.getD u undef, tmps.getD v undef, tmps.getD x undef]) w := by
  simp [results, h]
def SplitOut (w : World) (r : Rd) (e : Ending) (w' : World) : Prop := ∃ v, e = .returned (.tuple #[.string (S r.st), v, .int .i64 r.n, .int .i64 r.e]) ∧ Own Fld.cells 2 w.heap.size 89 w' v r.F ∧ Keep [] w w'
set_option maxRecDepth 100000 in
set_option maxHeartbeats 1000000 in
theorem field_Split (s : List UInt8) (w : World) (hm : ML w) (hs : s.length ≤ 1048576) :
    Calls Tryz.prog 113 #[.string (S s)] w (SplitOut w (splitM s)) := by
  have HR := Lib.hid (fun w1 (h : Hd w w1 w.heap.size [] [] 0) => head_read w hm s w.heap.size w1 h hs)
  have hH : Hd w (w.alloc (.cells #[.string ⟨#[]⟩, .slice none 0 0, .int .i64 0] 196)) w.heap.size [] [] 0 :=
    ⟨.slice none 0 0, Blk.newA w #[.string ⟨#[]⟩, .slice none 0 0, .int .i64 0] _, Own.nil _ _ _ _ _, by simp [Value.ownBlock], Nat.le_refl _, (Keep.refl _ _).alloc _⟩
  have HH := Lib.hid hH; have hsp : splitM s = if (readM s).e ≠ 0 then ⟨[], [], 0, (readM s).e⟩ else readM s := rfl
  generalize readM s = r at HR hsp; clear hH; by_cases he : r.e = 0
  · rw [if_neg (by simpa using he)] at hsp; have HS := Lib.hid hsp; have HE := Lib.hid he; rw [he] at HR; clear hsp he; go_enter Tryz.func113, Tryz.ntmps113; go_wp2_with fail; refine (HR.out _ HH.out).mono ?_; rintro e w1 ⟨rfl, hd1⟩; obtain ⟨fv, h1, h2, h3, h4, h5⟩ := hd1; have c0 := h1.get (k := 0) rfl; have c1 := h1.get (k := 1) rfl; have c2 := h1.get (k := 2) rfl; have H2 := Lib.hid h2; have H5 := Lib.hid h5; clear h1 h2 h3 h4 h5; go_wp2_with fail; go_quiet (fail); go_wp2_with fail; refine bodyPost_ret (results_tmp4 rfl _ _ _) rfl ?_; rw [HS.out]; exact ⟨fv, by rw [HE.out]; rfl, H2.out.of_heap rfl, H5.out.drewN _⟩
  · rw [if_pos he] at hsp; have HS := Lib.hid hsp; have hq1 : (r.e == 0) = false := by simpa using he
    clear hsp he; go_enter Tryz.func113, Tryz.ntmps113; go_wp2_with fail; refine (HR.out _ HH.out).mono ?_; rintro e w1 ⟨rfl, hd1⟩; have H1 := Lib.hid hd1; clear hd1; go_wp2_with fail; refine bodyPost_ret (results_tmp4 rfl _ _ _) rfl ?_; rw [HS.out]; exact ⟨_, rfl, Own.nil _ _ _ _ _, H1.out.choose_spec.2.2.2.2⟩
end Go.Proofs.YtlhnjkekjbbhcaaGreatDoor
namespace Go.Proofs.YtlhnjkekjbbhcaaGreatDoor
open Go.RowKit Go.ChangeShapes Go.WideShapes
theorem fld_cells : Tryz.prog.cellsOf 89 = 2 := by kernel_rfl
theorem str_cells : Tryz.prog.cellsOf 9 = 1 := by kernel_rfl
def Fld.good (f : Fld) : Prop := f.name.length ≤ maxLen ∧ f.value.length ≤ maxLen
theorem read_fld {H : Type} {enc : TypeId × Value → H} {w : World} {base : Nat} {spare : Nat → Bool} {held : Bool} (m : Nat) (cs : List Value) (x : DataW H × List MemPlace)
    (h : DataW.trod enc Tryz.prog w base spare held m 89 cs = some x) : ∃ a : Fld, cs = a.cells ∧ a.good := by
  obtain ⟨hl, n, hf⟩ := trod_fields Tryz.underlying89 h; rw [fld_cells] at hl; obtain ⟨y0, h0⟩ := hf 0 _ rfl; obtain ⟨y1, h1⟩ := hf 1 _ rfl; obtain ⟨v0, c0, w0⟩ := field_string Tryz.underlying9 str_cells h0; obtain ⟨v1, c1, w1⟩ := field_string Tryz.underlying9 str_cells h1; refine ⟨⟨v0.data.toList, v1.data.toList⟩, list_eq_of hl rfl ?_, by rw [← Lib.size_eq]; exact w0, by rw [← Lib.size_eq]; exact w1⟩; intro i hi; simp only [Fld.cells, S_of]
  match i, hi with
  | 0, _ => exact c0
  | 1, _ => exact c1
theorem Calls.below {P : Program} {f : FuncId} {args : Array Value} {w : World} {v : Value} (h : Calls P f args w fun e w' => e = .returned v ∧ Keep [] w w') : Calls P f args w fun e w' => e = .returned v ∧ Below w.heap.size w w' :=
  h.mono fun _ _ h => ⟨h.1, h.2.below (by simp)⟩
theorem ML.shape {W : World} (h : W.ShapedOpen Tryz.prog) : ML W :=
  Go.Proofs.cell_of_shapedOpen_int (zero := #[.int .i64 0]) (t := 3) h (of_decide_eq_true (by kernel_rfl)) (by kernel_rfl) rfl (by kernel_rfl) (by kernel_rfl) Tryz.underlying3
def flatD : Nat → DataW Unit → List Value
  | 0, _ => []
  | n + 1, .agg l => l.flatMap (flatD n)
  | _ + 1, .lit (.int k z) => [.int k z]
  | _ + 1, .lit (.bool b) => [.bool b]
  | _ + 1, .lit (.string s) => [.string ⟨s.toArray⟩]
  | _ + 1, _ => []
noncomputable def laidHeap (l : List (String × DataW Unit)) (h : Array Obj) : Array Obj :=
  l.foldl (fun h x => match Tryz.prog.globalNamed x.1 with
    | some g => h.modify g fun
      | .cells _ t fr => .cells (flatD 6 x.2).toArray t fr
      | o => o
    | none => h) h
noncomputable def laidWorld (os : Os) (l : List (String × DataW Unit)) : World :=
  { World.holding Tryz.prog os ⟨#[], #[], []⟩ with heap := laidHeap l (World.holding Tryz.prog os ⟨#[], #[], []⟩).heap }
end Go.Proofs.YtlhnjkekjbbhcaaGreatDoor
namespace Go.Proofs.YtlhnjkekjbbhcaaGreatDoor
open Go.RowKit
def lettersB : List UInt8 := [97, 98, 99, 100, 101, 102, 103, 104, 105, 106, 107, 108, 109, 110, 111, 112, 113, 114, 115, 116, 117, 118, 119, 120, 121, 122, 48, 49, 50, 51, 52, 53, 54, 55, 56, 57]
def sepsB : List UInt8 := [46, 95, 45]
def tagsB : List UInt8 := lettersB ++ [65, 66, 67, 68, 69, 70, 71, 72, 73, 74, 75, 76, 77, 78, 79, 80, 81, 82, 83, 84, 85, 86, 87, 88, 89, 90] ++ sepsB
def isSepM (l : List UInt8) : Bool := l == [46] || l == [95] || l == [95, 95] || (!l.isEmpty && (Lib.trimS l [45]).isEmpty)
def wordR (s : List UInt8) : List UInt8 := Lib.trimLeftS s lettersB
def sepR (s : List UInt8) : List UInt8 := Lib.trimLeftS s sepsB
def partM : Nat → List UInt8 → Bool
  | 0, _ => false
  | k + 1, s => if (wordR s).length = s.length then false else if wordR s = [] then true
    else if isSepM ((wordR s).take ((wordR s).length - (sepR (wordR s)).length)) then partM k (sepR (wordR s)) else false
def isPartM (s : List UInt8) : Bool := partM (s.length + 1) s
theorem wordR_le (s : List UInt8) : (wordR s).length ≤ s.length := (List.dropWhile_sublist _).length_le
theorem sepR_le (s : List UInt8) : (sepR s).length ≤ s.length := (List.dropWhile_sublist _).length_le
def slashF : Nat → List UInt8 → List (List UInt8)
  | 0, s => [s]
  | k + 1, s => if Lib.indexByte s 47 = -1 then [s] else s.take (Lib.indexByte s 47).toNat :: slashF k (s.drop ((Lib.indexByte s 47).toNat + 1))
def isRepoM (s : List UInt8) : Bool := decide (s.length ≤ 128) && (slashF s.length s).all isPartM
def isTagM (s : List UInt8) : Bool := !s.isEmpty && decide (s.length ≤ 128) && (s.headD 0 != 46) && (s.headD 0 != 45) && s.all tagsB.contains
end Go.Proofs.YtlhnjkekjbbhcaaGreatDoor
namespace Go.Proofs.YtlhnjkekjbbhcaaGreatDoor
open Go.RowKit Go.Shelf
theorem slashF_end {k : Nat} {r : List UInt8} (h : ∀ j : Nat, r[j]? ≠ some (47 : UInt8)) : slashF k r = [r] := by
  have hi : Lib.indexByte r 47 = -1 := by
    have hge := Lib.indexByte_ge r 47; by_cases h1 : Lib.indexByte r 47 = -1
    · exact h1
    · obtain ⟨i, hi⟩ : ∃ i : Nat, Lib.indexByte r 47 = i := ⟨(Lib.indexByte r 47).toNat, by omega⟩
      exact absurd (Lib.indexByte_some hi).1 (h i)
  cases k with
  | zero => rfl
  | succ k => show (if _ then _ else _) = _; rw [if_pos hi]
theorem slashF_more {k i : Nat} {r : List UInt8} (h : r[i]? = some (47 : UInt8)) (hf : ∀ j : Nat, j < i → r[j]? ≠ some (47 : UInt8)) (hk : r.length ≤ k) : slashF k r = r.take i :: slashF (k - 1) (r.drop (i + 1)) := by
  have hlt := (List.getElem?_eq_some_iff.1 h).1; have hi : Lib.indexByte r 47 = (i : Nat) := indexByte_at h hf
  cases k with
  | zero => omega
  | succ k =>
    show (if _ then _ else _) = _; rw [if_neg (by rw [hi]; omega), hi]; simp
theorem slash_last (P : List UInt8 → Bool) : ∀ (k : Nat) (r : List UInt8) (q : Nat), r.length ≤ k → r[q]? = some (47 : UInt8) → (∀ j : Nat, q < j → r[j]? ≠ some (47 : UInt8)) → (slashF k r).all P = ((slashF k (r.take q)).all P && P (r.drop (q + 1)))
  | 0, r, q, hk, hq, _ => by
    have := (List.getElem?_eq_some_iff.1 hq).1; omega
  | k + 1, r, q, hk, hq, hl => by
    have hqlt := (List.getElem?_eq_some_iff.1 hq).1
    obtain ⟨i, hi, hf⟩ : ∃ i, r[i]? = some (47 : UInt8) ∧ ∀ j : Nat, j < i → r[j]? ≠ some (47 : UInt8) := by
      have hge := Lib.indexByte_ge r 47; by_cases h1 : Lib.indexByte r 47 = -1
      · exact absurd hq (Lib.indexByte_none h1 q)
      · obtain ⟨i, hi⟩ : ∃ i : Nat, Lib.indexByte r 47 = i := ⟨(Lib.indexByte r 47).toNat, by omega⟩
        exact ⟨i, (Lib.indexByte_some hi).1, (Lib.indexByte_some hi).2⟩
    have hiq : i ≤ q := by
      rcases Nat.lt_or_ge q i with h | h
      · exact absurd hq (hf q h)
      · exact h
    rw [slashF_more hi hf hk, Nat.add_sub_cancel]; rcases Nat.lt_or_ge i q with hlt | hge
    · have hi2 : (r.take q)[i]? = some (47 : UInt8) := by rw [List.getElem?_take, if_pos hlt]; exact hi
      have hf2 : ∀ j : Nat, j < i → (r.take q)[j]? ≠ some (47 : UInt8) := fun j hj => by rw [List.getElem?_take, if_pos (by omega)]; exact hf j hj
      rw [slashF_more (k := k + 1) hi2 hf2 (by rw [List.length_take]; omega), Nat.add_sub_cancel]; have ih := slash_last P k (r.drop (i + 1)) (q - i - 1) (by rw [List.length_drop]; omega) (by rw [List.getElem?_drop, show i + 1 + (q - i - 1) = q by omega]; exact hq) (fun j hj => by rw [List.getElem?_drop]; exact hl _ (by omega)); have e1 : (r.drop (i + 1)).take (q - i - 1) = (r.take q).drop (i + 1) := by rw [List.drop_take, Nat.sub_sub]
      have e2 : (r.drop (i + 1)).drop (q - i - 1 + 1) = r.drop (q + 1) := by rw [List.drop_drop]; congr 1; omega
      have e3 : (r.take q).take i = r.take i := by rw [List.take_take]; congr 1; omega
      rw [e1, e2] at ih; rw [e3, List.all_cons, List.all_cons, ih, Bool.and_assoc]
    · have : i = q := by omega
      subst this
      rw [slashF_end (r := r.take i) (fun j h => by
        rw [List.getElem?_take] at h
        split at h
        · rename_i hj; exact hf j hj h
        · cases h)]
      rw [slashF_end (r := r.drop (i + 1)) (fun j h => by rw [List.getElem?_drop] at h; exact hl _ (by omega) h)]; simp
def LastIs (s : List UInt8) (k : Int) : Prop := (k = -1 ∧ ∀ j : Nat, s[j]? ≠ some (47 : UInt8)) ∨ ∃ q : Nat, k = q ∧ s[q]? = some (47 : UInt8) ∧ ∀ j : Nat, q < j → s[j]? ≠ some (47 : UInt8)
set_option maxRecDepth 100000 in
set_option maxHeartbeats 2000000 in
theorem ref15_Last (s : List UInt8) (w : World) (hs : s.length ≤ 1048576) :
    Calls Tryz.prog 98 #[.string (S s)] w fun e w' => (∃ k, e = .returned (.int .i64 k) ∧ LastIs s k) ∧ w = w' := by
  have hsz := S_size s; have wl := IntWalk.i64_in ((s.length : Int) - 1) (by omega); go_enter Tryz.func98, Tryz.ntmps98; go_wp2_with fail
  go_loopg [3] s.length (fun g iv wr => ∃ i : Int, iv = .int .i64 i ∧ i = (g : Int) - 1 ∧ g ≤ s.length ∧ Hid (∀ j : Nat, g ≤ j → s[j]? ≠ some (47 : UInt8)) ∧ w = wr)
  case atStart => exact ⟨_, rfl, by omega, Nat.le_refl _, Lib.hid (fun j hj h => by have := (List.getElem?_eq_some_iff.1 h).1; omega), rfl⟩
  case round =>
    obtain ⟨i, rfl, hi, hg, HN, rfl⟩ := hrel; by_cases hge : 0 ≤ i
    · obtain ⟨m, hm⟩ : ∃ m : Nat, i = m := ⟨i.toNat, by omega⟩
      subst hm; obtain ⟨c, hc⟩ : ∃ c, s[m]? = some c := ⟨_, List.getElem?_eq_getElem (by omega)⟩
      have hget := S_get hc; have c8 := u8_nat c; have i3 : (m : Int) < (s.length : Int) := by omega
      have wk := IntWalk.i64_in ((m : Int) - 1) (by omega); by_cases h47 : c = 47
      · have q1 := (int_eq (show (c.toNat : Int) = 47 by rw [h47]; rfl)).1; have HR := Lib.hid (show LastIs s (m : Int) from Or.inr ⟨m, rfl, by rw [hc, h47], fun j hj => HN.out j (by omega)⟩); clear h47 hc hi; go_wp2_with fail; go_ret; exact ⟨⟨_, rfl, HR.out⟩, rfl⟩
      · have q1 := (int_ne (show (c.toNat : Int) ≠ 47 from fun h => h47 (UInt8.toNat_inj.1 (by have h9 : (47 : UInt8).toNat = 47 := rfl; omega)))).1
        have HN2 := Lib.hid (fun (j : Nat) (hj : m ≤ j) => show s[j]? ≠ some (47 : UInt8) from fun h => by
          rcases Nat.lt_or_ge m j with h1 | h1
          · exact HN.out j (by omega) h
          · have : j = m := by omega
            subst this; rw [hc] at h; exact h47 (by simpa using h))
        have HG := Lib.hid hi; clear h47 hc hi; go_wp2_with fail
        go_roundg m
        case measure => have := HG.out; omega
        case rel => exact ⟨_, rfl, by omega, by omega, Lib.hid (fun j hj => HN2.out j hj), rfl⟩
    · have HR := Lib.hid (show LastIs s (-1) from Or.inl ⟨rfl, fun j => HN.out j (by omega)⟩); clear hi; go_wp2_with fail; go_ret; exact ⟨⟨_, rfl, HR.out⟩, rfl⟩
set_option maxRecDepth 100000 in
set_option maxHeartbeats 2000000 in
theorem ref15_IsRepo (HP : ∀ (l : List UInt8) (w : World), l.length ≤ 128 → Calls Tryz.prog 99 #[.string (S l)] w fun e w' => e = .returned (.bool (isPartM l)) ∧ Keep [] w w')
    (s : List UInt8) (w : World) (hs : s.length ≤ maxLen) :
    Calls Tryz.prog 57 #[.string (S s)] w fun e w' => e = .returned (.bool (isRepoM s)) ∧ Keep [] w w' := by
  have hs' : s.length ≤ 9223372036854775807 := hs; have sS := S_size s; have HPh := Lib.hid HP; clear HP hs; by_cases hl : 128 < s.length
  · have q : decide ((s.length : Int) > 128) = true := by simp; omega
    have HR := Lib.hid (show isRepoM s = false by unfold isRepoM; rw [decide_eq_false (by omega)]; rfl); clear hl; go_enter Tryz.func57, Tryz.ntmps57; go_wp2_with fail; go_ret; exact ⟨ret_bool HR.out.symm, Keep.refl _ _⟩
  · have q : decide ((s.length : Int) > 128) = false := by simp; omega
    have HR := Lib.hid (show isRepoM s = (slashF s.length s).all isPartM by unfold isRepoM; rw [decide_eq_true (by omega)]; rfl); have hl2 : s.length ≤ 128 := by omega
    clear hl; go_enter Tryz.func57, Tryz.ntmps57; go_wp2_with fail
    go_loopg [0] s.length (fun g sv wr => ∃ l : List UInt8, sv = .string (S l) ∧ l.length ≤ g ∧ l.length ≤ s.length ∧ Hid (isRepoM s = (slashF s.length l).all isPartM) ∧ Hid (Keep [] w wr))
    case atStart => exact ⟨s, rfl, Nat.le_refl _, Nat.le_refl _, HR, Lib.hid (Keep.refl _ _)⟩
    case round =>
      obtain ⟨l, rfl, hg, hll, HE, HK⟩ := hrel; have sL := S_size l; have HL := Lib.hid (ref15_Last l wr (by omega)); go_wp2_with fail; refine HL.out.mono ?_; rintro e w5 ⟨⟨kk, rfl, hk⟩, rfl⟩; rcases hk with ⟨rfl, hno⟩ | ⟨q1, rfl, hq, hlast⟩
      · have HPl := Lib.hid (HPh.out l wr (by omega)); have HF := Lib.hid (show isRepoM s = isPartM l by rw [HE.out, slashF_end hno]; simp); clear hno; go_wp2_with fail; refine HPl.out.mono ?_; rintro e w6 ⟨rfl, k6⟩; have K6 := Lib.hid (HK.out.trans k6); clear k6; go_wp2_with fail; go_ret; exact ⟨ret_bool HF.out.symm, K6.out⟩
      · have hqlt := (List.getElem?_eq_some_iff.1 hq).1; have HF := Lib.hid (show isRepoM s = ((slashF s.length (l.take q1)).all isPartM && isPartM (l.drop (q1 + 1))) by rw [HE.out, slash_last isPartM s.length l q1 hll hq hlast]); have HPl := Lib.hid (HPh.out (l.drop (q1 + 1)) wr (by rw [List.length_drop]; omega)); have wk := IntWalk.i64_in ((q1 : Int) + 1) (by omega); have n1 : ((q1 : Int) + 1).toNat = q1 + 1 := by omega
        have i0 : (0 : Int) ≤ (q1 : Int) := by omega
        have i1 : (q1 : Int) ≤ (l.length : Int) := by omega
        have i2 : (q1 : Int) + 1 ≤ (l.length : Int) := by omega
        have i3 : (0 : Int) ≤ (q1 : Int) + 1 := by omega
        have i4 : ¬ (q1 : Int) < 0 := by omega
        have x1 : (S l).extract (q1 + 1) l.length = S (l.drop (q1 + 1)) := by rw [S_extract, List.take_length]
        have x2 : (S l).extract 0 q1 = S (l.take q1) := by rw [S_extract]; simp
        clear hq hlast
        cases hpm : isPartM (l.drop (q1 + 1)) with
        | false =>
          rw [hpm] at HPl HF; have HF2 := Lib.hid (show isRepoM s = false by rw [HF.out, Bool.and_false]); clear hpm; go_wp2_with fail; refine HPl.out.mono ?_; rintro e w6 ⟨rfl, k6⟩; have K6 := Lib.hid (HK.out.trans k6); clear k6; go_wp2_with fail; go_ret; exact ⟨ret_bool HF2.out.symm, K6.out⟩
        | true =>
          rw [hpm] at HPl HF; have HF2 := Lib.hid (show isRepoM s = (slashF s.length (l.take q1)).all isPartM by rw [HF.out, Bool.and_true]); clear hpm; go_wp2_with fail; refine HPl.out.mono ?_; rintro e w6 ⟨rfl, k6⟩; have K6 := Lib.hid (HK.out.trans k6); clear k6; go_wp2_with fail
          go_roundg q1
          case measure => omega
          case rel => exact ⟨l.take q1, rfl, by rw [List.length_take]; omega, by rw [List.length_take]; omega, HF2, K6⟩
end Go.Proofs.YtlhnjkekjbbhcaaGreatDoor
