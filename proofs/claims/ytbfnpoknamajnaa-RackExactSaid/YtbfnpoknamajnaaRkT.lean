/- Layer 21: List. No conditions. -/
import Derived.Test.YtbfnpoknamajnaaRkV
import Derived.Great.BuildSlice
namespace Go.Proofs.Ytbfnpoknamajnaa
open Go.RowKit Go.Maps

theorem jarinfo : (Try.prog.info? 46).map (fun i => (i.zero, i.size, i.bytes)) = some (some (.agg jar0.cells.toArray), 35, 64) := by kernel_rfl
theorem jarinfo' : ∃ i0, Hid (Try.prog.info? 46 = some i0 ∧ i0.zero = some (.agg jar0.cells.toArray) ∧ i0.size = 35 ∧ i0.bytes = 64) := by
  obtain ⟨i0, hi, hz0, hz1, hz2⟩ := info_parts jarinfo
  exact ⟨i0, hi, hz0, hz1, hz2⟩
/-- '[]Jar{j}' -/
theorem wpList_buildJar {ops : Array Oper} {rest : List Oper} {o : Oper} {a : Act} {w : World} {Q : Exit → Act → World → Prop} (hg : o.guard = none) (t : TypeId) (x : Operand) (ho : o.op = .buildSlice t 1 #[(0, x)])
    {is : TypeInfo} (Hs : Hid (Try.prog.info? 46 = some is ∧ is.zero = some (.agg jar0.cells.toArray) ∧ is.size = 35 ∧ is.bytes = 64)) (hu : Try.prog.underlying t = some (.slice 46)) (j : Jar) (hx : a.eval x = .agg j.cells.toArray)
    (h : wpList Try.prog ops Q rest (a.put o.dst (.slice (some ⟨w.heap.size, 0, none⟩) 1 1)) (w.alloc (.cells j.cells.toArray 46))) : wpList Try.prog ops Q (o :: rest) a w := by
  refine wpList_buildSlice hg t 46 1 #[(0, x)] ho j.cells.toArray is _ hu Hs.out.1 Hs.out.2.1 (by rw [Hs.out.2.2.1]; omega) (by rw [Hs.out.2.2.1]; omega) ?_ h
  rw [Hs.out.2.2.1]
  have := Great.fill_whole (s := 35) (by omega) [.agg j.cells.toArray] ((Array.range (1 * 35)).map fun k => (Value.agg jar0.cells.toArray).cells[k % (Value.agg jar0.cells.toArray).cells.size]!) (by
    intro v hv
    simp at hv
    subst hv
    show j.cells.toArray.size = 35
    simp [Jar.cells_length]) (by simp)
  simp only [List.zipIdx_cons, List.zipIdx_nil, List.map_cons, List.map_nil, List.flatMap_cons, List.flatMap_nil, List.append_nil] at this
  have e : (#[(0, x)].map fun (i, x) => (i, a.eval x)).toList = [((0 : Nat), Value.agg j.cells.toArray)] := by simp [hx]
  rw [e]
  exact this

set_option maxRecDepth 100000 in
set_option maxHeartbeats 1000000 in
theorem rack_List {S : List Nat} (b : Nat) (budget : Int) (L : List Jar) (w : World) (h : Rk S w b budget L) :
    Calls Try.prog 47 #[.pointer (some ⟨b, 0, none⟩)] w fun e w' => ∃ v, e = .returned v ∧ Own Jar.cells 35 w.heap.size 46 w' v L ∧ Keep [] w w' := by
  have hmost := h.most
  obtain ⟨P, fv, bm, total, pinned, M, I, F, h1, hL, m1, m2, m3⟩ := h
  obtain ⟨x0, hx0⟩ : ∃ x, (I ++ [0])[0]? = some x := ⟨_, List.getElem?_eq_getElem (by simp)⟩
  obtain ⟨p0, hp0⟩ : ∃ p, P[0]? = some p := ⟨_, List.getElem?_eq_getElem (by have := h1.ring.len; omega)⟩
  have hnx0 : p0.prev = x0 := by
    have h1' : (0 :: (I ++ [0]))[0]? = some 0 := rfl
    have h2 : (0 :: (I ++ [0]))[0 + 1]? = some x0 := by rw [← hx0]; rfl
    have := (h1.ring.seg.step _ _ _ h1' h2).1
    unfold prvF at this
    rwa [getD_get hp0] at this
  have cn := h1.blk.cell hp0 36 (by omega)
  rw [Place.at36, hnx0, Nat.zero_mul, Nat.zero_add] at cn
  have hLl : I.length = L.length := by rw [hL, List.length_map]
  obtain ⟨is, Hs⟩ := jarinfo'
  have HH := Lib.hid h1
  have HLL := Lib.hid hL
  clear h1 hnx0 hp0 hL
  go_enter Try.func47, Try.ntmps47
  go_wp2_with fail
  go_loopg [2, 3] L.length (fun g s2 s3 wr => ∃ (m i : Nat), s3 = .int .i64 i ∧ g = L.length - m ∧ m ≤ L.length ∧ Hid ((I ++ [0])[m]? = some i) ∧ Hid (Keep [] w wr) ∧ Hid (Own Jar.cells 35 w.heap.size 46 wr s2 (L.take m)))
  case atStart => exact ⟨0, x0, rfl, by omega, by omega, Lib.hid hx0, Lib.hid (Keep.refl _ _), Lib.hid (Own.nil _ _ _ _ _)⟩
  case round =>
    obtain ⟨m, i, rfl, hgm, hm, HI, HK, HO⟩ := hrel
    clear cn hx0
    by_cases hmL : m < L.length
    · have him : I[m]? = some i := by have := HI.out; rwa [List.getElem?_append_left (by omega)] at this
      have hii := HH.out.ring.ib (List.mem_of_getElem? him)
      have hi0 : (0 : Int) ≤ (i : Int) := by omega
      have hi1 : (i : Int) < 65 := by omega
      have hin := int_ne' (show (i : Int) ≠ 0 by omega)
      obtain ⟨p, hp⟩ : ∃ p, P[i]? = some p := ⟨_, List.getElem?_eq_getElem (by have := HH.out.ring.len; omega)⟩
      have hpj : jarF P i = p.jar := by unfold jarF; rw [getD_get hp]
      have hLm : L[m]? = some p.jar := by rw [HLL.out, List.getElem?_map, him, ← hpj]; rfl
      obtain ⟨i', hi'⟩ : ∃ x, (I ++ [0])[m + 1]? = some x := ⟨_, List.getElem?_eq_getElem (by simp; omega)⟩
      have hpv : p.prev = i' := by
        have h1 : (0 :: (I ++ [0]))[m + 1]? = some i := by rw [List.getElem?_cons_succ]; exact HI.out
        have h2 : (0 :: (I ++ [0]))[m + 1 + 1]? = some i' := by rw [List.getElem?_cons_succ]; exact hi'
        have := (HH.out.ring.seg.step _ _ _ h1 h2).1
        unfold prvF at this
        rwa [getD_get hp] at this
      have hW := HH.out.keep0 HK.out
      have hR1 := hW.blk.range hp
      have hR2 : Hid (wr.rangeAt b (i * 37) p.jar.cells) := fun j v hv => by
        refine hR1 j v ?_
        unfold Place.cells
        rw [List.getElem?_append_left (List.getElem?_eq_some_iff.1 hv).1]
        exact hv
      have HL := Lib.hid (show (Try.prog.info? 46).map (·.size) = some p.jar.cells.length by rw [Jar.cells_length]; exact jar_size)
      have HPF := Lib.hid (fun w' (k : Keep [] w w') => (HH.out.keep0 k).blk.cell hp 36 (by omega))
      rw [Place.at36, hpv] at HPF
      have HT := Lib.hid (take_rev.take_snoc' hLm)
      have HI' := Lib.hid hi'
      have htl : (L.take m).length = m := by rw [List.length_take]; omega
      clear hW hR1 hp hpj hLm hi' hpv him hii HI
      go_wp2_with (first
        | (refine wpList_load_mid rfl 46 (.tmp 27) rfl b (i * 37) (by rfl) p.jar.cells _ hR2.out Try.underlying46 rfl HL.out ?_)
        | (refine wpList_buildJar rfl 72 (.tmp 28) rfl Hs Try.underlying72 p.jar (by rfl) ?_)
        | (at_builtin; go_must (refine wpList_append2 rfl _ _ 72 rfl is _ 64 Try.underlying72 Hs (by rfl) (by decide) Jar.cells_length Jar.one w wr rfl HK.out (by rfl) HO.out p.jar _ rfl _ (by rfl) (by rw [htl]; show m + 1 ≤ 9223372036854775807; omega) (by rw [htl]; omega) ?_); intro v' w1 hown' hk' hside; have c36 := HPF.out _ hk')
        | fail)
      go_roundg (L.length - (m + 1))
      case measure => omega
      case rel =>
        refine ⟨m + 1, i', rfl, rfl, by omega, HI', Lib.hid hk', Lib.hid ?_⟩
        rw [HT.out]
        exact hown'
    · have hme : m = L.length := by omega
      subst hme
      have hi : i = 0 := by have := HI.out; rw [List.getElem?_append_right (by omega), hLl, Nat.sub_self] at this; simpa using this.symm
      subst hi
      have HOL : Hid (Own Jar.cells 35 w.heap.size 46 wr u2 L) := by have := HO.out; rwa [List.take_length] at this
      clear HO
      go_wp2_with fail
      go_ret
      exact ⟨_, rfl, HOL.out, HK.out⟩
end Go.Proofs.Ytbfnpoknamajnaa
