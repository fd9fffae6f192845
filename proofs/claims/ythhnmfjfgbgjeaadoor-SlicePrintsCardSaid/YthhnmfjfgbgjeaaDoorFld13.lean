/- Layer 10: the head: begin, add. No conditions but on lengths. -/
import Derived.Test.YthhnmfjfgbgjeaaDoorFld12
import Derived.Deep.AppendLies
import Derived.Deep.RegionLaw
namespace Go.Proofs.YthhnmfjfgbgjeaaDoor
open Go.RowKit Go.Shelf

/-- the append as a step of a region that draws -/
theorem step_append3 {P : Program} {ops : Array Oper} {o : Oper} {a : Act} {w : World} {K : Act → World → Prop} {Q : Exit → Act → World → Prop} {X : Prop} (hgd : o.guard = none) (s x : Operand) (t : TypeId)
    (ho : o.op = .call { callee := .builtin .append, args := #[s, x], argTypes := #[t, t] })
    {α : Type} {enc : α → List Value} {n base : Nat} {E : TypeId} {L : List α} {v : Value}
    (i : TypeInfo) (z : Value) (bytes : Nat) (ht : P.underlying t = some (.slice E)) (HI : Hid (P.info? E = some i ∧ i.zero = some z ∧ i.size = n ∧ i.bytes = bytes)) (hzs : z.cells.size = n) (hn0 : 0 < n)
    (hn : ∀ x, (enc x).length = n) (h1 : ∀ x, ∀ u ∈ enc x, u.oneCell' = true)
    (hs : a.eval s = v) (hown : Own enc n base E w v L) (y : α) (B c : Nat) (hx : a.eval x = .slice (some ⟨B, 0, none⟩) 1 c) (hB : Blk w B E (enc y))
    (h63 : L.length + 1 ≤ maxLen) (hbytes : (L.length + 1) * bytes ≤ 140737488355328) (hbase : base ≤ w.heap.size)
    (h : ∀ g cap w', Own enc n base E w' (.slice (some ⟨g, 0, none⟩) (L.length + 1) cap) (L ++ [y]) → w.grownBy w' v.ownBlock → (v.ownBlock = some g ∨ g = w.heap.size) → K (a.put o.dst (.slice (some ⟨g, 0, none⟩) (L.length + 1) cap)) w') :
    if Region.wanted o (yielded ops a.tmps) = true then Oper.wp P o a w K Q else X := by
  refine step_append_lies _ hgd s x t ho base E i z n bytes ht HI.out.1 HI.out.2.1 HI.out.2.2.1 HI.out.2.2.2 hzs hn0 v L.length (rows enc L) hs hown ⟨B, 0, none⟩ 1 c (enc y) hx (by rw [hn]; omega) ?_ (h1 y) (by omega) h63 hbytes hbase _ rfl ?_
  · intro j u hj
    have : (⟨B, 0, none⟩ : Addr).add j = ⟨B, j, none⟩ := by unfold Addr.add; split <;> simp_all
    rw [this, hB.cell j]
    exact hj
  · intro g cap w' hown' hg hat _
    refine h g cap w' ?_ hg hat
    have : rows enc (L ++ [y]) = rows enc L ++ enc y := by simp [rows]
    unfold Own
    rw [this, List.length_append]
    exact hown'

def beginE (l : List UInt8) : Int := if l = [] then 3 else if 1024 < l.length then 4 else 0
set_option maxRecDepth 100000 in
set_option maxHeartbeats 1000000 in
theorem head_begin (W : World) (l : List UInt8) (b : Nat) (st : List UInt8) (F : List Fld) (at' : Nat) (w : World) (h : Hd W w b st F at') (hs : l.length ≤ 1048576) :
    Calls Tryd.prog 61 #[.pointer (some ⟨b, 0, none⟩), .string (S l)] w fun e w' => e = .returned (.int .i64 (beginE l)) ∧ Hd W w' b (if beginE l = 0 then l else st) F at' := by
  have hsz := S_size l
  have hte := S_toList l
  have H := Lib.hid h
  obtain ⟨fv, h1, h2, h3, h4, h5⟩ := h
  have c0 := h1.get (k := 0) rfl
  have f0 := h1.frozen
  have hlt := h1.lt
  have hset : Hd W (w.setCell ⟨b, 0, none⟩ (.string (S l))) b l F at' := by
    have hk : Keep [b] w (w.setCell ⟨b, 0, none⟩ (.string (S l))) := (Keep.refl [b] w).setCell _ _ (by simp)
    exact ⟨fv, h1.set 0 _, h2.keep hk (fun g hg => by simpa using h3 g hg), h3, h4, h5.setCell _ _ (by simp; omega)⟩
  have HS := Lib.hid hset
  clear h1 h2 h3 h4 h5 hset
  by_cases he : l = []
  · have hb : beginE l = 3 := if_pos he
    have hee : l.isEmpty = true := by simp [he]
    rw [hb]
    clear he
    go_enter Tryd.func61, Tryd.ntmps61
    go_wp2_with fail
    go_ret
    exact ⟨rfl, H.out⟩
  · have hee : l.isEmpty = false := by cases l <;> simp_all
    by_cases hl : 1024 < l.length
    · have hb : beginE l = 4 := by unfold beginE; rw [if_neg he, if_pos hl]
      rw [hb]
      clear he
      go_enter Tryd.func61, Tryd.ntmps61
      go_wp2_with fail
      go_ret
      exact ⟨rfl, H.out⟩
    · have hb : beginE l = 0 := by unfold beginE; rw [if_neg he, if_neg hl]
      rw [hb]
      clear he
      go_enter Tryd.func61, Tryd.ntmps61
      go_wp2_with fail
      go_ret
      exact ⟨rfl, HS.out⟩

theorem fldinfo : (Tryd.prog.info? 32).map (fun i => (i.zero, i.size, i.bytes)) = some (some (.agg #[.string ⟨#[]⟩, .string ⟨#[]⟩]), 2, 32) := by kernel_rfl
theorem fldinfo' : ∃ i0, Hid (Tryd.prog.info? 32 = some i0 ∧ i0.zero = some (.agg #[.string ⟨#[]⟩, .string ⟨#[]⟩]) ∧ i0.size = 2 ∧ i0.bytes = 32) := by
  obtain ⟨i0, hi, hz0, hz1, hz2⟩ := info_parts fldinfo
  exact ⟨i0, hi, hz0, hz1, hz2⟩
theorem Fld.one (f : Fld) : ∀ u ∈ f.cells, u.oneCell' = true := by simp [Fld.cells, Value.oneCell']

/-- the fields behind a line more, and the error -/
def addM (F : List Fld) (l : List UInt8) : List Fld × Int :=
  match parseF l with
  | none => (F, 3)
  | some f => if 32 ≤ F.length then (F, 4) else (F ++ [f], 0)
set_option maxRecDepth 100000 in
set_option maxHeartbeats 1000000 in
theorem head_add (W : World) (hm : ML W) (l : List UInt8) (b : Nat) (st : List UInt8) (F : List Fld) (at' : Nat) (w : World) (h : Hd W w b st F at') (hs : l.length ≤ 1048576) :
    Calls Tryd.prog 62 #[.pointer (some ⟨b, 0, none⟩), .string (S l)] w fun e w' => e = .returned (.int .i64 (addM F l).2) ∧ Hd W w' b st (addM F l).1 at' := by
  have hP := field_Parse l w (hm.keep h.choose_spec.2.2.2.2 (by simp)) (by omega)
  have hA : addM F l = (match parseF l with | none => (F, 3) | some f => if 32 ≤ F.length then (F, 4) else (F ++ [f], 0)) := rfl
  obtain ⟨is, Hs⟩ := fldinfo'
  cases hp : parseF l with
  | none =>
    have e1 : parseV l = ⟨[], []⟩ := by unfold parseV; rw [hp]; rfl
    have e2 : parseE l = 3 := by unfold parseE; rw [hp]; rfl
    rw [e1, e2] at hP
    rw [hp] at hA
    change Calls _ _ _ _ (fun e w' => e = .returned (.tuple #[.agg #[.string (S []), .string (S [])], .int .i64 3]) ∧ Keep [] w w') at hP
    have H := Lib.hid h
    have HA := Lib.hid hA
    clear h hA hp e1 e2
    go_enter Tryd.func62, Tryd.ntmps62
    go_wp2_with fail
    refine hP.mono ?_
    rintro e w1 ⟨rfl, hk1⟩
    have H1 := Lib.hid ((H.out.step hk1).step ((Keep.refl [] w1).alloc (.cells #[.string (S []), .string (S [])] 32)))
    clear hk1
    go_wp2_with fail
    go_ret
    rw [HA.out]
    exact ⟨rfl, H1.out⟩
  | some f =>
    have e1 : parseV l = f := by unfold parseV; rw [hp]; rfl
    have e2 : parseE l = 0 := by unfold parseE; rw [hp]; rfl
    rw [e1, e2] at hP
    rw [hp] at hA
    change Calls _ _ _ _ (fun e w' => e = .returned (.tuple #[.agg #[.string (S f.name), .string (S f.value)], .int .i64 0]) ∧ Keep [] w w') at hP
    have H := Lib.hid h
    clear h hp e1 e2
    by_cases h32 : 32 ≤ F.length
    · dsimp only at hA
      rw [if_pos h32] at hA
      have HA := Lib.hid hA
      clear hA
      go_enter Tryd.func62, Tryd.ntmps62
      go_wp2_with fail
      refine hP.mono ?_
      rintro e w1 ⟨rfl, hk1⟩
      have H1 := Lib.hid ((H.out.step hk1).step ((Keep.refl [] w1).alloc (.cells #[.string (S f.name), .string (S f.value)] 32)))
      obtain ⟨fv, h1, h2, h3, h4, h5⟩ := H1.out
      obtain ⟨fa, fc, rfl, hml⟩ := h2.shape
      have hml' : F.length ≤ 9223372036854775807 := hml
      have c1 := h1.get (k := 1) rfl
      clear hk1 h1 h2 h3 h4 h5 hml
      go_wp2_with fail
      go_ret
      rw [HA.out]
      exact ⟨rfl, H1.out⟩
    · dsimp only at hA
      rw [if_neg h32] at hA
      have HA := Lib.hid hA
      clear hA
      go_enter Tryd.func62, Tryd.ntmps62
      go_wp2_with fail
      refine hP.mono ?_
      rintro e w1 ⟨rfl, hk1⟩
      have H1 := Lib.hid ((H.out.step hk1).step ((Keep.refl [] w1).alloc (.cells #[.string (S f.name), .string (S f.value)] 32)))
      have hbA := Blk.newA w1 #[.string (S f.name), .string (S f.value)] 32
      generalize hwa : w1.alloc (.cells #[.string (S f.name), .string (S f.value)] 32) = wa at H1 hbA
      obtain ⟨fv, h1, h2, h3, h4, h5⟩ := H1.out
      obtain ⟨fa, fc, rfl, hml⟩ := h2.shape
      have hml' : F.length ≤ 9223372036854775807 := hml
      have c1 := h1.get (k := 1) rfl
      have f1 := h1.frozen
      have hlt := h1.lt
      have d0 := hbA.get (k := 0) rfl
      have d1 := hbA.get (k := 1) rfl
      go_upto_region 6 with fail
      have hoA := (h2.of_heap (w' := wa.drew) rfl).alloc (.cells #[.string (S f.name), .string (S f.value)] 32)
      have hbB := Blk.newA wa.drew #[.string (S f.name), .string (S f.value)] 32
      have hbb := (h1.drew).alloc (.cells #[.string (S f.name), .string (S f.value)] 32)
      have hkB := (h5.drew).alloc (.cells #[.string (S f.name), .string (S f.value)] 32)
      have HOA := Lib.hid hoA
      have HBB := Lib.hid hbB
      have Hbb := Lib.hid hbb
      have HKB := Lib.hid hkB
      have HM := Lib.hid (show maxLen = 9223372036854775807 from rfl)
      have H3 := Lib.hid h3
      have hWb := h4
      clear hoA hbB hbb hkB h1 h2 h3 h5 hml hk1 hwa H1 hbA
      go_cut [] (fun wx => Hd W wx b st (F ++ [f]) at')
      case first =>
        go_region_law (
          refine step_append3 rfl (.tmp 27) (.tmp 29) 26 rfl is (.agg #[.string ⟨#[]⟩, .string ⟨#[]⟩]) 32 Tryd.underlying26 Hs rfl (by decide) Fld.cells_length Fld.one (by simp [Act.eval, Act.put]) HOA.out f wa.heap.size 1 (by simp [Act.eval, Act.put]) HBB.out (by have := HM.out; omega) (by omega) HKB.out.size ?_
          intro g cap w2 hown hgrow hat
          have hb2 : Blk w2 b 75 [.string (S st), .slice fa F.length fc, .int .i64 at'] := (hgrow.block b Hbb.out.lt (fun e => H3.out b e.symm rfl)).trans Hbb.out
          have e1 := hb2.get (k := 1) rfl
          have e2 := hb2.frozen
          have e3 := hb2.lt)
        all_goals (
          go_wp2_with fail
          go_meet
          have hk2 : Keep [] W w2 := HKB.out.grown hgrow (fun k hk1 hk2 => absurd (HOA.out.lt k hk1).1 (by omega))
          have hgb : g ≠ b := by
            rcases hat with h | h
            · exact H3.out g h
            · intro e
              have h' : g = wa.heap.size + 1 := h.trans (by simp)
              have : b < wa.heap.size := hlt
              omega
          have hks : Keep [b] w2 (w2.setCell ⟨b, 1, none⟩ (.slice (some ⟨g, 0, none⟩) (F.length + 1) cap)) := (Keep.refl [b] w2).setCell _ _ (by simp)
          exact ⟨.slice (some ⟨g, 0, none⟩) (F.length + 1) cap, hb2.set 1 _, hown.keep hks (fun k hk => by simp [Value.ownBlock] at hk; subst hk; simpa using hgb), fun k hk => by simp [Value.ownBlock] at hk; subst hk; exact hgb, hWb, hk2.setCell _ _ (by simp; omega)⟩)
      case rest =>
        have HC := Lib.hid hcut
        clear hcut
        go_wp2_with fail
        go_ret
        rw [HA.out]
        exact ⟨rfl, HC.out⟩
end Go.Proofs.YthhnmfjfgbgjeaaDoor
