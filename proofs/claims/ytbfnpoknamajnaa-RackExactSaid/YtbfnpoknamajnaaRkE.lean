/- Layer 21: the document's rack: Put. No conditions. -/
import Derived.Test.YtbfnpoknamajnaaRkC
namespace Go.Proofs.Ytbfnpoknamajnaa
open Go.RowKit Go.Maps

theorem step_load_mid {P : Program} {ops : Array Oper} {o : Oper} {a : Act} {w : World} {K : Act → World → Prop} {Q : Exit → Act → World → Prop} {X : Prop} (hgd : o.guard = none) (ty : TypeId) (x : Operand) (ho : o.op = .load ty x)
    (b off : Nat) (hx : a.eval x = .pointer (some ⟨b, off, none⟩)) (cs : List Value) (d : TypeDesc) (hS : w.rangeAt b off cs) (hu : P.underlying ty = some d) (hd : d.isRow = true) (hi : (P.info? ty).map (·.size) = some cs.length)
    (h : K (a.put o.dst (.agg cs.toArray)) w) : if Region.wanted o (yielded ops a.tmps) = true then Oper.wp P o a w K Q else X := by
  rw [if_pos (by simp [Region.wanted, hgd])]
  unfold Oper.wp execOp
  simp only [ho, hx, Instr.loadAt, Instr.sureAddr, Sem.run_bind, Sem.run_pure, Result.andThen_ok, run_loadVar_mid w b off ty cs d hS hu hd hi]
  exact h
theorem step_buildJar {ops : Array Oper} {o : Oper} {a : Act} {w : World} {K : Act → World → Prop} {Q : Exit → Act → World → Prop} {X : Prop} (hg : o.guard = none) (t : TypeId) (x : Operand) (ho : o.op = .buildSlice t 1 #[(0, x)])
    {is : TypeInfo} (Hs : Hid (Try.prog.info? 46 = some is ∧ is.zero = some (.agg jar0.cells.toArray) ∧ is.size = 35 ∧ is.bytes = 64)) (hu : Try.prog.underlying t = some (.slice 46)) (j : Jar) (cs : List Value) (hcs : cs = j.cells) (hx : a.eval x = .agg cs.toArray)
    (h : K (a.put o.dst (.slice (some ⟨w.heap.size, 0, none⟩) 1 1)) (w.alloc (.cells cs.toArray 46))) : if Region.wanted o (yielded ops a.tmps) = true then Oper.wp Try.prog o a w K Q else X := by
  subst hcs
  rw [if_pos (by simp [Region.wanted, hg])]
  refine wp_buildSlice t 46 1 #[(0, x)] ho j.cells.toArray is _ hu Hs.out.1 Hs.out.2.1 (by rw [Hs.out.2.2.1]; omega) (by rw [Hs.out.2.2.1]; omega) ?_ h
  rw [Hs.out.2.2.1]
  have := Great.fill_whole (s := 35) (by omega) [.agg j.cells.toArray] ((Array.range (1 * 35)).map fun k => (Value.agg jar0.cells.toArray).cells[k % (Value.agg jar0.cells.toArray).cells.size]!) (by
    intro v hv
    simp at hv
    subst hv
    show j.cells.toArray.size = 35
    simp [Jar.cells_length]) (by simp)
  simp only [List.zipIdx_cons, List.zipIdx_nil, List.map_cons, List.map_nil, List.flatMap_cons, List.flatMap_nil, List.append_nil] at this
  have e : (#[(0, x)].map fun (i, x) => (i, a.eval x)).toList = [((0 : Nat), Value.agg j.cells.toArray)] := by simp [hx]
  rw [e]
  exact this
theorem step_appendM {P : Program} {ops : Array Oper} {o : Oper} {a : Act} {w : World} {K : Act → World → Prop} {Q : Exit → Act → World → Prop} {X : Prop} (hgd : o.guard = none) (s x : Operand) (t : TypeId)
    (ho : o.op = .call { callee := .builtin .append, args := #[s, x], argTypes := #[t, t] })
    {α : Type} {enc : α → List Value} {n : Nat} {E : TypeId} {L M : List α} {v vx : Value}
    (i : TypeInfo) (z : Value) (bytes : Nat) (ht : P.underlying t = some (.slice E)) (HI : Hid (P.info? E = some i ∧ i.zero = some z ∧ i.size = n ∧ i.bytes = bytes)) (hzs : z.cells.size = n) (hn0 : 0 < n)
    (hn : ∀ x, (enc x).length = n) (h1 : ∀ x, ∀ u ∈ enc x, u.oneCell' = true)
    (hs : a.eval s = v) (hown : Own enc n 0 E w v L) (hx : a.eval x = vx) (hsrc : Src enc n w vx M)
    (h63 : L.length + M.length ≤ maxLen) (hbytes : (L.length + M.length) * bytes ≤ 140737488355328)
    (h : ∀ v' w', Own enc n 0 E w' v' (L ++ M) → w.grownBy w' v.ownBlock → (v'.ownBlock = v.ownBlock ∨ v'.ownBlock = some w.heap.size) → K (a.put o.dst v') w') : if Region.wanted o (yielded ops a.tmps) = true then Oper.wp P o a w K Q else X := by
  rw [if_pos (by simp [Region.wanted, hgd])]
  rcases hsrc with ⟨rfl, rfl⟩ | ⟨b, off, cap, rfl, hr⟩
  · have hrun := run_append_owned_none (P := P) (w := w) 0 t o.type E i n ht HI.out.1 v L.length (rows enc L) hown
    unfold Oper.wp
    simp [execOp, ho, resolve, invoke, builtin, hs, hx, hrun, Result.andThen]
    exact h v w (by rw [List.append_nil]; exact hown) ⟨rfl, rfl, rfl, Nat.le_refl _, fun _ _ _ => rfl⟩ (.inl rfl)
  · obtain ⟨v', w', hrun, h2, h3, h4, h5⟩ := run_append_own_at (P := P) w 0 t o.type E i z n bytes ht HI.out.1 HI.out.2.1 HI.out.2.2.1 HI.out.2.2.2 hzs hn0 v L.length (rows enc L) hown ⟨b, off, none⟩ M.length cap (rows enc M) (by rw [rows_length hn M, Nat.mul_comm]) (fun j u hj => by
        have : (⟨b, off, none⟩ : Addr).add j = ⟨b, off + j, none⟩ := by unfold Addr.add; split <;> simp_all
        rw [this]
        exact hr j u hj) (fun u hu => by
        unfold rows at hu
        obtain ⟨l, hl, hu⟩ := List.mem_flatMap.1 hu
        exact h1 l u hu) h63 hbytes (Nat.zero_le _)
    unfold Oper.wp execOp
    simp only [ho, resolve, invoke, builtin, Sem.run_bind, Sem.run_pure, Result.andThen_ok, List.map_toArray, List.map_cons, List.map_nil, hs, hx, hrun]
    refine h v' w' ?_ h3 h5
    unfold Own
    rw [List.length_append, show rows enc (L ++ M) = rows enc L ++ rows enc M by simp [rows]]
    exact h2
/-- what Put leaves -/
def Done (w w' : World) (u : Nat) (v : Value) (L : List Jar) (budget : Int) : Prop := ∃ v', Dk w' u v' L budget ∧ Keep [u] w w' ∧ ∀ g, v'.ownBlock = some g → v'.ownBlock = v.ownBlock ∨ w.heap.size ≤ g
theorem put_done {w wp w3 : World} {u : Nat} {v v3 : Value} {M : List Jar} {L : List Jar} {cs : List Value} {budget : Int} (hk : Keep [] w wp) (hb : Blk (wp.alloc (.cells cs.toArray 46)) u 74 [v, .int .i64 budget]) (hsz : w.heap.size + 1 ≤ wp.heap.size ∧ u < w.heap.size) {l c : Nat}
    (hown : Own Jar.cells 35 0 46 w3 v3 M) (hg : (wp.alloc (.cells cs.toArray 46)).grownBy w3 (Value.slice (some ⟨wp.heap.size, 0, none⟩) l c).ownBlock) (hat : v3.ownBlock = (Value.slice (some ⟨wp.heap.size, 0, none⟩) l c).ownBlock ∨ v3.ownBlock = some (wp.alloc (.cells cs.toArray 46)).heap.size) (hM : M = L) :
    Done w (w3.setCell ⟨u, 0, none⟩ v3) u v L budget := by
  subst hM
  have hn : ∀ g, v3.ownBlock = some g → w.heap.size ≤ g := fun g hg' => by
    rcases hat with e | e
    · rw [e] at hg'; simp [Value.ownBlock] at hg'; omega
    · rw [e] at hg'; simp at hg'; omega
  have hb3 : Blk w3 u 74 _ := (hg.block u (by have := hb.lt; exact this) (fun e => by simp [Value.ownBlock] at e; omega)).trans hb
  have hk3 : Keep [] w w3 := (hk.alloc _).grown hg (fun g hg' hlt => by simp [Value.ownBlock] at hg'; omega)
  have hks : Keep [u] w3 (w3.setCell ⟨u, 0, none⟩ v3) := (Keep.refl _ _).setCell _ _ (by simp)
  refine ⟨v3, ⟨hb3.set 0 _, hown.keep hks (fun g hg' => by simp; have := hn g hg'; omega), fun e => by have := hn u e; omega⟩, ?_, fun g hg' => .inr (hn g hg')⟩
  exact (hk3.mono (by simp)).setCell _ _ (fun _ => by simp)
theorem own_one (w : World) (j : Jar) : Own Jar.cells 35 0 46 (w.alloc (.cells j.cells.toArray 46)) (.slice (some ⟨w.heap.size, 0, none⟩) 1 1) [j] := by
  refine ⟨by simp [rows, Jar.cells_length], .inr ⟨w.heap.size, 1, j.cells.toArray, rfl, Nat.zero_le _, heap_alloc_new w _, Nat.le_refl _, by simp [maxLen], by simp [Jar.cells_length], ?_⟩⟩
  simp [rows, ← Jar.cells_length j]
def refPutE (L : List Jar) (j : Jar) : Int := if goodJ j = false then 1 else if 0 ≤ posL L j.dig then 9 else if 64 ≤ L.length then 6 else 0
def refPutL (L : List Jar) (j : Jar) : List Jar := if refPutE L j = 0 then j :: L else L
theorem Done.same {w w' : World} {u : Nat} {v : Value} {L : List Jar} {budget : Int} (h : Dk w u v L budget) (k : Keep [] w w') : Done w w' u v L budget := ⟨v, h.keep0 k, k.mono (by simp), fun g _ => .inl rfl⟩
set_option maxRecDepth 100000 in
set_option maxHeartbeats 2000000 in
theorem ref_Put21 (u : Nat) (v : Value) (L : List Jar) (budget : Int) (j : Jar) (w : World) (h : Dk w u v L budget) (hL : L.length ≤ 64) (hjl : j.typ.length ≤ maxLen) :
    Calls Try.prog 35 #[.pointer (some ⟨u, 0, none⟩), .agg j.cells.toArray] w fun e w' => e = .returned (.int .i64 (refPutE L j)) ∧ Done w w' u v (refPutL L j) budget := by
  have hb := Blk.newA w j.cells.toArray 46
  have hk := (Keep.refl [] w).alloc (.cells j.cells.toArray 46)
  have hsz : (w.alloc (.cells j.cells.toArray 46)).heap.size = w.heap.size + 1 := by simp
  generalize hwA : w.alloc (.cells j.cells.toArray 46) = wA at hb hk hsz
  have HJ := Lib.hid (fun w' (k : Keep [] wA w') => (k.blk hb (by simp)).rangeAt)
  have HD := Lib.hid (fun w' (k : Keep [] wA w') => h.keep0 (hk.trans k))
  have HSAME := Lib.hid (fun w' (k : Keep [] wA w') => Done.same h (hk.trans k))
  have HK := Lib.hid hk
  have HJL := Lib.hid (show (Try.prog.info? 46).map (·.size) = some j.cells.length by rw [Jar.cells_length]; exact jar_size)
  have HG1 := Lib.hid (fun w' => ref_Good21 j w' hjl)
  obtain ⟨a, cap, rfl, hml⟩ := h.own.shape
  have HP1 := Lib.hid (fun w' (k : Keep [] wA w') => ref_Place u (.slice a L.length cap) L budget j.dig w' (h.keep0 (hk.trans k)))
  have HE : Hid (refPutE L j = if goodJ j = false then 1 else if 0 ≤ posL L j.dig then 9 else if 64 ≤ L.length then 6 else 0) := rfl
  have HLL : Hid (refPutL L j = if refPutE L j = 0 then j :: L else L) := rfl
  have HU := Lib.hid h.blk.lt
  have HSZ := Lib.hid hsz
  have HDR : Hid (∀ w' (k : Keep [] wA w'), w'.rangeAt w.heap.size 0 (digC j.dig)) := fun w' k i x hx => by
    refine HJ.out w' k i x ?_
    rw [show j.cells.toArray.toList = j.cells from rfl]
    unfold Jar.cells
    rw [List.getElem?_append_left (List.getElem?_eq_some_iff.1 hx).1]
    exact hx
  have HDL := Lib.hid (digC_length j.dig)
  generalize refPutE L j = rE at *
  generalize refPutL L j = rL at *
  generalize posL L j.dig = ps at HP1 HE
  generalize hdc : digC j.dig = dc at HP1 HDR HDL
  obtain ⟨is, Hs⟩ := jarinfo'
  obtain ⟨cs, hcs⟩ : ∃ cs, cs = j.cells := ⟨_, rfl⟩
  have HCS := Lib.hid hcs
  have HB := Lib.hid hb
  rw [← hcs] at HJ HJL HG1 hwA HB ⊢
  clear hb hk hml hsz hcs hdc
  cases hg : goodJ j with
  | false =>
    rw [hg] at HG1
    have HX := Lib.hid (show rE = 1 by rw [HE.out, if_pos hg])
    have HY := Lib.hid (show rL = L by rw [HLL.out, HX.out]; rfl)
    clear hg
    go_enter Try.func35, Try.ntmps35
    go_wp2_with (first
      | (refine wpList_load_mid rfl 46 (.tmp 3) rfl w.heap.size 0 (by rfl) cs _ (HJ.out wA (Keep.refl _ _)) Try.underlying46 rfl HJL.out ?_)
      | fail)
    refine (HG1.out _).mono ?_
    rintro e w1 ⟨rfl, k1⟩
    go_wp2_with fail
    go_ret
    exact ⟨ret_int HX.out.symm, by rw [HY.out]; exact HSAME.out _ k1⟩
  | true =>
    rw [hg] at HG1
    have HX0 : Hid (rE = if 0 ≤ ps then 9 else if 64 ≤ L.length then 6 else 0) := by
      show rE = _
      rw [HE.out, if_neg (by rw [hg]; simp)]
    clear hg HE
    go_enter Try.func35, Try.ntmps35
    go_wp2_with (first
      | (refine wpList_load_mid rfl 46 (.tmp 3) rfl w.heap.size 0 (by rfl) cs _ (HJ.out wA (Keep.refl _ _)) Try.underlying46 rfl HJL.out ?_)
      | fail)
    refine (HG1.out _).mono ?_
    rintro e w1 ⟨rfl, k1⟩
    go_wp2_with (first
      | (refine wpList_load_mid rfl 44 (.tmp 9) rfl w.heap.size 0 (by rfl) dc _ (HDR.out w1 k1) Try.underlying44 rfl (by rw [HDL.out]; exact dig_size) ?_)
      | fail)
    refine (HP1.out _ k1).mono ?_
    rintro e w2 ⟨rfl, k2⟩
    have K2 := Lib.hid (k1.trans k2)
    clear k1 k2
    by_cases hp : 0 ≤ ps
    · have HX := Lib.hid (show rE = 9 by rw [HX0.out, if_pos hp])
      have HY := Lib.hid (show rL = L by rw [HLL.out, HX.out]; rfl)
      have hp' : decide (0 ≤ ps) = true := decide_eq_true hp
      go_wp2_with fail
      go_ret
      exact ⟨ret_int HX.out.symm, by rw [HY.out]; exact HSAME.out _ K2.out⟩
    · have hp' : decide (0 ≤ ps) = false := decide_eq_false hp
      have D2 := (HD.out w2 K2.out)
      have c0 := D2.blk.get (k := 0) rfl
      by_cases h64 : 64 ≤ L.length
      · have HX := Lib.hid (show rE = 6 by rw [HX0.out, if_neg hp, if_pos h64])
        have HY := Lib.hid (show rL = L by rw [HLL.out, HX.out]; rfl)
        have h64' : decide ((64 : Int) ≤ (L.length : Int)) = true := decide_eq_true (by omega)
        clear hp D2
        go_wp2_with fail
        go_ret
        exact ⟨ret_int HX.out.symm, by rw [HY.out]; exact HSAME.out _ K2.out⟩
      · have HX := Lib.hid (show rE = 0 by rw [HX0.out, if_neg hp, if_neg h64])
        have HY := Lib.hid (show rL = j :: L by rw [HLL.out, HX.out, if_pos rfl])
        have h64' : ¬ (64 : Int) ≤ (L.length : Int) := by omega
        have HKP : Hid (Keep [] w w2.drew) := (HK.out.trans K2.out).drew
        have hka := (Keep.refl [] w2.drew).alloc (.cells cs.toArray 46)
        have D3 := (HD.out w2.drew K2.out.drew).keep0 hka
        have HB2 := Lib.hid D3.blk
        have HS2 := Lib.hid (own_src D3.own)
        have c2 : (w2.alloc (.cells cs.toArray 46)).cell? ⟨u, 0, none⟩ = some (.slice a L.length cap) := D3.blk.get (k := 0) rfl
        have HRB := Lib.hid (HJ.out w2.drew K2.out.drew)
        have HSZ2 := Lib.hid (show w.heap.size + 1 ≤ w2.heap.size by have := HSZ.out; have := K2.out.size; omega)
        have HO2 : Hid (Own Jar.cells 35 0 46 ((World.drew w2).alloc (.cells cs.toArray 46)) (.slice (some ⟨(World.drew w2).heap.size, 0, none⟩) 1 1) [j]) := by
          rw [HCS.out]
          exact own_one _ _
        clear hp D2 D3 hka h64
        go_wp2_with fail
        go_cut [] (fun wx => Done w wx u (.slice a L.length cap) (j :: L) budget)
        case first =>
          refine wp_region_any (by kernel_rfl) ?_
          change wpAny _ _ _ _ _ _ _ (World.drew _)
          refine wpAny_take (i := 0) (v := ?_) rfl (by kernel_rfl) (by kernel_rfl) (by kernel_rfl) (fun _ _ _ h => h) (Or.inl ⟨by rfl, ?_⟩) ?_
          rotate_left
          · (intro w; go_simp) <;> (with_reducible rfl)
          try simp only [Act.put, List.setIfInBounds_toArray, List.set_cons_zero, List.set_cons_succ]
          refine wpAny_take (i := 3) (v := ?_) rfl (by kernel_rfl) (by kernel_rfl) (by kernel_rfl) (fun _ _ _ h => h) (Or.inl ⟨by rfl, ?_⟩) ?_
          rotate_left
          · (intro w; go_simp) <;> (with_reducible rfl)
          try simp only [Act.put, List.setIfInBounds_toArray, List.set_cons_zero, List.set_cons_succ]
          refine wpAny_take (i := 4) (v := ?_) rfl (by kernel_rfl) (by kernel_rfl) (by kernel_rfl) (fun _ _ _ h => h) (Or.inl ⟨by rfl, ?_⟩) ?_
          rotate_left
          · (intro w; go_simp) <;> (with_reducible rfl)
          try simp only [Act.put, List.setIfInBounds_toArray, List.set_cons_zero, List.set_cons_succ]
          refine wpAny_take (i := 5) (v := ?_) rfl (by kernel_rfl) (by kernel_rfl) (by kernel_rfl) (fun _ _ _ h => h) (Or.inl ⟨by rfl, ?_⟩) ?_
          rotate_left
          · (intro w; go_simp) <;> (with_reducible rfl)
          try simp only [Act.put, List.setIfInBounds_toArray, List.set_cons_zero, List.set_cons_succ]
          refine wpAny_ready (rs := [1, 6]) (by kernel_rfl) (by simp) ?_
          refine AllReady.cons (o := _) rfl (fun K hK => ?_) ?_
          · refine step_load_mid rfl 46 (.tmp 3) rfl w.heap.size 0 (by rfl) cs _ HRB.out Try.underlying46 rfl HJL.out ?_
            refine hK _ _ ?_
            clear hK K
            try simp only [Act.put, List.setIfInBounds_toArray, List.set_cons_zero, List.set_cons_succ]
            refine wpAny_ready (rs := [2, 6]) (by kernel_rfl) (by simp) ?_
            refine AllReady.cons (o := _) rfl (fun K hK => ?_) ?_
            · refine step_buildJar rfl 72 (.tmp 20) rfl Hs Try.underlying72 j cs HCS.out (by rfl) ?_
              refine hK _ _ ?_
              clear hK K
              try simp only [Act.put, List.setIfInBounds_toArray, List.set_cons_zero, List.set_cons_succ]
              refine wpAny_ready (rs := [6]) (by kernel_rfl) (by simp) ?_
              refine AllReady.cons (o := _) rfl (fun K hK => ?_) ?_
              · go_simp
                refine hK _ _ ?_
                clear hK K
                try simp only [Act.put, List.setIfInBounds_toArray, List.set_cons_zero, List.set_cons_succ]
                refine wpAny_ready (rs := [7]) (by kernel_rfl) (by simp) ?_
                refine AllReady.cons (o := _) rfl (fun K hK => ?_) ?_
                · refine step_appendM rfl (.tmp 21) (.tmp 25) 72 rfl is _ 64 Try.underlying72 Hs (by rfl) (by decide) Jar.cells_length Jar.one (v := .slice (some ⟨(World.drew w2).heap.size, 0, none⟩) 1 1) (vx := .slice a L.length cap) (L := [j]) (by rfl) HO2.out (by rfl) HS2.out (by simp [maxLen]; omega) (by simp; omega) ?_
                  intro v3 w3 hown3 hg3 hat3
                  have hb3 : Blk w3 u 74 _ := (hg3.block u (by have := HSZ2.out; have := HU.out; simp; omega) (fun e => by have := HSZ2.out; have := HU.out; simp [Value.ownBlock] at e; omega)).trans HB2.out
                  have d0 := hb3.get (k := 0) rfl
                  have df := hb3.frozen
                  obtain ⟨a3, cap3, rfl, _⟩ := hown3.shape
                  refine hK _ _ ?_
                  clear hK K
                  try simp only [Act.put, List.setIfInBounds_toArray, List.set_cons_zero, List.set_cons_succ]
                  refine wpAny_ready (rs := [8]) (by kernel_rfl) (by simp) ?_
                  refine AllReady.cons (o := _) rfl (fun K hK => ?_) ?_
                  · go_simp
                    refine hK _ _ ?_
                    clear hK K
                    try simp only [Act.put, List.setIfInBounds_toArray, List.set_cons_zero, List.set_cons_succ]
                    refine wpAny_ready (rs := [9]) (by kernel_rfl) (by simp) ?_
                    refine AllReady.cons (o := _) rfl (fun K hK => ?_) ?_
                    · go_simp
                      refine hK _ _ ?_
                      clear hK K
                      try simp only [Act.put, List.setIfInBounds_toArray, List.set_cons_zero, List.set_cons_succ]
                      refine wpAny_ready (rs := [10]) (by kernel_rfl) (by simp) ?_
                      refine AllReady.cons (o := _) rfl (fun K hK => ?_) ?_
                      · go_simp
                        refine hK _ _ ?_
                        clear hK K
                        try simp only [Act.put, List.setIfInBounds_toArray, List.set_cons_zero, List.set_cons_succ]
                        refine wpAny_done (by kernel_rfl) ?_ _
                        go_wp2_with fail
                        go_meet
                        exact put_done HKP.out HB2.out (And.intro HSZ2.out HU.out) hown3 hg3 hat3 rfl
                      exact AllReady.nil
                    exact AllReady.nil
                  exact AllReady.nil
                exact AllReady.nil
              exact AllReady.nil
            refine AllReady.cons (o := _) rfl (fun K hK => ?_) ?_
            · go_simp
              refine hK _ _ ?_
              clear hK K
              try simp only [Act.put, List.setIfInBounds_toArray, List.set_cons_zero, List.set_cons_succ]
              refine wpAny_ready (rs := [2]) (by kernel_rfl) (by simp) ?_
              refine AllReady.cons (o := _) rfl (fun K hK => ?_) ?_
              · refine step_buildJar rfl 72 (.tmp 20) rfl Hs Try.underlying72 j cs HCS.out (by rfl) ?_
                refine hK _ _ ?_
                clear hK K
                try simp only [Act.put, List.setIfInBounds_toArray, List.set_cons_zero, List.set_cons_succ]
                refine wpAny_ready (rs := [7]) (by kernel_rfl) (by simp) ?_
                refine AllReady.cons (o := _) rfl (fun K hK => ?_) ?_
                · refine step_appendM rfl (.tmp 21) (.tmp 25) 72 rfl is _ 64 Try.underlying72 Hs (by rfl) (by decide) Jar.cells_length Jar.one (v := .slice (some ⟨(World.drew w2).heap.size, 0, none⟩) 1 1) (vx := .slice a L.length cap) (L := [j]) (by rfl) HO2.out (by rfl) HS2.out (by simp [maxLen]; omega) (by simp; omega) ?_
                  intro v3 w3 hown3 hg3 hat3
                  have hb3 : Blk w3 u 74 _ := (hg3.block u (by have := HSZ2.out; have := HU.out; simp; omega) (fun e => by have := HSZ2.out; have := HU.out; simp [Value.ownBlock] at e; omega)).trans HB2.out
                  have d0 := hb3.get (k := 0) rfl
                  have df := hb3.frozen
                  obtain ⟨a3, cap3, rfl, _⟩ := hown3.shape
                  refine hK _ _ ?_
                  clear hK K
                  try simp only [Act.put, List.setIfInBounds_toArray, List.set_cons_zero, List.set_cons_succ]
                  refine wpAny_ready (rs := [8]) (by kernel_rfl) (by simp) ?_
                  refine AllReady.cons (o := _) rfl (fun K hK => ?_) ?_
                  · go_simp
                    refine hK _ _ ?_
                    clear hK K
                    try simp only [Act.put, List.setIfInBounds_toArray, List.set_cons_zero, List.set_cons_succ]
                    refine wpAny_ready (rs := [9]) (by kernel_rfl) (by simp) ?_
                    refine AllReady.cons (o := _) rfl (fun K hK => ?_) ?_
                    · go_simp
                      refine hK _ _ ?_
                      clear hK K
                      try simp only [Act.put, List.setIfInBounds_toArray, List.set_cons_zero, List.set_cons_succ]
                      refine wpAny_ready (rs := [10]) (by kernel_rfl) (by simp) ?_
                      refine AllReady.cons (o := _) rfl (fun K hK => ?_) ?_
                      · go_simp
                        refine hK _ _ ?_
                        clear hK K
                        try simp only [Act.put, List.setIfInBounds_toArray, List.set_cons_zero, List.set_cons_succ]
                        refine wpAny_done (by kernel_rfl) ?_ _
                        go_wp2_with fail
                        go_meet
                        exact put_done HKP.out HB2.out (And.intro HSZ2.out HU.out) hown3 hg3 hat3 rfl
                      exact AllReady.nil
                    exact AllReady.nil
                  exact AllReady.nil
                exact AllReady.nil
              exact AllReady.nil
            exact AllReady.nil
          refine AllReady.cons (o := _) rfl (fun K hK => ?_) ?_
          · go_simp
            refine hK _ _ ?_
            clear hK K
            try simp only [Act.put, List.setIfInBounds_toArray, List.set_cons_zero, List.set_cons_succ]
            refine wpAny_ready (rs := [1]) (by kernel_rfl) (by simp) ?_
            refine AllReady.cons (o := _) rfl (fun K hK => ?_) ?_
            · refine step_load_mid rfl 46 (.tmp 3) rfl w.heap.size 0 (by rfl) cs _ HRB.out Try.underlying46 rfl HJL.out ?_
              refine hK _ _ ?_
              clear hK K
              try simp only [Act.put, List.setIfInBounds_toArray, List.set_cons_zero, List.set_cons_succ]
              refine wpAny_ready (rs := [2]) (by kernel_rfl) (by simp) ?_
              refine AllReady.cons (o := _) rfl (fun K hK => ?_) ?_
              · refine step_buildJar rfl 72 (.tmp 20) rfl Hs Try.underlying72 j cs HCS.out (by rfl) ?_
                refine hK _ _ ?_
                clear hK K
                try simp only [Act.put, List.setIfInBounds_toArray, List.set_cons_zero, List.set_cons_succ]
                refine wpAny_ready (rs := [7]) (by kernel_rfl) (by simp) ?_
                refine AllReady.cons (o := _) rfl (fun K hK => ?_) ?_
                · refine step_appendM rfl (.tmp 21) (.tmp 25) 72 rfl is _ 64 Try.underlying72 Hs (by rfl) (by decide) Jar.cells_length Jar.one (v := .slice (some ⟨(World.drew w2).heap.size, 0, none⟩) 1 1) (vx := .slice a L.length cap) (L := [j]) (by rfl) HO2.out (by rfl) HS2.out (by simp [maxLen]; omega) (by simp; omega) ?_
                  intro v3 w3 hown3 hg3 hat3
                  have hb3 : Blk w3 u 74 _ := (hg3.block u (by have := HSZ2.out; have := HU.out; simp; omega) (fun e => by have := HSZ2.out; have := HU.out; simp [Value.ownBlock] at e; omega)).trans HB2.out
                  have d0 := hb3.get (k := 0) rfl
                  have df := hb3.frozen
                  obtain ⟨a3, cap3, rfl, _⟩ := hown3.shape
                  refine hK _ _ ?_
                  clear hK K
                  try simp only [Act.put, List.setIfInBounds_toArray, List.set_cons_zero, List.set_cons_succ]
                  refine wpAny_ready (rs := [8]) (by kernel_rfl) (by simp) ?_
                  refine AllReady.cons (o := _) rfl (fun K hK => ?_) ?_
                  · go_simp
                    refine hK _ _ ?_
                    clear hK K
                    try simp only [Act.put, List.setIfInBounds_toArray, List.set_cons_zero, List.set_cons_succ]
                    refine wpAny_ready (rs := [9]) (by kernel_rfl) (by simp) ?_
                    refine AllReady.cons (o := _) rfl (fun K hK => ?_) ?_
                    · go_simp
                      refine hK _ _ ?_
                      clear hK K
                      try simp only [Act.put, List.setIfInBounds_toArray, List.set_cons_zero, List.set_cons_succ]
                      refine wpAny_ready (rs := [10]) (by kernel_rfl) (by simp) ?_
                      refine AllReady.cons (o := _) rfl (fun K hK => ?_) ?_
                      · go_simp
                        refine hK _ _ ?_
                        clear hK K
                        try simp only [Act.put, List.setIfInBounds_toArray, List.set_cons_zero, List.set_cons_succ]
                        refine wpAny_done (by kernel_rfl) ?_ _
                        go_wp2_with fail
                        go_meet
                        exact put_done HKP.out HB2.out (And.intro HSZ2.out HU.out) hown3 hg3 hat3 rfl
                      exact AllReady.nil
                    exact AllReady.nil
                  exact AllReady.nil
                exact AllReady.nil
              exact AllReady.nil
            exact AllReady.nil
          exact AllReady.nil
        case rest =>
          have HC := Lib.hid hcut
          clear hcut
          go_wp2_with fail
          go_ret
          exact ⟨ret_int HX.out.symm, by rw [HY.out]; exact HC.out⟩
end Go.Proofs.Ytbfnpoknamajnaa
