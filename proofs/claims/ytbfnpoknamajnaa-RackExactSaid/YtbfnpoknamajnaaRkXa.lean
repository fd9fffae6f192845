/- The statement RackExact: its function answers true for every input. No conditions. -/
import Derived.Test.YtbfnpoknamajnaaRkEx
import Derived.Test.YtbfnpoknamajnaaRkFits
import Derived.Deep.Cut
import Derived.Deep.CutBlock
import Derived.Deep.DeepCutAuto
namespace Go.Proofs.Ytbfnpoknamajnaa
open Go.RowKit Go.Maps

theorem wpQuiet_loadG {P : Program} {ops : Array Oper} {C : World → Prop} {rest : List Oper} {o : Oper} {a : Act} {Q : Act → Prop} (hw : Region.wanted o (yielded ops a.tmps) = true) (ty : TypeId) (x : Operand) (ho : o.op = .load ty x)
    (b off : Nat) (hx : a.eval x = .pointer (some ⟨b, off, none⟩)) (cs : List Value) (d : TypeDesc) (hS : ∀ w, C w → w.rangeAt b off cs)
    (hu : P.underlying ty = some d) (hd : d.isRow = true) (hi : (P.info? ty).map (·.size) = some cs.length)
    (h : wpQuiet P ops C Q rest (a.put o.dst (.agg cs.toArray))) : wpQuiet P ops C Q (o :: rest) a := by
  unfold wpQuiet
  rw [if_pos hw]
  refine ⟨_, fun w hw => ?_, h⟩
  unfold Oper.quietAt execOp
  simp only [ho, hx, Instr.loadAt, Instr.sureAddr, Sem.run_bind, Sem.run_pure, Result.andThen_ok, run_loadVar_mid w b off ty cs d (hS w hw) hu hd hi]
  exact ⟨rfl, rfl⟩
theorem wpQuiet_b0 {P : Program} {ops : Array Oper} {C : World → Prop} {rest : List Oper} {o : Oper} {a : Act} {Q : Act → Prop} (hw : Region.wanted o (yielded ops a.tmps) = true) {T : TypeId} {cs : Array Value} (HB : Hid (P.built T [] = some cs))
    (ho : o.op = .build T #[]) (h : wpQuiet P ops C Q rest (a.put o.dst (.agg cs))) : wpQuiet P ops C Q (o :: rest) a := by
  unfold wpQuiet
  rw [if_pos hw]
  refine ⟨_, fun w _ => ?_, h⟩
  unfold Oper.quietAt execOp
  have e : ((#[] : Array (Nat × Operand)).map fun (i, x) => (i, a.eval x)).toList = [] := by simp
  simp only [ho, Sem.run_bind, run_build w T _ cs (by rw [e]; exact HB.out), Result.andThen_ok]
  exact ⟨rfl, rfl⟩
theorem int_eqR {a z : Int} (h : a = z) : (a == z) = true ∧ (a != z) = false := by subst h; simp
theorem int_neR {a z : Int} (h : a ≠ z) : (a == z) = false ∧ (a != z) = true := by simp [h]
theorem jar0_built : Try.prog.built 46 [] = some jar0.cells.toArray := by kernel_rfl
theorem act_jar {w : World} {xb : Nat} {x : Act21} (hb : Blk w xb 76 x.cells) : w.rangeAt xb 1 x.j.cells := fun k v hv => by
  have := hb.rangeAt (k + 1) v (by rw [Act21.cells, List.getElem?_cons_succ]; exact hv)
  rwa [show 0 + (k + 1) = 1 + k by omega] at this
theorem act_dig {w : World} {xb : Nat} {x : Act21} (hb : Blk w xb 76 x.cells) : w.rangeAt xb 1 (digC x.j.dig) := fun k v hv => by
  refine act_jar hb k v ?_
  unfold Jar.cells
  rw [List.getElem?_append_left (List.getElem?_eq_some_iff.1 hv).1]
  exact hv
theorem ok_good {j : Jar} (h : okJar j) : goodIn j := by
  obtain ⟨h1, h2, h3, h4, h5⟩ := h
  exact ⟨by show _ ≤ 9223372036854775807; omega, ⟨by omega, by omega⟩, ⟨by omega, by omega⟩⟩
theorem rkx_Total0 {w0 : World} {X : List Nat} {w : World} {b : Nat} {budget : Int} {L : List Jar} (h : Rkx w0 X w b budget L) : Calls Try.prog 22 #[.pointer (some ⟨b, 0, none⟩)] w fun e w' => e = .returned (.int .i64 (sumL L)) ∧ Keep [] w w' := by
  obtain ⟨S, h1, h2⟩ := h.rk
  exact rack_Total b budget L w h1
theorem rkx_Pinned0 {w0 : World} {X : List Nat} {w : World} {b : Nat} {budget : Int} {L : List Jar} (h : Rkx w0 X w b budget L) : Calls Try.prog 45 #[.pointer (some ⟨b, 0, none⟩)] w fun e w' => e = .returned (.int .i64 (usedL L)) ∧ Keep [] w w' := by
  obtain ⟨S, h1, h2⟩ := h.rk
  exact rack_Pinned b budget L w h1
theorem rkx_Len0 {w0 : World} {X : List Nat} {w : World} {b : Nat} {budget : Int} {L : List Jar} (h : Rkx w0 X w b budget L) : Calls Try.prog 21 #[.pointer (some ⟨b, 0, none⟩)] w fun e w' => e = .returned (.int .i64 (L.length : Nat)) ∧ Keep [] w w' := by
  obtain ⟨S, h1, h2⟩ := h.rk
  exact rack_Len b budget L w h1
def refRk0 (budget : Int) : List Value := [.slice none 0 0, .int .i64 budget]
theorem refRk_built (budget : Int) : Try.prog.built 74 [(1, .int .i64 budget)] = some (refRk0 budget).toArray := by kernel_rfl
set_option maxRecDepth 100000 in
set_option maxHeartbeats 4000000 in
theorem rackExact_walk (budget : Int) (v : Value) (acts : List Act21) (w : World) (hv : Sl Act21.cells 36 w v acts) (hg : ∀ x ∈ acts, x.good) (hbg : in64 budget) :
    Calls Try.prog 7 #[.int .i64 budget, v] w fun e w' => e = .returned (.bool true) ∧ Below w.heap.size w w' := by
  obtain ⟨va, vcap, rfl, hvl⟩ := hv.shape
  have hvl' : acts.length ≤ 9223372036854775807 := hvl
  have HDL := Lib.hid (fun d : Dig => (show (Try.prog.info? 44).map (·.size) = some (digC d).length by rw [digC_length]; exact dig_size))
  have HG := Lib.hid hg
  have HV := Lib.hid hv
  clear hg hv hvl
  by_cases hbad : budget < 0 ∨ 1099511627776 < budget
  · have HN := Lib.hid (fun w' => rack_New_bad budget w' hbad)
    have hbd : (decide (budget < 0) || decide (1099511627776 < budget)) = true := by
      rcases hbad with h | h <;> simp [h]
    rcases hbad with h | h
    · clear hbd
      go_enter Try.func7, Try.ntmps7
      go_wp2_with fail
      refine (rack_awake _).mono ?_
      rintro e w1 ⟨rfl, hk1⟩
      go_wp2_with fail
      refine (HN.out w1).mono ?_
      rintro e w2 ⟨rfl, hk2⟩
      go_wp2_with fail
      go_ret
      exact ⟨rfl, below_keep hk1 hk2 hk1.size (by simp)⟩
    · have h' : ¬ budget < 0 := by omega
      clear hbd
      go_enter Try.func7, Try.ntmps7
      go_wp2_with fail
      refine (rack_awake _).mono ?_
      rintro e w1 ⟨rfl, hk1⟩
      go_wp2_with fail
      refine (HN.out w1).mono ?_
      rintro e w2 ⟨rfl, hk2⟩
      go_wp2_with fail
      go_ret
      exact ⟨rfl, below_keep hk1 hk2 hk1.size (by simp)⟩
  · have hb0 : ¬ budget < 0 := fun h => hbad (.inl h)
    have hb1 : ¬ budget > 1099511627776 := fun h => hbad (.inr h)
    have hbu := Lib.hid (refRk_built budget)
    have HBR := Lib.hid (And.intro (show 0 ≤ budget by omega) (show budget ≤ 1099511627776 by omega))
    clear hbad
    go_enter Try.func7, Try.ntmps7
    go_wp2_with fail
    refine (rack_awake _).mono ?_
    rintro e w1 ⟨rfl, hk1⟩
    go_wp2_with fail
    refine (rkx_New w [] budget w1 hk1 (by simp) HBR.out.1 HBR.out.2).mono ?_
    rintro e w2 ⟨b, rfl, hr2, hk2⟩
    have hS : St w [] (w2.alloc (.cells (refRk0 budget).toArray 74)) b w2.heap.size (.slice none 0 0) budget [] [] :=
      ⟨(hr2.local _).mono (fun y hy => by simpa [Value.ownBlock] using hy), ⟨Blk.newA w2 (refRk0 budget).toArray _, Own.nil _ _ _ _ _, by simp [Value.ownBlock]⟩, hr2.below.size, fun g hg => by simp [Value.ownBlock] at hg, by simp⟩
    have HS := Lib.hid hS
    clear hk1 hk2 hr2 hS
    unfold refRk0 at HS
    try dsimp only at HS
    go_wp2_with fail
    generalize hw3 : w2.alloc (.cells #[.slice none 0 0, .int .i64 budget] 74) = w3 at HS
    try rw [hw3]
    clear hw3
    generalize w2.heap.size = u at HS
    go_loopg [8] acts.length (fun g s8 wr => ∃ (t : Nat) (L : List Jar) (rv : Value), s8 = .int .i64 t ∧ t ≤ acts.length ∧ t ≤ 250 ∧ g = acts.length - t ∧ Hid (St w [] wr b u rv budget L L) ∧ Hid (∀ j ∈ L, j.pins ≤ t))
    case atStart => exact ⟨0, [], _, rfl, Nat.zero_le _, by omega, by omega, HS, Lib.hid (by simp)⟩
    case round =>
      obtain ⟨t, L, rv, rfl, ht, ht2, hgk, R, HP⟩ := hrel
      have HN := Lib.hid (And.intro R.out.rk.most R.out.rk.digs)
      have HOK := Lib.hid R.out.rk.good
      have HPB := Lib.hid (show ∀ j ∈ L, 0 ≤ j.pins ∧ j.pins < 1073741824 from fun j hj => ⟨(HOK.out j hj).2.2.2.1, by have := HP.out j hj; omega⟩)
      by_cases hlt : t < acts.length
      · by_cases h250 : t < 250
        · have hx : acts[t]? = some acts[t] := List.getElem?_eq_getElem hlt
          have hsl := HV.out.below Act21.cells_length R.out.rk.below (Nat.le_refl _)
          obtain ⟨ba, off, cap', hve, _, _, hcell⟩ := hsl.cell hx
          obtain ⟨rfl, _, rfl⟩ : va = some ⟨ba, off, none⟩ ∧ True ∧ vcap = cap' := by simpa using hve
          have hxg := HG.out _ (List.mem_of_getElem? hx)
          generalize acts[t] = x at hx hcell hxg
          have hrx : Hid (wr.rangeAt ba (off + t * 36) x.cells) := fun k u hu => by
            rw [hcell k (by have := (List.getElem?_eq_some_iff.1 hu).1; rwa [Act21.cells_length] at this)]
            exact hu
          have HXL := Lib.hid (show (Try.prog.info? 76).map (·.size) = some x.cells.length by rw [Act21.cells_length]; kernel_rfl)
          have HXG := Lib.hid hxg
          have hT0 : (0 : Int) ≤ (t : Int) := by omega
          have hT1 : (t : Int) < (acts.length : Int) := by omega
          have hkw := IntWalk.i64_in ((t : Int) + 1) (by omega)
          clear hcell hve hsl hx hxg
          go_upto_region 13 with (first
            | (refine wpList_load_mid rfl 76 (.tmp 62) rfl ba (off + t * 36) (by rfl) x.cells _ hrx.out Try.underlying76 rfl HXL.out ?_)
            | (refine wpList_store_new rfl 76 (.tmp 9) (.tmp 63) rfl _ x.cells (by rfl) (by rfl) HXL.out (by rw [Act21.cells_length]; rfl) (Act21.one _) ?_)
            | fail)
          try simp only [Act.put, List.setIfInBounds_toArray, List.set_cons_succ, List.set_cons_zero]
          have hl := R.out.local (.cells x.cells.toArray 76)
          have hb := Blk.newA wr x.cells.toArray 76
          rw [List.toList_toArray] at hb
          generalize wr.alloc (.cells x.cells.toArray 76) = wx at hl hb
          generalize wr.heap.size = xb at hl hb
          have c33 := hb.get (k := 33) (v := .string (S x.j.typ)) (by simp [Act21.cells, Jar.cells, digC_length, List.getElem?_append])
          have htz := S_size x.j.typ
          have R := Lib.hid hl
          have BX := Lib.hid hb
          clear hl hb hrx
          by_cases h5 : x.j.typ.length ≤ 500
          · have h5' : decide (500 < ((x.j.typ.length : Nat) : Int)) = false := by simp; omega
            have hrd := Lib.hid (act_dig BX.out)
            have HTY := Lib.hid h5
            clear h5
            go_upto_region 16 with (first
              | (refine wpList_load_mid rfl 44 (.tmp 70) rfl xb 1 (by rfl) (digC x.j.dig) _ hrd.out Try.underlying44 rfl (HDL.out _) ?_)
              | (refine wpList_store_new rfl 44 (.tmp 10) (.tmp 71) rfl _ (digC x.j.dig) (by rfl) (by rfl) (HDL.out _) (by rw [digC_length]; rfl) (digC_one _) ?_)
              | fail)
            try simp only [Act.put, List.setIfInBounds_toArray, List.set_cons_succ, List.set_cons_zero]
            have hl := R.out.local (.cells (digC x.j.dig).toArray 44)
            have hk := (Keep.refl [] wx).alloc (.cells (digC x.j.dig).toArray 44)
            have hb := Blk.newA wx (digC x.j.dig).toArray 44
            rw [List.toList_toArray] at hb
            generalize wx.alloc (.cells (digC x.j.dig).toArray 44) = wd at hl hb hk
            generalize wx.heap.size = nb at hl hb
            have BX := Lib.hid (hk.blk BX.out (by simp))
            have BD := Lib.hid hb
            have R := Lib.hid hl
            have c0 := BX.out.get (k := 0) (v := .int .i64 x.kind) rfl
            clear hl hb hk hrd c33 htz h5'
            go_upto_block 2 with fail
            go_cut [11, 12] (fun s11 s12 wy => s11 = .int .i64 (stE L x) ∧ s12 = .int .i64 (stE L x) ∧ Hid (∃ rv', St w [nb] wy b u rv' budget (stL L x) (stL L x)) ∧ Hid (Blk wy nb 44 (digC x.j.dig)))
            case first =>
              have hEL : stE L x = (if x.kind = 1 then putE L x.j else if x.kind = 2 then hereE L x.j.dig else if x.kind = 3 then pinE L x.j.dig else if x.kind = 4 then unpinE L x.j.dig else if x.kind = 5 then dropE L x.j.dig else 0) ∧ stL L x = (if x.kind = 1 then putL L x.j else if x.kind = 2 then touchL L x.j.dig else if x.kind = 3 then pinL L x.j.dig else if x.kind = 4 then unpinL L x.j.dig else if x.kind = 5 then dropL L x.j.dig else L) := ⟨rfl, rfl⟩
              have HJL := Lib.hid (show (Try.prog.info? 46).map (·.size) = some x.j.cells.length by rw [Jar.cells_length]; exact jar_size)
              by_cases e1 : x.kind = 1
              · have q1 := (int_eqR e1).1
                have HEL := Lib.hid (show stE L x = putE L x.j ∧ stL L x = putL L x.j from ⟨hEL.1.trans (by rw [if_pos e1]), hEL.2.trans (by rw [if_pos e1])⟩)
                clear hEL e1
                go_wp2_with (first
                  | (refine wpList_load_mid rfl 46 (.tmp 77) rfl xb 1 (by rfl) x.j.cells _ (act_jar BX.out) Try.underlying46 rfl HJL.out ?_)
                  | fail)
                try simp only [Act.put, List.setIfInBounds_toArray, List.set_cons_succ, List.set_cons_zero]
                try go_wp2_with fail
                refine (rkx_Put R.out.rk x.j).mono ?_
                rintro e w3 ⟨rfl, hr, hs⟩
                have hz := R.out.zstay hs
                have R := Lib.hid (R.out.rack hr hs)
                have BX := Lib.hid (hz.blk BX.out (by simp))
                have BD := Lib.hid (hz.blk BD.out (by simp))
                clear hr hs hz
                go_wp2_with (first
                  | (refine wpList_load_mid rfl 46 (.tmp 81) rfl xb 1 (by rfl) x.j.cells _ (act_jar BX.out) Try.underlying46 rfl HJL.out ?_)
                  | fail)
                try simp only [Act.put, List.setIfInBounds_toArray, List.set_cons_succ, List.set_cons_zero]
                try go_wp2_with fail
                refine (dk_Put R.out.dk HN.out.1 x.j (by show _ ≤ 9223372036854775807; have := HTY.out; omega)).mono ?_
                rintro e w4 ⟨rfl, hd⟩
                obtain ⟨⟨rv', R4⟩, hz⟩ := R.out.doc hd
                have BD := Lib.hid (hz.blk BD.out (by simp))
                have R4 := Lib.hid (R4.mono (Y := [nb]) (by simp))
                clear hd hz
                go_wp2_with fail
                go_meet
                exact ⟨by rw [HEL.out.1], by rw [HEL.out.1], Lib.hid ⟨rv', by rw [HEL.out.2]; exact R4.out⟩, BD⟩
              · have q1 := (int_neR e1).1
                by_cases e2 : x.kind = 2
                · have q2 := (int_eqR e2).1
                  have HEL := Lib.hid (show stE L x = hereE L x.j.dig ∧ stL L x = touchL L x.j.dig from ⟨hEL.1.trans (by rw [if_neg e1]; rw [if_pos e2]), hEL.2.trans (by rw [if_neg e1]; rw [if_pos e2])⟩)
                  clear hEL e1 e2
                  go_wp2_with (first
                    | (refine wpList_load_mid rfl 44 (.tmp 10) rfl nb 0 (by rfl) (digC x.j.dig) _ BD.out.rangeAt Try.underlying44 rfl (HDL.out _) ?_)
                    | fail)
                  try simp only [Act.put, List.setIfInBounds_toArray, List.set_cons_succ, List.set_cons_zero]
                  try go_wp2_with fail
                  refine (rkx_Touch R.out.rk x.j.dig).mono ?_
                  rintro e w3 ⟨rfl, hr, hs⟩
                  have hz := R.out.zstay hs
                  have R := Lib.hid (R.out.rack hr hs)
                  have BX := Lib.hid (hz.blk BX.out (by simp))
                  have BD := Lib.hid (hz.blk BD.out (by simp))
                  clear hr hs hz
                  go_wp2_with (first
                    | (refine wpList_load_mid rfl 44 (.tmp 10) rfl nb 0 (by rfl) (digC x.j.dig) _ BD.out.rangeAt Try.underlying44 rfl (HDL.out _) ?_)
                    | fail)
                  try simp only [Act.put, List.setIfInBounds_toArray, List.set_cons_succ, List.set_cons_zero]
                  try go_wp2_with fail
                  refine (dk_Touch R.out.dk HN.out.1 HN.out.2 x.j.dig).mono ?_
                  rintro e w4 ⟨rfl, hd⟩
                  obtain ⟨⟨rv', R4⟩, hz⟩ := R.out.doc hd
                  have BD := Lib.hid (hz.blk BD.out (by simp))
                  have R4 := Lib.hid (R4.mono (Y := [nb]) (by simp))
                  clear hd hz
                  go_wp2_with fail
                  go_meet
                  exact ⟨by rw [HEL.out.1], by rw [HEL.out.1], Lib.hid ⟨rv', by rw [HEL.out.2]; exact R4.out⟩, BD⟩
                · have q2 := (int_neR e2).1
                  by_cases e3 : x.kind = 3
                  · have q3 := (int_eqR e3).1
                    have HEL := Lib.hid (show stE L x = pinE L x.j.dig ∧ stL L x = pinL L x.j.dig from ⟨hEL.1.trans (by rw [if_neg e1]; rw [if_neg e2]; rw [if_pos e3]), hEL.2.trans (by rw [if_neg e1]; rw [if_neg e2]; rw [if_pos e3])⟩)
                    clear hEL e1 e2 e3
                    go_wp2_with (first
                      | (refine wpList_load_mid rfl 44 (.tmp 10) rfl nb 0 (by rfl) (digC x.j.dig) _ BD.out.rangeAt Try.underlying44 rfl (HDL.out _) ?_)
                      | fail)
                    try simp only [Act.put, List.setIfInBounds_toArray, List.set_cons_succ, List.set_cons_zero]
                    try go_wp2_with fail
                    refine (rkx_Pin R.out.rk x.j.dig).mono ?_
                    rintro e w3 ⟨rfl, hr, hs⟩
                    have hz := R.out.zstay hs
                    have R := Lib.hid (R.out.rack hr hs)
                    have BX := Lib.hid (hz.blk BX.out (by simp))
                    have BD := Lib.hid (hz.blk BD.out (by simp))
                    clear hr hs hz
                    go_wp2_with (first
                      | (refine wpList_load_mid rfl 44 (.tmp 10) rfl nb 0 (by rfl) (digC x.j.dig) _ BD.out.rangeAt Try.underlying44 rfl (HDL.out _) ?_)
                      | fail)
                    try simp only [Act.put, List.setIfInBounds_toArray, List.set_cons_succ, List.set_cons_zero]
                    try go_wp2_with fail
                    refine (dk_Pin R.out.dk HN.out.1 HN.out.2 HPB.out x.j.dig).mono ?_
                    rintro e w4 ⟨rfl, hd⟩
                    obtain ⟨⟨rv', R4⟩, hz⟩ := R.out.doc hd
                    have BD := Lib.hid (hz.blk BD.out (by simp))
                    have R4 := Lib.hid (R4.mono (Y := [nb]) (by simp))
                    clear hd hz
                    go_wp2_with fail
                    go_meet
                    exact ⟨by rw [HEL.out.1], by rw [HEL.out.1], Lib.hid ⟨rv', by rw [HEL.out.2]; exact R4.out⟩, BD⟩
                  · have q3 := (int_neR e3).1
                    by_cases e4 : x.kind = 4
                    · have q4 := (int_eqR e4).1
                      have HEL := Lib.hid (show stE L x = unpinE L x.j.dig ∧ stL L x = unpinL L x.j.dig from ⟨hEL.1.trans (by rw [if_neg e1]; rw [if_neg e2]; rw [if_neg e3]; rw [if_pos e4]), hEL.2.trans (by rw [if_neg e1]; rw [if_neg e2]; rw [if_neg e3]; rw [if_pos e4])⟩)
                      clear hEL e1 e2 e3 e4
                      go_wp2_with (first
                        | (refine wpList_load_mid rfl 44 (.tmp 10) rfl nb 0 (by rfl) (digC x.j.dig) _ BD.out.rangeAt Try.underlying44 rfl (HDL.out _) ?_)
                        | fail)
                      try simp only [Act.put, List.setIfInBounds_toArray, List.set_cons_succ, List.set_cons_zero]
                      try go_wp2_with fail
                      refine (rkx_Unpin R.out.rk x.j.dig).mono ?_
                      rintro e w3 ⟨rfl, hr, hs⟩
                      have hz := R.out.zstay hs
                      have R := Lib.hid (R.out.rack hr hs)
                      have BX := Lib.hid (hz.blk BX.out (by simp))
                      have BD := Lib.hid (hz.blk BD.out (by simp))
                      clear hr hs hz
                      go_wp2_with (first
                        | (refine wpList_load_mid rfl 44 (.tmp 10) rfl nb 0 (by rfl) (digC x.j.dig) _ BD.out.rangeAt Try.underlying44 rfl (HDL.out _) ?_)
                        | fail)
                      try simp only [Act.put, List.setIfInBounds_toArray, List.set_cons_succ, List.set_cons_zero]
                      try go_wp2_with fail
                      refine (dk_Unpin R.out.dk HN.out.1 HN.out.2 HPB.out x.j.dig).mono ?_
                      rintro e w4 ⟨rfl, hd⟩
                      obtain ⟨⟨rv', R4⟩, hz⟩ := R.out.doc hd
                      have BD := Lib.hid (hz.blk BD.out (by simp))
                      have R4 := Lib.hid (R4.mono (Y := [nb]) (by simp))
                      clear hd hz
                      go_wp2_with fail
                      go_meet
                      exact ⟨by rw [HEL.out.1], by rw [HEL.out.1], Lib.hid ⟨rv', by rw [HEL.out.2]; exact R4.out⟩, BD⟩
                    · have q4 := (int_neR e4).1
                      by_cases e5 : x.kind = 5
                      · have q5 := (int_eqR e5).1
                        have HEL := Lib.hid (show stE L x = dropE L x.j.dig ∧ stL L x = dropL L x.j.dig from ⟨hEL.1.trans (by rw [if_neg e1]; rw [if_neg e2]; rw [if_neg e3]; rw [if_neg e4]; rw [if_pos e5]), hEL.2.trans (by rw [if_neg e1]; rw [if_neg e2]; rw [if_neg e3]; rw [if_neg e4]; rw [if_pos e5])⟩)
                        clear hEL e1 e2 e3 e4 e5
                        go_wp2_with (first
                          | (refine wpList_load_mid rfl 44 (.tmp 10) rfl nb 0 (by rfl) (digC x.j.dig) _ BD.out.rangeAt Try.underlying44 rfl (HDL.out _) ?_)
                          | fail)
                        try simp only [Act.put, List.setIfInBounds_toArray, List.set_cons_succ, List.set_cons_zero]
                        try go_wp2_with fail
                        refine (rkx_Drop R.out.rk x.j.dig).mono ?_
                        rintro e w3 ⟨rfl, hr, hs⟩
                        have hz := R.out.zstay hs
                        have R := Lib.hid (R.out.rack hr hs)
                        have BX := Lib.hid (hz.blk BX.out (by simp))
                        have BD := Lib.hid (hz.blk BD.out (by simp))
                        clear hr hs hz
                        go_wp2_with (first
                          | (refine wpList_load_mid rfl 44 (.tmp 10) rfl nb 0 (by rfl) (digC x.j.dig) _ BD.out.rangeAt Try.underlying44 rfl (HDL.out _) ?_)
                          | fail)
                        try simp only [Act.put, List.setIfInBounds_toArray, List.set_cons_succ, List.set_cons_zero]
                        try go_wp2_with fail
                        refine (dk_Drop R.out.dk HN.out.1 HN.out.2 x.j.dig).mono ?_
                        rintro e w4 ⟨rfl, hd⟩
                        obtain ⟨⟨rv', R4⟩, hz⟩ := R.out.doc hd
                        have BD := Lib.hid (hz.blk BD.out (by simp))
                        have R4 := Lib.hid (R4.mono (Y := [nb]) (by simp))
                        clear hd hz
                        go_wp2_with fail
                        go_meet
                        exact ⟨by rw [HEL.out.1], by rw [HEL.out.1], Lib.hid ⟨rv', by rw [HEL.out.2]; exact R4.out⟩, BD⟩
                      · have q5 := (int_neR e5).1
                        have HEL := Lib.hid (show stE L x = 0 ∧ stL L x = L from ⟨hEL.1.trans (by rw [if_neg e1]; rw [if_neg e2]; rw [if_neg e3]; rw [if_neg e4]; rw [if_neg e5]), hEL.2.trans (by rw [if_neg e1]; rw [if_neg e2]; rw [if_neg e3]; rw [if_neg e4]; rw [if_neg e5])⟩)
                        clear hEL e1 e2 e3 e4 e5
                        have R := Lib.hid (R.out.mono (Y := [nb]) (by simp))
                        go_wp2_with fail
                        go_meet
                        exact ⟨by rw [HEL.out.1], by rw [HEL.out.1], Lib.hid ⟨rv, by rw [HEL.out.2]; exact R.out⟩, BD⟩
            case rest =>
              obtain ⟨rfl, rfl, hR, BD⟩ := hcut
              obtain ⟨rv', hR⟩ := hR.out
              have hp1 := stL_pins (x := x) (t := (t : Int)) hT0 HP.out
              generalize stL L x = L1 at hR hp1
              generalize stE L x = er
              obtain ⟨ua, uc, rfl, _⟩ := hR.dk.own.shape
              have HP1 := Lib.hid hp1
              have hmost := hR.rk.most
              have HN1 := Lib.hid (And.intro hR.rk.most hR.rk.digs)
              have HOK1 := Lib.hid hR.rk.good
              have R := Lib.hid hR
              obtain ⟨ps, hps⟩ : ∃ p, p = posL L1 x.j.dig := ⟨_, rfl⟩
              have HPL := Lib.hid (fun w' (h : Dk w' u (.slice ua L1.length uc) L1 budget) => ref_Place u _ L1 budget x.j.dig w' h)
              rw [← hps] at HPL
              obtain ⟨jv, hjv⟩ : ∃ p, p = getJ L1 x.j.dig := ⟨_, rfl⟩
              obtain ⟨hj, hhj⟩ : ∃ p, p = hasJ L1 x.j.dig := ⟨_, rfl⟩
              have HGT := Lib.hid (fun w' X (h : Rkx w X w' b budget L1) => rkx_Get h x.j.dig)
              rw [← hjv, ← hhj] at HGT
              have HPJ := Lib.hid (And.intro hps (And.intro hjv hhj))
              clear hR hp1 hps hjv hhj HP HN HOK HPB BX HXL HXG
              go_wp2_with (first
                | (refine wpList_load_mid rfl 44 (.tmp 10) rfl nb 0 (by rfl) (digC x.j.dig) _ BD.out.rangeAt Try.underlying44 rfl (HDL.out _) ?_)
                | fail)
              try simp only [Act.put, List.setIfInBounds_toArray, List.set_cons_succ, List.set_cons_zero]
              try go_wp2_with fail
              refine (HGT.out _ _ R.out.rk).mono ?_
              rintro e w3 ⟨rfl, hr, hs⟩
              have hz := R.out.zstay hs
              have R := Lib.hid (R.out.rack hr hs)
              have BD := Lib.hid (hz.blk BD.out (by simp))
              clear hr hs hz
              go_upto_region 35 with (first
                | (refine wpList_store_new rfl 46 (.tmp 13) (.tmp 120) rfl _ jv.cells (by rfl) (by rfl) (by rw [Jar.cells_length]; exact jar_size) (by rw [Jar.cells_length]; rfl) (Jar.one _) ?_)
                | fail)
              try simp only [Act.put, List.setIfInBounds_toArray, List.set_cons_succ, List.set_cons_zero]
              have hk := (Keep.refl [] w3).alloc (.cells jv.cells.toArray 46)
              have hb := Blk.newA w3 jv.cells.toArray 46
              rw [List.toList_toArray] at hb
              generalize w3.alloc (.cells jv.cells.toArray 46) = w4 at hk hb
              generalize w3.heap.size = jb at hb
              have R := Lib.hid (R.out.keep0 hk)
              have BD := Lib.hid (hk.blk BD.out (by simp))
              have BJ := Lib.hid hb
              clear hk hb
              go_wp2_with (first
                | (refine wpList_load_mid rfl 44 (.tmp 10) rfl nb 0 (by rfl) (digC x.j.dig) _ BD.out.rangeAt Try.underlying44 rfl (HDL.out _) ?_)
                | fail)
              try simp only [Act.put, List.setIfInBounds_toArray, List.set_cons_succ, List.set_cons_zero]
              try go_wp2_with fail
              refine (HPL.out _ R.out.dk).mono ?_
              rintro e w5 ⟨rfl, hk⟩
              have R := Lib.hid ((R.out.keep0 hk).mono (Y := []) (by simp))
              have BJ := Lib.hid (hk.blk BJ.out (by simp))
              clear hk BD
              go_upto_region 36 with fail
              go_cut [156] (fun v wx => v = .bool false ∧ Hid (Keep [] w5 wx))
              case first =>
                have hA : ∀ n, (ext w5 n).cell? ⟨u, 0, none⟩ = some (.slice ua L1.length uc) := fun n => ((ext_keep w5 n).blk R.out.dk.blk (by simp)).get (k := 0) rfl
                have HBJ : Hid (∀ w', (∃ n, w' = ext w5 n) → w'.rangeAt jb 0 jv.cells) := fun w' ⟨n, e⟩ => by subst e; exact ((ext_keep w5 n).blk BJ.out (by simp)).rangeAt
                have HJV := Lib.hid (show (Try.prog.info? 46).map (·.size) = some jv.cells.length by rw [Jar.cells_length]; exact jar_size)
                have q1 : (er != er) = false := by simp
                rcases posL_or L1 x.j.dig with ⟨hp, hf⟩ | ⟨k, y, hp, hy, hyd, hf⟩
                · obtain rfl : ps = -1 := HPJ.out.1.trans hp
                  obtain rfl : jv = jar0 := HPJ.out.2.1.trans (by unfold getJ; rw [hf]; rfl)
                  obtain rfl : hj = false := HPJ.out.2.2.trans (by unfold hasJ; rw [hf]; rfl)
                  have hq := fun w' => eqJar jar0 jar0 (by refine ⟨by show (0 : Nat) ≤ 9223372036854775807; omega, ⟨by decide, by decide⟩, ⟨by decide, by decide⟩⟩) (by refine ⟨by show (0 : Nat) ≤ 9223372036854775807; omega, ⟨by decide, by decide⟩, ⟨by decide, by decide⟩⟩) w'
                  rw [decide_eq_true rfl] at hq
                  have HB0 := Lib.hid jar0_built
                  generalize jar0.cells = jc at hq HBJ HJV HB0
                  clear hp hf HPJ HGT HPL
                  refine wp_region_ext_lit (by kernel_rfl) (by kernel_rfl) ?_
                  repeat (go_big_quiet_step (fail))
                  refine wpQuiet_loadG (by rfl) 46 (.tmp 13) rfl jb 0 (by simp [Act.eval]) jc _ HBJ.out Try.underlying46 rfl HJV.out ?_
                  simp only [Act.put, List.setIfInBounds_toArray, List.set_cons_succ, List.set_cons_zero]
                  refine wpQuiet_b0 (by rfl) HB0 rfl ?_
                  simp only [Act.put, List.setIfInBounds_toArray, List.set_cons_succ, List.set_cons_zero]
                  repeat (go_big_quiet_step (fail))
                  refine wpQuiet_nil ?_
                  intro _ hw'
                  obtain ⟨nq, hw''⟩ := hw'
                  subst hw''
                  go_wp2_with fail
                  go_meet
                  exact ⟨rfl, Lib.hid (ext_keep _ nq)⟩
                · obtain rfl : ps = (k : Nat) := HPJ.out.1.trans hp
                  obtain rfl : jv = y := HPJ.out.2.1.trans (by unfold getJ; rw [hf]; rfl)
                  obtain rfl : hj = true := HPJ.out.2.2.trans (by unfold hasJ; rw [hf]; rfl)
                  obtain ⟨g, cap, hve, _, _, hr⟩ := own_at R.out.dk.own hy
                  cases hve
                  have hkl : k < L1.length := (List.getElem?_eq_some_iff.1 hy).1
                  have hgy := ok_good (HOK1.out _ (List.mem_of_getElem? hy))
                  have hq := fun w' => eqJar jv jv hgy hgy w'
                  rw [decide_eq_true rfl] at hq
                  have HRJ : Hid (∀ w', (∃ n, w' = ext w5 n) → w'.rangeAt g (k * 35) jv.cells) := fun w' ⟨n, e⟩ => by
                    subst e
                    obtain ⟨g', cap', hve', _, _, hr'⟩ := own_at (R.out.keep0 (ext_keep w5 n)).dk.own hy
                    cases hve'
                    exact hr'
                  have h0 : (0 : Int) ≤ (k : Int) := by omega
                  have h1 : (k : Int) < (L1.length : Int) := by omega
                  generalize jv.cells = jc at hq HBJ HJV HRJ
                  clear hp hf HPJ HGT HPL hy hgy hr hkl
                  refine wp_region_ext_lit (by kernel_rfl) (by kernel_rfl) ?_
                  repeat (go_big_quiet_step (fail))
                  refine wpQuiet_loadG (by rfl) 46 (.tmp 13) rfl jb 0 (by simp [Act.eval]) jc _ HBJ.out Try.underlying46 rfl HJV.out ?_
                  simp only [Act.put, List.setIfInBounds_toArray, List.set_cons_succ, List.set_cons_zero]
                  repeat (go_big_quiet_step (fail))
                  refine wpQuiet_loadG (by rfl) 46 (.tmp 143) rfl g (k * 35) (by simp [Act.eval, Addr.add]) jc _ HRJ.out Try.underlying46 rfl HJV.out ?_
                  simp only [Act.put, List.setIfInBounds_toArray, List.set_cons_succ, List.set_cons_zero]
                  repeat (go_big_quiet_step (fail))
                  refine wpQuiet_nil ?_
                  intro _ hw'
                  obtain ⟨nq, hw''⟩ := hw'
                  subst hw''
                  go_wp2_with fail
                  go_meet
                  exact ⟨rfl, Lib.hid (ext_keep _ nq)⟩
              case rest =>
                obtain ⟨rfl, HK⟩ := hcut
                have R := Lib.hid (R.out.keep0 HK.out)
                clear HK HGT HPL HPJ BJ
                have HSU := Lib.hid (fun w' (h : Dk w' u (.slice ua L1.length uc) L1 budget) => ref_Sums u _ L1 budget w' h HN1.out.1 HOK1.out)
                have HVU := Lib.hid (fun w' (h : Dk w' u (.slice ua L1.length uc) L1 budget) => ref_Victim21 u _ L1 budget w' h HN1.out.1 HOK1.out)
                have HVR := Lib.hid (fun w' X (h : Rkx w X w' b budget L1) => rkx_Victim h)
                have HTO := Lib.hid (fun w' X (h : Rkx w X w' b budget L1) => rkx_Total0 h)
                have HPI := Lib.hid (fun w' X (h : Rkx w X w' b budget L1) => rkx_Pinned0 h)
                have HLE := Lib.hid (fun w' X (h : Rkx w X w' b budget L1) => rkx_Len0 h)
                obtain ⟨sa, hsa⟩ : ∃ p, p = sumL L1 := ⟨_, rfl⟩
                obtain ⟨sb, hsb⟩ : ∃ p, p = usedL L1 := ⟨_, rfl⟩
                obtain ⟨vd, hvd⟩ : ∃ p, p = vicD (vicL budget L1) := ⟨_, rfl⟩
                obtain ⟨vb, hvb⟩ : ∃ p, p = (vicL budget L1).isSome := ⟨_, rfl⟩
                rw [← hsa] at HTO
                rw [← hsb] at HPI
                rw [← hsa, ← hsb] at HSU
                rw [← hvd, ← hvb] at HVU HVR
                clear hsa hsb hvd hvb
                go_wp2_with fail
                refine (HSU.out _ R.out.dk).mono ?_
                rintro e w6 ⟨rfl, hk⟩
                have R := Lib.hid (R.out.keep0 hk)
                clear hk
                go_wp2_with fail
                refine (HVR.out _ _ R.out.rk).mono ?_
                rintro e w7 ⟨rfl, hr, hs⟩
                have R := Lib.hid (R.out.rack hr hs)
                clear hr hs
                go_upto_region 40 with (first
                  | (refine wpList_store_new rfl 44 (.tmp 18) (.tmp 165) rfl _ (digC vd) (by rfl) (by rfl) (HDL.out _) (by rw [digC_length]; rfl) (digC_one _) ?_)
                  | fail)
                try simp only [Act.put, List.setIfInBounds_toArray, List.set_cons_succ, List.set_cons_zero]
                have hk := (Keep.refl [] w7).alloc (.cells (digC vd).toArray 44)
                have hb := Blk.newA w7 (digC vd).toArray 44
                rw [List.toList_toArray] at hb
                generalize w7.alloc (.cells (digC vd).toArray 44) = w8 at hk hb
                generalize w7.heap.size = n1 at hb
                have R := Lib.hid (R.out.keep0 hk)
                have B1 := Lib.hid hb
                clear hk hb
                go_wp2_with fail
                refine (HVU.out _ R.out.dk).mono ?_
                rintro e w9 ⟨rfl, hk⟩
                have R := Lib.hid (R.out.keep0 hk)
                have B1 := Lib.hid (hk.blk B1.out (by simp))
                clear hk
                go_upto_region 41 with (first
                  | (refine wpList_store_new rfl 44 (.tmp 20) (.tmp 170) rfl _ (digC vd) (by rfl) (by rfl) (HDL.out _) (by rw [digC_length]; rfl) (digC_one _) ?_)
                  | fail)
                try simp only [Act.put, List.setIfInBounds_toArray, List.set_cons_succ, List.set_cons_zero]
                have hk := (Keep.refl [] w9).alloc (.cells (digC vd).toArray 44)
                have hb := Blk.newA w9 (digC vd).toArray 44
                rw [List.toList_toArray] at hb
                generalize w9.alloc (.cells (digC vd).toArray 44) = wA at hk hb
                generalize w9.heap.size = n2 at hb
                have R := Lib.hid (R.out.keep0 hk)
                have B1 := Lib.hid (hk.blk B1.out (by simp))
                have B2 := Lib.hid hb
                clear hk hb
                go_cut [201] (fun v wx => v = .bool false ∧ Hid (Keep [] wA wx))
                case first =>
                  have hA : ∀ n, (ext wA n).cell? ⟨u, 0, none⟩ = some (.slice ua L1.length uc) := fun n => ((ext_keep wA n).blk R.out.dk.blk (by simp)).get (k := 0) rfl
                  have HB1 : Hid (∀ w', (∃ n, w' = ext wA n) → w'.rangeAt n1 0 (digC vd)) := fun w' ⟨n, e⟩ => by subst e; exact ((ext_keep wA n).blk B1.out (by simp)).rangeAt
                  have HB2 : Hid (∀ w', (∃ n, w' = ext wA n) → w'.rangeAt n2 0 (digC vd)) := fun w' ⟨n, e⟩ => by subst e; exact ((ext_keep wA n).blk B2.out (by simp)).rangeAt
                  have hdl := HDL.out vd
                  have hq := fun w' => eqDig vd vd w'
                  rw [decide_eq_true rfl] at hq
                  have HDV := Lib.hid hdl
                  have CT := Lib.hid (fun n => HTO.out (ext wA n) _ (R.out.keep0 (ext_keep wA n)).rk)
                  have CP := Lib.hid (fun n => HPI.out (ext wA n) _ (R.out.keep0 (ext_keep wA n)).rk)
                  have CL := Lib.hid (fun n => HLE.out (ext wA n) _ (R.out.keep0 (ext_keep wA n)).rk)
                  generalize digC vd = dc at hq HB1 HB2 HDV
                  have qa : (sa != sa) = false := by simp
                  have qb : (sb != sb) = false := by simp
                  have qv : (vb != vb) = false := by simp
                  have ql : (((L1.length : Nat) : Int) != ((L1.length : Nat) : Int)) = false := by simp
                  clear hdl HTO HPI HLE HVU HVR HSU B1 B2
                  refine wp_region_ext_lit (by kernel_rfl) (by kernel_rfl) ?_
                  repeat (go_big_quiet_step (first
                    | (go_at_call 22; exact Calls.quiet_ext (CT.out _))
                    | (go_at_call 45; exact Calls.quiet_ext (CP.out _))
                    | (go_at_call 21; exact Calls.quiet_ext (CL.out _))))
                  refine wpQuiet_loadG (by rfl) 44 (.tmp 18) rfl n1 0 (by simp [Act.eval]) dc _ HB1.out Try.underlying44 rfl HDV.out ?_
                  simp only [Act.put, List.setIfInBounds_toArray, List.set_cons_succ, List.set_cons_zero]
                  refine wpQuiet_loadG (by rfl) 44 (.tmp 20) rfl n2 0 (by simp [Act.eval]) dc _ HB2.out Try.underlying44 rfl HDV.out ?_
                  simp only [Act.put, List.setIfInBounds_toArray, List.set_cons_succ, List.set_cons_zero]
                  repeat (go_big_quiet_step (first
                    | (go_at_call 22; exact Calls.quiet_ext (CT.out _))
                    | (go_at_call 45; exact Calls.quiet_ext (CP.out _))
                    | (go_at_call 21; exact Calls.quiet_ext (CL.out _))))
                  refine wpQuiet_nil ?_
                  intro _ hw'
                  obtain ⟨nq, hw''⟩ := hw'
                  subst hw''
                  go_wp2_with fail
                  go_meet
                  exact ⟨rfl, Lib.hid (ext_keep _ nq)⟩
                case rest =>
                  obtain ⟨rfl, HK⟩ := hcut
                  have R := Lib.hid (R.out.keep0 HK.out)
                  clear HK HTO HPI HLE HVU HVR HSU B1 B2
                  go_wp2_with fail
                  go_roundg (acts.length - (t + 1))
                  case measure => omega
                  case rel => exact ⟨t + 1, L1, _, by go_num, by omega, by omega, rfl, R, Lib.hid (fun j hj => by have := HP1.out j hj; omega)⟩
          · have h5' : decide (500 < ((x.j.typ.length : Nat) : Int)) = true := by simp; omega
            clear h5
            go_wp2_with fail
            go_ret
            exact ⟨rfl, R.out.rk.below⟩
        · have ht250 : t = 250 := by omega
          subst ht250
          have hS := R.out
          have HSL := Lib.hid (fun w' (h : Rkx w (u :: (rv.ownBlock.toList ++ [])) w' b budget L) => rkx_List h)
          have HGJ := Lib.hid (fun j hj => ok_good (HOK.out j hj))
          have d0 := hS.dk.blk.get (k := 0) rfl
          clear hS
          go_wp2_with fail
          go_region_held3 (fun w' => w'.cell? ⟨u, 0, none⟩ = some rv)
            (first | assumption | go_keep)
            (first
            | (go_at_call 47; refine (HSL.out _ (R.out.rk.keep0 (by repeat (first | exact Keep.refl _ _ | (with_reducible apply Keep.drew))))).mono ?_; rintro e wL ⟨lv, rfl, ho, hr, hs⟩; have R2 := Lib.hid (St.rack (R.out.keep0 (by repeat (first | exact Keep.refl _ _ | (with_reducible apply Keep.drew)))) hr hs); have d2 := R2.out.dk.blk.get (k := 0) rfl; have HO := Lib.hid (ho.lower (Nat.zero_le _)))
            | (go_at_call 46; refine (ref_Same21 lv rv L _ HO.out R2.out.dk.own HGJ.out).mono ?_; rintro e wS ⟨rfl, hk⟩; have R3 := Lib.hid (R2.out.keep0 hk); have d3 := R3.out.dk.blk.get (k := 0) rfl))
          go_wp2_with fail
          go_ret
          exact ⟨rfl, R3.out.rk.below⟩
      · have hge : ¬ (t : Int) < (acts.length : Int) := by omega
        have hS := R.out
        have HSL := Lib.hid (fun w' (h : Rkx w (u :: (rv.ownBlock.toList ++ [])) w' b budget L) => rkx_List h)
        have HGJ := Lib.hid (fun j hj => ok_good (HOK.out j hj))
        have d0 := hS.dk.blk.get (k := 0) rfl
        clear hS
        go_wp2_with fail
        go_region_held3 (fun w' => w'.cell? ⟨u, 0, none⟩ = some rv)
          (first | assumption | go_keep)
          (first
          | (go_at_call 47; refine (HSL.out _ (R.out.rk.keep0 (by repeat (first | exact Keep.refl _ _ | (with_reducible apply Keep.drew))))).mono ?_; rintro e wL ⟨lv, rfl, ho, hr, hs⟩; have R2 := Lib.hid (St.rack (R.out.keep0 (by repeat (first | exact Keep.refl _ _ | (with_reducible apply Keep.drew)))) hr hs); have d2 := R2.out.dk.blk.get (k := 0) rfl; have HO := Lib.hid (ho.lower (Nat.zero_le _)))
          | (go_at_call 46; refine (ref_Same21 lv rv L _ HO.out R2.out.dk.own HGJ.out).mono ?_; rintro e wS ⟨rfl, hk⟩; have R3 := Lib.hid (R2.out.keep0 hk); have d3 := R3.out.dk.blk.get (k := 0) rfl))
        go_wp2_with fail
        go_ret
        exact ⟨rfl, R3.out.rk.below⟩
end Go.Proofs.Ytbfnpoknamajnaa
